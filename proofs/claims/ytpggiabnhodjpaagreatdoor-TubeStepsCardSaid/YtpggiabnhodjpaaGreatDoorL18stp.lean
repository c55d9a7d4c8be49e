/- The statement TubeSteps: its code returns true. -/
import Derived.Test.YtpggiabnhodjpaaGreatDoorT18u
set_option linter.unusedSimpArgs false
set_option linter.unusedVariables false
set_option linter.deprecated false
namespace Go.Proofs.YtpggiabnhodjpaaGreatDoor
open Go Go.Ax
set_option maxRecDepth 100000
set_option maxHeartbeats 4000000
def hdV (p : List (List RD)) : List RD := p.getD 0 []
theorem stp_out (a dv : List (List RD)) (w x : List RD) (p : List (List RD)) (ha : a.length ≤ 9223372036854775807) (hd : dv.length ≤ 9223372036854775807) (hw : w.length ≤ 9223372036854775807) (hx : x.length ≤ 9223372036854775807) (hpl : p.length ≤ 9223372036854775807) (ga : argM a) (gd : argM dv) (gw : argV w) (gx : argV x) (hl : ¬ (lightP a dv w ∧ briefV x ∧ p.length ≤ 8)) : CallOK Tryz.prog gl 6 [.agg [.sl 1 (mrows a), .sl 1 (mrows dv), .sl 3 (vrows w)], .sl 3 (vrows (x)), .sl 1 (mrows (p))] (.v (.bool (true))) := by
  refine call_ok (C := ⟨Tryz.prog, gl, ti, 77, false⟩) ti_ok mixed 3000 Tryz.call6 Tryz.func6 rfl Tryz.ntmps6 (by simp) byClL byCl ?_
  rw [Tryz.results6]
  have f1 := law18_light a dv w ha hd hw ga gd gw
  have f2 := brief_ok hx gx
  have aw := awake18
  by_cases h1 : lightP a dv w
  ·
    rw [decide_eq_true h1] at f1
    by_cases h2 : briefV x
    ·
      rw [decide_eq_true h2] at f2
      have h3 : ¬ p.length ≤ 8 := fun h => hl ⟨h1, h2, h⟩
      obtain ⟨m, hm⟩ : ∃ m, p.length = m := ⟨_, rfl⟩
      rw [hm] at h3 hpl
      have h4 : 8 < m := by omega
      clear hl h1 h2 h3
      repeat' (first | (simp only [go_sem, seval, IntKind.bits.eq_def, ti, tin, mrows_length, hm]) | (simp (disch := omega) only [wA]) | (with_reducible first | refine cF f1 ?_ | refine dF f1 ?_ | refine cF f2 ?_ | refine dF f2 ?_ | refine cF aw ?_ | refine dF aw ?_) | refine aL ti_ok ?_ | refine dL ti_ok ?_ | refine dG ?_ | ((first | refine cC ?_ ?_ | refine gS ?_ ?_ | refine dS ?_ ?_) <;> intro hc <;> first | (exfalso; simp only [dcA] at hc; omega) | (simp only [hc]; try simp only [dcA] at hc)) | refine aO ?_ | refine dO ?_)
      all_goals exact fin_same trivial rfl
    ·
      rw [decide_eq_false h2] at f2
      clear hl h1 h2
      repeat' (first | (simp only [go_sem, seval, IntKind.bits.eq_def, ti, tin]) | (simp (disch := omega) only [wA]) | (with_reducible first | refine cF f1 ?_ | refine dF f1 ?_ | refine cF f2 ?_ | refine dF f2 ?_ | refine cF aw ?_ | refine dF aw ?_) | refine aL ti_ok ?_ | refine dL ti_ok ?_ | refine dG ?_ | ((first | refine cC ?_ ?_ | refine gS ?_ ?_ | refine dS ?_ ?_) <;> intro hc <;> first | (exfalso; simp only [dcA] at hc; omega) | (simp only [hc]; try simp only [dcA] at hc)) | refine aO ?_ | refine dO ?_)
      all_goals exact fin_same trivial rfl
  ·
    rw [decide_eq_false h1] at f1
    clear hl h1
    repeat' (first | (simp only [go_sem, seval, IntKind.bits.eq_def, ti, tin]) | (simp (disch := omega) only [wA]) | (with_reducible first | refine cF f1 ?_ | refine dF f1 ?_ | refine cF aw ?_ | refine dF aw ?_) | refine aL ti_ok ?_ | refine dL ti_ok ?_ | refine dG ?_ | ((first | refine cC ?_ ?_ | refine gS ?_ ?_ | refine dS ?_ ?_) <;> intro hc <;> first | (exfalso; simp only [dcA] at hc; omega) | (simp only [hc]; try simp only [dcA] at hc)) | refine aO ?_ | refine dO ?_)
    all_goals exact fin_same trivial rfl
theorem stp_calls {a dv : List (List RD)} {w x : List RD} {d : List (List RD)} {v : List RD} (X : In18 a dv w) (ox : okV 64 x) (odd : okM 64 d) (ov : okV 64 v) (hx : x.length ≤ 10) (hv : v.length ≤ 10) (hd : d.length ≤ 10) :
    ∃ y e c, CallOK Tryz.prog gl 29 [.agg [.sl 1 (mrows a), .sl 1 (mrows dv), .sl 3 (vrows w)], .sl 3 (vrows x), .sl 1 (mrows d), .sl 3 (vrows v)] (.tup [y, .v e]) ∧ CallOK Tryz.prog gl 30 [.agg [.sl 1 (mrows a), .sl 1 (mrows dv), .sl 3 (vrows w)], .sl 3 (vrows x), .sl 1 (mrows d), .sl 3 (vrows v)] (.tup [y, .v (.int .i64 c)]) ∧ CallOK Tryz.prog gl 31 [.v e] (.v (.int .i64 c)) ∧ CallOK Tryz.prog gl 25 [y, y] (.v (.bool true)) := by
  have := X.la; have := X.ld; have := X.lw
  by_cases he : stE a dv w x d v = 0
  · have c1 := tub_Step a dv w x d v 64 64 (by omega) (by omega) X.oa X.od X.ow ox odd ov he
    have c2 := r18_Step a dv w x d v 64 64 (by omega) (by omega) X.oa X.od X.ow ox odd ov he
    obtain ⟨h1, hx, hv, h3, hl, hl0⟩ := stE_zero he
    obtain ⟨t1, t2, t3, t4, t5, t6, t7, t8, t9⟩ := ckT_zero h1
    have hn0 := (ckM_zero t1).1.1
    have ra := rect_of t1
    rw [t4] at ra
    have rA := rect_add (b := dyM d) ra hn0
    have gA : ∀ i j, Mg (64 + 1) (el (addD (dyM a) (dyM d)) i j) := fun i j => by
      by_cases hij : i < a.length ∧ j < a.length
      · rw [el_add ra hn0 hij.1 hij.2]; exact Mg.add (mg_el_raw X.oa i j) (mg_el_raw odd i j)
      · rw [el_out rA hij]; exact Mg.zero _
    have gY : ∀ i, Mg 1000 ((stY (dyM a) (dyV x) (dyM d) (dyV v)).getD i Dy.zero) := fun i => by
      unfold stY
      exact (mg_sumV (k := 999) (fun i => (mgA rA gA (okV_get ox) i).mono (by omega)) (fun i => (okV_get ov i).mono (by omega)) i).mono (by omega)
    have sv := same_vec (a := stY (dyM a) (dyV x) (dyM d) (dyV v)) (n := a.length) (k := 1000) (by unfold stY; rw [sumV_len, app_len, rA.1]) (by omega) (by omega) gY
    cases hb : stIn dv w d v with
    | true =>
      rw [hb] at c1 c2
      exact ⟨_, _, _, c1, c2, base_Num_nil, sv⟩
    | false =>
      rw [hb] at c1 c2
      exact ⟨_, _, _, c1, c2, base_Num 16, same_row0⟩
  · have c1 := tub_Step_err a dv w x d v (by omega) (by omega) (by omega) (by omega) (by omega) (by omega) X.kd' (okV_all X.ow) he
    have c2 := r18_Step_err a dv w x d v (by omega) (by omega) (by omega) (by omega) (by omega) (by omega) X.kd (okV_all X.ow) he
    exact ⟨_, _, _, c1, c2, num_eV _, same_row0⟩
theorem drop_get (p : List (List RD)) (i : Nat) : (p.drop 1).getD i [] = p.getD (i + 1) [] := by
  rw [List.getD, List.getD, List.getElem?_drop, Nat.add_comm]
theorem stp_ok (a dv : List (List RD)) (w x : List RD) (p : List (List RD)) (np : Nat) (hnp : p.length = np) (hx : x.length ≤ 9223372036854775807) (ga : argM a) (gd : argM dv) (gw : argV w) (gx : argV x) (gp : argM p) (hl : lightP a dv w) (hb : briefV x) (h8 : np ≤ 8) : CallOK Tryz.prog gl 6 [.agg [.sl 1 (mrows a), .sl 1 (mrows dv), .sl 3 (vrows w)], .sl 3 (vrows (x)), .sl 1 (mrows (p))] (.v (.bool (true))) := by
  refine call_ok (C := ⟨Tryz.prog, gl, ti, 77, false⟩) ti_ok mixed 3000 Tryz.call6 Tryz.func6 rfl Tryz.ntmps6 (by simp) byClL byCl ?_
  rw [Tryz.results6]
  have X := in18_of ga gd gw hl
  have f1 := law18_light a dv w (by have := X.la; omega) (by have := X.ld; omega) (by have := X.lw; omega) ga gd gw
  have f2 := brief_ok hx gx
  rw [decide_eq_true hl] at f1
  rw [decide_eq_true hb] at f2
  have aw := awake18
  have bp : ∀ i, CallOK Tryz.prog gl 28 [.sl 3 (vrows (p.getD i []))] (.v (.bool (decide (briefV (p.getD i []))))) := fun i => brief_ok (argM_row gp i) (argM_V gp i)
  have main : (∀ i, i < np → briefV (p.getD i [])) → ∃ y e c, CallOK Tryz.prog gl 29 [.agg [.sl 1 (mrows a), .sl 1 (mrows dv), .sl 3 (vrows w)], .sl 3 (vrows x), .sl 1 (mrows (p.drop 1)), .sl 3 (vrows (hdV p))] (.tup [y, .v e]) ∧ CallOK Tryz.prog gl 30 [.agg [.sl 1 (mrows a), .sl 1 (mrows dv), .sl 3 (vrows w)], .sl 3 (vrows x), .sl 1 (mrows (p.drop 1)), .sl 3 (vrows (hdV p))] (.tup [y, .v (.int .i64 c)]) ∧ CallOK Tryz.prog gl 31 [.v e] (.v (.int .i64 c)) ∧ CallOK Tryz.prog gl 25 [y, y] (.v (.bool true)) := fun hall => by
    have op := brief_okM gp (fun i hi => hall i (by omega))
    have ox := brief_okV gx hb
    refine stp_calls X ox.1 (fun i => by rw [drop_get]; exact op.1 (i + 1)) (op.1 0) hb.1 ?_ (by rw [List.length_drop]; omega)
    unfold hdV
    by_cases h0 : 0 < np
    · exact (hall 0 h0).1
    · rw [List.getD, List.getElem?_eq_none (by omega)]; exact Nat.zero_le _
  clear X hl hb ga gd gw gx gp
  repeat' (first | (simp only [go_sem, seval, IntKind.bits.eq_def, ti, tin, mrows_length, hnp]) | (simp (disch := omega) only [wA]) | (with_reducible first | refine cF f1 ?_ | refine dF f1 ?_ | refine cF f2 ?_ | refine dF f2 ?_ | refine cF aw ?_ | refine dF aw ?_) | refine aL ti_ok ?_ | refine dL ti_ok ?_ | refine dG ?_ | ((first | refine cC ?_ ?_ | refine gS ?_ ?_ | refine dS ?_ ?_) <;> intro hc <;> first | (exfalso; simp only [dcA] at hc; omega) | (simp only [hc]; try simp only [dcA] at hc)) | refine aO ?_ | refine dO ?_)
  refine l_loop (α := Nat) (fun i => ⟨[(1, .sl 3 (vrows (x))), (2, .sl 1 (mrows (p))), (3, .p 0 3 0 0), (33, .sl 1 (mrows (p))), (34, .v (.int .i64 np)), (35, .v (.int .i64 i))], [(0, ⟨3, [[.sl 1 (mrows a), .sl 1 (mrows dv), .sl 3 (vrows w)]]⟩)], 1⟩) (fun i => i ≤ np ∧ ∀ i', i' < i → briefV (p.getD i' [])) (fun i => np - i) (0) _ byFresh (fun _ h => by first | (cases h; done) | exact Nat.le_of_ble_eq_true rfl) ?_ ?_ ?_
  · exact ⟨Nat.zero_le _, fun i' h => by omega⟩
  · exact byWeak
  rintro i ⟨hi, hall⟩
  by_cases hin : i < np
  ·
    have y1 := bp i
    have ri := mrows_getD (a := p) (i := i) (by omega)
    have hstep : briefV (p.getD i []) → ∀ i', i' < i + 1 → briefV (p.getD i' []) := fun h i' hi' => by
      by_cases e : i' = i
      · rw [e]; exact h
      · exact hall i' (by omega)
    clear main hall bp
    by_cases hs : briefV (p.getD i [])
    ·
      have hall2 := hstep hs
      rw [decide_eq_true hs] at y1
      clear hstep hs
      generalize p.getD i [] = r at ri y1
      repeat' (first | (simp only [go_sem, seval, IntKind.bits.eq_def, ti, tin, mrows_length, hnp, ri]) | (simp (disch := omega) only [wA]) | (with_reducible first | refine cF y1 ?_ | refine dF y1 ?_) | refine aL ti_ok ?_ | refine dL ti_ok ?_ | refine dG ?_ | ((first | refine cC ?_ ?_ | refine gS ?_ ?_ | refine dS ?_ ?_) <;> intro hc <;> first | (exfalso; simp only [dcA] at hc; omega) | (simp only [hc]; try simp only [dcA] at hc)) | refine aO ?_ | refine dO ?_)
      refine roundEnd_of (α := Nat) (i + 1) ⟨by omega, hall2⟩ (by omega) ?_
      exact byWeak
    ·
      rw [decide_eq_false hs] at y1
      clear hstep hs
      generalize p.getD i [] = r at ri y1
      repeat' (first | (simp only [go_sem, seval, IntKind.bits.eq_def, ti, tin, mrows_length, hnp, ri]) | (simp (disch := omega) only [wA]) | (with_reducible first | refine cF y1 ?_ | refine dF y1 ?_) | refine aL ti_ok ?_ | refine dL ti_ok ?_ | refine dG ?_ | ((first | refine cC ?_ ?_ | refine gS ?_ ?_ | refine dS ?_ ?_) <;> intro hc <;> first | (exfalso; simp only [dcA] at hc; omega) | (simp only [hc]; try simp only [dcA] at hc)) | refine aO ?_ | refine dO ?_)
      all_goals exact fin_same trivial rfl
  obtain ⟨y, e, c, s1, s2, s3, s4⟩ := main (fun i' h => hall i' (by omega))
  clear main hall bp f1 f2 aw
  by_cases h0 : 0 < np
  ·
    have r0 := mrows_getD (a := p) (i := 0) (by omega)
    change (mrows p).getD 0 [] = [.sl 3 (vrows (hdV p))] at r0
    have rd := mrows_drop p 1
    have rt : (mrows (p.drop 1)).take (np - 1) = mrows (p.drop 1) := List.take_of_length_le (by rw [mrows_length, List.length_drop, hnp]; exact Nat.le_refl _)
    repeat' (first | (simp only [go_sem, seval, IntKind.bits.eq_def, ti, tin, mrows_length, hnp, r0, rd, rt]) | (simp (disch := omega) only [wA]) | (with_reducible first | refine cF s1 ?_ | refine dF s1 ?_ | refine cF s2 ?_ | refine dF s2 ?_ | refine cF s3 ?_ | refine dF s3 ?_ | refine cF s4 ?_ | refine dF s4 ?_) | refine aL ti_ok ?_ | refine dL ti_ok ?_ | refine dG ?_ | ((first | refine cC ?_ ?_ | refine gS ?_ ?_ | refine dS ?_ ?_) <;> intro hc <;> first | (exfalso; simp only [dcA] at hc; omega) | (simp only [hc]; try simp only [dcA] at hc)) | refine aO ?_ | refine dO ?_)
    all_goals exact fin_same trivial rfl
  ·
    have hp0 : p = [] := List.length_eq_zero_iff.1 (by omega)
    subst hp0
    have e1 : mrows (List.drop 1 ([] : List (List RD))) = [] := rfl
    have e2 : vrows (hdV []) = [] := rfl
    rw [e1, e2] at s1 s2
    have hcl : ∀ z ∈ [AV.agg [.sl 1 (mrows a), .sl 1 (mrows dv), .sl 3 (vrows w)], .sl 3 (vrows x), .sl 1 [], .v (.slice none 0 0)], Cl z := fun z hz => by
      simp only [List.mem_cons, List.not_mem_nil, or_false] at hz
      rcases hz with rfl | rfl | rfl | rfl
      · exact byCl
      · exact Cl.vec
      · exact Cl.sl (fun r hr => by cases hr)
      · exact Cl.v _
    have s1 := s1.le (.cons (.refl _) (.cons (.refl _) (.cons (.refl _) (.cons (Le.nil 3) .nil)))) hcl
    have s2 := s2.le (.cons (.refl _) (.cons (.refl _) (.cons (.refl _) (.cons (Le.nil 3) .nil)))) hcl
    have n0 : np = 0 := by omega
    subst n0
    repeat' (first | (simp only [go_sem, seval, IntKind.bits.eq_def, ti, tin, mrows_nil]) | (simp (disch := omega) only [wA]) | (with_reducible first | refine cF s1 ?_ | refine dF s1 ?_ | refine cF s2 ?_ | refine dF s2 ?_ | refine cF s3 ?_ | refine dF s3 ?_ | refine cF s4 ?_ | refine dF s4 ?_) | refine aL ti_ok ?_ | refine dL ti_ok ?_ | refine dG ?_ | ((first | refine cC ?_ ?_ | refine gS ?_ ?_ | refine dS ?_ ?_) <;> intro hc <;> first | (exfalso; simp only [dcA] at hc; omega) | (simp only [hc]; try simp only [dcA] at hc)) | refine aO ?_ | refine dO ?_)
    all_goals exact fin_same trivial rfl
theorem steps18_law (r d : List (List AV)) (w x p : List (List AV)) (hx : x.length ≤ maxLen) (fx : ∀ y ∈ x, FitL [.bool, .sl [.int .u32], .int .i64] y) (hp : p.length ≤ maxLen) (fp : ∀ x ∈ p, FitL [.sl [.bool, .sl [.int .u32], .int .i64]] x) (hr : r.length ≤ maxLen) (fr : ∀ x ∈ r, FitL [.sl [.bool, .sl [.int .u32], .int .i64]] x) (hd : d.length ≤ maxLen) (fd : ∀ x ∈ d, FitL [.sl [.bool, .sl [.int .u32], .int .i64]] x)
    (hw : w.length ≤ maxLen) (fw : ∀ x ∈ w, FitL [.bool, .sl [.int .u32], .int .i64] x) :
    CallOK Tryz.prog gl 6 [.agg [.sl 1 r, .sl 1 d, .sl 3 w], .sl 3 x, .sl 1 p] (.v (.bool true)) := by
  unfold maxLen at hr hd hw hx hp
  obtain ⟨a, ga, rfl, e1⟩ := fit_mrows fr
  obtain ⟨dv, gd, rfl, e2⟩ := fit_mrows fd
  obtain ⟨w, gw, rfl, e3⟩ := fit_vrows fw
  obtain ⟨x, gx, rfl, e4⟩ := fit_vrows fx
  obtain ⟨p, gp, rfl, e5⟩ := fit_mrows fp
  by_cases h : lightP a dv w ∧ briefV x ∧ p.length ≤ 8
  · exact stp_ok a dv w x p p.length rfl (by omega) ga gd gw gx gp h.1 h.2.1 h.2.2
  · exact stp_out a dv w x p (by omega) (by omega) (by omega) (by omega) (by omega) ga gd gw gx h
end Go.Proofs.YtpggiabnhodjpaaGreatDoor
