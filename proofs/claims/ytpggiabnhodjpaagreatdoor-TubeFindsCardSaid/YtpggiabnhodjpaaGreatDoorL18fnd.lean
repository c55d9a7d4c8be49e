/- The statement TubeFinds: its code returns true. -/
import Derived.Test.YtpggiabnhodjpaaGreatDoorL18mak
set_option linter.unusedSimpArgs false
set_option linter.unusedVariables false
set_option linter.deprecated false
namespace Go.Proofs.YtpggiabnhodjpaaGreatDoor
open Go Go.Ax
set_option maxRecDepth 100000
set_option maxHeartbeats 4000000
theorem fnd_out (a dv : List (List RD)) (w : List RD) (k : Int) (ha : a.length ≤ 9223372036854775807) (hd : dv.length ≤ 9223372036854775807) (hw : w.length ≤ 9223372036854775807) (ga : argM a) (gd : argM dv) (gw : argV w) (hl : ¬ lightP a dv w) : CallOK Tryz.prog gl 4 [.agg [.sl 1 (mrows a), .sl 1 (mrows dv), .sl 3 (vrows w)], .v (.int .u8 k)] (.v (.bool (true))) := by
  refine call_ok (C := ⟨Tryz.prog, gl, ti, 72, false⟩) ti_ok mixed 3000 Tryz.call4 Tryz.func4 rfl Tryz.ntmps4 (by simp) byClL byCl ?_
  rw [Tryz.results4]
  have f1 := law18_light a dv w ha hd hw ga gd gw
  have aw := awake18
  rw [decide_eq_false hl] at f1
  clear hl
  repeat' (first | (simp only [go_sem, seval, IntKind.bits.eq_def, ti, tin]) | (simp (disch := omega) only [wA]) | (with_reducible first | refine cF f1 ?_ | refine dF f1 ?_ | refine cF aw ?_ | refine dF aw ?_) | refine aL ti_ok ?_ | refine dL ti_ok ?_ | refine dG ?_ | ((first | refine cC ?_ ?_ | refine gS ?_ ?_ | refine dS ?_ ?_) <;> intro hc <;> first | (exfalso; simp only [dcA] at hc; omega) | (simp only [hc]; try simp only [dcA] at hc)) | refine aO ?_ | refine dO ?_)
  all_goals exact fin_same trivial rfl
theorem fnd_err (a dv : List (List RD)) (w : List RD) (k : Int) (ga : argM a) (gd : argM dv) (gw : argV w) (hl : lightP a dv w) (hc : ckT a dv w ≠ 0) : CallOK Tryz.prog gl 4 [.agg [.sl 1 (mrows a), .sl 1 (mrows dv), .sl 3 (vrows w)], .v (.int .u8 k)] (.v (.bool (true))) := by
  refine call_ok (C := ⟨Tryz.prog, gl, ti, 72, false⟩) ti_ok mixed 3000 Tryz.call4 Tryz.func4 rfl Tryz.ntmps4 (by simp) byClL byCl ?_
  rw [Tryz.results4]
  have X := in18_of ga gd gw hl
  have f1 := law18_light a dv w (by have := X.la; omega) (by have := X.ld; omega) (by have := X.lw; omega) ga gd gw
  rw [decide_eq_true hl] at f1
  have aw := awake18
  have k1 := X.check
  clear X hl ga gd gw
  generalize ckT a dv w = e at *
  repeat' (first | (simp only [go_sem, seval, IntKind.bits.eq_def, ti, tin]) | (simp (disch := omega) only [wA]) | (with_reducible first | refine cF f1 ?_ | refine dF f1 ?_ | refine cF aw ?_ | refine dF aw ?_ | refine cF k1 ?_ | refine dF k1 ?_) | refine aL ti_ok ?_ | refine dL ti_ok ?_ | refine dG ?_ | ((first | refine cC ?_ ?_ | refine gS ?_ ?_ | refine dS ?_ ?_) <;> intro hc <;> first | (exfalso; simp only [dcA] at hc; omega) | (simp only [hc]; try simp only [dcA] at hc)) | refine aO ?_ | refine dO ?_)
  all_goals exact fin_same trivial rfl
theorem fnd_ok (a dv : List (List RD)) (w : List RD) (k : Int) (n : Nat) (hk : (Lit.int .u8 k).wf = true) (hn : a.length = n) (ga : argM a) (gd : argM dv) (gw : argV w) (hl : lightP a dv w) (hc : ckT a dv w = 0) : CallOK Tryz.prog gl 4 [.agg [.sl 1 (mrows a), .sl 1 (mrows dv), .sl 3 (vrows w)], .v (.int .u8 k)] (.v (.bool (true))) := by
  refine call_ok (C := ⟨Tryz.prog, gl, ti, 72, false⟩) ti_ok mixed 3000 Tryz.call4 Tryz.func4 rfl Tryz.ntmps4 (by simp) byClL byCl ?_
  rw [Tryz.results4]
  have X := in18_of ga gd gw hl
  have f1 := law18_light a dv w (by have := X.la; omega) (by have := X.ld; omega) (by have := X.lw; omega) ga gd gw
  rw [decide_eq_true hl] at f1
  have aw := awake18
  have k1 := X.check
  rw [hc] at k1
  have hn3 : n ≤ 3 := by have := X.few; omega
  obtain ⟨t1, t2, t3, t4, t5, t6, t7, t8, t9⟩ := ckT_zero hc
  have hn0 := (ckM_zero t1).1.1
  have hr := rect_of t1
  rw [t4, hn] at hr
  rw [hn] at hn0 t4 t7
  obtain ⟨m, hm, m1, m6, q1, q2, q3, q4⟩ := u8_mod hk
  have zr := refm_ZeroR n n (by omega) (by omega)
  have hM : ckM (crM (zeroM n)) = 0 := ckM_rect (zeroM_rect n) hn0 (by omega) hn0 (by omega)
  have hc2 : ckT a (crM (zeroM n)) w = 0 := ckT_mk hc hM (by rw [crM_len, (zeroM_rect n).1, hn]) (by rw [crM_get, List.length_map, (zeroM_rect n).2 0 hn0, hn]) (by omega) (fun i hi => by
    rw [crM_len, (zeroM_rect n).1] at hi
    rw [crM_get]
    exact nonneg_can fun j hj => by
      rw [(zeroM_rect n).2 i hi] at hj
      have e : vQ ((zeroM n).getD i []) j = (el (zeroM n) i j).v := rfl
      rw [e, zeroM_el hi hj, Dy.v_zero]; exact Rat.le_refl) t9
  have oz : okM 64 (crM (zeroM n)) := okM_cr (mg_el_tab fun i j _ _ => Mg.zero _) (by omega)
  have c1 := tub_Make a (crM (zeroM n)) w m 64 n (by omega) X.oa oz X.ow hc2 hn m1 (by omega)
  have hf := finds hr hn0 X.fa X.fw (by rw [dyV_len]; exact t7) (fun i hi => nonneg_vQ t9 (by omega)) m1 m6
  rw [dyM_cr, hf] at c1
  have p1 := refm_Power a m 64 n (by omega) t1 hn t4 (by omega) X.oa
  have gp : ∀ x y, Mg 4000 (el (powD (dyM a) m) x y) := fun x y => (mg_powD hr hn0 (mg_el_raw X.oa) m x y).mono (by
    have : m * (64 + n) ≤ 6 * 67 := Nat.mul_le_mul m6 (by omega)
    omega)
  have hrm := pow_rect hr hn0 m
  have p2 := refm_Norm (crM (powD (dyM a) m)) 4000 (by omega) (ckM_rect hrm hn0 (by omega) hn0 (by omega)) (okM_cr gp (by omega))
  rw [dyM_cr] at p2
  have gN : Mg 4008 (normD (powD (dyM a) m)) := by
    unfold normD
    refine (mg_maxD (k := 4008) fun j hj => ?_)
    rw [hrm.1] at hj
    unfold rowN
    rw [hrm.2 j hj]
    exact (mg_sumD (n := n) fun t _ => Mg.abs (gp j t)).mono (by omega)
  have o1 := ref_Of 1 (by omega)
  have g1 : Mg 1 (Dy.int 1) := Mg.int (by decide)
  have cm := ref_Cmp _ _ _ _ _ _ _ _ (gN.arg) (g1.arg)
  rw [← hm] at c1 p1
  change CallOK _ _ _ _ (.sl 1 (mrows (crM (zeroM n)))) at zr
  clear X hl ga gd gw gp gN g1 hrm oz hc2 hM hr t1 t2 t3 t4 t5 t6 t8 t9 hm
  generalize makeD m (dyM a) (zeroM n) (dyV w) = o at *
  generalize crM (zeroM n) = Z at *
  generalize crM (powD (dyM a) m) = P1 at *
  generalize normD (powD (dyM a) m) = N1 at *
  generalize Dy.int 1 = one1 at *
  generalize N1.cmp one1 = cc at *
  by_cases hcc : cc < 0
  ·
    rw [decide_eq_true hcc] at c1 hf
    cases o with
    | none =>
      simp only [certAV] at c1
      repeat' (first | (simp only [go_sem, seval, IntKind.bits.eq_def, ti, tin, mrows_length, hn]) | (simp (disch := omega) only [wA]) | (with_reducible first | refine cF f1 ?_ | refine dF f1 ?_ | refine cF aw ?_ | refine dF aw ?_ | refine cF k1 ?_ | refine dF k1 ?_ | refine cF zr ?_ | refine dF zr ?_ | refine cF p1 ?_ | refine dF p1 ?_ | refine cF p2 ?_ | refine dF p2 ?_ | refine cF c1 ?_ | refine dF c1 ?_ | refine cF cm ?_ | refine dF cm ?_ | refine cF o1 ?_ | refine dF o1 ?_) | refine aL ti_ok ?_ | refine dL ti_ok ?_ | refine dG ?_ | ((first | refine cC ?_ ?_ | refine gS ?_ ?_ | refine dS ?_ ?_) <;> intro hc <;> first | (exfalso; simp only [dcA] at hc; omega) | (simp only [hc]; try simp only [dcA] at hc)) | refine aO ?_ | refine dO ?_)
      all_goals exact fin_same trivial (by first | rfl | (unfold one; rw [decide_eq_true hcc]; rfl) | (unfold one; rw [decide_eq_false hcc]; rfl))
    | some pr =>
      simp only [certAV] at c1
      repeat' (first | (simp only [go_sem, seval, IntKind.bits.eq_def, ti, tin, mrows_length, hn]) | (simp (disch := omega) only [wA]) | (with_reducible first | refine cF f1 ?_ | refine dF f1 ?_ | refine cF aw ?_ | refine dF aw ?_ | refine cF k1 ?_ | refine dF k1 ?_ | refine cF zr ?_ | refine dF zr ?_ | refine cF p1 ?_ | refine dF p1 ?_ | refine cF p2 ?_ | refine dF p2 ?_ | refine cF c1 ?_ | refine dF c1 ?_ | refine cF cm ?_ | refine dF cm ?_ | refine cF o1 ?_ | refine dF o1 ?_) | refine aL ti_ok ?_ | refine dL ti_ok ?_ | refine dG ?_ | ((first | refine cC ?_ ?_ | refine gS ?_ ?_ | refine dS ?_ ?_) <;> intro hc <;> first | (exfalso; simp only [dcA] at hc; omega) | (simp only [hc]; try simp only [dcA] at hc)) | refine aO ?_ | refine dO ?_)
      all_goals exact fin_same trivial (by first | rfl | (unfold one; rw [decide_eq_true hcc]; rfl) | (unfold one; rw [decide_eq_false hcc]; rfl))
  ·
    rw [decide_eq_false hcc] at c1 hf
    cases o with
    | none =>
      simp only [certAV] at c1
      repeat' (first | (simp only [go_sem, seval, IntKind.bits.eq_def, ti, tin, mrows_length, hn]) | (simp (disch := omega) only [wA]) | (with_reducible first | refine cF f1 ?_ | refine dF f1 ?_ | refine cF aw ?_ | refine dF aw ?_ | refine cF k1 ?_ | refine dF k1 ?_ | refine cF zr ?_ | refine dF zr ?_ | refine cF p1 ?_ | refine dF p1 ?_ | refine cF p2 ?_ | refine dF p2 ?_ | refine cF c1 ?_ | refine dF c1 ?_ | refine cF cm ?_ | refine dF cm ?_ | refine cF o1 ?_ | refine dF o1 ?_) | refine aL ti_ok ?_ | refine dL ti_ok ?_ | refine dG ?_ | ((first | refine cC ?_ ?_ | refine gS ?_ ?_ | refine dS ?_ ?_) <;> intro hc <;> first | (exfalso; simp only [dcA] at hc; omega) | (simp only [hc]; try simp only [dcA] at hc)) | refine aO ?_ | refine dO ?_)
      all_goals exact fin_same trivial (by first | rfl | (unfold one; rw [decide_eq_true hcc]; rfl) | (unfold one; rw [decide_eq_false hcc]; rfl))
    | some pr =>
      simp only [certAV] at c1
      repeat' (first | (simp only [go_sem, seval, IntKind.bits.eq_def, ti, tin, mrows_length, hn]) | (simp (disch := omega) only [wA]) | (with_reducible first | refine cF f1 ?_ | refine dF f1 ?_ | refine cF aw ?_ | refine dF aw ?_ | refine cF k1 ?_ | refine dF k1 ?_ | refine cF zr ?_ | refine dF zr ?_ | refine cF p1 ?_ | refine dF p1 ?_ | refine cF p2 ?_ | refine dF p2 ?_ | refine cF c1 ?_ | refine dF c1 ?_ | refine cF cm ?_ | refine dF cm ?_ | refine cF o1 ?_ | refine dF o1 ?_) | refine aL ti_ok ?_ | refine dL ti_ok ?_ | refine dG ?_ | ((first | refine cC ?_ ?_ | refine gS ?_ ?_ | refine dS ?_ ?_) <;> intro hc <;> first | (exfalso; simp only [dcA] at hc; omega) | (simp only [hc]; try simp only [dcA] at hc)) | refine aO ?_ | refine dO ?_)
      all_goals exact fin_same trivial (by first | rfl | (unfold one; rw [decide_eq_true hcc]; rfl) | (unfold one; rw [decide_eq_false hcc]; rfl))
theorem finds18_law (r d : List (List AV)) (w : List (List AV)) (k : Int) (hk : (Lit.int .u8 k).wf = true) (hr : r.length ≤ maxLen) (fr : ∀ x ∈ r, FitL [.sl [.bool, .sl [.int .u32], .int .i64]] x) (hd : d.length ≤ maxLen) (fd : ∀ x ∈ d, FitL [.sl [.bool, .sl [.int .u32], .int .i64]] x)
    (hw : w.length ≤ maxLen) (fw : ∀ x ∈ w, FitL [.bool, .sl [.int .u32], .int .i64] x) :
    CallOK Tryz.prog gl 4 [.agg [.sl 1 r, .sl 1 d, .sl 3 w], .v (.int .u8 k)] (.v (.bool true)) := by
  unfold maxLen at hr hd hw
  obtain ⟨a, ga, rfl, e1⟩ := fit_mrows fr
  obtain ⟨dv, gd, rfl, e2⟩ := fit_mrows fd
  obtain ⟨w, gw, rfl, e3⟩ := fit_vrows fw
  by_cases h : lightP a dv w
  · by_cases h2 : ckT a dv w = 0
    · exact fnd_ok a dv w k a.length hk rfl ga gd gw h h2
    · exact fnd_err a dv w k ga gd gw h h2
  · exact fnd_out a dv w k (by omega) (by omega) (by omega) ga gd gw h
end Go.Proofs.YtpggiabnhodjpaaGreatDoor
