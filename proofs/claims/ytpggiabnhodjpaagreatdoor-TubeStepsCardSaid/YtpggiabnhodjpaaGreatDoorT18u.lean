/- The reference of layer 18: Step. -/
import Derived.Test.YtpggiabnhodjpaaGreatDoorT18r
import Derived.Test.YtpggiabnhodjpaaGreatDoorTub7
set_option linter.unusedSimpArgs false
set_option linter.unusedVariables false
set_option linter.deprecated false
namespace Go.Proofs.YtpggiabnhodjpaaGreatDoor
open Go Go.Ax
set_option maxRecDepth 100000
set_option maxHeartbeats 4000000
theorem r18_Step_err (a dv : List (List RD)) (w x : List RD) (d : List (List RD)) (v : List RD) (ha : a.length ≤ 1000) (hd : dv.length ≤ 1000) (hw : w.length ≤ 1000) (hx : x.length ≤ 4611686018427387904) (hd2 : d.length ≤ 1000) (hv : v.length ≤ 4611686018427387904) (kd : ∀ l ∈ dv, l.length ≤ 1000 ∧ ∀ r ∈ l, r.ok) (kw : ∀ r ∈ w, r.ok) (he : stE a dv w x d v ≠ 0) : CallOK Tryz.prog gl 30 [.agg [.sl 1 (mrows a), .sl 1 (mrows dv), .sl 3 (vrows w)], .sl 3 (vrows (x)), .sl 1 (mrows (d)), .sl 3 (vrows (v))] (.tup [.v (.slice none 0 0), .v (.int .i64 ((stE a dv w x d v)))]) := by
  refine call_ok (C := ⟨Tryz.prog, gl, ti, 105, false⟩) ti_ok mixed 3000 Tryz.call30 Tryz.func30 rfl Tryz.ntmps30 (by simp) byClL byCl ?_
  rw [Tryz.results30]
  obtain ⟨z, hz⟩ : ∃ z, stE a dv w x d v = z := ⟨_, rfl⟩
  rw [hz] at he ⊢
  unfold stE at hz
  have k1 := r18_Check a dv w ha hd hw kd kw
  by_cases h1 : ckT a dv w ≠ 0
  ·
    rw [if_pos h1] at hz
    rw [hz] at k1
    repeat' (first | (simp only [go_sem, seval, IntKind.bits.eq_def, ti, tin]) | (simp (disch := omega) only [wA]) | (with_reducible first | refine cF k1 ?_ | refine dF k1 ?_) | refine aL ti_ok ?_ | refine dL ti_ok ?_ | refine dG ?_ | ((first | refine cC ?_ ?_ | refine gS ?_ ?_ | refine dS ?_ ?_) <;> intro hc <;> first | (exfalso; simp only [dcA] at hc; omega) | (simp only [hc]; try simp only [dcA] at hc)) | refine aO ?_ | refine dO ?_)
    all_goals exact fin_same trivial rfl
  rw [if_neg h1] at hz
  have h1 : ckT a dv w = 0 := by omega
  have hA := (ckT_zero h1)
  rw [h1] at k1
  by_cases h2 : x.length ≠ a.length ∨ v.length ≠ a.length
  ·
    rw [if_pos h2] at hz
    subst hz
    by_cases h3 : x.length = a.length
    ·
      have e1 : ((x.length : Nat) : Int) = ((a.length : Nat) : Int) := by omega
      have e2 : ¬ ((v.length : Nat) : Int) = ((a.length : Nat) : Int) := by omega
      clear h2 h3
      repeat' (first | (simp only [go_sem, seval, IntKind.bits.eq_def, ti, tin, mrows_length, vrows_length, e1, e2]) | (simp (disch := omega) only [wA]) | (with_reducible first | refine cF k1 ?_ | refine dF k1 ?_) | refine aL ti_ok ?_ | refine dL ti_ok ?_ | refine dG ?_ | ((first | refine cC ?_ ?_ | refine gS ?_ ?_ | refine dS ?_ ?_) <;> intro hc <;> first | (exfalso; simp only [dcA] at hc; omega) | (simp only [hc]; try simp only [dcA] at hc)) | refine aO ?_ | refine dO ?_)
      all_goals exact fin_same trivial rfl
    ·
      have e1 : ¬ ((x.length : Nat) : Int) = ((a.length : Nat) : Int) := by omega
      clear h2 h3
      repeat' (first | (simp only [go_sem, seval, IntKind.bits.eq_def, ti, tin, mrows_length, vrows_length, e1]) | (simp (disch := omega) only [wA]) | (with_reducible first | refine cF k1 ?_ | refine dF k1 ?_) | refine aL ti_ok ?_ | refine dL ti_ok ?_ | refine dG ?_ | ((first | refine cC ?_ ?_ | refine gS ?_ ?_ | refine dS ?_ ?_) <;> intro hc <;> first | (exfalso; simp only [dcA] at hc; omega) | (simp only [hc]; try simp only [dcA] at hc)) | refine aO ?_ | refine dO ?_)
      all_goals exact fin_same trivial rfl
  rw [if_neg h2] at hz
  have e1 : ((x.length : Nat) : Int) = ((a.length : Nat) : Int) := by omega
  have e2 : ((v.length : Nat) : Int) = ((a.length : Nat) : Int) := by omega
  clear h2
  have k2 := ref_CheckM d (by omega)
  by_cases h3 : ckM d ≠ 0
  ·
    rw [if_pos h3] at hz
    rw [hz] at k2
    repeat' (first | (simp only [go_sem, seval, IntKind.bits.eq_def, ti, tin, mrows_length, vrows_length, e1, e2]) | (simp (disch := omega) only [wA]) | (with_reducible first | refine cF k1 ?_ | refine dF k1 ?_ | refine cF k2 ?_ | refine dF k2 ?_) | refine aL ti_ok ?_ | refine dL ti_ok ?_ | refine dG ?_ | ((first | refine cC ?_ ?_ | refine gS ?_ ?_ | refine dS ?_ ?_) <;> intro hc <;> first | (exfalso; simp only [dcA] at hc; omega) | (simp only [hc]; try simp only [dcA] at hc)) | refine aO ?_ | refine dO ?_)
    all_goals exact fin_same trivial rfl
  rw [if_neg h3] at hz
  have h3 : ckM d = 0 := by omega
  rw [h3] at k2
  have hD := (ckM_zero h3).1
  have r0 := mrows_getD (a := d) (i := 0) hD.1
  have v0 := vrows_length (d.getD 0 [])
  by_cases h4 : d.length ≠ a.length ∨ (d.getD 0 []).length ≠ a.length
  ·
    rw [if_pos h4] at hz
    subst hz
    generalize (d.getD 0 []).length = m at *
    generalize d.getD 0 [] = y at *
    by_cases h5 : d.length = a.length
    ·
      have e3 : ((d.length : Nat) : Int) = ((a.length : Nat) : Int) := by omega
      have e4 : ¬ ((m : Nat) : Int) = ((a.length : Nat) : Int) := by omega
      clear h4 hA
      repeat' (first | (simp only [go_sem, seval, IntKind.bits.eq_def, ti, tin, mrows_length, vrows_length, e1, e2, e3, e4, r0, v0]) | (simp (disch := omega) only [wA]) | (with_reducible first | refine cF k1 ?_ | refine dF k1 ?_ | refine cF k2 ?_ | refine dF k2 ?_) | refine aL ti_ok ?_ | refine dL ti_ok ?_ | refine dG ?_ | ((first | refine cC ?_ ?_ | refine gS ?_ ?_ | refine dS ?_ ?_) <;> intro hc <;> first | (exfalso; simp only [dcA] at hc; omega) | (simp only [hc]; try simp only [dcA] at hc)) | refine aO ?_ | refine dO ?_)
      all_goals exact fin_same trivial rfl
    ·
      have e3 : ¬ ((d.length : Nat) : Int) = ((a.length : Nat) : Int) := by omega
      clear h4 hA
      repeat' (first | (simp only [go_sem, seval, IntKind.bits.eq_def, ti, tin, mrows_length, vrows_length, e1, e2, e3, r0, v0]) | (simp (disch := omega) only [wA]) | (with_reducible first | refine cF k1 ?_ | refine dF k1 ?_ | refine cF k2 ?_ | refine dF k2 ?_) | refine aL ti_ok ?_ | refine dL ti_ok ?_ | refine dG ?_ | ((first | refine cC ?_ ?_ | refine gS ?_ ?_ | refine dS ?_ ?_) <;> intro hc <;> first | (exfalso; simp only [dcA] at hc; omega) | (simp only [hc]; try simp only [dcA] at hc)) | refine aO ?_ | refine dO ?_)
      all_goals exact fin_same trivial rfl
  rw [if_neg h4] at hz
  exact absurd hz.symm he
theorem withinD_rows {n : Nat} {d dv : List (List RD)} (hn : 0 < n) (h1 : ckM d = 0) (hl : d.length = n) (hl0 : (d.getD 0 []).length = n) : leD (absD (dyM d)) (dyM dv) = decide (devIn d dv) := by
  have rd := rect_of h1
  rw [hl, hl0] at rd
  rw [Bool.eq_iff_iff, leD_iff (rect_abs rd hn), decide_eq_true_iff]
  unfold devIn withinD
  constructor
  · intro h i hi
    refine decide_eq_true fun j hj => ?_
    have hin : i < n := by omega
    have hrow : (d.getD i []).length = n := by rw [(ckM_zero h1).2.2 i hi, hl0]
    rw [dyV_len, hrow] at hj
    have := h i j hin hj
    rw [el_abs rd hn hin hj] at this
    refine (cmp_le _ _).2 ?_
    unfold el at this
    rw [dyM_get, dyM_get] at this
    exact this
  · intro h i j hi hj
    have hrow : (d.getD i []).length = n := by rw [(ckM_zero h1).2.2 i (by omega), hl0]
    have := of_decide_eq_true (h i (by omega)) j (by rw [dyV_len, hrow]; exact hj)
    rw [el_abs rd hn hi hj]
    unfold el
    rw [dyM_get, dyM_get]
    exact (cmp_le _ _).1 this
theorem r18_Step (a dv : List (List RD)) (w x : List RD) (d : List (List RD)) (v : List RD) (p q : Nat) (hp : p ≤ 100) (hq : q ≤ 200000) (oa : okM p a) (od : okM p dv) (ow : okV p w) (ox : okV q x) (odd : okM p d) (ov : okV p v) (he : stE a dv w x d v = 0) :
    CallOK Tryz.prog gl 30 [.agg [.sl 1 (mrows a), .sl 1 (mrows dv), .sl 3 (vrows w)], .sl 3 (vrows x), .sl 1 (mrows d), .sl 3 (vrows v)] (stRV (stY (dyM a) (dyV x) (dyM d) (dyV v)) (stIn dv w d v)) := by
  refine call_ok (C := ⟨Tryz.prog, gl, ti, 105, false⟩) ti_ok mixed 3000 Tryz.call30 Tryz.func30 rfl Tryz.ntmps30 (by simp) byClL (by cases stIn dv w d v <;> exact byCl) ?_
  rw [Tryz.results30]
  obtain ⟨h1, hx, hv, h3, hl, hl0⟩ := stE_zero he
  obtain ⟨t1, t2, t3, t4, t5, t6, t7, t8, t9⟩ := ckT_zero h1
  have hn0 := (ckM_zero t1).1.1
  have k1 := r18_Check a dv w (by omega) (by omega) (by omega) (fun l hl => by
    have := okM_all od (fun i hi => by have := (ckM_zero t2).2; rw [this.2 i hi]; exact this.1.2) l hl
    obtain ⟨i, hi, rfl⟩ := List.getElem_of_mem hl
    have e := (ckM_zero t2).2.2 i hi
    rw [List.getD, List.getElem?_eq_getElem hi, Option.getD_some] at e
    exact ⟨by omega, this.2⟩) (okV_all ow)
  rw [h1] at k1
  have k2 := ref_CheckM d (by omega)
  rw [h3] at k2
  have r0 := mrows_getD (a := d) (i := 0) (by omega)
  have v0 := vrows_length (d.getD 0 [])
  have ra := rect_of t1
  rw [t4] at ra
  have rd2 := rect_of h3
  rw [hl, hl0] at rd2
  have hdr := withinD_rows (dv := dv) hn0 h3 hl hl0
  have rb := rect_abs rd2 hn0
  have c1 := refm_Abs d p h3 odd
  have gB : ∀ i j, Mg p (el (absD (dyM d)) i j) := mgAbs rd2 hn0 (mg_el_raw odd)
  have c2 := refm_Le (crM (absD (dyM d))) dv p (by
    unfold bothE fitAdd
    rw [if_pos (ckM_rect rb hn0 (by omega) hn0 (by omega)), if_pos t2, if_pos (decide_eq_true ⟨by rw [crM_len, rb.1]; omega, by rw [crM_get, List.length_map, rb.2 0 hn0]; omega⟩)]) (okM_cr gB (by omega)) od
  rw [dyM_cr, hdr] at c2
  have m1 := refm_Add a d p (by
    unfold bothE fitAdd
    rw [if_pos t1, if_pos h3, if_pos (decide_eq_true ⟨by omega, by omega⟩)]) oa odd
  have gA : ∀ i j, Mg (p + 1) (el (addD (dyM a) (dyM d)) i j) := fun i j => by
    by_cases hij : i < a.length ∧ j < a.length
    · rw [el_add ra hn0 hij.1 hij.2]; exact Mg.add (mg_el_raw oa i j) (mg_el_raw odd i j)
    · rw [el_out (rect_add ra hn0) hij]; exact Mg.zero _
  have rA := rect_add (b := dyM d) ra hn0
  have m2 := refm_Apply (crM (addD (dyM a) (dyM d))) x (p + 1) q (by omega) (ckM_rect rA hn0 (by omega) hn0 (by omega)) (by rw [crM_get, List.length_map, rA.2 0 hn0, hx]) (okM_cr gA (by omega)) ox
  rw [dyM_cr] at m2
  have m3 := r18_plus ((appD (addD (dyM a) (dyM d)) (dyV x)).map can) v (p + 1 + q + a.length) (by rw [List.length_map, app_len, rA.1]; omega) (by rw [List.length_map, app_len, rA.1, hv]) (okV_can (mgA rA gA (okV_get ox)) (by omega)) (okV.mono ov (by omega))
  rw [dyV_can] at m3
  have ca : ∀ i, i < a.length → CallOK Tryz.prog gl 34 [.agg [.v (.bool (v.getD i RD.zero).s), .sl 1 (u32s (v.getD i RD.zero).ws), .v (.int .i64 (v.getD i RD.zero).d)]] (.agg (crow (v.getD i RD.zero).dy.abs)) := fun i hi => ref_Abs _ _ _ _ (RD.arg (ov i).1)
  have cc : ∀ i, i < a.length → CallOK Tryz.prog gl 20 [.agg (crow (v.getD i RD.zero).dy.abs), .agg [.v (.bool (w.getD i RD.zero).s), .sl 1 (u32s (w.getD i RD.zero).ws), .v (.int .i64 (w.getD i RD.zero).d)]] (.v (.int .i64 ((v.getD i RD.zero).dy.abs.cmp (w.getD i RD.zero).dy))) := fun i hi => ref_Cmp _ _ _ _ _ _ _ _ ((Mg.abs (ov i).2).arg) (RD.arg (ow i).1)
  have hT : stIn dv w d v = (decide (devIn d dv) && withinD (dyV v) (dyV w)) := rfl
  have hW := withinD_raw (x := v) (y := w)
  obtain ⟨n, hn⟩ : ∃ n, a.length = n := ⟨_, rfl⟩
  have hxn : x.length = n := by omega
  have hvn : v.length = n := by omega
  have hdn : d.length = n := by omega
  have hwn : w.length = n := by omega
  have hn6 : n ≤ 6 := by omega
  rw [hl0, hn] at v0
  rw [hn] at ca cc
  rw [hvn] at hW
  have hwT : (∀ i, i < n → (v.getD i RD.zero).dy.abs.cmp (w.getD i RD.zero).dy ≤ 0) → withinD (dyV v) (dyV w) = true := fun h => by rw [hW]; exact decide_eq_true h
  have hwF : ¬ (∀ i, i < n → (v.getD i RD.zero).dy.abs.cmp (w.getD i RD.zero).dy ≤ 0) → withinD (dyV v) (dyV w) = false := fun h => by rw [hW]; exact decide_eq_false h
  have eY : stY (dyM a) (dyV x) (dyM d) (dyV v) = sumV (appD (addD (dyM a) (dyM d)) (dyV x)) (dyV v) := rfl
  rw [eY, hT]
  clear hT he h1 t1 t2 t3 t4 t5 t6 t7 t8 t9 h3 hl hl0 hx hv gA rA gB rb ra rd2 oa od ow ox odd ov eY hdr hW
  generalize sumV (appD (addD (dyM a) (dyM d)) (dyV x)) (dyV v) = Y at *
  generalize appD (addD (dyM a) (dyM d)) (dyV x) = Y1 at *
  generalize crM (addD (dyM a) (dyM d)) = A1 at *
  generalize crM (absD (dyM d)) = B1 at *
  generalize decide (devIn d dv) = di at *
  generalize d.getD 0 [] = y0 at *
  cases di with
  | false =>
    clear ca cc hwT hwF
    rw [Bool.false_and]
    repeat' (first | (simp only [go_sem, seval, IntKind.bits.eq_def, ti, tin, mrows_length, vrows_length, hn, hxn, hvn, hdn, r0, v0]) | (simp (disch := omega) only [wA]) | (with_reducible first | refine cF k1 ?_ | refine dF k1 ?_ | refine cF k2 ?_ | refine dF k2 ?_ | refine cF c1 ?_ | refine dF c1 ?_ | refine cF c2 ?_ | refine dF c2 ?_) | refine aL ti_ok ?_ | refine dL ti_ok ?_ | refine dG ?_ | ((first | refine cC ?_ ?_ | refine gS ?_ ?_ | refine dS ?_ ?_) <;> intro hc <;> first | (exfalso; simp only [dcA] at hc; omega) | (simp only [hc]; try simp only [dcA] at hc)) | refine aO ?_ | refine dO ?_)
    all_goals exact fin_same trivial rfl
  | true =>
  rw [Bool.true_and]
  generalize withinD (dyV v) (dyV w) = z at *
  repeat' (first | (simp only [go_sem, seval, IntKind.bits.eq_def, ti, tin, mrows_length, vrows_length, hn, hxn, hvn, hdn, r0, v0]) | (simp (disch := omega) only [wA]) | (with_reducible first | refine cF k1 ?_ | refine dF k1 ?_ | refine cF k2 ?_ | refine dF k2 ?_ | refine cF c1 ?_ | refine dF c1 ?_ | refine cF c2 ?_ | refine dF c2 ?_) | refine aL ti_ok ?_ | refine dL ti_ok ?_ | refine dG ?_ | ((first | refine cC ?_ ?_ | refine gS ?_ ?_ | refine dS ?_ ?_) <;> intro hc <;> first | (exfalso; simp only [dcA] at hc; omega) | (simp only [hc]; try simp only [dcA] at hc)) | refine aO ?_ | refine dO ?_)
  refine l_loop (α := Nat) (fun i => ⟨[(1, .sl 3 (vrows (x))), (2, .sl 1 (mrows (d))), (3, .sl 3 (vrows (v))), (4, .p 0 3 0 0), (72, .v (.int .i64 n)), (73, .v (.int .i64 i))], [(0, ⟨3, [[.sl 1 (mrows a), .sl 1 (mrows dv), .sl 3 (vrows w)]]⟩)], 1⟩) (fun i => i ≤ n ∧ ∀ i', i' < i → (v.getD i' RD.zero).dy.abs.cmp (w.getD i' RD.zero).dy ≤ 0) (fun i => n - i) (0) _ byFresh (fun _ h => by first | (cases h; done) | exact Nat.le_of_ble_eq_true rfl) ?_ ?_ ?_
  · exact ⟨Nat.zero_le _, fun i' h => by omega⟩
  · exact byWeak
  rintro i ⟨hi, hall⟩
  by_cases hin : i < n
  ·
    have y1 := ca i hin
    have y2 := cc i hin
    have ri := vrows_getD (l := v) (i := i) (by omega)
    have rv := vrows_getD (l := w) (i := i) (by omega)
    have hz3 : ¬ (v.getD i RD.zero).dy.abs.cmp (w.getD i RD.zero).dy ≤ 0 → z = false := fun h => hwF (fun hh => h (hh i hin))
    have hstep : (v.getD i RD.zero).dy.abs.cmp (w.getD i RD.zero).dy ≤ 0 → ∀ i', i' < i + 1 → (v.getD i' RD.zero).dy.abs.cmp (w.getD i' RD.zero).dy ≤ 0 := fun h i' hi' => by
      by_cases e : i' = i
      · rw [e]; exact h
      · exact hall i' (by omega)
    clear hwT hwF hall ca cc
    unfold vrow at ri rv
    generalize hc : (v.getD i RD.zero).dy.abs.cmp (w.getD i RD.zero).dy = c at *
    clear hc
    generalize (v.getD i RD.zero).dy.abs = Va at *
    generalize v.getD i RD.zero = r at *
    generalize w.getD i RD.zero = r' at *
    by_cases hc0 : c ≤ 0
    ·
      have hall2 := hstep hc0
      clear hstep hz3
      repeat' (first | (simp only [go_sem, seval, IntKind.bits.eq_def, ti, tin, vrows_length, hvn, hwn, ri, rv]) | (simp (disch := omega) only [wA]) | (with_reducible first | refine cF y1 ?_ | refine dF y1 ?_ | refine cF y2 ?_ | refine dF y2 ?_) | refine aL ti_ok ?_ | refine dL ti_ok ?_ | refine dG ?_ | ((first | refine cC ?_ ?_ | refine gS ?_ ?_ | refine dS ?_ ?_) <;> intro hc <;> first | (exfalso; simp only [dcA] at hc; omega) | (simp only [hc]; try simp only [dcA] at hc)) | refine aO ?_ | refine dO ?_)
      refine roundEnd_of (α := Nat) (i + 1) ⟨by omega, hall2⟩ (by omega) ?_
      exact byWeak
    ·
      have hz4 := hz3 hc0
      subst hz4
      clear hstep hz3
      repeat' (first | (simp only [go_sem, seval, IntKind.bits.eq_def, ti, tin, vrows_length, hvn, hwn, ri, rv]) | (simp (disch := omega) only [wA]) | (with_reducible first | refine cF y1 ?_ | refine dF y1 ?_ | refine cF y2 ?_ | refine dF y2 ?_) | refine aL ti_ok ?_ | refine dL ti_ok ?_ | refine dG ?_ | ((first | refine cC ?_ ?_ | refine gS ?_ ?_ | refine dS ?_ ?_) <;> intro hc <;> first | (exfalso; simp only [dcA] at hc; omega) | (simp only [hc]; try simp only [dcA] at hc)) | refine aO ?_ | refine dO ?_)
      all_goals exact fin_same trivial rfl
  have hz4 := hwT (fun i' h => hall i' (by omega))
  clear hwT hwF hall ca cc
  subst hz4
  repeat' (first | (simp only [go_sem, seval, IntKind.bits.eq_def, ti, tin]) | (simp (disch := omega) only [wA]) | (with_reducible first | refine cF m1 ?_ | refine dF m1 ?_ | refine cF m2 ?_ | refine dF m2 ?_ | refine cF m3 ?_ | refine dF m3 ?_) | refine aL ti_ok ?_ | refine dL ti_ok ?_ | refine dG ?_ | ((first | refine cC ?_ ?_ | refine gS ?_ ?_ | refine dS ?_ ?_) <;> intro hc <;> first | (exfalso; simp only [dcA] at hc; omega) | (simp only [hc]; try simp only [dcA] at hc)) | refine aO ?_ | refine dO ?_)
  all_goals exact fin_same trivial rfl
end Go.Proofs.YtpggiabnhodjpaaGreatDoor
