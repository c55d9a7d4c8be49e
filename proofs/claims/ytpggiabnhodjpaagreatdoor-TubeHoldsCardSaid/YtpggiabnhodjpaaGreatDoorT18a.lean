/- The statements on layer 18: the reference's checks; short arguments. -/
import Derived.Test.YtpggiabnhodjpaaGreatDoorTub6
import Derived.Test.YtpggiabnhodjpaaGreatDoorL04g
import Derived.Test.YtpggiabnhodjpaaGreatDoorNat1
set_option linter.unusedSimpArgs false
set_option linter.unusedVariables false
set_option linter.deprecated false
namespace Go.Proofs.YtpggiabnhodjpaaGreatDoor
open Go Go.Ax
set_option maxRecDepth 100000
set_option maxHeartbeats 4000000
theorem r18_below0 (l : List RD) (hl : l.length ≤ 1000) (hk : ∀ r ∈ l, r.ok) : CallOK Tryz.prog gl 51 [.sl 3 (vrows (l))] (.v (.bool ((!decide (nonneg l))))) := by
  refine call_ok (C := ⟨Tryz.prog, gl, ti, 15, false⟩) ti_ok mixed 3000 Tryz.call51 Tryz.func51 rfl Tryz.ntmps51 (by simp) byClL byCl ?_
  rw [Tryz.results51]
  obtain ⟨z, hz⟩ : ∃ z, (!decide (nonneg l)) = z := ⟨_, rfl⟩
  rw [hz]
  obtain ⟨n, hn⟩ : ∃ n, l.length = n := ⟨_, rfl⟩
  have hzT : (∀ i, i < n → ¬ (l.getD i RD.zero).dy.sign < 0) → z = false := fun h => by
    rw [← hz, decide_eq_true (show nonneg l from fun i hi => h i (by omega))]; rfl
  have hzF : ¬ (∀ i, i < n → ¬ (l.getD i RD.zero).dy.sign < 0) → z = true := fun h => by
    rw [← hz, decide_eq_false (fun hh : nonneg l => h (fun i hi => hh i (by omega)))]; rfl
  clear hz
  rw [hn] at hl
  repeat' (first | (simp only [go_sem, seval, IntKind.bits.eq_def, ti, tin, vrows_length, hn]) | (simp (disch := omega) only [wA]) | refine aL ti_ok ?_ | refine dL ti_ok ?_ | refine dG ?_ | ((first | refine cC ?_ ?_ | refine gS ?_ ?_ | refine dS ?_ ?_) <;> intro hc <;> first | (exfalso; simp only [dcA] at hc; omega) | (simp only [hc]; try simp only [dcA] at hc)) | refine aO ?_ | refine dO ?_)
  refine l_loop (α := Nat) (fun i => ⟨[(5, .sl 3 (vrows (l))), (6, .v (.int .i64 n)), (7, .v (.int .i64 i))], [], 0⟩) (fun i => i ≤ n ∧ ∀ i', i' < i → ¬ (l.getD i' RD.zero).dy.sign < 0) (fun i => n - i) (0) _ byFresh (fun _ h => by first | (cases h; done) | exact Nat.le_of_ble_eq_true rfl) ?_ ?_ ?_
  · exact ⟨Nat.zero_le _, fun i' h => by omega⟩
  · exact byWeak
  rintro i ⟨hi, hall⟩
  by_cases hin : i < n
  ·
    have ri := vrows_getD (l := l) (i := i) (by omega)
    have sn := ref_Sign _ _ _ _ (RD.arg (hk _ (mem_getD (d := RD.zero) (show i < l.length by omega))))
    have hz2 : (l.getD i RD.zero).dy.sign < 0 → z = true := fun h => hzF (fun hh => hh i hin h)
    have hstep : ¬ (l.getD i RD.zero).dy.sign < 0 → ∀ i', i' < i + 1 → ¬ (l.getD i' RD.zero).dy.sign < 0 := fun h i' hi' => by
      by_cases e : i' = i
      · rw [e]; exact h
      · exact hall i' (by omega)
    unfold vrow at ri
    clear hall hzT hzF
    by_cases hs : (l.getD i RD.zero).dy.sign < 0
    ·
      have hz3 := hz2 hs
      subst hz3
      clear hstep hz2
      generalize (l.getD i RD.zero).dy.sign = sg0 at *
      generalize l.getD i RD.zero = r at *
      repeat' (first | (simp only [go_sem, seval, IntKind.bits.eq_def, ti, tin, vrows_length, hn, ri]) | (simp (disch := omega) only [wA]) | (with_reducible first | refine cF sn ?_ | refine dF sn ?_) | refine aL ti_ok ?_ | refine dL ti_ok ?_ | refine dG ?_ | ((first | refine cC ?_ ?_ | refine gS ?_ ?_ | refine dS ?_ ?_) <;> intro hc <;> first | (exfalso; simp only [dcA] at hc; omega) | (simp only [hc]; try simp only [dcA] at hc)) | refine aO ?_ | refine dO ?_)
      all_goals exact fin_same trivial rfl
    ·
      have hall2 := hstep hs
      clear hstep hz2
      generalize (l.getD i RD.zero).dy.sign = sg0 at sn hs
      generalize l.getD i RD.zero = r at ri sn
      repeat' (first | (simp only [go_sem, seval, IntKind.bits.eq_def, ti, tin, vrows_length, hn, ri]) | (simp (disch := omega) only [wA]) | (with_reducible first | refine cF sn ?_ | refine dF sn ?_) | refine aL ti_ok ?_ | refine dL ti_ok ?_ | refine dG ?_ | ((first | refine cC ?_ ?_ | refine gS ?_ ?_ | refine dS ?_ ?_) <;> intro hc <;> first | (exfalso; simp only [dcA] at hc; omega) | (simp only [hc]; try simp only [dcA] at hc)) | refine aO ?_ | refine dO ?_)
      refine roundEnd_of (α := Nat) (i + 1) ⟨by omega, hall2⟩ (by omega) ?_
      exact byWeak
  ·
    have hz2 : z = false := hzT (fun i' h => hall i' (by omega))
    subst hz2
    repeat' (first | (simp only [go_sem, seval, IntKind.bits.eq_def, ti, tin]) | (simp (disch := omega) only [wA]) | refine aL ti_ok ?_ | refine dL ti_ok ?_ | refine dG ?_ | ((first | refine cC ?_ ?_ | refine gS ?_ ?_ | refine dS ?_ ?_) <;> intro hc <;> first | (exfalso; simp only [dcA] at hc; omega) | (simp only [hc]; try simp only [dcA] at hc)) | refine aO ?_ | refine dO ?_)
    all_goals exact fin_same trivial rfl
theorem r18_Check (a dv : List (List RD)) (w : List RD) (ha : a.length ≤ 1000) (hd : dv.length ≤ 1000) (hw : w.length ≤ 1000) (kd : ∀ l ∈ dv, l.length ≤ 1000 ∧ ∀ r ∈ l, r.ok) (kw : ∀ r ∈ w, r.ok) : CallOK Tryz.prog gl 11 [.agg [.sl 1 (mrows a), .sl 1 (mrows dv), .sl 3 (vrows w)]] (.v (.int .i64 ((ckT a dv w)))) := by
  refine call_ok (C := ⟨Tryz.prog, gl, ti, 66, false⟩) ti_ok mixed 3000 Tryz.call11 Tryz.func11 rfl Tryz.ntmps11 (by simp) byClL byCl ?_
  rw [Tryz.results11]
  obtain ⟨z, hz⟩ : ∃ z, ckT a dv w = z := ⟨_, rfl⟩
  rw [hz]
  unfold ckT at hz
  have k1 := ref_CheckM a (by omega)
  by_cases h1 : ckM a ≠ 0
  ·
    rw [if_pos h1] at hz
    rw [hz] at k1 h1
    repeat' (first | (simp only [go_sem, seval, IntKind.bits.eq_def, ti, tin]) | (simp (disch := omega) only [wA]) | (with_reducible first | refine cF k1 ?_ | refine dF k1 ?_) | refine aL ti_ok ?_ | refine dL ti_ok ?_ | refine dG ?_ | ((first | refine cC ?_ ?_ | refine gS ?_ ?_ | refine dS ?_ ?_) <;> intro hc <;> first | (exfalso; simp only [dcA] at hc; omega) | (simp only [hc]; try simp only [dcA] at hc)) | refine aO ?_ | refine dO ?_)
    all_goals exact fin_same trivial rfl
  rw [if_neg h1] at hz
  have h1 : ckM a = 0 := by omega
  rw [h1] at k1
  obtain ⟨a1, a2, a3⟩ := ckM_zero h1
  have r0 := mrows_getD (a := a) (i := 0) a1.1
  have v0 := vrows_length (a.getD 0 [])
  clear a3 h1
  by_cases h2 : a.length ≠ (a.getD 0 []).length
  ·
    rw [if_pos h2] at hz
    subst hz
    generalize (a.getD 0 []).length = m at *
    generalize a.getD 0 [] = x at *
    have e2 : ¬ ((m : Nat) : Int) = ((a.length : Nat) : Int) := by omega
    repeat' (first | (simp only [go_sem, seval, IntKind.bits.eq_def, ti, tin, mrows_length, r0, v0, e2]) | (simp (disch := omega) only [wA]) | (with_reducible first | refine cF k1 ?_ | refine dF k1 ?_) | refine aL ti_ok ?_ | refine dL ti_ok ?_ | refine dG ?_ | ((first | refine cC ?_ ?_ | refine gS ?_ ?_ | refine dS ?_ ?_) <;> intro hc <;> first | (exfalso; simp only [dcA] at hc; omega) | (simp only [hc]; try simp only [dcA] at hc)) | refine aO ?_ | refine dO ?_)
    all_goals exact fin_same trivial rfl
  rw [if_neg h2] at hz
  by_cases h3 : 6 < a.length
  ·
    rw [if_pos h3] at hz
    subst hz
    generalize (a.getD 0 []).length = m at *
    generalize a.getD 0 [] = x at *
    have e2 : ((m : Nat) : Int) = ((a.length : Nat) : Int) := by omega
    repeat' (first | (simp only [go_sem, seval, IntKind.bits.eq_def, ti, tin, mrows_length, r0, v0, e2]) | (simp (disch := omega) only [wA]) | (with_reducible first | refine cF k1 ?_ | refine dF k1 ?_) | refine aL ti_ok ?_ | refine dL ti_ok ?_ | refine dG ?_ | ((first | refine cC ?_ ?_ | refine gS ?_ ?_ | refine dS ?_ ?_) <;> intro hc <;> first | (exfalso; simp only [dcA] at hc; omega) | (simp only [hc]; try simp only [dcA] at hc)) | refine aO ?_ | refine dO ?_)
    all_goals exact fin_same trivial rfl
  rw [if_neg h3] at hz
  have k2 := ref_CheckM dv (by omega)
  by_cases h4 : ckM dv ≠ 0
  ·
    rw [if_pos h4] at hz
    rw [hz] at k2 h4
    generalize (a.getD 0 []).length = m at *
    generalize a.getD 0 [] = x at *
    have e2 : ((m : Nat) : Int) = ((a.length : Nat) : Int) := by omega
    repeat' (first | (simp only [go_sem, seval, IntKind.bits.eq_def, ti, tin, mrows_length, r0, v0, e2]) | (simp (disch := omega) only [wA]) | (with_reducible first | refine cF k1 ?_ | refine dF k1 ?_ | refine cF k2 ?_ | refine dF k2 ?_) | refine aL ti_ok ?_ | refine dL ti_ok ?_ | refine dG ?_ | ((first | refine cC ?_ ?_ | refine gS ?_ ?_ | refine dS ?_ ?_) <;> intro hc <;> first | (exfalso; simp only [dcA] at hc; omega) | (simp only [hc]; try simp only [dcA] at hc)) | refine aO ?_ | refine dO ?_)
    all_goals exact fin_same trivial rfl
  rw [if_neg h4] at hz
  have h4 : ckM dv = 0 := by omega
  rw [h4] at k2
  obtain ⟨d1, d2, d3⟩ := ckM_zero h4
  have rd0 := mrows_getD (a := dv) (i := 0) d1.1
  have vd0 := vrows_length (dv.getD 0 [])
  clear d3 h4
  have b0 := r18_below0 w hw kw
  have e0 : ((a.getD 0 []).length : Int) = ((a.length : Nat) : Int) := by omega
  by_cases h5 : dv.length ≠ a.length ∨ (dv.getD 0 []).length ≠ (a.getD 0 []).length ∨ w.length ≠ a.length
  ·
    rw [if_pos h5] at hz
    subst hz
    generalize (dv.getD 0 []).length = md at *
    generalize dv.getD 0 [] = xd at *
    generalize (a.getD 0 []).length = m at *
    generalize a.getD 0 [] = x at *
    by_cases h6 : dv.length = a.length
    · have e1 : ((dv.length : Nat) : Int) = ((a.length : Nat) : Int) := by omega
      by_cases h7 : md = a.length
      · have e3 : ((md : Nat) : Int) = ((a.length : Nat) : Int) := by omega
        have e4 : ¬ ((w.length : Nat) : Int) = ((a.length : Nat) : Int) := by omega
        clear h5 h6
        repeat' (first | (simp only [go_sem, seval, IntKind.bits.eq_def, ti, tin, mrows_length, vrows_length, r0, v0, rd0, vd0, e0, e1, e3, e4]) | (simp (disch := omega) only [wA]) | (with_reducible first | refine cF k1 ?_ | refine dF k1 ?_ | refine cF k2 ?_ | refine dF k2 ?_) | refine aL ti_ok ?_ | refine dL ti_ok ?_ | refine dG ?_ | ((first | refine cC ?_ ?_ | refine gS ?_ ?_ | refine dS ?_ ?_) <;> intro hc <;> first | (exfalso; simp only [dcA] at hc; omega) | (simp only [hc]; try simp only [dcA] at hc)) | refine aO ?_ | refine dO ?_)
        all_goals exact fin_same trivial rfl
      · have e3 : ¬ ((md : Nat) : Int) = ((a.length : Nat) : Int) := by omega
        clear h5 h6
        repeat' (first | (simp only [go_sem, seval, IntKind.bits.eq_def, ti, tin, mrows_length, vrows_length, r0, v0, rd0, vd0, e0, e1, e3]) | (simp (disch := omega) only [wA]) | (with_reducible first | refine cF k1 ?_ | refine dF k1 ?_ | refine cF k2 ?_ | refine dF k2 ?_) | refine aL ti_ok ?_ | refine dL ti_ok ?_ | refine dG ?_ | ((first | refine cC ?_ ?_ | refine gS ?_ ?_ | refine dS ?_ ?_) <;> intro hc <;> first | (exfalso; simp only [dcA] at hc; omega) | (simp only [hc]; try simp only [dcA] at hc)) | refine aO ?_ | refine dO ?_)
        all_goals exact fin_same trivial rfl
    · have e1 : ¬ ((dv.length : Nat) : Int) = ((a.length : Nat) : Int) := by omega
      clear h5 h6
      repeat' (first | (simp only [go_sem, seval, IntKind.bits.eq_def, ti, tin, mrows_length, vrows_length, r0, v0, rd0, vd0, e0, e1]) | (simp (disch := omega) only [wA]) | (with_reducible first | refine cF k1 ?_ | refine dF k1 ?_ | refine cF k2 ?_ | refine dF k2 ?_) | refine aL ti_ok ?_ | refine dL ti_ok ?_ | refine dG ?_ | ((first | refine cC ?_ ?_ | refine gS ?_ ?_ | refine dS ?_ ?_) <;> intro hc <;> first | (exfalso; simp only [dcA] at hc; omega) | (simp only [hc]; try simp only [dcA] at hc)) | refine aO ?_ | refine dO ?_)
      all_goals exact fin_same trivial rfl
  rw [if_neg h5] at hz
  have e1 : ((dv.length : Nat) : Int) = ((a.length : Nat) : Int) := by omega
  have e3 : (((dv.getD 0 []).length : Nat) : Int) = ((a.length : Nat) : Int) := by omega
  have e4 : ((w.length : Nat) : Int) = ((a.length : Nat) : Int) := by omega
  obtain ⟨nd, hnd⟩ : ∃ nd, dv.length = nd := ⟨_, rfl⟩
  have hzF : ¬ nonnegM dv → z = 3 := fun h => by rw [← hz, if_neg (fun k => h k.1)]
  have hzT : nonnegM dv → nonneg w → z = 0 := fun h k => by rw [← hz, if_pos ⟨h, k⟩]
  have hzW : ¬ nonneg w → z = 3 := fun h => by rw [← hz, if_neg (fun k => h k.2)]
  have hrow : ∀ i, i < nd → CallOK Tryz.prog gl 51 [.sl 3 (vrows (dv.getD i []))] (.v (.bool (!decide (nonneg (dv.getD i []))))) := fun i hi => by
    have := kd _ (mem_getD (d := []) (show i < dv.length by omega))
    exact r18_below0 _ this.1 this.2
  clear hz h5 kd kw h2
  generalize (dv.getD 0 []).length = md at *
  generalize dv.getD 0 [] = xd at *
  generalize (a.getD 0 []).length = m at *
  generalize a.getD 0 [] = x at *
  have e5 : ((nd : Nat) : Int) = ((a.length : Nat) : Int) := by omega
  have e6 : (nd : Int) = (dv.length : Int) := by omega
  repeat' (first | (simp only [go_sem, seval, IntKind.bits.eq_def, ti, tin, mrows_length, vrows_length, r0, v0, rd0, vd0, e0, e1, e3, e4]) | (simp (disch := omega) only [wA]) | (with_reducible first | refine cF k1 ?_ | refine dF k1 ?_ | refine cF k2 ?_ | refine dF k2 ?_) | refine aL ti_ok ?_ | refine dL ti_ok ?_ | refine dG ?_ | ((first | refine cC ?_ ?_ | refine gS ?_ ?_ | refine dS ?_ ?_) <;> intro hc <;> first | (exfalso; simp only [dcA] at hc; omega) | (simp only [hc]; try simp only [dcA] at hc)) | refine aO ?_ | refine dO ?_)
  refine l_loop (α := Nat) (fun i => ⟨[(1, .p 0 3 0 0), (54, .sl 1 (mrows (dv))), (55, .v (.int .i64 a.length)), (56, .v (.int .i64 i))], [(0, ⟨3, [[.sl 1 (mrows a), .sl 1 (mrows dv), .sl 3 (vrows w)]]⟩)], 1⟩) (fun i => i ≤ nd ∧ ∀ i', i' < i → nonneg (dv.getD i' [])) (fun i => nd - i) (0) _ byFresh (fun _ h => by first | (cases h; done) | exact Nat.le_of_ble_eq_true rfl) ?_ ?_ ?_
  · exact ⟨Nat.zero_le _, fun i' h => by omega⟩
  · exact byWeak
  rintro i ⟨hi, hall⟩
  by_cases hin : i < nd
  ·
    have ri := mrows_getD (a := dv) (i := i) (by omega)
    have b1 := hrow i hin
    have hz2 : ¬ nonneg (dv.getD i []) → z = 3 := fun h => hzF (fun hh => h (hh i (by omega)))
    have hstep : nonneg (dv.getD i []) → ∀ i', i' < i + 1 → nonneg (dv.getD i' []) := fun h i' hi' => by
      by_cases e : i' = i
      · rw [e]; exact h
      · exact hall i' (by omega)
    clear hall hzT hzF hzW hrow
    by_cases hs : nonneg (dv.getD i [])
    ·
      have hall2 := hstep hs
      rw [decide_eq_true hs] at b1
      clear hstep hz2 hs
      generalize dv.getD i [] = r at ri b1
      repeat' (first | (simp only [go_sem, seval, IntKind.bits.eq_def, ti, tin, mrows_length, hnd, ri]) | (simp (disch := omega) only [wA]) | (with_reducible first | refine cF b1 ?_ | refine dF b1 ?_) | refine aL ti_ok ?_ | refine dL ti_ok ?_ | refine dG ?_ | ((first | refine cC ?_ ?_ | refine gS ?_ ?_ | refine dS ?_ ?_) <;> intro hc <;> first | (exfalso; simp only [dcA] at hc; omega) | (simp only [hc]; try simp only [dcA] at hc)) | refine aO ?_ | refine dO ?_)
      refine roundEnd_of (α := Nat) (i + 1) ⟨by omega, hall2⟩ (by omega) ?_
      exact byWeak
    ·
      have hz3 := hz2 hs
      subst hz3
      rw [decide_eq_false hs] at b1
      clear hstep hz2 hs
      generalize dv.getD i [] = r at ri b1
      repeat' (first | (simp only [go_sem, seval, IntKind.bits.eq_def, ti, tin, mrows_length, hnd, ri]) | (simp (disch := omega) only [wA]) | (with_reducible first | refine cF b1 ?_ | refine dF b1 ?_) | refine aL ti_ok ?_ | refine dL ti_ok ?_ | refine dG ?_ | ((first | refine cC ?_ ?_ | refine gS ?_ ?_ | refine dS ?_ ?_) <;> intro hc <;> first | (exfalso; simp only [dcA] at hc; omega) | (simp only [hc]; try simp only [dcA] at hc)) | refine aO ?_ | refine dO ?_)
      all_goals exact fin_same trivial rfl
  ·
    have hM : nonnegM dv := fun i' h => hall i' (by omega)
    by_cases h8 : nonneg w
    ·
      have hz2 := hzT hM h8
      subst hz2
      rw [decide_eq_true h8] at b0
      clear hall hzT hzF hzW hrow hM h8
      repeat' (first | (simp only [go_sem, seval, IntKind.bits.eq_def, ti, tin]) | (simp (disch := omega) only [wA]) | (with_reducible first | refine cF b0 ?_ | refine dF b0 ?_) | refine aL ti_ok ?_ | refine dL ti_ok ?_ | refine dG ?_ | ((first | refine cC ?_ ?_ | refine gS ?_ ?_ | refine dS ?_ ?_) <;> intro hc <;> first | (exfalso; simp only [dcA] at hc; omega) | (simp only [hc]; try simp only [dcA] at hc)) | refine aO ?_ | refine dO ?_)
      all_goals exact fin_same trivial rfl
    ·
      have hz2 := hzW h8
      subst hz2
      rw [decide_eq_false h8] at b0
      clear hall hzT hzF hzW hrow hM h8
      repeat' (first | (simp only [go_sem, seval, IntKind.bits.eq_def, ti, tin]) | (simp (disch := omega) only [wA]) | (with_reducible first | refine cF b0 ?_ | refine dF b0 ?_) | refine aL ti_ok ?_ | refine dL ti_ok ?_ | refine dG ?_ | ((first | refine cC ?_ ?_ | refine gS ?_ ?_ | refine dS ?_ ?_) <;> intro hc <;> first | (exfalso; simp only [dcA] at hc; omega) | (simp only [hc]; try simp only [dcA] at hc)) | refine aO ?_ | refine dO ?_)
      all_goals exact fin_same trivial rfl
theorem r18_CheckCert (a dv : List (List RD)) (w inner outer : List RD) (K : Int) (ha : a.length ≤ 1000) (hd : dv.length ≤ 1000) (hw : w.length ≤ 1000) (hi : inner.length ≤ 1000) (ho : outer.length ≤ 1000) (kd : ∀ l ∈ dv, l.length ≤ 1000 ∧ ∀ r ∈ l, r.ok) (kw : ∀ r ∈ w, r.ok) (ki : ∀ r ∈ inner, r.ok) (ko : ∀ r ∈ outer, r.ok) : CallOK Tryz.prog gl 23 [.agg [.sl 1 (mrows a), .sl 1 (mrows dv), .sl 3 (vrows w)], .agg [.v (.int .i64 K), .sl 3 (vrows inner), .sl 3 (vrows outer)]] (.v (.int .i64 ((ckC a dv w K inner outer)))) := by
  refine call_ok (C := ⟨Tryz.prog, gl, ti, 43, false⟩) ti_ok mixed 3000 Tryz.call23 Tryz.func23 rfl Tryz.ntmps23 (by simp) byClL byCl ?_
  rw [Tryz.results23]
  obtain ⟨z, hz⟩ : ∃ z, ckC a dv w K inner outer = z := ⟨_, rfl⟩
  rw [hz]
  unfold ckC at hz
  have k1 := r18_Check a dv w ha hd hw kd kw
  by_cases h1 : ckT a dv w ≠ 0
  ·
    rw [if_pos h1] at hz
    rw [hz] at k1 h1
    repeat' (first | (simp only [go_sem, seval, IntKind.bits.eq_def, ti, tin]) | (simp (disch := omega) only [wA]) | (with_reducible first | refine cF k1 ?_ | refine dF k1 ?_) | refine aL ti_ok ?_ | refine dL ti_ok ?_ | refine dG ?_ | ((first | refine cC ?_ ?_ | refine gS ?_ ?_ | refine dS ?_ ?_) <;> intro hc <;> first | (exfalso; simp only [dcA] at hc; omega) | (simp only [hc]; try simp only [dcA] at hc)) | refine aO ?_ | refine dO ?_)
    all_goals exact fin_same trivial rfl
  rw [if_neg h1] at hz
  have h1 : ckT a dv w = 0 := by omega
  rw [h1] at k1
  by_cases h2 : K < 1 ∨ 32 < K
  ·
    rw [if_pos h2] at hz
    subst hz
    by_cases h3 : K < 1
    ·
      repeat' (first | (simp only [go_sem, seval, IntKind.bits.eq_def, ti, tin, mrows_length, vrows_length]) | (simp (disch := omega) only [wA]) | (with_reducible first | refine cF k1 ?_ | refine dF k1 ?_) | refine aL ti_ok ?_ | refine dL ti_ok ?_ | refine dG ?_ | ((first | refine cC ?_ ?_ | refine gS ?_ ?_ | refine dS ?_ ?_) <;> intro hc <;> first | (exfalso; simp only [dcA] at hc; omega) | (simp only [hc]; try simp only [dcA] at hc)) | refine aO ?_ | refine dO ?_)
      all_goals exact fin_same trivial rfl
    ·
      have h4 : 32 < K := by omega
      repeat' (first | (simp only [go_sem, seval, IntKind.bits.eq_def, ti, tin, mrows_length, vrows_length]) | (simp (disch := omega) only [wA]) | (with_reducible first | refine cF k1 ?_ | refine dF k1 ?_) | refine aL ti_ok ?_ | refine dL ti_ok ?_ | refine dG ?_ | ((first | refine cC ?_ ?_ | refine gS ?_ ?_ | refine dS ?_ ?_) <;> intro hc <;> first | (exfalso; simp only [dcA] at hc; omega) | (simp only [hc]; try simp only [dcA] at hc)) | refine aO ?_ | refine dO ?_)
      all_goals exact fin_same trivial rfl
  rw [if_neg h2] at hz
  have h3 : ¬ K < 1 := by omega
  have h4 : ¬ 32 < K := by omega
  clear h2
  by_cases h5 : inner.length ≠ a.length ∨ outer.length ≠ a.length
  ·
    rw [if_pos h5] at hz
    subst hz
    by_cases h6 : inner.length = a.length
    ·
      have e1 : ((inner.length : Nat) : Int) = ((a.length : Nat) : Int) := by omega
      have e2 : ¬ ((outer.length : Nat) : Int) = ((a.length : Nat) : Int) := by omega
      clear h5 h6
      repeat' (first | (simp only [go_sem, seval, IntKind.bits.eq_def, ti, tin, mrows_length, vrows_length, e1, e2]) | (simp (disch := omega) only [wA]) | (with_reducible first | refine cF k1 ?_ | refine dF k1 ?_) | refine aL ti_ok ?_ | refine dL ti_ok ?_ | refine dG ?_ | ((first | refine cC ?_ ?_ | refine gS ?_ ?_ | refine dS ?_ ?_) <;> intro hc <;> first | (exfalso; simp only [dcA] at hc; omega) | (simp only [hc]; try simp only [dcA] at hc)) | refine aO ?_ | refine dO ?_)
      all_goals exact fin_same trivial rfl
    ·
      have e1 : ¬ ((inner.length : Nat) : Int) = ((a.length : Nat) : Int) := by omega
      clear h5 h6
      repeat' (first | (simp only [go_sem, seval, IntKind.bits.eq_def, ti, tin, mrows_length, vrows_length, e1]) | (simp (disch := omega) only [wA]) | (with_reducible first | refine cF k1 ?_ | refine dF k1 ?_) | refine aL ti_ok ?_ | refine dL ti_ok ?_ | refine dG ?_ | ((first | refine cC ?_ ?_ | refine gS ?_ ?_ | refine dS ?_ ?_) <;> intro hc <;> first | (exfalso; simp only [dcA] at hc; omega) | (simp only [hc]; try simp only [dcA] at hc)) | refine aO ?_ | refine dO ?_)
      all_goals exact fin_same trivial rfl
  rw [if_neg h5] at hz
  have e1 : ((inner.length : Nat) : Int) = ((a.length : Nat) : Int) := by omega
  have e2 : ((outer.length : Nat) : Int) = ((a.length : Nat) : Int) := by omega
  have b1 := r18_below0 inner hi ki
  have b2 := r18_below0 outer ho ko
  clear h5
  by_cases h7 : nonneg inner
  ·
    rw [decide_eq_true h7] at b1
    by_cases h8 : nonneg outer
    ·
      rw [decide_eq_true h8] at b2
      rw [if_pos ⟨h7, h8⟩] at hz
      subst hz
      clear h7 h8
      repeat' (first | (simp only [go_sem, seval, IntKind.bits.eq_def, ti, tin, mrows_length, vrows_length, e1, e2]) | (simp (disch := omega) only [wA]) | (with_reducible first | refine cF k1 ?_ | refine dF k1 ?_ | refine cF b1 ?_ | refine dF b1 ?_ | refine cF b2 ?_ | refine dF b2 ?_) | refine aL ti_ok ?_ | refine dL ti_ok ?_ | refine dG ?_ | ((first | refine cC ?_ ?_ | refine gS ?_ ?_ | refine dS ?_ ?_) <;> intro hc <;> first | (exfalso; simp only [dcA] at hc; omega) | (simp only [hc]; try simp only [dcA] at hc)) | refine aO ?_ | refine dO ?_)
      all_goals exact fin_same trivial rfl
    ·
      rw [decide_eq_false h8] at b2
      rw [if_neg (fun h => h8 h.2)] at hz
      subst hz
      clear h7 h8
      repeat' (first | (simp only [go_sem, seval, IntKind.bits.eq_def, ti, tin, mrows_length, vrows_length, e1, e2]) | (simp (disch := omega) only [wA]) | (with_reducible first | refine cF k1 ?_ | refine dF k1 ?_ | refine cF b1 ?_ | refine dF b1 ?_ | refine cF b2 ?_ | refine dF b2 ?_) | refine aL ti_ok ?_ | refine dL ti_ok ?_ | refine dG ?_ | ((first | refine cC ?_ ?_ | refine gS ?_ ?_ | refine dS ?_ ?_) <;> intro hc <;> first | (exfalso; simp only [dcA] at hc; omega) | (simp only [hc]; try simp only [dcA] at hc)) | refine aO ?_ | refine dO ?_)
      all_goals exact fin_same trivial rfl
  ·
    rw [decide_eq_false h7] at b1
    rw [if_neg (fun h => h7 h.1)] at hz
    subst hz
    clear h7
    repeat' (first | (simp only [go_sem, seval, IntKind.bits.eq_def, ti, tin, mrows_length, vrows_length, e1, e2]) | (simp (disch := omega) only [wA]) | (with_reducible first | refine cF k1 ?_ | refine dF k1 ?_ | refine cF b1 ?_ | refine dF b1 ?_ | refine cF b2 ?_ | refine dF b2 ?_) | refine aL ti_ok ?_ | refine dL ti_ok ?_ | refine dG ?_ | ((first | refine cC ?_ ?_ | refine gS ?_ ?_ | refine dS ?_ ?_) <;> intro hc <;> first | (exfalso; simp only [dcA] at hc; omega) | (simp only [hc]; try simp only [dcA] at hc)) | refine aO ?_ | refine dO ?_)
    all_goals exact fin_same trivial rfl
end Go.Proofs.YtpggiabnhodjpaaGreatDoor
