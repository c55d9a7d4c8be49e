/- The reference's matrices (ref04): LeRow, Le, Norm, Text, Identity. -/
import Derived.Test.YtdjgckcninibhaaGreatDoorMatA
set_option linter.unusedSimpArgs false
set_option linter.unusedVariables false
set_option linter.deprecated false
namespace Go.Proofs.YtdjgckcninibhaaGreatDoor
open Go Go.Ax
set_option maxRecDepth 100000
set_option maxHeartbeats 4000000

def leV (x y : List RD) : Bool := decide (∀ j, j < x.length → (x.getD j RD.zero).dy.cmp (y.getD j RD.zero).dy ≤ 0)
theorem ref_LeRow (x y : List RD) (p : Nat) (hx : x.length ≤ 1000) (hxy : x.length = y.length) (ox : okV p x) (oy : okV p y) : CallOK Tryz.prog gl 159 [.sl 3 (vrows (x)), .sl 3 (vrows (y))] (.v (.bool ((leV x y)))) := by
  refine call_ok (C := ⟨Tryz.prog, gl, ti, 22, false⟩) ti_ok mixed 3000 Tryz.call159 Tryz.func159 rfl Tryz.ntmps159 (by simp) byClL byCl ?_
  rw [Tryz.results159]
  obtain ⟨z, hz⟩ : ∃ z, leV x y = z := ⟨_, rfl⟩
  rw [hz]
  obtain ⟨m, hm⟩ : ∃ m, x.length = m := ⟨_, rfl⟩
  have hm' : y.length = m := by omega
  have hzT : (∀ j, j < m → (x.getD j RD.zero).dy.cmp (y.getD j RD.zero).dy ≤ 0) → z = true := fun h => by rw [← hz]; exact decide_eq_true (fun j hj => h j (by omega))
  have hzF : ¬ (∀ j, j < m → (x.getD j RD.zero).dy.cmp (y.getD j RD.zero).dy ≤ 0) → z = false := fun h => by rw [← hz]; exact decide_eq_false (fun hh => h (fun j hj => hh j (by omega)))
  clear hz
  rw [hm] at hx
  repeat' (first | (simp only [go_sem, Int.reduceAdd, Int.reduceEq, Int.reduceLE, Int.reduceLT, Int.reduceMul, Int.reduceNeg, Int.reducePow, Int.reduceSub, Int.reduceToNat, Nat.reduceAdd, Nat.reduceBEq, Nat.reduceEqDiff, Nat.reduceLT, Nat.reduceLeDiff, Nat.reduceMul, Nat.reducePow, Nat.reduceSub, reduceCtorEq, reduceIte, IntKind.bits.eq_def, ti, tin, vrows_length, hm]) | (simp (disch := omega) only [w64, wu64, wu32, Nat.min_eq_left]) | (refine aL ti_ok ?_) | (refine dL ti_ok ?_) | (refine dE (by kernel_rfl) ?_) | ((first | refine cC ?_ ?_ | refine gS ?_ ?_ | refine dS ?_ ?_) <;> intro hc <;> first | (exfalso; simp only [dcT, dcF, bnT, bnF, bnU, bnV] at hc; omega) | (simp only [hc]; try simp only [dcT, dcF, bnT, bnF, bnU, bnV] at hc)) | (refine aN (by omega) ?_) | (refine dN (by omega) ?_))
  refine l_loop (α := Nat) (fun j => ⟨[(0, .sl 3 (vrows (x))), (1, .sl 3 (vrows (y))), (7, .v (.int .i64 m)), (8, .v (.int .i64 j))], [], 0⟩) (fun j => j ≤ m ∧ ∀ j', j' < j → (x.getD j' RD.zero).dy.cmp (y.getD j' RD.zero).dy ≤ 0) (fun j => m - j) (0) _ byFresh (fun _ h => by first | (cases h; done) | exact Nat.le_of_ble_eq_true rfl) ?_ ?_ ?_
  · exact ⟨Nat.zero_le _, fun j' h => by omega⟩
  · exact byWeak
  rintro j ⟨hj, hrow⟩
  by_cases hjm : j < m
  ·
    have rj := vrows_getD (l := x) (i := j) (by omega)
    have rj' := vrows_getD (l := y) (i := j) (by omega)
    have cm := ref_Cmp _ _ _ _ _ _ _ _ (RD.arg (ox j).1) (RD.arg (oy j).1)
    have hz3 : ¬ (x.getD j RD.zero).dy.cmp (y.getD j RD.zero).dy ≤ 0 → z = false := fun h => hzF (fun hh => h (hh j hjm))
    have hstep2 : (x.getD j RD.zero).dy.cmp (y.getD j RD.zero).dy ≤ 0 → ∀ j', j' < j + 1 → (x.getD j' RD.zero).dy.cmp (y.getD j' RD.zero).dy ≤ 0 := fun h j' hj' => by
      by_cases e : j' = j
      · rw [e]; exact h
      · exact hrow j' (by omega)
    clear hrow hzT hzF ox oy
    unfold vrow at rj rj'
    generalize hc : (x.getD j RD.zero).dy.cmp (y.getD j RD.zero).dy = c at *
    clear hc
    generalize x.getD j RD.zero = r at *
    generalize y.getD j RD.zero = r' at *
    by_cases hc0 : c ≤ 0
    ·
      have hrow2 := hstep2 hc0
      clear hstep2 hz3
      repeat' (first | (simp only [go_sem, Int.reduceAdd, Int.reduceEq, Int.reduceLE, Int.reduceLT, Int.reduceMul, Int.reduceNeg, Int.reducePow, Int.reduceSub, Int.reduceToNat, Nat.reduceAdd, Nat.reduceBEq, Nat.reduceEqDiff, Nat.reduceLT, Nat.reduceLeDiff, Nat.reduceMul, Nat.reducePow, Nat.reduceSub, reduceCtorEq, reduceIte, IntKind.bits.eq_def, ti, tin, vrows_length, hm, hm', rj, rj']) | (simp (disch := omega) only [w64, wu64, wu32, Nat.min_eq_left]) | (with_reducible first | refine cF (cm) ?_ | refine dF (cm) ?_) | (refine aL ti_ok ?_) | (refine dL ti_ok ?_) | (refine dE (by kernel_rfl) ?_) | ((first | refine cC ?_ ?_ | refine gS ?_ ?_ | refine dS ?_ ?_) <;> intro hc <;> first | (exfalso; simp only [dcT, dcF, bnT, bnF, bnU, bnV] at hc; omega) | (simp only [hc]; try simp only [dcT, dcF, bnT, bnF, bnU, bnV] at hc)) | (refine aN (by omega) ?_) | (refine dN (by omega) ?_))
      refine roundEnd_of (α := Nat) (j + 1) ⟨by omega, hrow2⟩ (by omega) ?_
      exact byWeak
    ·
      have hz4 := hz3 hc0
      subst hz4
      clear hstep2 hz3
      repeat' (first | (simp only [go_sem, Int.reduceAdd, Int.reduceEq, Int.reduceLE, Int.reduceLT, Int.reduceMul, Int.reduceNeg, Int.reducePow, Int.reduceSub, Int.reduceToNat, Nat.reduceAdd, Nat.reduceBEq, Nat.reduceEqDiff, Nat.reduceLT, Nat.reduceLeDiff, Nat.reduceMul, Nat.reducePow, Nat.reduceSub, reduceCtorEq, reduceIte, IntKind.bits.eq_def, ti, tin, vrows_length, hm, hm', rj, rj']) | (simp (disch := omega) only [w64, wu64, wu32, Nat.min_eq_left]) | (with_reducible first | refine cF (cm) ?_ | refine dF (cm) ?_) | (refine aL ti_ok ?_) | (refine dL ti_ok ?_) | (refine dE (by kernel_rfl) ?_) | ((first | refine cC ?_ ?_ | refine gS ?_ ?_ | refine dS ?_ ?_) <;> intro hc <;> first | (exfalso; simp only [dcT, dcF, bnT, bnF, bnU, bnV] at hc; omega) | (simp only [hc]; try simp only [dcT, dcF, bnT, bnF, bnU, bnV] at hc)) | (refine aN (by omega) ?_) | (refine dN (by omega) ?_))
      all_goals exact fin_same trivial rfl
  ·
    have hz2 : z = true := hzT (fun j' h => hrow j' (by omega))
    subst hz2
    repeat' (first | (simp only [go_sem, Int.reduceAdd, Int.reduceEq, Int.reduceLE, Int.reduceLT, Int.reduceMul, Int.reduceNeg, Int.reducePow, Int.reduceSub, Int.reduceToNat, Nat.reduceAdd, Nat.reduceBEq, Nat.reduceEqDiff, Nat.reduceLT, Nat.reduceLeDiff, Nat.reduceMul, Nat.reducePow, Nat.reduceSub, reduceCtorEq, reduceIte, IntKind.bits.eq_def, ti, tin]) | (simp (disch := omega) only [w64, wu64, wu32, Nat.min_eq_left]) | (refine aL ti_ok ?_) | (refine dL ti_ok ?_) | (refine dE (by kernel_rfl) ?_) | ((first | refine cC ?_ ?_ | refine gS ?_ ?_ | refine dS ?_ ?_) <;> intro hc <;> first | (exfalso; simp only [dcT, dcF, bnT, bnF, bnU, bnV] at hc; omega) | (simp only [hc]; try simp only [dcT, dcF, bnT, bnF, bnU, bnV] at hc)) | (refine aN (by omega) ?_) | (refine dN (by omega) ?_))
    all_goals exact fin_same trivial rfl

theorem refm_Le_err (a b : List (List RD)) (ha : a.length ≤ 1000) (hb : b.length ≤ 1000) (h : ¬ bothE a b (fitAdd a b) = 0) : CallOK Tryz.prog gl 100 [.sl 1 (mrows (a)), .sl 1 (mrows (b))] (.tup [.v (.bool (false)), .v (.int .i64 ((bothE a b (fitAdd a b))))]) := by
  refine call_ok (C := ⟨Tryz.prog, gl, ti, 46, false⟩) ti_ok mixed 3000 Tryz.call100 Tryz.func100 rfl Tryz.ntmps100 (by simp) byClL byCl ?_
  rw [Tryz.results100]
  have c1 := ref_Both a b (by omega) (by omega)
  unfold bothE at h ⊢
  by_cases h1 : ckM a = 0
  · rw [if_pos h1] at h c1 ⊢
    by_cases h2 : ckM b = 0
    · rw [if_pos h2] at h ⊢
      rw [h2] at c1
      have h3 : ¬ fitAdd a b = true := fun hh => h (if_pos hh)
      rw [if_neg h3]
      obtain ⟨a1, a2, a3, a4, a5⟩ := ckM_ok h1
      obtain ⟨b1, b2, b3, b4, b5⟩ := ckM_ok h2
      have h4 : ¬ (a.length = b.length ∧ (a.getD 0 []).length = (b.getD 0 []).length) := fun hh => h3 (decide_eq_true hh)
      have r0 := mrows_getD (a := a) (i := 0) a1
      have l0 : (vrows (a.getD 0 [])).length = (a.getD 0 []).length := vrows_length _
      have r1 := mrows_getD (a := b) (i := 0) b1
      have l1 : (vrows (b.getD 0 [])).length = (b.getD 0 []).length := vrows_length _
      clear h h3 a5 b5
      generalize a.getD 0 [] = x at *
      generalize b.getD 0 [] = y at *
      repeat' (first | (simp only [go_sem, Int.reduceAdd, Int.reduceEq, Int.reduceLE, Int.reduceLT, Int.reduceMul, Int.reduceNeg, Int.reducePow, Int.reduceSub, Int.reduceToNat, Nat.reduceAdd, Nat.reduceBEq, Nat.reduceEqDiff, Nat.reduceLT, Nat.reduceLeDiff, Nat.reduceMul, Nat.reducePow, Nat.reduceSub, reduceCtorEq, reduceIte, IntKind.bits.eq_def, ti, tin, mrows_length, r0, l0, r1, l1]) | (simp (disch := omega) only [w64, wu64, wu32, Nat.min_eq_left]) | (with_reducible first | refine cF (c1) ?_ | refine dF (c1) ?_) | (refine aL ti_ok ?_) | (refine dL ti_ok ?_) | (refine dE (by kernel_rfl) ?_) | ((first | refine cC ?_ ?_ | refine gS ?_ ?_ | refine dS ?_ ?_) <;> intro hc <;> first | (exfalso; simp only [dcT, dcF, bnT, bnF, bnU, bnV] at hc; omega) | (simp only [hc]; try simp only [dcT, dcF, bnT, bnF, bnU, bnV] at hc)) | (refine aN (by omega) ?_) | (refine dN (by omega) ?_))
      all_goals exact fin_same trivial rfl
    · rw [if_neg h2] at h ⊢
      generalize ckM b = e at *
      repeat' (first | (simp only [go_sem, Int.reduceAdd, Int.reduceEq, Int.reduceLE, Int.reduceLT, Int.reduceMul, Int.reduceNeg, Int.reducePow, Int.reduceSub, Int.reduceToNat, Nat.reduceAdd, Nat.reduceBEq, Nat.reduceEqDiff, Nat.reduceLT, Nat.reduceLeDiff, Nat.reduceMul, Nat.reducePow, Nat.reduceSub, reduceCtorEq, reduceIte, IntKind.bits.eq_def, ti, tin]) | (simp (disch := omega) only [w64, wu64, wu32, Nat.min_eq_left]) | (with_reducible first | refine cF (c1) ?_ | refine dF (c1) ?_) | (refine aL ti_ok ?_) | (refine dL ti_ok ?_) | (refine dE (by kernel_rfl) ?_) | ((first | refine cC ?_ ?_ | refine gS ?_ ?_ | refine dS ?_ ?_) <;> intro hc <;> first | (exfalso; simp only [dcT, dcF, bnT, bnF, bnU, bnV] at hc; omega) | (simp only [hc]; try simp only [dcT, dcF, bnT, bnF, bnU, bnV] at hc)) | (refine aN (by omega) ?_) | (refine dN (by omega) ?_))
      all_goals exact fin_same trivial rfl
  · rw [if_neg h1] at h c1 ⊢
    generalize ckM a = e at *
    repeat' (first | (simp only [go_sem, Int.reduceAdd, Int.reduceEq, Int.reduceLE, Int.reduceLT, Int.reduceMul, Int.reduceNeg, Int.reducePow, Int.reduceSub, Int.reduceToNat, Nat.reduceAdd, Nat.reduceBEq, Nat.reduceEqDiff, Nat.reduceLT, Nat.reduceLeDiff, Nat.reduceMul, Nat.reducePow, Nat.reduceSub, reduceCtorEq, reduceIte, IntKind.bits.eq_def, ti, tin]) | (simp (disch := omega) only [w64, wu64, wu32, Nat.min_eq_left]) | (with_reducible first | refine cF (c1) ?_ | refine dF (c1) ?_) | (refine aL ti_ok ?_) | (refine dL ti_ok ?_) | (refine dE (by kernel_rfl) ?_) | ((first | refine cC ?_ ?_ | refine gS ?_ ?_ | refine dS ?_ ?_) <;> intro hc <;> first | (exfalso; simp only [dcT, dcF, bnT, bnF, bnU, bnV] at hc; omega) | (simp only [hc]; try simp only [dcT, dcF, bnT, bnF, bnU, bnV] at hc)) | (refine aN (by omega) ?_) | (refine dN (by omega) ?_))
    all_goals exact fin_same trivial rfl
theorem refm_Le (a b : List (List RD)) (p : Nat) (h : bothE a b (fitAdd a b) = 0) (oa : okM p a) (ob : okM p b) : CallOK Tryz.prog gl 100 [.sl 1 (mrows (a)), .sl 1 (mrows (b))] (.tup [.v (.bool ((leD (dyM a) (dyM b)))), .v (.int .i64 0)]) := by
  refine call_ok (C := ⟨Tryz.prog, gl, ti, 46, false⟩) ti_ok mixed 3000 Tryz.call100 Tryz.func100 rfl Tryz.ntmps100 (by simp) byClL byCl ?_
  rw [Tryz.results100]
  obtain ⟨h1, h2, h3⟩ := bothE_ok h
  obtain ⟨a1, a2, a3, a4, a5⟩ := ckM_ok h1
  obtain ⟨b1, b2, b3, b4, b5⟩ := ckM_ok h2
  obtain ⟨h4, h5⟩ := of_decide_eq_true h3
  have c1 := ref_Both a b (by omega) (by omega)
  rw [if_pos h1, h2] at c1
  rw [leD_spec a5]
  obtain ⟨z, hz⟩ : ∃ z, decide (∀ i, i < a.length → ∀ j, j < (a.getD 0 []).length → ((a.getD i []).getD j RD.zero).dy.cmp ((b.getD i []).getD j RD.zero).dy ≤ 0) = z := ⟨_, rfl⟩
  rw [hz]
  obtain ⟨n, hn⟩ : ∃ n, a.length = n := ⟨_, rfl⟩
  obtain ⟨m, hm⟩ : ∃ m, (a.getD 0 []).length = m := ⟨_, rfl⟩
  have hn' : b.length = n := by omega
  have hm' : (b.getD 0 []).length = m := by omega
  have hzT : (∀ i, i < n → leV (a.getD i []) (b.getD i []) = true) → z = true := fun h => by rw [← hz]; exact decide_eq_true (fun i hi j hj => of_decide_eq_true (h i (by omega)) j (by rw [a5 i hi]; exact hj))
  have hzF : ∀ i, i < n → leV (a.getD i []) (b.getD i []) = false → z = false := fun i hi h => by rw [← hz]; exact decide_eq_false (fun hh => of_decide_eq_false h (fun j hj => hh i (by omega) j (by rw [a5 i (by omega)] at hj; exact hj)))
  clear hz
  rw [hm] at a5 a3 a4
  rw [hm', hn'] at b5
  rw [hn] at a5 a1 a2
  have r0 := mrows_getD (a := a) (i := 0) (by omega)
  have l0 : (vrows (a.getD 0 [])).length = m := by rw [vrows_length, hm]
  have r1 := mrows_getD (a := b) (i := 0) (by omega)
  have l1 : (vrows (b.getD 0 [])).length = m := by rw [vrows_length, hm']
  clear h h3
  repeat' (first | (simp only [go_sem, Int.reduceAdd, Int.reduceEq, Int.reduceLE, Int.reduceLT, Int.reduceMul, Int.reduceNeg, Int.reducePow, Int.reduceSub, Int.reduceToNat, Nat.reduceAdd, Nat.reduceBEq, Nat.reduceEqDiff, Nat.reduceLT, Nat.reduceLeDiff, Nat.reduceMul, Nat.reducePow, Nat.reduceSub, reduceCtorEq, reduceIte, IntKind.bits.eq_def, ti, tin, mrows_length, hn, hn', r0, l0, r1, l1]) | (simp (disch := omega) only [w64, wu64, wu32, Nat.min_eq_left]) | (with_reducible first | refine cF (c1) ?_ | refine dF (c1) ?_) | (refine aL ti_ok ?_) | (refine dL ti_ok ?_) | (refine dE (by kernel_rfl) ?_) | ((first | refine cC ?_ ?_ | refine gS ?_ ?_ | refine dS ?_ ?_) <;> intro hc <;> first | (exfalso; simp only [dcT, dcF, bnT, bnF, bnU, bnV] at hc; omega) | (simp only [hc]; try simp only [dcT, dcF, bnT, bnF, bnU, bnV] at hc)) | (refine aN (by omega) ?_) | (refine dN (by omega) ?_))
  refine l_loop (α := Nat) (fun i => ⟨[(0, .sl 1 (mrows (a))), (1, .sl 1 (mrows (b))), (31, .v (.int .i64 n)), (32, .v (.int .i64 i))], [], 0⟩) (fun i => i ≤ n ∧ ∀ i', i' < i → leV (a.getD i' []) (b.getD i' []) = true) (fun i => n - i) (0) _ byFresh (fun _ h => by first | (cases h; done) | exact Nat.le_of_ble_eq_true rfl) ?_ ?_ ?_
  · exact ⟨Nat.zero_le _, fun i' h => by omega⟩
  · exact byWeak
  rintro i ⟨hi, hall⟩
  by_cases hin : i < n
  ·
    have ri := mrows_getD (a := a) (i := i) (by omega)
    have ri' := mrows_getD (a := b) (i := i) (by omega)
    have lr := ref_LeRow (a.getD i []) (b.getD i []) p (by rw [a5 i hin]; omega) (by rw [a5 i hin, b5 i hin]) (oa i) (ob i)
    have hz2 := hzF i hin
    have hstep : leV (a.getD i []) (b.getD i []) = true → ∀ i', i' < i + 1 → leV (a.getD i' []) (b.getD i' []) = true := fun h i' hi' => by
      by_cases e : i' = i
      · rw [e]; exact h
      · exact hall i' (by omega)
    clear oa ob hzF hzT hall
    cases hv : leV (a.getD i []) (b.getD i []) with
    | true =>
      have hall2 := hstep hv
      rw [hv] at lr
      clear hz2 hstep
      generalize a.getD i [] = x at *
      generalize b.getD i [] = y at *
      repeat' (first | (simp only [go_sem, Int.reduceAdd, Int.reduceEq, Int.reduceLE, Int.reduceLT, Int.reduceMul, Int.reduceNeg, Int.reducePow, Int.reduceSub, Int.reduceToNat, Nat.reduceAdd, Nat.reduceBEq, Nat.reduceEqDiff, Nat.reduceLT, Nat.reduceLeDiff, Nat.reduceMul, Nat.reducePow, Nat.reduceSub, reduceCtorEq, reduceIte, IntKind.bits.eq_def, ti, tin, mrows_length, hn, hn', ri, ri']) | (simp (disch := omega) only [w64, wu64, wu32, Nat.min_eq_left]) | (with_reducible first | refine cF (lr) ?_ | refine dF (lr) ?_) | (refine aL ti_ok ?_) | (refine dL ti_ok ?_) | (refine dE (by kernel_rfl) ?_) | ((first | refine cC ?_ ?_ | refine gS ?_ ?_ | refine dS ?_ ?_) <;> intro hc <;> first | (exfalso; simp only [dcT, dcF, bnT, bnF, bnU, bnV] at hc; omega) | (simp only [hc]; try simp only [dcT, dcF, bnT, bnF, bnU, bnV] at hc)) | (refine aN (by omega) ?_) | (refine dN (by omega) ?_))
      refine roundEnd_of (α := Nat) (i + 1) ⟨by omega, hall2⟩ (by omega) ?_
      exact byWeak
    | false =>
      have hz3 := hz2 hv
      subst hz3
      rw [hv] at lr
      clear hz2 hstep
      generalize a.getD i [] = x at *
      generalize b.getD i [] = y at *
      repeat' (first | (simp only [go_sem, Int.reduceAdd, Int.reduceEq, Int.reduceLE, Int.reduceLT, Int.reduceMul, Int.reduceNeg, Int.reducePow, Int.reduceSub, Int.reduceToNat, Nat.reduceAdd, Nat.reduceBEq, Nat.reduceEqDiff, Nat.reduceLT, Nat.reduceLeDiff, Nat.reduceMul, Nat.reducePow, Nat.reduceSub, reduceCtorEq, reduceIte, IntKind.bits.eq_def, ti, tin, mrows_length, hn, hn', ri, ri']) | (simp (disch := omega) only [w64, wu64, wu32, Nat.min_eq_left]) | (with_reducible first | refine cF (lr) ?_ | refine dF (lr) ?_) | (refine aL ti_ok ?_) | (refine dL ti_ok ?_) | (refine dE (by kernel_rfl) ?_) | ((first | refine cC ?_ ?_ | refine gS ?_ ?_ | refine dS ?_ ?_) <;> intro hc <;> first | (exfalso; simp only [dcT, dcF, bnT, bnF, bnU, bnV] at hc; omega) | (simp only [hc]; try simp only [dcT, dcF, bnT, bnF, bnU, bnV] at hc)) | (refine aN (by omega) ?_) | (refine dN (by omega) ?_))
      all_goals exact fin_same trivial rfl
  ·
    have hz2 : z = true := hzT (fun i' h => hall i' (by omega))
    subst hz2
    repeat' (first | (simp only [go_sem, Int.reduceAdd, Int.reduceEq, Int.reduceLE, Int.reduceLT, Int.reduceMul, Int.reduceNeg, Int.reducePow, Int.reduceSub, Int.reduceToNat, Nat.reduceAdd, Nat.reduceBEq, Nat.reduceEqDiff, Nat.reduceLT, Nat.reduceLeDiff, Nat.reduceMul, Nat.reducePow, Nat.reduceSub, reduceCtorEq, reduceIte, IntKind.bits.eq_def, ti, tin]) | (simp (disch := omega) only [w64, wu64, wu32, Nat.min_eq_left]) | (refine aL ti_ok ?_) | (refine dL ti_ok ?_) | (refine dE (by kernel_rfl) ?_) | ((first | refine cC ?_ ?_ | refine gS ?_ ?_ | refine dS ?_ ?_) <;> intro hc <;> first | (exfalso; simp only [dcT, dcF, bnT, bnF, bnU, bnV] at hc; omega) | (simp only [hc]; try simp only [dcT, dcF, bnT, bnF, bnU, bnV] at hc)) | (refine aN (by omega) ?_) | (refine dN (by omega) ?_))
    all_goals exact fin_same trivial rfl

theorem refm_Norm_err (a : List (List RD)) (ha : a.length ≤ 1000) (h : ¬ ckM a = 0) : CallOK Tryz.prog gl 42 [.sl 1 (mrows (a))] (.tup [.agg [.v (.bool (sg (Dy.zero))), .sl 1 (u32s (ms (Dy.zero))), .v (.int .i64 (dn (Dy.zero)))], .v (.int .i64 ((ckM a)))]) := by
  refine call_ok (C := ⟨Tryz.prog, gl, ti, 39, false⟩) ti_ok mixed 3000 Tryz.call42 Tryz.func42 rfl Tryz.ntmps42 (by simp) byClL byCl ?_
  rw [Tryz.results42]
  have c1 := ref_CheckM a (by omega)
  generalize ckM a = e at *
  repeat' (first | (simp only [go_sem, Int.reduceAdd, Int.reduceEq, Int.reduceLE, Int.reduceLT, Int.reduceMul, Int.reduceNeg, Int.reducePow, Int.reduceSub, Int.reduceToNat, Nat.reduceAdd, Nat.reduceBEq, Nat.reduceEqDiff, Nat.reduceLT, Nat.reduceLeDiff, Nat.reduceMul, Nat.reducePow, Nat.reduceSub, reduceCtorEq, reduceIte, IntKind.bits.eq_def, ti, tin]) | (simp (disch := omega) only [w64, wu64, wu32, Nat.min_eq_left]) | (with_reducible first | refine cF (c1) ?_ | refine dF (c1) ?_) | (refine aL ti_ok ?_) | (refine dL ti_ok ?_) | (refine dE (by kernel_rfl) ?_) | ((first | refine cC ?_ ?_ | refine gS ?_ ?_ | refine dS ?_ ?_) <;> intro hc <;> first | (exfalso; simp only [dcT, dcF, bnT, bnF, bnU, bnV] at hc; omega) | (simp only [hc]; try simp only [dcT, dcF, bnT, bnF, bnU, bnV] at hc)) | (refine aN (by omega) ?_) | (refine dN (by omega) ?_))
  all_goals exact fin_le trivial (Le.tup (.cons Le.dy0 (.cons (.refl _) .nil)))
theorem refm_Norm (a : List (List RD)) (p : Nat) (hp : p ≤ 1000000) (h : ckM a = 0) (oa : okM p a) : CallOK Tryz.prog gl 42 [.sl 1 (mrows (a))] (.tup [.agg [.v (.bool (sg (normD (dyM a)))), .sl 1 (u32s (ms (normD (dyM a)))), .v (.int .i64 (dn (normD (dyM a))))], .v (.int .i64 0)]) := by
  refine call_ok (C := ⟨Tryz.prog, gl, ti, 39, false⟩) ti_ok mixed 3000 Tryz.call42 Tryz.func42 rfl Tryz.ntmps42 (by simp) byClL byCl ?_
  rw [Tryz.results42]
  obtain ⟨a1, a2, a3, a4, a5⟩ := ckM_ok h
  have c1 := ref_CheckM a (by omega)
  rw [h] at c1
  rw [normD_raw a5]
  obtain ⟨n, hn⟩ : ∃ n, a.length = n := ⟨_, rfl⟩
  obtain ⟨m, hm⟩ : ∃ m, (a.getD 0 []).length = m := ⟨_, rfl⟩
  rw [hn] at a1 a2 a5 ⊢
  rw [hm] at a3 a4 a5 ⊢
  have g0 : ∀ i j, j ≤ m → Mg (p + j) (sumD j fun j => ((a.getD i []).getD j RD.zero).dy.abs) := fun i j hj => mg_sumD fun j _ => Mg.abs (oa i j).2
  have gm : ∀ i, Mg (p + m) (maxD i fun i => sumD m fun j => ((a.getD i []).getD j RD.zero).dy.abs) := fun i => mg_maxD fun i _ => g0 i m (Nat.le_refl _)
  repeat' (first | (simp only [go_sem, Int.reduceAdd, Int.reduceEq, Int.reduceLE, Int.reduceLT, Int.reduceMul, Int.reduceNeg, Int.reducePow, Int.reduceSub, Int.reduceToNat, Nat.reduceAdd, Nat.reduceBEq, Nat.reduceEqDiff, Nat.reduceLT, Nat.reduceLeDiff, Nat.reduceMul, Nat.reducePow, Nat.reduceSub, reduceCtorEq, reduceIte, IntKind.bits.eq_def, ti, tin, mrows_length, hn]) | (simp (disch := omega) only [w64, wu64, wu32, Nat.min_eq_left]) | (with_reducible first | refine cF (c1) ?_ | refine dF (c1) ?_) | (refine aL ti_ok ?_) | (refine dL ti_ok ?_) | (refine dE (by kernel_rfl) ?_) | ((first | refine cC ?_ ?_ | refine gS ?_ ?_ | refine dS ?_ ?_) <;> intro hc <;> first | (exfalso; simp only [dcT, dcF, bnT, bnF, bnU, bnV] at hc; omega) | (simp only [hc]; try simp only [dcT, dcF, bnT, bnF, bnU, bnV] at hc)) | (refine aN (by omega) ?_) | (refine dN (by omega) ?_))
  refine l_loop (α := Nat) (fun i => ⟨[(2, .p 0 3 0 0), (5, .p 1 3 0 0), (17, .sl 1 (mrows (a))), (18, .v (.int .i64 n)), (19, .v (.int .i64 i))], [(0, ⟨3, [[.v (.bool (false)), .v (.slice none 0 0), .v (.int .i64 0)]]⟩), (1, ⟨3, [crow (maxD i fun i => sumD m fun j => ((a.getD i []).getD j RD.zero).dy.abs)]⟩)], 2⟩) (fun i => i ≤ n) (fun i => n - i) (0) _ byFresh (fun _ h => by first | (cases h; done) | exact Nat.le_of_ble_eq_true rfl) ?_ ?_ ?_
  · exact Nat.zero_le _
  · exact Weak.trans (Weak.mle 1 ⟨3, [crow Dy.zero]⟩ rfl MLe.dy0) (Nat.le_refl _) byWeak
  rintro i hi
  by_cases hin : i < n
  ·
    have ri := mrows_getD (a := a) (i := i) (by omega)
    have va : (vrows (a.getD i [])).length = m := by rw [vrows_length, a5 i hin]
    have la := a5 i hin
    have okA := oa i
    have gi := g0 i
    have gmi := gm i
    have es : (maxD (i + 1) fun i => sumD m fun j => ((a.getD i []).getD j RD.zero).dy.abs) = (maxD i fun i => sumD m fun j => ((a.getD i []).getD j RD.zero).dy.abs).max (sumD m fun j => ((a.getD i []).getD j RD.zero).dy.abs) := rfl
    generalize hM : (maxD i fun i => sumD m fun j => ((a.getD i []).getD j RD.zero).dy.abs) = MX at *
    generalize hx : a.getD i [] = x at *
    clear oa g0 gm a5 hM
    repeat' (first | (simp only [go_sem, Int.reduceAdd, Int.reduceEq, Int.reduceLE, Int.reduceLT, Int.reduceMul, Int.reduceNeg, Int.reducePow, Int.reduceSub, Int.reduceToNat, Nat.reduceAdd, Nat.reduceBEq, Nat.reduceEqDiff, Nat.reduceLT, Nat.reduceLeDiff, Nat.reduceMul, Nat.reducePow, Nat.reduceSub, reduceCtorEq, reduceIte, IntKind.bits.eq_def, ti, tin, mrows_length, hn, ri, va]) | (simp (disch := omega) only [w64, wu64, wu32, Nat.min_eq_left]) | (refine aL ti_ok ?_) | (refine dL ti_ok ?_) | (refine dE (by kernel_rfl) ?_) | ((first | refine cC ?_ ?_ | refine gS ?_ ?_ | refine dS ?_ ?_) <;> intro hc <;> first | (exfalso; simp only [dcT, dcF, bnT, bnF, bnU, bnV] at hc; omega) | (simp only [hc]; try simp only [dcT, dcF, bnT, bnF, bnU, bnV] at hc)) | (refine aN (by omega) ?_) | (refine dN (by omega) ?_))
    refine l_loop (α := Nat) (fun j => ⟨[(2, .p 0 3 0 0), (5, .p 1 3 0 0), (8, .p 2 3 0 0), (17, .sl 1 (mrows (a))), (18, .v (.int .i64 n)), (19, .v (.int .i64 i)), (23, .sl 3 (vrows (x))), (24, .v (.int .i64 m)), (25, .v (.int .i64 j))], [(0, ⟨3, [[.v (.bool (false)), .v (.slice none 0 0), .v (.int .i64 0)]]⟩), (1, ⟨3, [crow MX]⟩), (2, ⟨3, [crow (sumD j fun j => (x.getD j RD.zero).dy.abs)]⟩)], 3⟩) (fun j => j ≤ m) (fun j => m - j) (0) _ byFresh (fun _ h => by first | (cases h; done) | exact Nat.le_of_ble_eq_true rfl) ?_ ?_ ?_
    · exact Nat.zero_le _
    · exact Weak.trans (Weak.mle 2 ⟨3, [crow Dy.zero]⟩ rfl MLe.dy0) (Nat.le_refl _) byWeak
    rintro j hj
    by_cases hjm : j < m
    ·
      have rj := vrows_getD (l := x) (i := j) (by omega)
      have hxj := okA j
      have g1 := gi j hj
      have g2 : Mg p (x.getD j RD.zero).dy.abs := Mg.abs hxj.2
      have m1 := ref_Abs _ _ _ _ (RD.arg hxj.1)
      have s1 := ref_Add _ _ _ _ _ _ _ _ g1.arg g2.arg
      have ej : (sumD (j + 1) fun j => (x.getD j RD.zero).dy.abs) = (sumD j fun j => (x.getD j RD.zero).dy.abs).add (x.getD j RD.zero).dy.abs := rfl
      unfold vrow at rj
      clear g1 g2 hxj gi okA
      generalize (sumD j fun j => (x.getD j RD.zero).dy.abs) = S1 at *
      generalize (x.getD j RD.zero).dy.abs = S2 at *
      generalize x.getD j RD.zero = r at *
      repeat' (first | (simp only [go_sem, Int.reduceAdd, Int.reduceEq, Int.reduceLE, Int.reduceLT, Int.reduceMul, Int.reduceNeg, Int.reducePow, Int.reduceSub, Int.reduceToNat, Nat.reduceAdd, Nat.reduceBEq, Nat.reduceEqDiff, Nat.reduceLT, Nat.reduceLeDiff, Nat.reduceMul, Nat.reducePow, Nat.reduceSub, reduceCtorEq, reduceIte, IntKind.bits.eq_def, ti, tin, mrows_length, va, rj]) | (simp (disch := omega) only [w64, wu64, wu32, Nat.min_eq_left]) | (with_reducible first | refine cF (m1) ?_ | refine dF (m1) ?_) | (with_reducible first | refine cF (s1) ?_ | refine dF (s1) ?_) | (refine aL ti_ok ?_) | (refine dL ti_ok ?_) | (refine dE (by kernel_rfl) ?_) | ((first | refine cC ?_ ?_ | refine gS ?_ ?_ | refine dS ?_ ?_) <;> intro hc <;> first | (exfalso; simp only [dcT, dcF, bnT, bnF, bnU, bnV] at hc; omega) | (simp only [hc]; try simp only [dcT, dcF, bnT, bnF, bnU, bnV] at hc)) | (refine aN (by omega) ?_) | (refine dN (by omega) ?_))
      refine roundEnd_of (α := Nat) (j + 1) (show j + 1 ≤ m by omega) (by omega) ?_
      simp only [ej]
      exact byWeak
    ·
      have hjm2 : j = m := by omega
      subst hjm2
      have g3 := gi j (Nat.le_refl _)
      have mx := ref_Max _ _ _ _ _ _ _ _ gmi.arg g3.arg
      clear gi g3 gmi okA
      generalize (sumD j fun j => (x.getD j RD.zero).dy.abs) = S1 at *
      repeat' (first | (simp only [go_sem, Int.reduceAdd, Int.reduceEq, Int.reduceLE, Int.reduceLT, Int.reduceMul, Int.reduceNeg, Int.reducePow, Int.reduceSub, Int.reduceToNat, Nat.reduceAdd, Nat.reduceBEq, Nat.reduceEqDiff, Nat.reduceLT, Nat.reduceLeDiff, Nat.reduceMul, Nat.reducePow, Nat.reduceSub, reduceCtorEq, reduceIte, IntKind.bits.eq_def, ti, tin]) | (simp (disch := omega) only [w64, wu64, wu32, Nat.min_eq_left]) | (with_reducible first | refine cF (mx) ?_ | refine dF (mx) ?_) | (refine aL ti_ok ?_) | (refine dL ti_ok ?_) | (refine dE (by kernel_rfl) ?_) | ((first | refine cC ?_ ?_ | refine gS ?_ ?_ | refine dS ?_ ?_) <;> intro hc <;> first | (exfalso; simp only [dcT, dcF, bnT, bnF, bnU, bnV] at hc; omega) | (simp only [hc]; try simp only [dcT, dcF, bnT, bnF, bnU, bnV] at hc)) | (refine aN (by omega) ?_) | (refine dN (by omega) ?_))
      refine roundEnd_of (α := Nat) (i + 1) (show i + 1 ≤ n by omega) (by omega) ?_
      simp only [es]
      exact byWeak
  ·
    have hin2 : i = n := by omega
    subst hin2
    repeat' (first | (simp only [go_sem, Int.reduceAdd, Int.reduceEq, Int.reduceLE, Int.reduceLT, Int.reduceMul, Int.reduceNeg, Int.reducePow, Int.reduceSub, Int.reduceToNat, Nat.reduceAdd, Nat.reduceBEq, Nat.reduceEqDiff, Nat.reduceLT, Nat.reduceLeDiff, Nat.reduceMul, Nat.reducePow, Nat.reduceSub, reduceCtorEq, reduceIte, IntKind.bits.eq_def, ti, tin]) | (simp (disch := omega) only [w64, wu64, wu32, Nat.min_eq_left]) | (refine aL ti_ok ?_) | (refine dL ti_ok ?_) | (refine dE (by kernel_rfl) ?_) | ((first | refine cC ?_ ?_ | refine gS ?_ ?_ | refine dS ?_ ?_) <;> intro hc <;> first | (exfalso; simp only [dcT, dcF, bnT, bnF, bnU, bnV] at hc; omega) | (simp only [hc]; try simp only [dcT, dcF, bnT, bnF, bnU, bnV] at hc)) | (refine aN (by omega) ?_) | (refine dN (by omega) ?_))
    all_goals exact fin_same trivial rfl

/-! ### texts -/
theorem join_snoc (sep : List UInt8) (f : Nat → List UInt8) : ∀ k, Lib.join (tabS (k + 1) f) sep = Lib.join (tabS k f) sep ++ (if 0 < k then sep else []) ++ f k
  | 0 => by simp [tabS, Lib.join_nil, Lib.join_one]
  | k + 1 => by
    have h : ∀ j, tabS (j + 1) f = f 0 :: tabS j (fun i => f (i + 1)) := fun j => by simp [tabS, List.range_succ_eq_map, Function.comp_def]
    rw [if_pos (by omega), h (k + 1), h k, Lib.join_cons, Lib.join_cons, tabS_succ]
    simp [Lib.joinTail]
theorem refm_Text_err (a : List (List RD)) (ha : a.length ≤ 1000) (h : ¬ ckM a = 0) : CallOK Tryz.prog gl 101 [.sl 1 (mrows (a))] (.tup [.v (.string ByteArray.empty), .v (.int .i64 ((ckM a)))]) := by
  refine call_ok (C := ⟨Tryz.prog, gl, ti, 44, false⟩) ti_ok mixed 3000 Tryz.call101 Tryz.func101 rfl Tryz.ntmps101 (by simp) byClL byCl ?_
  rw [Tryz.results101]
  have c1 := ref_CheckM a (by omega)
  generalize ckM a = e at *
  repeat' (first | (simp only [go_sem, Int.reduceAdd, Int.reduceEq, Int.reduceLE, Int.reduceLT, Int.reduceMul, Int.reduceNeg, Int.reducePow, Int.reduceSub, Int.reduceToNat, Nat.reduceAdd, Nat.reduceBEq, Nat.reduceEqDiff, Nat.reduceLT, Nat.reduceLeDiff, Nat.reduceMul, Nat.reducePow, Nat.reduceSub, reduceCtorEq, reduceIte, IntKind.bits.eq_def, ti, tin]) | (simp (disch := omega) only [w64, wu64, wu32, Nat.min_eq_left]) | (with_reducible first | refine cF (c1) ?_ | refine dF (c1) ?_) | (refine aL ti_ok ?_) | (refine dL ti_ok ?_) | (refine dE (by kernel_rfl) ?_) | ((first | refine cC ?_ ?_ | refine gS ?_ ?_ | refine dS ?_ ?_) <;> intro hc <;> first | (exfalso; simp only [dcT, dcF, bnT, bnF, bnU, bnV] at hc; omega) | (simp only [hc]; try simp only [dcT, dcF, bnT, bnF, bnU, bnV] at hc)) | (refine aN (by omega) ?_) | (refine dN (by omega) ?_))
  all_goals exact fin_same trivial rfl
theorem bs_app (l m : List UInt8) : (⟨l.toArray⟩ : ByteArray) ++ ⟨m.toArray⟩ = ⟨(l ++ m).toArray⟩ := bytes_append l m
theorem sp_app (l : List UInt8) : (⟨l.toArray⟩ : ByteArray) ++ ⟨#[32]⟩ = ⟨(l ++ [32]).toArray⟩ := bytes_append l [32]
theorem semi_app (l : List UInt8) : (⟨l.toArray⟩ : ByteArray) ++ ⟨#[59, 32]⟩ = ⟨(l ++ [59, 32]).toArray⟩ := bytes_append l [59, 32]
theorem refm_Text (a : List (List RD)) (p : Nat) (hp : p ≤ 1000000) (h : ckM a = 0) (oa : okM p a) : CallOK Tryz.prog gl 101 [.sl 1 (mrows (a))] (.tup [.v (.string ⟨(matText (dyM a)).toArray⟩), .v (.int .i64 0)]) := by
  refine call_ok (C := ⟨Tryz.prog, gl, ti, 44, false⟩) ti_ok mixed 3000 Tryz.call101 Tryz.func101 rfl Tryz.ntmps101 (by simp) byClL byCl ?_
  rw [Tryz.results101]
  obtain ⟨a1, a2, a3, a4, a5⟩ := ckM_ok h
  have c1 := ref_CheckM a (by omega)
  rw [h] at c1
  rw [matText_raw a5]
  obtain ⟨n, hn⟩ : ∃ n, a.length = n := ⟨_, rfl⟩
  obtain ⟨m, hm⟩ : ∃ m, (a.getD 0 []).length = m := ⟨_, rfl⟩
  rw [hn] at a1 a2 a5 ⊢
  rw [hm] at a3 a4 a5 ⊢
  have t0 : ∀ i j, (cellT a i j).length ≤ p + 65570 := fun i j => dyText_mg (oa i j).2
  have t1 : ∀ i j, j ≤ 8 → (Lib.join (tabS j (cellT a i)) [32]).length ≤ 8 * (p + 65571) := fun i j hj => by
    have := join_len (B := p + 65570) [32] (tabS j (cellT a i)) (fun x hx => by
      simp only [tabS, List.mem_map] at hx
      obtain ⟨j, _, rfl⟩ := hx
      exact t0 i j)
    rw [tabS_len] at this
    exact Nat.le_trans this (Nat.mul_le_mul hj (Nat.le_refl _))
  have t2 : ∀ i, i ≤ 8 → (Lib.join (tabS i (rowTxt a m)) [59, 32]).length ≤ 8 * (8 * (p + 65571) + 2) := fun i hi => by
    have := join_len (B := 8 * (p + 65571)) [59, 32] (tabS i (rowTxt a m)) (fun x hx => by
      simp only [tabS, List.mem_map] at hx
      obtain ⟨j, _, rfl⟩ := hx
      exact t1 j m a4)
    rw [tabS_len] at this
    exact Nat.le_trans this (Nat.mul_le_mul hi (by simp))
  have t0' : ∀ i j, (cellT a i j).length ≤ 1065570 := fun i j => Nat.le_trans (t0 i j) (by omega)
  have t1' : ∀ i j, j ≤ 8 → (Lib.join (tabS j (cellT a i)) [32]).length ≤ 8524568 := fun i j hj => Nat.le_trans (t1 i j hj) (by omega)
  have t2' : ∀ i, i ≤ 8 → (Lib.join (tabS i (rowTxt a m)) [59, 32]).length ≤ 68196560 := fun i hi => Nat.le_trans (t2 i hi) (by omega)
  clear t0 t1 t2
  repeat' (first | (simp only [go_sem, Int.reduceAdd, Int.reduceEq, Int.reduceLE, Int.reduceLT, Int.reduceMul, Int.reduceNeg, Int.reducePow, Int.reduceSub, Int.reduceToNat, Nat.reduceAdd, Nat.reduceBEq, Nat.reduceEqDiff, Nat.reduceLT, Nat.reduceLeDiff, Nat.reduceMul, Nat.reducePow, Nat.reduceSub, reduceCtorEq, reduceIte, IntKind.bits.eq_def, ti, tin, mrows_length, hn]) | (simp (disch := omega) only [w64, wu64, wu32, Nat.min_eq_left]) | (with_reducible first | refine cF (c1) ?_ | refine dF (c1) ?_) | (refine aL ti_ok ?_) | (refine dL ti_ok ?_) | (refine dE (by kernel_rfl) ?_) | ((first | refine cC ?_ ?_ | refine gS ?_ ?_ | refine dS ?_ ?_) <;> intro hc <;> first | (exfalso; simp only [dcT, dcF, bnT, bnF, bnU, bnV] at hc; omega) | (simp only [hc]; try simp only [dcT, dcF, bnT, bnF, bnU, bnV] at hc)) | (refine aN (by omega) ?_) | (refine dN (by omega) ?_))
  refine l_loop (α := Nat) (fun i => ⟨[(5, .v (.string ⟨(Lib.join (tabS i (rowTxt a m)) [59, 32]).toArray⟩)), (15, .sl 1 (mrows (a))), (16, .v (.int .i64 n)), (17, .v (.int .i64 i))], [], 0⟩) (fun i => i ≤ n) (fun i => n - i) (0) _ byFresh (fun _ h => by first | (cases h; done) | exact Nat.le_of_ble_eq_true rfl) ?_ ?_ ?_
  · exact Nat.zero_le _
  · exact byWeak
  rintro i hi
  by_cases hin : i < n
  ·
    have ri := mrows_getD (a := a) (i := i) (by omega)
    have va : (vrows (a.getD i [])).length = m := by rw [vrows_length, a5 i hin]
    have la := a5 i hin
    have okA := oa i
    have hx0 : ∀ j, cellT a i j = dyText ((a.getD i []).getD j RD.zero).dy := fun j => rfl
    have ei := join_snoc [59, 32] (rowTxt a m) i
    have lj := t1' i
    have li := t2' i (by omega)
    have l0 := t0' i
    have er : rowTxt a m i = Lib.join (tabS m (cellT a i)) [32] := rfl
    obtain ⟨pre, hpre⟩ : ∃ pre, Lib.join (tabS i (rowTxt a m)) [59, 32] ++ (if 0 < i then [59, 32] else []) = pre := ⟨_, rfl⟩
    have lsep : (if 0 < i then [59, 32] else ([] : List UInt8)).length ≤ 2 := by
      split
      · exact Nat.le_refl _
      · exact Nat.zero_le _
    have lpre : pre.length ≤ 68196562 := by rw [← hpre, List.length_append]; omega
    clear t0' t1' t2'
    rw [hpre, er] at ei
    generalize hx : a.getD i [] = x at *
    by_cases hi0 : i = 0
    ·
      have hp0 : Lib.join (tabS i (rowTxt a m)) [59, 32] = pre := by rw [← hpre, if_neg (by omega), List.append_nil]
      rw [hp0]
      repeat' (first | (simp only [go_sem, Int.reduceAdd, Int.reduceEq, Int.reduceLE, Int.reduceLT, Int.reduceMul, Int.reduceNeg, Int.reducePow, Int.reduceSub, Int.reduceToNat, Nat.reduceAdd, Nat.reduceBEq, Nat.reduceEqDiff, Nat.reduceLT, Nat.reduceLeDiff, Nat.reduceMul, Nat.reducePow, Nat.reduceSub, reduceCtorEq, reduceIte, IntKind.bits.eq_def, ti, tin, mrows_length, hn, ri, va]) | (simp (disch := omega) only [w64, wu64, wu32, Nat.min_eq_left]) | (refine aL ti_ok ?_) | (refine dL ti_ok ?_) | (refine dE (by kernel_rfl) ?_) | ((first | refine cC ?_ ?_ | refine gS ?_ ?_ | refine dS ?_ ?_) <;> intro hc <;> first | (exfalso; simp only [dcT, dcF, bnT, bnF, bnU, bnV] at hc; omega) | (simp only [hc]; try simp only [dcT, dcF, bnT, bnF, bnU, bnV] at hc)) | (refine aN (by omega) ?_) | (refine dN (by omega) ?_))
      refine l_loop (α := Nat) (fun j => ⟨[(5, .v (.string ⟨(pre ++ Lib.join (tabS j (cellT a i)) [32]).toArray⟩)), (15, .sl 1 (mrows (a))), (16, .v (.int .i64 n)), (17, .v (.int .i64 i)), (26, .sl 3 (vrows (x))), (27, .v (.int .i64 m)), (28, .v (.int .i64 j))], [], 0⟩) (fun j => j ≤ m) (fun j => m - j) (0) _ byFresh (fun _ h => by first | (cases h; done) | exact Nat.le_of_ble_eq_true rfl) ?_ ?_ ?_
      · exact Nat.zero_le _
      · rw [show pre ++ Lib.join (tabS 0 (cellT a i)) [32] = pre from List.append_nil _]
        exact byWeak
      rintro j hj
      by_cases hjm : j < m
      ·
        have rj := vrows_getD (l := x) (i := j) (by omega)
        have tx := ref_Text _ _ _ _ (RD.arg (okA j).1)
        rw [← hx0 j] at tx
        have e7 := join_snoc [32] (cellT a i) j
        have lT := l0 j
        have lJ := lj j (by omega)
        unfold vrow at rj
        generalize cellT a i j = T1 at *
        generalize x.getD j RD.zero = r at *
        generalize hJ : Lib.join (tabS j (cellT a i)) [32] = J at *
        clear okA hx0 l0 lj
        by_cases hj0 : j = 0
        ·
          subst hj0
          rw [if_neg (Nat.lt_irrefl _)] at e7
          repeat' (first | (simp only [go_sem, Int.reduceAdd, Int.reduceEq, Int.reduceLE, Int.reduceLT, Int.reduceMul, Int.reduceNeg, Int.reducePow, Int.reduceSub, Int.reduceToNat, Nat.reduceAdd, Nat.reduceBEq, Nat.reduceEqDiff, Nat.reduceLT, Nat.reduceLeDiff, Nat.reduceMul, Nat.reducePow, Nat.reduceSub, reduceCtorEq, reduceIte, IntKind.bits.eq_def, ti, tin, mrows_length, va, rj, bs_app, sp_app, size_mk, List.length_append]) | (simp (disch := omega) only [w64, wu64, wu32, Nat.min_eq_left]) | (with_reducible first | refine cF (tx) ?_ | refine dF (tx) ?_) | (refine aL ti_ok ?_) | (refine dL ti_ok ?_) | (refine dE (by kernel_rfl) ?_) | ((first | refine cC ?_ ?_ | refine gS ?_ ?_ | refine dS ?_ ?_) <;> intro hc <;> first | (exfalso; simp only [dcT, dcF, bnT, bnF, bnU, bnV] at hc; omega) | (simp only [hc]; try simp only [dcT, dcF, bnT, bnF, bnU, bnV] at hc)) | (refine aN (by omega) ?_) | (refine dN (by omega) ?_))
          refine roundEnd_of (α := Nat) (0 + 1) (show 0 + 1 ≤ m by omega) (by omega) ?_
          rw [e7, List.append_nil, ← List.append_assoc]
          exact byWeak
        ·
          rw [if_pos (show 0 < j by omega)] at e7
          have hj1 : 0 < j := by omega
          repeat' (first | (simp only [go_sem, Int.reduceAdd, Int.reduceEq, Int.reduceLE, Int.reduceLT, Int.reduceMul, Int.reduceNeg, Int.reducePow, Int.reduceSub, Int.reduceToNat, Nat.reduceAdd, Nat.reduceBEq, Nat.reduceEqDiff, Nat.reduceLT, Nat.reduceLeDiff, Nat.reduceMul, Nat.reducePow, Nat.reduceSub, reduceCtorEq, reduceIte, IntKind.bits.eq_def, ti, tin, mrows_length, va, rj, bs_app, sp_app, size_mk, List.length_append, List.length_cons, List.length_nil]) | (simp (disch := omega) only [w64, wu64, wu32, Nat.min_eq_left]) | (with_reducible first | refine cF (tx) ?_ | refine dF (tx) ?_) | (refine aL ti_ok ?_) | (refine dL ti_ok ?_) | (refine dE (by kernel_rfl) ?_) | ((first | refine cC ?_ ?_ | refine gS ?_ ?_ | refine dS ?_ ?_) <;> intro hc <;> first | (exfalso; simp only [dcT, dcF, bnT, bnF, bnU, bnV] at hc; omega) | (simp only [hc]; try simp only [dcT, dcF, bnT, bnF, bnU, bnV] at hc)) | (refine aN (by omega) ?_) | (refine dN (by omega) ?_))
          refine roundEnd_of (α := Nat) (j + 1) (show j + 1 ≤ m by omega) (by omega) ?_
          rw [e7, ← List.append_assoc, ← List.append_assoc]
          exact byWeak
      ·
        have hjm2 : j = m := by omega
        subst hjm2
        repeat' (first | (simp only [go_sem, Int.reduceAdd, Int.reduceEq, Int.reduceLE, Int.reduceLT, Int.reduceMul, Int.reduceNeg, Int.reducePow, Int.reduceSub, Int.reduceToNat, Nat.reduceAdd, Nat.reduceBEq, Nat.reduceEqDiff, Nat.reduceLT, Nat.reduceLeDiff, Nat.reduceMul, Nat.reducePow, Nat.reduceSub, reduceCtorEq, reduceIte, IntKind.bits.eq_def, ti, tin]) | (simp (disch := omega) only [w64, wu64, wu32, Nat.min_eq_left]) | (refine aL ti_ok ?_) | (refine dL ti_ok ?_) | (refine dE (by kernel_rfl) ?_) | ((first | refine cC ?_ ?_ | refine gS ?_ ?_ | refine dS ?_ ?_) <;> intro hc <;> first | (exfalso; simp only [dcT, dcF, bnT, bnF, bnU, bnV] at hc; omega) | (simp only [hc]; try simp only [dcT, dcF, bnT, bnF, bnU, bnV] at hc)) | (refine aN (by omega) ?_) | (refine dN (by omega) ?_))
        refine roundEnd_of (α := Nat) (i + 1) (show i + 1 ≤ n by omega) (by omega) ?_
        rw [ei]
        exact byWeak
    ·
      have hi1 : 0 < i := by omega
      have hp1 : Lib.join (tabS i (rowTxt a m)) [59, 32] ++ [59, 32] = pre := by rw [← hpre, if_pos hi1]
      generalize Lib.join (tabS i (rowTxt a m)) [59, 32] = Q0 at *
      repeat' (first | (simp only [go_sem, Int.reduceAdd, Int.reduceEq, Int.reduceLE, Int.reduceLT, Int.reduceMul, Int.reduceNeg, Int.reducePow, Int.reduceSub, Int.reduceToNat, Nat.reduceAdd, Nat.reduceBEq, Nat.reduceEqDiff, Nat.reduceLT, Nat.reduceLeDiff, Nat.reduceMul, Nat.reducePow, Nat.reduceSub, reduceCtorEq, reduceIte, IntKind.bits.eq_def, ti, tin, mrows_length, hn, ri, va, semi_app, size_mk, List.length_append, List.length_cons, List.length_nil, hp1]) | (simp (disch := omega) only [w64, wu64, wu32, Nat.min_eq_left]) | (refine aL ti_ok ?_) | (refine dL ti_ok ?_) | (refine dE (by kernel_rfl) ?_) | ((first | refine cC ?_ ?_ | refine gS ?_ ?_ | refine dS ?_ ?_) <;> intro hc <;> first | (exfalso; simp only [dcT, dcF, bnT, bnF, bnU, bnV] at hc; omega) | (simp only [hc]; try simp only [dcT, dcF, bnT, bnF, bnU, bnV] at hc)) | (refine aN (by omega) ?_) | (refine dN (by omega) ?_))
      refine l_loop (α := Nat) (fun j => ⟨[(5, .v (.string ⟨(pre ++ Lib.join (tabS j (cellT a i)) [32]).toArray⟩)), (15, .sl 1 (mrows (a))), (16, .v (.int .i64 n)), (17, .v (.int .i64 i)), (26, .sl 3 (vrows (x))), (27, .v (.int .i64 m)), (28, .v (.int .i64 j))], [], 0⟩) (fun j => j ≤ m) (fun j => m - j) (0) _ byFresh (fun _ h => by first | (cases h; done) | exact Nat.le_of_ble_eq_true rfl) ?_ ?_ ?_
      · exact Nat.zero_le _
      · rw [show pre ++ Lib.join (tabS 0 (cellT a i)) [32] = pre from List.append_nil _]
        exact byWeak
      rintro j hj
      by_cases hjm : j < m
      ·
        have rj := vrows_getD (l := x) (i := j) (by omega)
        have tx := ref_Text _ _ _ _ (RD.arg (okA j).1)
        rw [← hx0 j] at tx
        have e7 := join_snoc [32] (cellT a i) j
        have lT := l0 j
        have lJ := lj j (by omega)
        unfold vrow at rj
        generalize cellT a i j = T1 at *
        generalize x.getD j RD.zero = r at *
        generalize hJ : Lib.join (tabS j (cellT a i)) [32] = J at *
        clear okA hx0 l0 lj
        by_cases hj0 : j = 0
        ·
          subst hj0
          rw [if_neg (Nat.lt_irrefl _)] at e7
          repeat' (first | (simp only [go_sem, Int.reduceAdd, Int.reduceEq, Int.reduceLE, Int.reduceLT, Int.reduceMul, Int.reduceNeg, Int.reducePow, Int.reduceSub, Int.reduceToNat, Nat.reduceAdd, Nat.reduceBEq, Nat.reduceEqDiff, Nat.reduceLT, Nat.reduceLeDiff, Nat.reduceMul, Nat.reducePow, Nat.reduceSub, reduceCtorEq, reduceIte, IntKind.bits.eq_def, ti, tin, mrows_length, va, rj, bs_app, sp_app, size_mk, List.length_append]) | (simp (disch := omega) only [w64, wu64, wu32, Nat.min_eq_left]) | (with_reducible first | refine cF (tx) ?_ | refine dF (tx) ?_) | (refine aL ti_ok ?_) | (refine dL ti_ok ?_) | (refine dE (by kernel_rfl) ?_) | ((first | refine cC ?_ ?_ | refine gS ?_ ?_ | refine dS ?_ ?_) <;> intro hc <;> first | (exfalso; simp only [dcT, dcF, bnT, bnF, bnU, bnV] at hc; omega) | (simp only [hc]; try simp only [dcT, dcF, bnT, bnF, bnU, bnV] at hc)) | (refine aN (by omega) ?_) | (refine dN (by omega) ?_))
          refine roundEnd_of (α := Nat) (0 + 1) (show 0 + 1 ≤ m by omega) (by omega) ?_
          rw [e7, List.append_nil, ← List.append_assoc]
          exact byWeak
        ·
          rw [if_pos (show 0 < j by omega)] at e7
          have hj1 : 0 < j := by omega
          repeat' (first | (simp only [go_sem, Int.reduceAdd, Int.reduceEq, Int.reduceLE, Int.reduceLT, Int.reduceMul, Int.reduceNeg, Int.reducePow, Int.reduceSub, Int.reduceToNat, Nat.reduceAdd, Nat.reduceBEq, Nat.reduceEqDiff, Nat.reduceLT, Nat.reduceLeDiff, Nat.reduceMul, Nat.reducePow, Nat.reduceSub, reduceCtorEq, reduceIte, IntKind.bits.eq_def, ti, tin, mrows_length, va, rj, bs_app, sp_app, size_mk, List.length_append, List.length_cons, List.length_nil]) | (simp (disch := omega) only [w64, wu64, wu32, Nat.min_eq_left]) | (with_reducible first | refine cF (tx) ?_ | refine dF (tx) ?_) | (refine aL ti_ok ?_) | (refine dL ti_ok ?_) | (refine dE (by kernel_rfl) ?_) | ((first | refine cC ?_ ?_ | refine gS ?_ ?_ | refine dS ?_ ?_) <;> intro hc <;> first | (exfalso; simp only [dcT, dcF, bnT, bnF, bnU, bnV] at hc; omega) | (simp only [hc]; try simp only [dcT, dcF, bnT, bnF, bnU, bnV] at hc)) | (refine aN (by omega) ?_) | (refine dN (by omega) ?_))
          refine roundEnd_of (α := Nat) (j + 1) (show j + 1 ≤ m by omega) (by omega) ?_
          rw [e7, ← List.append_assoc, ← List.append_assoc]
          exact byWeak
      ·
        have hjm2 : j = m := by omega
        subst hjm2
        repeat' (first | (simp only [go_sem, Int.reduceAdd, Int.reduceEq, Int.reduceLE, Int.reduceLT, Int.reduceMul, Int.reduceNeg, Int.reducePow, Int.reduceSub, Int.reduceToNat, Nat.reduceAdd, Nat.reduceBEq, Nat.reduceEqDiff, Nat.reduceLT, Nat.reduceLeDiff, Nat.reduceMul, Nat.reducePow, Nat.reduceSub, reduceCtorEq, reduceIte, IntKind.bits.eq_def, ti, tin]) | (simp (disch := omega) only [w64, wu64, wu32, Nat.min_eq_left]) | (refine aL ti_ok ?_) | (refine dL ti_ok ?_) | (refine dE (by kernel_rfl) ?_) | ((first | refine cC ?_ ?_ | refine gS ?_ ?_ | refine dS ?_ ?_) <;> intro hc <;> first | (exfalso; simp only [dcT, dcF, bnT, bnF, bnU, bnV] at hc; omega) | (simp only [hc]; try simp only [dcT, dcF, bnT, bnF, bnU, bnV] at hc)) | (refine aN (by omega) ?_) | (refine dN (by omega) ?_))
        refine roundEnd_of (α := Nat) (i + 1) (show i + 1 ≤ n by omega) (by omega) ?_
        rw [ei]
        exact byWeak
  ·
    have hin2 : i = n := by omega
    subst hin2
    repeat' (first | (simp only [go_sem, Int.reduceAdd, Int.reduceEq, Int.reduceLE, Int.reduceLT, Int.reduceMul, Int.reduceNeg, Int.reducePow, Int.reduceSub, Int.reduceToNat, Nat.reduceAdd, Nat.reduceBEq, Nat.reduceEqDiff, Nat.reduceLT, Nat.reduceLeDiff, Nat.reduceMul, Nat.reducePow, Nat.reduceSub, reduceCtorEq, reduceIte, IntKind.bits.eq_def, ti, tin]) | (simp (disch := omega) only [w64, wu64, wu32, Nat.min_eq_left]) | (refine aL ti_ok ?_) | (refine dL ti_ok ?_) | (refine dE (by kernel_rfl) ?_) | ((first | refine cC ?_ ?_ | refine gS ?_ ?_ | refine dS ?_ ?_) <;> intro hc <;> first | (exfalso; simp only [dcT, dcF, bnT, bnF, bnU, bnV] at hc; omega) | (simp only [hc]; try simp only [dcT, dcF, bnT, bnF, bnU, bnV] at hc)) | (refine aN (by omega) ?_) | (refine dN (by omega) ?_))
    all_goals exact fin_same trivial rfl
end Go.Proofs.YtdjgckcninibhaaGreatDoor
