/- The statements on layer 4: short matrices; errors. -/
import Derived.Test.YtdjgckcninibhaaGreatDoorMat1
import Derived.Test.YtdjgckcninibhaaGreatDoorU4
set_option linter.unusedSimpArgs false
set_option linter.unusedVariables false
set_option linter.deprecated false
namespace Go.Proofs.YtdjgckcninibhaaGreatDoor
open Go Go.Ax
set_option maxRecDepth 100000
set_option maxHeartbeats 4000000

theorem ref_CheckM (a : List (List RD)) (hl : a.length ≤ 4611686018427387904) : CallOK Tryz.prog gl 84 [.sl 1 (mrows (a))] (.v (.int .i64 ((ckM a)))) := by
  refine call_ok (C := ⟨Tryz.prog, gl, ti, 39, false⟩) ti_ok mixed 3000 Tryz.call84 Tryz.func84 rfl Tryz.ntmps84 (by simp) byClL byCl ?_
  rw [Tryz.results84]
  obtain ⟨z, hz⟩ : ∃ z, ckM a = z := ⟨_, rfl⟩
  rw [hz]
  unfold ckM at hz
  by_cases h0 : a.length = 0
  · rw [if_pos h0] at hz
    subst hz
    repeat' (first | (simp only [go_sem, Int.reduceAdd, Int.reduceEq, Int.reduceLE, Int.reduceLT, Int.reduceMul, Int.reduceNeg, Int.reducePow, Int.reduceSub, Int.reduceToNat, Nat.reduceAdd, Nat.reduceBEq, Nat.reduceEqDiff, Nat.reduceLT, Nat.reduceLeDiff, Nat.reduceMul, Nat.reducePow, Nat.reduceSub, reduceCtorEq, reduceIte, IntKind.bits.eq_def, ti, tin, mrows_length, h0]) | (simp (disch := omega) only [w64, wu64, wu32, Nat.min_eq_left]) | (refine aL ti_ok ?_) | (refine dL ti_ok ?_) | (refine dE (by kernel_rfl) ?_) | ((first | refine cC ?_ ?_ | refine gS ?_ ?_ | refine dS ?_ ?_) <;> intro hc <;> first | (exfalso; simp only [dcT, dcF, bnT, bnF, bnU, bnV] at hc; omega) | (simp only [hc]; try simp only [dcT, dcF, bnT, bnF, bnU, bnV] at hc)) | (refine aN (by omega) ?_) | (refine dN (by omega) ?_))
    all_goals exact fin_same trivial rfl
  rw [if_neg h0] at hz
  have r0 := mrows_getD (a := a) (i := 0) (by omega)
  obtain ⟨m, hm⟩ : ∃ m, (a.getD 0 []).length = m := ⟨_, rfl⟩
  have vm : (vrows (a.getD 0 [])).length = m := by rw [vrows_length, hm]
  rw [hm] at hz
  generalize hx : a.getD 0 [] = x at *
  obtain ⟨n, hn⟩ : ∃ n, a.length = n := ⟨_, rfl⟩
  rw [hn] at hz h0 hl
  by_cases h1 : m = 0
  · rw [if_pos h1] at hz
    subst hz
    repeat' (first | (simp only [go_sem, Int.reduceAdd, Int.reduceEq, Int.reduceLE, Int.reduceLT, Int.reduceMul, Int.reduceNeg, Int.reducePow, Int.reduceSub, Int.reduceToNat, Nat.reduceAdd, Nat.reduceBEq, Nat.reduceEqDiff, Nat.reduceLT, Nat.reduceLeDiff, Nat.reduceMul, Nat.reducePow, Nat.reduceSub, reduceCtorEq, reduceIte, IntKind.bits.eq_def, ti, tin, mrows_length, hn, r0, vm, h1]) | (simp (disch := omega) only [w64, wu64, wu32, Nat.min_eq_left]) | (refine aL ti_ok ?_) | (refine dL ti_ok ?_) | (refine dE (by kernel_rfl) ?_) | ((first | refine cC ?_ ?_ | refine gS ?_ ?_ | refine dS ?_ ?_) <;> intro hc <;> first | (exfalso; simp only [dcT, dcF, bnT, bnF, bnU, bnV] at hc; omega) | (simp only [hc]; try simp only [dcT, dcF, bnT, bnF, bnU, bnV] at hc)) | (refine aN (by omega) ?_) | (refine dN (by omega) ?_))
    all_goals exact fin_same trivial rfl
  rw [if_neg h1] at hz
  by_cases h2 : 8 < n
  · rw [if_pos h2] at hz
    subst hz
    repeat' (first | (simp only [go_sem, Int.reduceAdd, Int.reduceEq, Int.reduceLE, Int.reduceLT, Int.reduceMul, Int.reduceNeg, Int.reducePow, Int.reduceSub, Int.reduceToNat, Nat.reduceAdd, Nat.reduceBEq, Nat.reduceEqDiff, Nat.reduceLT, Nat.reduceLeDiff, Nat.reduceMul, Nat.reducePow, Nat.reduceSub, reduceCtorEq, reduceIte, IntKind.bits.eq_def, ti, tin, mrows_length, hn, r0, vm]) | (simp (disch := omega) only [w64, wu64, wu32, Nat.min_eq_left]) | (refine aL ti_ok ?_) | (refine dL ti_ok ?_) | (refine dE (by kernel_rfl) ?_) | ((first | refine cC ?_ ?_ | refine gS ?_ ?_ | refine dS ?_ ?_) <;> intro hc <;> first | (exfalso; simp only [dcT, dcF, bnT, bnF, bnU, bnV] at hc; omega) | (simp only [hc]; try simp only [dcT, dcF, bnT, bnF, bnU, bnV] at hc)) | (refine aN (by omega) ?_) | (refine dN (by omega) ?_))
    all_goals exact fin_same trivial rfl
  rw [if_neg h2] at hz
  by_cases h3 : 8 < m
  · rw [if_pos h3] at hz
    subst hz
    repeat' (first | (simp only [go_sem, Int.reduceAdd, Int.reduceEq, Int.reduceLE, Int.reduceLT, Int.reduceMul, Int.reduceNeg, Int.reducePow, Int.reduceSub, Int.reduceToNat, Nat.reduceAdd, Nat.reduceBEq, Nat.reduceEqDiff, Nat.reduceLT, Nat.reduceLeDiff, Nat.reduceMul, Nat.reducePow, Nat.reduceSub, reduceCtorEq, reduceIte, IntKind.bits.eq_def, ti, tin, mrows_length, hn, r0, vm]) | (simp (disch := omega) only [w64, wu64, wu32, Nat.min_eq_left]) | (refine aL ti_ok ?_) | (refine dL ti_ok ?_) | (refine dE (by kernel_rfl) ?_) | ((first | refine cC ?_ ?_ | refine gS ?_ ?_ | refine dS ?_ ?_) <;> intro hc <;> first | (exfalso; simp only [dcT, dcF, bnT, bnF, bnU, bnV] at hc; omega) | (simp only [hc]; try simp only [dcT, dcF, bnT, bnF, bnU, bnV] at hc)) | (refine aN (by omega) ?_) | (refine dN (by omega) ?_))
    all_goals exact fin_same trivial rfl
  rw [if_neg h3] at hz
  repeat' (first | (simp only [go_sem, Int.reduceAdd, Int.reduceEq, Int.reduceLE, Int.reduceLT, Int.reduceMul, Int.reduceNeg, Int.reducePow, Int.reduceSub, Int.reduceToNat, Nat.reduceAdd, Nat.reduceBEq, Nat.reduceEqDiff, Nat.reduceLT, Nat.reduceLeDiff, Nat.reduceMul, Nat.reducePow, Nat.reduceSub, reduceCtorEq, reduceIte, IntKind.bits.eq_def, ti, tin, mrows_length, hn, r0, vm]) | (simp (disch := omega) only [w64, wu64, wu32, Nat.min_eq_left]) | (refine aL ti_ok ?_) | (refine dL ti_ok ?_) | (refine dE (by kernel_rfl) ?_) | ((first | refine cC ?_ ?_ | refine gS ?_ ?_ | refine dS ?_ ?_) <;> intro hc <;> first | (exfalso; simp only [dcT, dcF, bnT, bnF, bnU, bnV] at hc; omega) | (simp only [hc]; try simp only [dcT, dcF, bnT, bnF, bnU, bnV] at hc)) | (refine aN (by omega) ?_) | (refine dN (by omega) ?_))
  refine l_loop (α := Nat) (fun k => ⟨[(0, .sl 1 (mrows (a))), (25, .sl 1 (mrows (a))), (26, .v (.int .i64 n)), (27, .v (.int .i64 k))], [], 0⟩) (fun k => k ≤ n ∧ ∀ i, i < k → (a.getD i []).length = m) (fun k => n - k) (0) _ byFresh (fun _ h => by first | (cases h; done) | exact Nat.le_of_ble_eq_true rfl) ?_ ?_ ?_
  · exact ⟨Nat.zero_le _, fun i hi => by omega⟩
  · exact byWeak
  rintro k ⟨hk, hi⟩
  by_cases hkn : k < n
  ·
    have rk := mrows_getD (a := a) (i := k) (by omega)
    obtain ⟨y, hy⟩ : ∃ y, a.getD k [] = y := ⟨_, rfl⟩
    rw [hy] at rk
    by_cases hyl : y.length = m
    ·
      have vy : (vrows y).length = m := by rw [vrows_length, hyl]
      repeat' (first | (simp only [go_sem, Int.reduceAdd, Int.reduceEq, Int.reduceLE, Int.reduceLT, Int.reduceMul, Int.reduceNeg, Int.reducePow, Int.reduceSub, Int.reduceToNat, Nat.reduceAdd, Nat.reduceBEq, Nat.reduceEqDiff, Nat.reduceLT, Nat.reduceLeDiff, Nat.reduceMul, Nat.reducePow, Nat.reduceSub, reduceCtorEq, reduceIte, IntKind.bits.eq_def, ti, tin, mrows_length, hn, r0, rk, vm, vy]) | (simp (disch := omega) only [w64, wu64, wu32, Nat.min_eq_left]) | (refine aL ti_ok ?_) | (refine dL ti_ok ?_) | (refine dE (by kernel_rfl) ?_) | ((first | refine cC ?_ ?_ | refine gS ?_ ?_ | refine dS ?_ ?_) <;> intro hc <;> first | (exfalso; simp only [dcT, dcF, bnT, bnF, bnU, bnV] at hc; omega) | (simp only [hc]; try simp only [dcT, dcF, bnT, bnF, bnU, bnV] at hc)) | (refine aN (by omega) ?_) | (refine dN (by omega) ?_))
      refine roundEnd_of (α := Nat) (k + 1) ⟨by omega, fun i h => ?_⟩ (by omega) ?_
      · by_cases h4 : i = k
        · rw [h4, hy, hyl]
        · exact hi i (by omega)
      · exact byWeak
    ·
      rw [if_neg (fun h => hyl (by rw [← hy]; exact h k hkn))] at hz
      subst hz
      have vy : ¬ ((vrows y).length : Int) = (m : Int) := by rw [vrows_length]; omega
      repeat' (first | (simp only [go_sem, Int.reduceAdd, Int.reduceEq, Int.reduceLE, Int.reduceLT, Int.reduceMul, Int.reduceNeg, Int.reducePow, Int.reduceSub, Int.reduceToNat, Nat.reduceAdd, Nat.reduceBEq, Nat.reduceEqDiff, Nat.reduceLT, Nat.reduceLeDiff, Nat.reduceMul, Nat.reducePow, Nat.reduceSub, reduceCtorEq, reduceIte, IntKind.bits.eq_def, ti, tin, mrows_length, hn, r0, rk, vm, vy]) | (simp (disch := omega) only [w64, wu64, wu32, Nat.min_eq_left]) | (refine aL ti_ok ?_) | (refine dL ti_ok ?_) | (refine dE (by kernel_rfl) ?_) | ((first | refine cC ?_ ?_ | refine gS ?_ ?_ | refine dS ?_ ?_) <;> intro hc <;> first | (exfalso; simp only [dcT, dcF, bnT, bnF, bnU, bnV] at hc; omega) | (simp only [hc]; try simp only [dcT, dcF, bnT, bnF, bnU, bnV] at hc)) | (refine aN (by omega) ?_) | (refine dN (by omega) ?_))
      all_goals exact fin_same trivial rfl
  ·
    rw [if_pos (fun i h => hi i (by omega))] at hz
    subst hz
    repeat' (first | (simp only [go_sem, Int.reduceAdd, Int.reduceEq, Int.reduceLE, Int.reduceLT, Int.reduceMul, Int.reduceNeg, Int.reducePow, Int.reduceSub, Int.reduceToNat, Nat.reduceAdd, Nat.reduceBEq, Nat.reduceEqDiff, Nat.reduceLT, Nat.reduceLeDiff, Nat.reduceMul, Nat.reducePow, Nat.reduceSub, reduceCtorEq, reduceIte, IntKind.bits.eq_def, ti, tin, mrows_length, hn, r0, vm]) | (simp (disch := omega) only [w64, wu64, wu32, Nat.min_eq_left]) | (refine aL ti_ok ?_) | (refine dL ti_ok ?_) | (refine dE (by kernel_rfl) ?_) | ((first | refine cC ?_ ?_ | refine gS ?_ ?_ | refine dS ?_ ?_) <;> intro hc <;> first | (exfalso; simp only [dcT, dcF, bnT, bnF, bnU, bnV] at hc; omega) | (simp only [hc]; try simp only [dcT, dcF, bnT, bnF, bnU, bnV] at hc)) | (refine aN (by omega) ?_) | (refine dN (by omega) ?_))
    exact fin_same trivial rfl
theorem ref_Both (a b : List (List RD)) (ha : a.length ≤ 4611686018427387904) (hb : b.length ≤ 4611686018427387904) : CallOK Tryz.prog gl 91 [.sl 1 (mrows (a)), .sl 1 (mrows (b))] (.v (.int .i64 ((if ckM a = 0 then ckM b else ckM a)))) := by
  refine call_ok (C := ⟨Tryz.prog, gl, ti, 13, false⟩) ti_ok mixed 3000 Tryz.call91 Tryz.func91 rfl Tryz.ntmps91 (by simp) byClL byCl ?_
  rw [Tryz.results91]
  have c1 := ref_CheckM a ha
  have c2 := ref_CheckM b hb
  generalize ckM b = e2 at *
  by_cases h : ckM a = 0
  · rw [if_pos h]
    rw [h] at c1
    repeat' (first | (simp only [go_sem, Int.reduceAdd, Int.reduceEq, Int.reduceLE, Int.reduceLT, Int.reduceMul, Int.reduceNeg, Int.reducePow, Int.reduceSub, Int.reduceToNat, Nat.reduceAdd, Nat.reduceBEq, Nat.reduceEqDiff, Nat.reduceLT, Nat.reduceLeDiff, Nat.reduceMul, Nat.reducePow, Nat.reduceSub, reduceCtorEq, reduceIte, IntKind.bits.eq_def, ti, tin]) | (simp (disch := omega) only [w64, wu64, wu32, Nat.min_eq_left]) | (with_reducible first | refine cF (c1) ?_ | refine dF (c1) ?_) | (with_reducible first | refine cF (c2) ?_ | refine dF (c2) ?_) | (refine aL ti_ok ?_) | (refine dL ti_ok ?_) | (refine dE (by kernel_rfl) ?_) | ((first | refine cC ?_ ?_ | refine gS ?_ ?_ | refine dS ?_ ?_) <;> intro hc <;> first | (exfalso; simp only [dcT, dcF, bnT, bnF, bnU, bnV] at hc; omega) | (simp only [hc]; try simp only [dcT, dcF, bnT, bnF, bnU, bnV] at hc)) | (refine aN (by omega) ?_) | (refine dN (by omega) ?_))
    all_goals exact fin_same trivial rfl
  · rw [if_neg h]
    generalize ckM a = e1 at *
    repeat' (first | (simp only [go_sem, Int.reduceAdd, Int.reduceEq, Int.reduceLE, Int.reduceLT, Int.reduceMul, Int.reduceNeg, Int.reducePow, Int.reduceSub, Int.reduceToNat, Nat.reduceAdd, Nat.reduceBEq, Nat.reduceEqDiff, Nat.reduceLT, Nat.reduceLeDiff, Nat.reduceMul, Nat.reducePow, Nat.reduceSub, reduceCtorEq, reduceIte, IntKind.bits.eq_def, ti, tin]) | (simp (disch := omega) only [w64, wu64, wu32, Nat.min_eq_left]) | (with_reducible first | refine cF (c1) ?_ | refine dF (c1) ?_) | (with_reducible first | refine cF (c2) ?_ | refine dF (c2) ?_) | (refine aL ti_ok ?_) | (refine dL ti_ok ?_) | (refine dE (by kernel_rfl) ?_) | ((first | refine cC ?_ ?_ | refine gS ?_ ?_ | refine dS ?_ ?_) <;> intro hc <;> first | (exfalso; simp only [dcT, dcF, bnT, bnF, bnU, bnV] at hc; omega) | (simp only [hc]; try simp only [dcT, dcF, bnT, bnF, bnU, bnV] at hc)) | (refine aN (by omega) ?_) | (refine dN (by omega) ?_))
    all_goals exact fin_same trivial rfl

/-! ### short numbers -/
def fewX (x : RD) : Prop := x.ws.length ≤ 3 ∧ (x.d ≤ 60 ∨ 65536 < x.d)
instance (x : RD) : Decidable (fewX x) := inferInstanceAs (Decidable (_ ∧ _))
def shortX (x : RD) : Prop := x.ws.length ≤ 1 ∧ (x.d ≤ 8 ∨ 65536 < x.d)
instance (x : RD) : Decidable (shortX x) := inferInstanceAs (Decidable (_ ∧ _))
def rowF (r : List RD) : Prop := r.length ≤ 10 ∧ ∀ j, j < r.length → fewX (r.getD j RD.zero)
instance (r : List RD) : Decidable (rowF r) := inferInstanceAs (Decidable (_ ∧ _))
def shortM (a : List (List RD)) : Prop := ∀ i, i < a.length → ∀ j, j < (a.getD i []).length → shortX ((a.getD i []).getD j RD.zero)
instance (a : List (List RD)) : Decidable (shortM a) := inferInstanceAs (Decidable (∀ i, i < a.length → ∀ j, j < (a.getD i []).length → shortX ((a.getD i []).getD j RD.zero)))
def fewM (a : List (List RD)) : Prop := (a.length ≤ 10 ∧ ∀ i, i < a.length → rowF (a.getD i [])) ∧ (¬ ckM a = 0 ∨ (a.length ≤ 4 ∧ (a.getD 0 []).length ≤ 4) ∨ shortM a)
instance (a : List (List RD)) : Decidable (fewM a) := inferInstanceAs (Decidable (_ ∧ _))
theorem law04_short (a : List (List RD)) (hl : a.length ≤ 1000) (hr : ∀ i, (a.getD i []).length ≤ 1000) (hw : ∀ i j, ((a.getD i []).getD j RD.zero).ws.length ≤ 1000) : CallOK Tryz.prog gl 178 [.sl 1 (mrows (a))] (.v (.bool ((decide (shortM a))))) := by
  refine call_ok (C := ⟨Tryz.prog, gl, ti, 35, false⟩) ti_ok mixed 3000 Tryz.call178 Tryz.func178 rfl Tryz.ntmps178 (by simp) byClL byCl ?_
  rw [Tryz.results178]
  obtain ⟨z, hz⟩ : ∃ z, decide (shortM a) = z := ⟨_, rfl⟩
  rw [hz]
  obtain ⟨n, hn⟩ : ∃ n, a.length = n := ⟨_, rfl⟩
  have hzT : (∀ i, i < n → ∀ j, j < (a.getD i []).length → shortX ((a.getD i []).getD j RD.zero)) → z = true := fun h => by rw [← hz]; exact decide_eq_true (fun i hi => h i (by omega))
  have hzF : ¬ (∀ i, i < n → ∀ j, j < (a.getD i []).length → shortX ((a.getD i []).getD j RD.zero)) → z = false := fun h => by rw [← hz]; exact decide_eq_false (fun hh => h (fun i hi => hh i (by omega)))
  clear hz
  rw [hn] at hl
  repeat' (first | (simp only [go_sem, Int.reduceAdd, Int.reduceEq, Int.reduceLE, Int.reduceLT, Int.reduceMul, Int.reduceNeg, Int.reducePow, Int.reduceSub, Int.reduceToNat, Nat.reduceAdd, Nat.reduceBEq, Nat.reduceEqDiff, Nat.reduceLT, Nat.reduceLeDiff, Nat.reduceMul, Nat.reducePow, Nat.reduceSub, reduceCtorEq, reduceIte, IntKind.bits.eq_def, ti, tin, mrows_length, hn]) | (simp (disch := omega) only [w64, wu64, wu32, Nat.min_eq_left]) | (refine aL ti_ok ?_) | (refine dL ti_ok ?_) | (refine dE (by kernel_rfl) ?_) | ((first | refine cC ?_ ?_ | refine gS ?_ ?_ | refine dS ?_ ?_) <;> intro hc <;> first | (exfalso; simp only [dcT, dcF, bnT, bnF, bnU, bnV] at hc; omega) | (simp only [hc]; try simp only [dcT, dcF, bnT, bnF, bnU, bnV] at hc)) | (refine aN (by omega) ?_) | (refine dN (by omega) ?_))
  refine l_loop (α := Nat) (fun i => ⟨[(7, .sl 1 (mrows (a))), (8, .v (.int .i64 n)), (9, .v (.int .i64 i))], [], 0⟩) (fun i => i ≤ n ∧ ∀ i', i' < i → ∀ j, j < (a.getD i' []).length → shortX ((a.getD i' []).getD j RD.zero)) (fun i => n - i) (0) _ byFresh (fun _ h => by first | (cases h; done) | exact Nat.le_of_ble_eq_true rfl) ?_ ?_ ?_
  · exact ⟨Nat.zero_le _, fun i' h => by omega⟩
  · exact byWeak
  rintro i ⟨hi, hall⟩
  by_cases hin : i < n
  ·
    have ri := mrows_getD (a := a) (i := i) (by omega)
    have hri := hr i
    have hwi := hw i
    have hz2 : ∀ j, j < (a.getD i []).length → ¬ shortX ((a.getD i []).getD j RD.zero) → z = false := fun j hj h => hzF (fun hh => h (hh i hin j hj))
    have hstep : (∀ j, j < (a.getD i []).length → shortX ((a.getD i []).getD j RD.zero)) → ∀ i', i' < i + 1 → ∀ j, j < (a.getD i' []).length → shortX ((a.getD i' []).getD j RD.zero) := fun h i' hi' => by
      by_cases e : i' = i
      · rw [e]; exact h
      · exact hall i' (by omega)
    generalize hx : a.getD i [] = x at *
    obtain ⟨m, hm⟩ : ∃ m, x.length = m := ⟨_, rfl⟩
    have va : (vrows x).length = m := by rw [vrows_length, hm]
    rw [hm] at hz2 hstep hri
    repeat' (first | (simp only [go_sem, Int.reduceAdd, Int.reduceEq, Int.reduceLE, Int.reduceLT, Int.reduceMul, Int.reduceNeg, Int.reducePow, Int.reduceSub, Int.reduceToNat, Nat.reduceAdd, Nat.reduceBEq, Nat.reduceEqDiff, Nat.reduceLT, Nat.reduceLeDiff, Nat.reduceMul, Nat.reducePow, Nat.reduceSub, reduceCtorEq, reduceIte, IntKind.bits.eq_def, ti, tin, mrows_length, hn, ri, va]) | (simp (disch := omega) only [w64, wu64, wu32, Nat.min_eq_left]) | (refine aL ti_ok ?_) | (refine dL ti_ok ?_) | (refine dE (by kernel_rfl) ?_) | ((first | refine cC ?_ ?_ | refine gS ?_ ?_ | refine dS ?_ ?_) <;> intro hc <;> first | (exfalso; simp only [dcT, dcF, bnT, bnF, bnU, bnV] at hc; omega) | (simp only [hc]; try simp only [dcT, dcF, bnT, bnF, bnU, bnV] at hc)) | (refine aN (by omega) ?_) | (refine dN (by omega) ?_))
    refine l_loop (α := Nat) (fun j => ⟨[(7, .sl 1 (mrows (a))), (8, .v (.int .i64 n)), (9, .v (.int .i64 i)), (13, .sl 3 (vrows (x))), (14, .v (.int .i64 m)), (15, .v (.int .i64 j))], [], 0⟩) (fun j => j ≤ m ∧ ∀ j', j' < j → shortX (x.getD j' RD.zero)) (fun j => m - j) (0) _ byFresh (fun _ h => by first | (cases h; done) | exact Nat.le_of_ble_eq_true rfl) ?_ ?_ ?_
    · exact ⟨Nat.zero_le _, fun i' h => by omega⟩
    · exact byWeak
    rintro j ⟨hj, hrow⟩
    by_cases hjm : j < m
    ·
      have rj := vrows_getD (l := x) (i := j) (by omega)
      have hwj := hwi j
      have hz3 := hz2 j hjm
      have hstep2 : shortX (x.getD j RD.zero) → ∀ j', j' < j + 1 → shortX (x.getD j' RD.zero) := fun h j' hj' => by
        by_cases e : j' = j
        · rw [e]; exact h
        · exact hrow j' (by omega)
      clear hrow hstep hz2 hzT hzF hall hwi
      generalize x.getD j RD.zero = r at *
      obtain ⟨s, ws, d⟩ := r
      rw [vrow_mk] at rj
      unfold shortX at hz3 hstep2
      simp only at hz3 hstep2 hwj
      have hwk : ws.length ≤ 1000 := hwj
      by_cases h1 : ws.length ≤ 1 ∧ (d ≤ 8 ∨ 65536 < d)
      ·
        have hs2 := hstep2 h1
        have h2 := h1.2
        have h3 := h1.1
        clear hstep2 hz3 h1
        by_cases h4 : d ≤ 8
        ·
          clear h2
          repeat' (first | (simp only [go_sem, Int.reduceAdd, Int.reduceEq, Int.reduceLE, Int.reduceLT, Int.reduceMul, Int.reduceNeg, Int.reducePow, Int.reduceSub, Int.reduceToNat, Nat.reduceAdd, Nat.reduceBEq, Nat.reduceEqDiff, Nat.reduceLT, Nat.reduceLeDiff, Nat.reduceMul, Nat.reducePow, Nat.reduceSub, reduceCtorEq, reduceIte, IntKind.bits.eq_def, ti, tin, mrows_length, va, rj, u32s_length]) | (simp (disch := omega) only [w64, wu64, wu32, Nat.min_eq_left]) | (refine aL ti_ok ?_) | (refine dL ti_ok ?_) | (refine dE (by kernel_rfl) ?_) | ((first | refine cC ?_ ?_ | refine gS ?_ ?_ | refine dS ?_ ?_) <;> intro hc <;> first | (exfalso; simp only [dcT, dcF, bnT, bnF, bnU, bnV] at hc; omega) | (simp only [hc]; try simp only [dcT, dcF, bnT, bnF, bnU, bnV] at hc)) | (refine aN (by omega) ?_) | (refine dN (by omega) ?_))
          all_goals (refine roundEnd_of (α := Nat) (j + 1) ⟨by omega, hs2⟩ (by omega) ?_; exact byWeak)
        ·
          have h5 : 65536 < d := by omega
          clear h2
          repeat' (first | (simp only [go_sem, Int.reduceAdd, Int.reduceEq, Int.reduceLE, Int.reduceLT, Int.reduceMul, Int.reduceNeg, Int.reducePow, Int.reduceSub, Int.reduceToNat, Nat.reduceAdd, Nat.reduceBEq, Nat.reduceEqDiff, Nat.reduceLT, Nat.reduceLeDiff, Nat.reduceMul, Nat.reducePow, Nat.reduceSub, reduceCtorEq, reduceIte, IntKind.bits.eq_def, ti, tin, mrows_length, va, rj, u32s_length]) | (simp (disch := omega) only [w64, wu64, wu32, Nat.min_eq_left]) | (refine aL ti_ok ?_) | (refine dL ti_ok ?_) | (refine dE (by kernel_rfl) ?_) | ((first | refine cC ?_ ?_ | refine gS ?_ ?_ | refine dS ?_ ?_) <;> intro hc <;> first | (exfalso; simp only [dcT, dcF, bnT, bnF, bnU, bnV] at hc; omega) | (simp only [hc]; try simp only [dcT, dcF, bnT, bnF, bnU, bnV] at hc)) | (refine aN (by omega) ?_) | (refine dN (by omega) ?_))
          all_goals (refine roundEnd_of (α := Nat) (j + 1) ⟨by omega, hs2⟩ (by omega) ?_; exact byWeak)
      ·
        have hz4 := hz3 h1
        subst hz4
        clear hstep2 hz3
        by_cases h3 : 1 < ws.length
        ·
          clear h1
          repeat' (first | (simp only [go_sem, Int.reduceAdd, Int.reduceEq, Int.reduceLE, Int.reduceLT, Int.reduceMul, Int.reduceNeg, Int.reducePow, Int.reduceSub, Int.reduceToNat, Nat.reduceAdd, Nat.reduceBEq, Nat.reduceEqDiff, Nat.reduceLT, Nat.reduceLeDiff, Nat.reduceMul, Nat.reducePow, Nat.reduceSub, reduceCtorEq, reduceIte, IntKind.bits.eq_def, ti, tin, mrows_length, va, rj, u32s_length]) | (simp (disch := omega) only [w64, wu64, wu32, Nat.min_eq_left]) | (refine aL ti_ok ?_) | (refine dL ti_ok ?_) | (refine dE (by kernel_rfl) ?_) | ((first | refine cC ?_ ?_ | refine gS ?_ ?_ | refine dS ?_ ?_) <;> intro hc <;> first | (exfalso; simp only [dcT, dcF, bnT, bnF, bnU, bnV] at hc; omega) | (simp only [hc]; try simp only [dcT, dcF, bnT, bnF, bnU, bnV] at hc)) | (refine aN (by omega) ?_) | (refine dN (by omega) ?_))
          all_goals exact fin_same trivial rfl
        ·
          have h4 : 8 < d := by omega
          have h5 : d ≤ 65536 := by omega
          clear h1
          repeat' (first | (simp only [go_sem, Int.reduceAdd, Int.reduceEq, Int.reduceLE, Int.reduceLT, Int.reduceMul, Int.reduceNeg, Int.reducePow, Int.reduceSub, Int.reduceToNat, Nat.reduceAdd, Nat.reduceBEq, Nat.reduceEqDiff, Nat.reduceLT, Nat.reduceLeDiff, Nat.reduceMul, Nat.reducePow, Nat.reduceSub, reduceCtorEq, reduceIte, IntKind.bits.eq_def, ti, tin, mrows_length, va, rj, u32s_length]) | (simp (disch := omega) only [w64, wu64, wu32, Nat.min_eq_left]) | (refine aL ti_ok ?_) | (refine dL ti_ok ?_) | (refine dE (by kernel_rfl) ?_) | ((first | refine cC ?_ ?_ | refine gS ?_ ?_ | refine dS ?_ ?_) <;> intro hc <;> first | (exfalso; simp only [dcT, dcF, bnT, bnF, bnU, bnV] at hc; omega) | (simp only [hc]; try simp only [dcT, dcF, bnT, bnF, bnU, bnV] at hc)) | (refine aN (by omega) ?_) | (refine dN (by omega) ?_))
          all_goals exact fin_same trivial rfl
    ·
      have hjm2 : j = m := by omega
      have hrow2 := hstep (fun j' h => hrow j' (by omega))
      clear hrow hstep hz2 hzT hzF hall
      repeat' (first | (simp only [go_sem, Int.reduceAdd, Int.reduceEq, Int.reduceLE, Int.reduceLT, Int.reduceMul, Int.reduceNeg, Int.reducePow, Int.reduceSub, Int.reduceToNat, Nat.reduceAdd, Nat.reduceBEq, Nat.reduceEqDiff, Nat.reduceLT, Nat.reduceLeDiff, Nat.reduceMul, Nat.reducePow, Nat.reduceSub, reduceCtorEq, reduceIte, IntKind.bits.eq_def, ti, tin, mrows_length]) | (simp (disch := omega) only [w64, wu64, wu32, Nat.min_eq_left]) | (refine aL ti_ok ?_) | (refine dL ti_ok ?_) | (refine dE (by kernel_rfl) ?_) | ((first | refine cC ?_ ?_ | refine gS ?_ ?_ | refine dS ?_ ?_) <;> intro hc <;> first | (exfalso; simp only [dcT, dcF, bnT, bnF, bnU, bnV] at hc; omega) | (simp only [hc]; try simp only [dcT, dcF, bnT, bnF, bnU, bnV] at hc)) | (refine aN (by omega) ?_) | (refine dN (by omega) ?_))
      refine roundEnd_of (α := Nat) (i + 1) ⟨by omega, hrow2⟩ (by omega) ?_
      exact byWeak
  ·
    have hz2 : z = true := hzT (fun i' h => hall i' (by omega))
    subst hz2
    repeat' (first | (simp only [go_sem, Int.reduceAdd, Int.reduceEq, Int.reduceLE, Int.reduceLT, Int.reduceMul, Int.reduceNeg, Int.reducePow, Int.reduceSub, Int.reduceToNat, Nat.reduceAdd, Nat.reduceBEq, Nat.reduceEqDiff, Nat.reduceLT, Nat.reduceLeDiff, Nat.reduceMul, Nat.reducePow, Nat.reduceSub, reduceCtorEq, reduceIte, IntKind.bits.eq_def, ti, tin, mrows_length]) | (simp (disch := omega) only [w64, wu64, wu32, Nat.min_eq_left]) | (refine aL ti_ok ?_) | (refine dL ti_ok ?_) | (refine dE (by kernel_rfl) ?_) | ((first | refine cC ?_ ?_ | refine gS ?_ ?_ | refine dS ?_ ?_) <;> intro hc <;> first | (exfalso; simp only [dcT, dcF, bnT, bnF, bnU, bnV] at hc; omega) | (simp only [hc]; try simp only [dcT, dcF, bnT, bnF, bnU, bnV] at hc)) | (refine aN (by omega) ?_) | (refine dN (by omega) ?_))
    all_goals exact fin_same trivial rfl
theorem law04_few (a : List (List RD)) (hl : a.length ≤ 9223372036854775807) (hr : ∀ i, (a.getD i []).length ≤ 9223372036854775807) (hw : ∀ i j, ((a.getD i []).getD j RD.zero).ws.length ≤ 9223372036854775807) : CallOK Tryz.prog gl 83 [.sl 1 (mrows (a))] (.v (.bool ((decide (fewM a))))) := by
  refine call_ok (C := ⟨Tryz.prog, gl, ti, 60, false⟩) ti_ok mixed 3000 Tryz.call83 Tryz.func83 rfl Tryz.ntmps83 (by simp) byClL byCl ?_
  rw [Tryz.results83]
  obtain ⟨z, hz⟩ : ∃ z, decide (fewM a) = z := ⟨_, rfl⟩
  rw [hz]
  obtain ⟨n, hn⟩ : ∃ n, a.length = n := ⟨_, rfl⟩
  by_cases hn10 : 10 < n
  ·
    have hz2 : z = false := by rw [← hz]; exact decide_eq_false (fun h => by have := h.1.1; omega)
    subst hz2
    clear hz
    rw [hn] at hl
    repeat' (first | (simp only [go_sem, Int.reduceAdd, Int.reduceEq, Int.reduceLE, Int.reduceLT, Int.reduceMul, Int.reduceNeg, Int.reducePow, Int.reduceSub, Int.reduceToNat, Nat.reduceAdd, Nat.reduceBEq, Nat.reduceEqDiff, Nat.reduceLT, Nat.reduceLeDiff, Nat.reduceMul, Nat.reducePow, Nat.reduceSub, reduceCtorEq, reduceIte, IntKind.bits.eq_def, ti, tin, mrows_length, hn]) | (simp (disch := omega) only [w64, wu64, wu32, Nat.min_eq_left]) | (refine aL ti_ok ?_) | (refine dL ti_ok ?_) | (refine dE (by kernel_rfl) ?_) | ((first | refine cC ?_ ?_ | refine gS ?_ ?_ | refine dS ?_ ?_) <;> intro hc <;> first | (exfalso; simp only [dcT, dcF, bnT, bnF, bnU, bnV] at hc; omega) | (simp only [hc]; try simp only [dcT, dcF, bnT, bnF, bnU, bnV] at hc)) | (refine aN (by omega) ?_) | (refine dN (by omega) ?_))
    all_goals exact fin_same trivial rfl
  have hzF : ¬ (∀ i, i < n → rowF (a.getD i [])) → z = false := fun h => by rw [← hz]; exact decide_eq_false (fun hh => h (fun i hi => hh.1.2 i (by omega)))
  have hzT : (∀ i, i < n → rowF (a.getD i [])) → decide (¬ ckM a = 0 ∨ (a.length ≤ 4 ∧ (a.getD 0 []).length ≤ 4) ∨ shortM a) = z := fun h => by
    rw [← hz]
    exact decide_eq_decide.2 ⟨fun k => ⟨⟨by omega, fun i hi => h i (by omega)⟩, k⟩, fun k => k.2⟩
  clear hz
  rw [hn] at hl
  repeat' (first | (simp only [go_sem, Int.reduceAdd, Int.reduceEq, Int.reduceLE, Int.reduceLT, Int.reduceMul, Int.reduceNeg, Int.reducePow, Int.reduceSub, Int.reduceToNat, Nat.reduceAdd, Nat.reduceBEq, Nat.reduceEqDiff, Nat.reduceLT, Nat.reduceLeDiff, Nat.reduceMul, Nat.reducePow, Nat.reduceSub, reduceCtorEq, reduceIte, IntKind.bits.eq_def, ti, tin, mrows_length, hn]) | (simp (disch := omega) only [w64, wu64, wu32, Nat.min_eq_left]) | (refine aL ti_ok ?_) | (refine dL ti_ok ?_) | (refine dE (by kernel_rfl) ?_) | ((first | refine cC ?_ ?_ | refine gS ?_ ?_ | refine dS ?_ ?_) <;> intro hc <;> first | (exfalso; simp only [dcT, dcF, bnT, bnF, bnU, bnV] at hc; omega) | (simp only [hc]; try simp only [dcT, dcF, bnT, bnF, bnU, bnV] at hc)) | (refine aN (by omega) ?_) | (refine dN (by omega) ?_))
  refine l_loop (α := Nat) (fun i => ⟨[(0, .sl 1 (mrows (a))), (10, .sl 1 (mrows (a))), (11, .v (.int .i64 n)), (12, .v (.int .i64 i))], [], 0⟩) (fun i => i ≤ n ∧ ∀ i', i' < i → rowF (a.getD i' [])) (fun i => n - i) (0) _ byFresh (fun _ h => by first | (cases h; done) | exact Nat.le_of_ble_eq_true rfl) ?_ ?_ ?_
  · exact ⟨Nat.zero_le _, fun i' h => by omega⟩
  · exact byWeak
  rintro i ⟨hi, hall⟩
  by_cases hin : i < n
  ·
    have ri := mrows_getD (a := a) (i := i) (by omega)
    have hri := hr i
    have hwi := hw i
    have hz2 : ¬ rowF (a.getD i []) → z = false := fun h => hzF (fun hh => h (hh i hin))
    have hstep : rowF (a.getD i []) → ∀ i', i' < i + 1 → rowF (a.getD i' []) := fun h i' hi' => by
      by_cases e : i' = i
      · rw [e]; exact h
      · exact hall i' (by omega)
    generalize hx : a.getD i [] = x at *
    obtain ⟨m, hm⟩ : ∃ m, x.length = m := ⟨_, rfl⟩
    have va : (vrows x).length = m := by rw [vrows_length, hm]
    unfold rowF at hz2
    have hstep3 : rowF x → ∀ i', i' < i + 1 → rowF (a.getD i' []) := hstep
    rw [hm] at hri
    by_cases hm10 : 10 < m
    ·
      have hz3 := hz2 (fun h => by have := h.1; omega)
      subst hz3
      clear hstep3 hstep hz2 hzT hzF hall hwi
      repeat' (first | (simp only [go_sem, Int.reduceAdd, Int.reduceEq, Int.reduceLE, Int.reduceLT, Int.reduceMul, Int.reduceNeg, Int.reducePow, Int.reduceSub, Int.reduceToNat, Nat.reduceAdd, Nat.reduceBEq, Nat.reduceEqDiff, Nat.reduceLT, Nat.reduceLeDiff, Nat.reduceMul, Nat.reducePow, Nat.reduceSub, reduceCtorEq, reduceIte, IntKind.bits.eq_def, ti, tin, mrows_length, hn, ri, va]) | (simp (disch := omega) only [w64, wu64, wu32, Nat.min_eq_left]) | (refine aL ti_ok ?_) | (refine dL ti_ok ?_) | (refine dE (by kernel_rfl) ?_) | ((first | refine cC ?_ ?_ | refine gS ?_ ?_ | refine dS ?_ ?_) <;> intro hc <;> first | (exfalso; simp only [dcT, dcF, bnT, bnF, bnU, bnV] at hc; omega) | (simp only [hc]; try simp only [dcT, dcF, bnT, bnF, bnU, bnV] at hc)) | (refine aN (by omega) ?_) | (refine dN (by omega) ?_))
      all_goals exact fin_same trivial rfl
    repeat' (first | (simp only [go_sem, Int.reduceAdd, Int.reduceEq, Int.reduceLE, Int.reduceLT, Int.reduceMul, Int.reduceNeg, Int.reducePow, Int.reduceSub, Int.reduceToNat, Nat.reduceAdd, Nat.reduceBEq, Nat.reduceEqDiff, Nat.reduceLT, Nat.reduceLeDiff, Nat.reduceMul, Nat.reducePow, Nat.reduceSub, reduceCtorEq, reduceIte, IntKind.bits.eq_def, ti, tin, mrows_length, hn, ri, va]) | (simp (disch := omega) only [w64, wu64, wu32, Nat.min_eq_left]) | (refine aL ti_ok ?_) | (refine dL ti_ok ?_) | (refine dE (by kernel_rfl) ?_) | ((first | refine cC ?_ ?_ | refine gS ?_ ?_ | refine dS ?_ ?_) <;> intro hc <;> first | (exfalso; simp only [dcT, dcF, bnT, bnF, bnU, bnV] at hc; omega) | (simp only [hc]; try simp only [dcT, dcF, bnT, bnF, bnU, bnV] at hc)) | (refine aN (by omega) ?_) | (refine dN (by omega) ?_))
    refine l_loop (α := Nat) (fun j => ⟨[(0, .sl 1 (mrows (a))), (10, .sl 1 (mrows (a))), (11, .v (.int .i64 n)), (12, .v (.int .i64 i)), (19, .sl 3 (vrows (x))), (20, .v (.int .i64 m)), (21, .v (.int .i64 j))], [], 0⟩) (fun j => j ≤ m ∧ ∀ j', j' < j → fewX (x.getD j' RD.zero)) (fun j => m - j) (0) _ byFresh (fun _ h => by first | (cases h; done) | exact Nat.le_of_ble_eq_true rfl) ?_ ?_ ?_
    · exact ⟨Nat.zero_le _, fun i' h => by omega⟩
    · exact byWeak
    rintro j ⟨hj, hrow⟩
    by_cases hjm : j < m
    ·
      have rj := vrows_getD (l := x) (i := j) (by omega)
      have hwj := hwi j
      have hz3 : ¬ fewX (x.getD j RD.zero) → z = false := fun h => hz2 (fun hh => h (hh.2 j (by omega)))
      have hstep2 : fewX (x.getD j RD.zero) → ∀ j', j' < j + 1 → fewX (x.getD j' RD.zero) := fun h j' hj' => by
        by_cases e : j' = j
        · rw [e]; exact h
        · exact hrow j' (by omega)
      clear hrow hstep3 hstep hz2 hzT hzF hall hwi
      generalize x.getD j RD.zero = r at *
      obtain ⟨s, ws, d⟩ := r
      rw [vrow_mk] at rj
      unfold fewX at hz3 hstep2
      simp only at hz3 hstep2 hwj
      have hwk : ws.length ≤ 9223372036854775807 := hwj
      by_cases h1 : ws.length ≤ 3 ∧ (d ≤ 60 ∨ 65536 < d)
      ·
        have hs2 := hstep2 h1
        have h2 := h1.2
        have h3 := h1.1
        clear hstep2 hz3 h1
        by_cases h4 : d ≤ 60
        ·
          clear h2
          repeat' (first | (simp only [go_sem, Int.reduceAdd, Int.reduceEq, Int.reduceLE, Int.reduceLT, Int.reduceMul, Int.reduceNeg, Int.reducePow, Int.reduceSub, Int.reduceToNat, Nat.reduceAdd, Nat.reduceBEq, Nat.reduceEqDiff, Nat.reduceLT, Nat.reduceLeDiff, Nat.reduceMul, Nat.reducePow, Nat.reduceSub, reduceCtorEq, reduceIte, IntKind.bits.eq_def, ti, tin, mrows_length, va, rj, u32s_length]) | (simp (disch := omega) only [w64, wu64, wu32, Nat.min_eq_left]) | (refine aL ti_ok ?_) | (refine dL ti_ok ?_) | (refine dE (by kernel_rfl) ?_) | ((first | refine cC ?_ ?_ | refine gS ?_ ?_ | refine dS ?_ ?_) <;> intro hc <;> first | (exfalso; simp only [dcT, dcF, bnT, bnF, bnU, bnV] at hc; omega) | (simp only [hc]; try simp only [dcT, dcF, bnT, bnF, bnU, bnV] at hc)) | (refine aN (by omega) ?_) | (refine dN (by omega) ?_))
          all_goals (refine roundEnd_of (α := Nat) (j + 1) ⟨by omega, hs2⟩ (by omega) ?_; exact byWeak)
        ·
          have h5 : 65536 < d := by omega
          clear h2
          repeat' (first | (simp only [go_sem, Int.reduceAdd, Int.reduceEq, Int.reduceLE, Int.reduceLT, Int.reduceMul, Int.reduceNeg, Int.reducePow, Int.reduceSub, Int.reduceToNat, Nat.reduceAdd, Nat.reduceBEq, Nat.reduceEqDiff, Nat.reduceLT, Nat.reduceLeDiff, Nat.reduceMul, Nat.reducePow, Nat.reduceSub, reduceCtorEq, reduceIte, IntKind.bits.eq_def, ti, tin, mrows_length, va, rj, u32s_length]) | (simp (disch := omega) only [w64, wu64, wu32, Nat.min_eq_left]) | (refine aL ti_ok ?_) | (refine dL ti_ok ?_) | (refine dE (by kernel_rfl) ?_) | ((first | refine cC ?_ ?_ | refine gS ?_ ?_ | refine dS ?_ ?_) <;> intro hc <;> first | (exfalso; simp only [dcT, dcF, bnT, bnF, bnU, bnV] at hc; omega) | (simp only [hc]; try simp only [dcT, dcF, bnT, bnF, bnU, bnV] at hc)) | (refine aN (by omega) ?_) | (refine dN (by omega) ?_))
          all_goals (refine roundEnd_of (α := Nat) (j + 1) ⟨by omega, hs2⟩ (by omega) ?_; exact byWeak)
      ·
        have hz4 := hz3 h1
        subst hz4
        clear hstep2 hz3
        by_cases h3 : 3 < ws.length
        ·
          clear h1
          repeat' (first | (simp only [go_sem, Int.reduceAdd, Int.reduceEq, Int.reduceLE, Int.reduceLT, Int.reduceMul, Int.reduceNeg, Int.reducePow, Int.reduceSub, Int.reduceToNat, Nat.reduceAdd, Nat.reduceBEq, Nat.reduceEqDiff, Nat.reduceLT, Nat.reduceLeDiff, Nat.reduceMul, Nat.reducePow, Nat.reduceSub, reduceCtorEq, reduceIte, IntKind.bits.eq_def, ti, tin, mrows_length, va, rj, u32s_length]) | (simp (disch := omega) only [w64, wu64, wu32, Nat.min_eq_left]) | (refine aL ti_ok ?_) | (refine dL ti_ok ?_) | (refine dE (by kernel_rfl) ?_) | ((first | refine cC ?_ ?_ | refine gS ?_ ?_ | refine dS ?_ ?_) <;> intro hc <;> first | (exfalso; simp only [dcT, dcF, bnT, bnF, bnU, bnV] at hc; omega) | (simp only [hc]; try simp only [dcT, dcF, bnT, bnF, bnU, bnV] at hc)) | (refine aN (by omega) ?_) | (refine dN (by omega) ?_))
          all_goals exact fin_same trivial rfl
        ·
          have h4 : 60 < d := by omega
          have h5 : d ≤ 65536 := by omega
          clear h1
          repeat' (first | (simp only [go_sem, Int.reduceAdd, Int.reduceEq, Int.reduceLE, Int.reduceLT, Int.reduceMul, Int.reduceNeg, Int.reducePow, Int.reduceSub, Int.reduceToNat, Nat.reduceAdd, Nat.reduceBEq, Nat.reduceEqDiff, Nat.reduceLT, Nat.reduceLeDiff, Nat.reduceMul, Nat.reducePow, Nat.reduceSub, reduceCtorEq, reduceIte, IntKind.bits.eq_def, ti, tin, mrows_length, va, rj, u32s_length]) | (simp (disch := omega) only [w64, wu64, wu32, Nat.min_eq_left]) | (refine aL ti_ok ?_) | (refine dL ti_ok ?_) | (refine dE (by kernel_rfl) ?_) | ((first | refine cC ?_ ?_ | refine gS ?_ ?_ | refine dS ?_ ?_) <;> intro hc <;> first | (exfalso; simp only [dcT, dcF, bnT, bnF, bnU, bnV] at hc; omega) | (simp only [hc]; try simp only [dcT, dcF, bnT, bnF, bnU, bnV] at hc)) | (refine aN (by omega) ?_) | (refine dN (by omega) ?_))
          all_goals exact fin_same trivial rfl
    ·
      have hjm2 : j = m := by omega
      have hrow2 := hstep3 ⟨by omega, fun j' h => hrow j' (by omega)⟩
      clear hrow hstep hstep3 hz2 hzT hzF hall
      repeat' (first | (simp only [go_sem, Int.reduceAdd, Int.reduceEq, Int.reduceLE, Int.reduceLT, Int.reduceMul, Int.reduceNeg, Int.reducePow, Int.reduceSub, Int.reduceToNat, Nat.reduceAdd, Nat.reduceBEq, Nat.reduceEqDiff, Nat.reduceLT, Nat.reduceLeDiff, Nat.reduceMul, Nat.reducePow, Nat.reduceSub, reduceCtorEq, reduceIte, IntKind.bits.eq_def, ti, tin, mrows_length]) | (simp (disch := omega) only [w64, wu64, wu32, Nat.min_eq_left]) | (refine aL ti_ok ?_) | (refine dL ti_ok ?_) | (refine dE (by kernel_rfl) ?_) | ((first | refine cC ?_ ?_ | refine gS ?_ ?_ | refine dS ?_ ?_) <;> intro hc <;> first | (exfalso; simp only [dcT, dcF, bnT, bnF, bnU, bnV] at hc; omega) | (simp only [hc]; try simp only [dcT, dcF, bnT, bnF, bnU, bnV] at hc)) | (refine aN (by omega) ?_) | (refine dN (by omega) ?_))
      refine roundEnd_of (α := Nat) (i + 1) ⟨by omega, hrow2⟩ (by omega) ?_
      exact byWeak
  ·
    have hF : ∀ i', i' < n → rowF (a.getD i' []) := fun i' h => hall i' (by omega)
    have hz2 := hzT hF
    have c1 := ref_CheckM a (by omega)
    have c2 := law04_short a (by omega) (fun i' => by
      by_cases h : i' < n
      · have := (hF i' h).1; omega
      · rw [List.getD, List.getElem?_eq_none (by omega)]; exact Nat.zero_le _) (fun i' j' => by
      by_cases h : i' < n
      · by_cases h' : j' < (a.getD i' []).length
        · have := ((hF i' h).2 j' h').1; omega
        · have e : (a.getD i' []).getD j' RD.zero = RD.zero := by
            generalize a.getD i' [] = y at *
            rw [List.getD, List.getElem?_eq_none (by omega)]; rfl
          rw [e]; exact Nat.zero_le _
      · have e : a.getD i' [] = [] := by rw [List.getD, List.getElem?_eq_none (by omega)]; rfl
        rw [e]; exact Nat.zero_le _)
    rw [hn] at hz2
    clear hzT hzF hall hF
    by_cases k1 : ckM a = 0
    ·
      obtain ⟨a1, a2, a3, a4, a5⟩ : 0 < a.length ∧ a.length ≤ 8 ∧ 0 < (a.getD 0 []).length ∧ (a.getD 0 []).length ≤ 8 ∧ True := by
        unfold ckM at k1
        split at k1
        · omega
        split at k1
        · omega
        split at k1
        · omega
        split at k1
        · omega
        exact ⟨by omega, by omega, by omega, by omega, trivial⟩
      have r0 := mrows_getD (a := a) (i := 0) a1
      have l0 : (vrows (a.getD 0 [])).length = (a.getD 0 []).length := vrows_length _
      rw [k1] at c1
      rw [show (decide (¬ ckM a = 0 ∨ (n ≤ 4 ∧ (a.getD 0 []).length ≤ 4) ∨ shortM a)) = (decide (n ≤ 4 ∧ (a.getD 0 []).length ≤ 4) || decide (shortM a)) by
        rw [← Bool.decide_or]; exact decide_eq_decide.2 ⟨fun h => h.resolve_left (fun hh => hh k1), fun h => .inr h⟩] at hz2
      generalize a.getD 0 [] = y at *
      obtain ⟨m, hm⟩ : ∃ m, y.length = m := ⟨_, rfl⟩
      rw [hm] at l0 hz2 a3 a4
      generalize decide (shortM a) = z3 at *
      by_cases k2 : n ≤ 4
      · by_cases k3 : m ≤ 4
        ·
          rw [decide_eq_true ⟨k2, k3⟩, Bool.true_or] at hz2
          subst hz2
          repeat' (first | (simp only [go_sem, Int.reduceAdd, Int.reduceEq, Int.reduceLE, Int.reduceLT, Int.reduceMul, Int.reduceNeg, Int.reducePow, Int.reduceSub, Int.reduceToNat, Nat.reduceAdd, Nat.reduceBEq, Nat.reduceEqDiff, Nat.reduceLT, Nat.reduceLeDiff, Nat.reduceMul, Nat.reducePow, Nat.reduceSub, reduceCtorEq, reduceIte, IntKind.bits.eq_def, ti, tin, mrows_length, hn, r0, l0]) | (simp (disch := omega) only [w64, wu64, wu32, Nat.min_eq_left]) | (with_reducible first | refine cF (c1) ?_ | refine dF (c1) ?_) | (with_reducible first | refine cF (c2) ?_ | refine dF (c2) ?_) | (refine aL ti_ok ?_) | (refine dL ti_ok ?_) | (refine dE (by kernel_rfl) ?_) | ((first | refine cC ?_ ?_ | refine gS ?_ ?_ | refine dS ?_ ?_) <;> intro hc <;> first | (exfalso; simp only [dcT, dcF, bnT, bnF, bnU, bnV] at hc; omega) | (simp only [hc]; try simp only [dcT, dcF, bnT, bnF, bnU, bnV] at hc)) | (refine aN (by omega) ?_) | (refine dN (by omega) ?_))
          all_goals exact fin_same trivial rfl
        ·
          rw [decide_eq_false (fun h => k3 h.2), Bool.false_or] at hz2
          subst hz2
          repeat' (first | (simp only [go_sem, Int.reduceAdd, Int.reduceEq, Int.reduceLE, Int.reduceLT, Int.reduceMul, Int.reduceNeg, Int.reducePow, Int.reduceSub, Int.reduceToNat, Nat.reduceAdd, Nat.reduceBEq, Nat.reduceEqDiff, Nat.reduceLT, Nat.reduceLeDiff, Nat.reduceMul, Nat.reducePow, Nat.reduceSub, reduceCtorEq, reduceIte, IntKind.bits.eq_def, ti, tin, mrows_length, hn, r0, l0]) | (simp (disch := omega) only [w64, wu64, wu32, Nat.min_eq_left]) | (with_reducible first | refine cF (c1) ?_ | refine dF (c1) ?_) | (with_reducible first | refine cF (c2) ?_ | refine dF (c2) ?_) | (refine aL ti_ok ?_) | (refine dL ti_ok ?_) | (refine dE (by kernel_rfl) ?_) | ((first | refine cC ?_ ?_ | refine gS ?_ ?_ | refine dS ?_ ?_) <;> intro hc <;> first | (exfalso; simp only [dcT, dcF, bnT, bnF, bnU, bnV] at hc; omega) | (simp only [hc]; try simp only [dcT, dcF, bnT, bnF, bnU, bnV] at hc)) | (refine aN (by omega) ?_) | (refine dN (by omega) ?_))
          all_goals exact fin_same trivial rfl
      ·
        rw [decide_eq_false (fun h => k2 h.1), Bool.false_or] at hz2
        subst hz2
        repeat' (first | (simp only [go_sem, Int.reduceAdd, Int.reduceEq, Int.reduceLE, Int.reduceLT, Int.reduceMul, Int.reduceNeg, Int.reducePow, Int.reduceSub, Int.reduceToNat, Nat.reduceAdd, Nat.reduceBEq, Nat.reduceEqDiff, Nat.reduceLT, Nat.reduceLeDiff, Nat.reduceMul, Nat.reducePow, Nat.reduceSub, reduceCtorEq, reduceIte, IntKind.bits.eq_def, ti, tin, mrows_length, hn, r0, l0]) | (simp (disch := omega) only [w64, wu64, wu32, Nat.min_eq_left]) | (with_reducible first | refine cF (c1) ?_ | refine dF (c1) ?_) | (with_reducible first | refine cF (c2) ?_ | refine dF (c2) ?_) | (refine aL ti_ok ?_) | (refine dL ti_ok ?_) | (refine dE (by kernel_rfl) ?_) | ((first | refine cC ?_ ?_ | refine gS ?_ ?_ | refine dS ?_ ?_) <;> intro hc <;> first | (exfalso; simp only [dcT, dcF, bnT, bnF, bnU, bnV] at hc; omega) | (simp only [hc]; try simp only [dcT, dcF, bnT, bnF, bnU, bnV] at hc)) | (refine aN (by omega) ?_) | (refine dN (by omega) ?_))
        all_goals exact fin_same trivial rfl
    ·
      rw [decide_eq_true (.inl k1)] at hz2
      subst hz2
      generalize ckM a = e at *
      repeat' (first | (simp only [go_sem, Int.reduceAdd, Int.reduceEq, Int.reduceLE, Int.reduceLT, Int.reduceMul, Int.reduceNeg, Int.reducePow, Int.reduceSub, Int.reduceToNat, Nat.reduceAdd, Nat.reduceBEq, Nat.reduceEqDiff, Nat.reduceLT, Nat.reduceLeDiff, Nat.reduceMul, Nat.reducePow, Nat.reduceSub, reduceCtorEq, reduceIte, IntKind.bits.eq_def, ti, tin, mrows_length, hn]) | (simp (disch := omega) only [w64, wu64, wu32, Nat.min_eq_left]) | (with_reducible first | refine cF (c1) ?_ | refine dF (c1) ?_) | (refine aL ti_ok ?_) | (refine dL ti_ok ?_) | (refine dE (by kernel_rfl) ?_) | ((first | refine cC ?_ ?_ | refine gS ?_ ?_ | refine dS ?_ ?_) <;> intro hc <;> first | (exfalso; simp only [dcT, dcF, bnT, bnF, bnU, bnV] at hc; omega) | (simp only [hc]; try simp only [dcT, dcF, bnT, bnF, bnU, bnV] at hc)) | (refine aN (by omega) ?_) | (refine dN (by omega) ?_))
      all_goals exact fin_same trivial rfl
end Go.Proofs.YtdjgckcninibhaaGreatDoor
