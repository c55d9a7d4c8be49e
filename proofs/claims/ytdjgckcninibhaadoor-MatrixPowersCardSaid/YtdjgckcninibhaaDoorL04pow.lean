/- The statement MatrixPowers: its code returns true. -/
import Derived.Test.YtdjgckcninibhaaDoorL04d
import Derived.Test.YtdjgckcninibhaaDoorL02b
set_option linter.unusedSimpArgs false
set_option linter.unusedVariables false
set_option linter.deprecated false
namespace Go.Proofs.YtdjgckcninibhaaDoor
open Go Go.Ax
set_option maxRecDepth 100000
set_option maxHeartbeats 4000000

theorem pow_out (a : List (List RD)) (j k : Int) (hl : a.length ≤ 9223372036854775807) (ha : argM a) (hf : ¬ fewM a) : CallOK Tryd.prog gl 7 [.sl 1 (mrows (a)), .v (.int .i64 j), .v (.int .i64 k)] (.v (.bool (true))) := by
  refine call_ok (C := ⟨Tryd.prog, gl, ti, 175, false⟩) ti_ok mixed 3000 Tryd.call7 Tryd.func7 rfl Tryd.ntmps7 (by simp) byClL byCl ?_
  rw [Tryd.results7]
  have f1 := few_ok hl ha
  rw [decide_eq_false hf] at f1
  repeat' (first | (simp only [go_sem, Int.reduceAdd, Int.reduceEq, Int.reduceLE, Int.reduceLT, Int.reduceMul, Int.reduceNeg, Int.reducePow, Int.reduceSub, Int.reduceToNat, Nat.reduceAdd, Nat.reduceBEq, Nat.reduceEqDiff, Nat.reduceLT, Nat.reduceLeDiff, Nat.reduceMul, Nat.reducePow, Nat.reduceSub, reduceCtorEq, reduceIte, IntKind.bits.eq_def, ti, tin]) | (simp (disch := omega) only [w64, wu64, wu32, Nat.min_eq_left]) | (with_reducible first | refine cF (f1) ?_ | refine dF (f1) ?_) | (with_reducible first | refine cF (awake04) ?_ | refine dF (awake04) ?_) | (refine aL ti_ok ?_) | (refine dL ti_ok ?_) | (refine dE (by kernel_rfl) ?_) | ((first | refine cC ?_ ?_ | refine gS ?_ ?_ | refine dS ?_ ?_) <;> intro hc <;> first | (exfalso; simp only [dcT, dcF, bnT, bnF, bnU, bnV] at hc; omega) | (simp only [hc]; try simp only [dcT, dcF, bnT, bnF, bnU, bnV] at hc)) | (refine aN (by omega) ?_) | (refine dN (by omega) ?_))
  all_goals exact fin_same trivial rfl
theorem pow_bad (a : List (List RD)) (j k : Int) (hl : a.length ≤ 9223372036854775807) (ha : argM a) (hf : fewM a) (hc : ¬ ckM a = 0) : CallOK Tryd.prog gl 7 [.sl 1 (mrows (a)), .v (.int .i64 j), .v (.int .i64 k)] (.v (.bool (true))) := by
  refine call_ok (C := ⟨Tryd.prog, gl, ti, 175, false⟩) ti_ok mixed 3000 Tryd.call7 Tryd.func7 rfl Tryd.ntmps7 (by simp) byClL byCl ?_
  rw [Tryd.results7]
  have f1 := few_ok hl ha
  rw [decide_eq_true hf] at f1
  have c1 := ref_CheckM a (by have := hf.1.1; omega)
  clear hf
  generalize ckM a = e at *
  repeat' (first | (simp only [go_sem, Int.reduceAdd, Int.reduceEq, Int.reduceLE, Int.reduceLT, Int.reduceMul, Int.reduceNeg, Int.reducePow, Int.reduceSub, Int.reduceToNat, Nat.reduceAdd, Nat.reduceBEq, Nat.reduceEqDiff, Nat.reduceLT, Nat.reduceLeDiff, Nat.reduceMul, Nat.reducePow, Nat.reduceSub, reduceCtorEq, reduceIte, IntKind.bits.eq_def, ti, tin]) | (simp (disch := omega) only [w64, wu64, wu32, Nat.min_eq_left]) | (with_reducible first | refine cF (f1) ?_ | refine dF (f1) ?_) | (with_reducible first | refine cF (c1) ?_ | refine dF (c1) ?_) | (with_reducible first | refine cF (awake04) ?_ | refine dF (awake04) ?_) | (refine aL ti_ok ?_) | (refine dL ti_ok ?_) | (refine dE (by kernel_rfl) ?_) | ((first | refine cC ?_ ?_ | refine gS ?_ ?_ | refine dS ?_ ?_) <;> intro hc <;> first | (exfalso; simp only [dcT, dcF, bnT, bnF, bnU, bnV] at hc; omega) | (simp only [hc]; try simp only [dcT, dcF, bnT, bnF, bnU, bnV] at hc)) | (refine aN (by omega) ?_) | (refine dN (by omega) ?_))
  all_goals exact fin_same trivial rfl
theorem ckM_one {a : List (List RD)} (h : ckM a = 0) : ckM (a.take 1) = 0 ∧ (a.take 1).length = 1 ∧ (a.take 1).getD 0 [] = a.getD 0 [] := by
  obtain ⟨a1, a2, a3, a4, a5⟩ := ckM_ok h
  have l1 : (a.take 1).length = 1 := by rw [List.length_take]; omega
  have e : (a.take 1).getD 0 [] = a.getD 0 [] := by
    rw [List.getD, List.getD, List.getElem?_take]; rfl
  exact ⟨ckM_of (by omega) (by omega) a3 a4 l1 (fun i hi => by
    obtain rfl : i = 0 := by omega
    rw [e]), l1, e⟩
theorem pow_far (a : List (List RD)) (j k : Int) (hl : a.length ≤ 9223372036854775807) (ha : argM a) (hf : fewM a) (hc : ckM a = 0) (hj : 12 < j ∨ 12 < k) : CallOK Tryd.prog gl 7 [.sl 1 (mrows (a)), .v (.int .i64 j), .v (.int .i64 k)] (.v (.bool (true))) := by
  refine call_ok (C := ⟨Tryd.prog, gl, ti, 175, false⟩) ti_ok mixed 3000 Tryd.call7 Tryd.func7 rfl Tryd.ntmps7 (by simp) byClL byCl ?_
  rw [Tryd.results7]
  have f1 := few_ok hl ha
  rw [decide_eq_true hf] at f1
  have c1 := ref_CheckM a (by have := hf.1.1; omega)
  rw [hc] at c1
  obtain ⟨a1, a2, a3, a4, a5⟩ := ckM_ok hc
  obtain ⟨t1, t2, t3⟩ := ckM_one hc
  have r0 := mrows_getD (a := a) (i := 0) a1
  have l0 : (vrows (a.getD 0 [])).length = (a.getD 0 []).length := vrows_length _
  have e1 := base_Is 11 11
  rw [decide_eq_true rfl] at e1
  have e2 := base_Is 3 3
  rw [decide_eq_true rfl] at e2
  have tk : (mrows a).take 1 = mrows (a.take 1) := mrows_take a 1
  by_cases hs : (a.getD 0 []).length = 1
  · have p1 := mat_Power_range (a.take 1) 65 t1 (by rw [t2, t3, hs]) (by omega)
    rw [hs] at l0
    clear hf a5 t1 t2 t3
    generalize a.getD 0 [] = y at *
    by_cases hj1 : 12 < j
    · clear hj
      repeat' (first | (simp only [go_sem, Int.reduceAdd, Int.reduceEq, Int.reduceLE, Int.reduceLT, Int.reduceMul, Int.reduceNeg, Int.reducePow, Int.reduceSub, Int.reduceToNat, Nat.reduceAdd, Nat.reduceBEq, Nat.reduceEqDiff, Nat.reduceLT, Nat.reduceLeDiff, Nat.reduceMul, Nat.reducePow, Nat.reduceSub, reduceCtorEq, reduceIte, IntKind.bits.eq_def, ti, tin, mrows_length, r0, l0, tk, List.drop_zero]) | (simp (disch := omega) only [w64, wu64, wu32, Nat.min_eq_left]) | (with_reducible first | refine cF (f1) ?_ | refine dF (f1) ?_) | (with_reducible first | refine cF (c1) ?_ | refine dF (c1) ?_) | (with_reducible first | refine cF (awake04) ?_ | refine dF (awake04) ?_) | (with_reducible first | refine cF (p1) ?_ | refine dF (p1) ?_) | (with_reducible first | refine cF (e2) ?_ | refine dF (e2) ?_) | (refine aL ti_ok ?_) | (refine dL ti_ok ?_) | (refine dE (by kernel_rfl) ?_) | ((first | refine cC ?_ ?_ | refine gS ?_ ?_ | refine dS ?_ ?_) <;> intro hc <;> first | (exfalso; simp only [dcT, dcF, bnT, bnF, bnU, bnV] at hc; omega) | (simp only [hc]; try simp only [dcT, dcF, bnT, bnF, bnU, bnV] at hc)) | (refine aN (by omega) ?_) | (refine dN (by omega) ?_))
      all_goals exact fin_same trivial rfl
    · have hk1 : 12 < k := by omega
      clear hj
      repeat' (first | (simp only [go_sem, Int.reduceAdd, Int.reduceEq, Int.reduceLE, Int.reduceLT, Int.reduceMul, Int.reduceNeg, Int.reducePow, Int.reduceSub, Int.reduceToNat, Nat.reduceAdd, Nat.reduceBEq, Nat.reduceEqDiff, Nat.reduceLT, Nat.reduceLeDiff, Nat.reduceMul, Nat.reducePow, Nat.reduceSub, reduceCtorEq, reduceIte, IntKind.bits.eq_def, ti, tin, mrows_length, r0, l0, tk, List.drop_zero]) | (simp (disch := omega) only [w64, wu64, wu32, Nat.min_eq_left]) | (with_reducible first | refine cF (f1) ?_ | refine dF (f1) ?_) | (with_reducible first | refine cF (c1) ?_ | refine dF (c1) ?_) | (with_reducible first | refine cF (awake04) ?_ | refine dF (awake04) ?_) | (with_reducible first | refine cF (p1) ?_ | refine dF (p1) ?_) | (with_reducible first | refine cF (e2) ?_ | refine dF (e2) ?_) | (refine aL ti_ok ?_) | (refine dL ti_ok ?_) | (refine dE (by kernel_rfl) ?_) | ((first | refine cC ?_ ?_ | refine gS ?_ ?_ | refine dS ?_ ?_) <;> intro hc <;> first | (exfalso; simp only [dcT, dcF, bnT, bnF, bnU, bnV] at hc; omega) | (simp only [hc]; try simp only [dcT, dcF, bnT, bnF, bnU, bnV] at hc)) | (refine aN (by omega) ?_) | (refine dN (by omega) ?_))
      all_goals exact fin_same trivial rfl
  · have p1 := mat_Power_shape (a.take 1) 65 t1 (by rw [t2, t3]; omega)
    clear hf a5 t1 t2 t3
    generalize a.getD 0 [] = y at *
    have hs2 : 1 < y.length := by omega
    by_cases hj1 : 12 < j
    · clear hj
      repeat' (first | (simp only [go_sem, Int.reduceAdd, Int.reduceEq, Int.reduceLE, Int.reduceLT, Int.reduceMul, Int.reduceNeg, Int.reducePow, Int.reduceSub, Int.reduceToNat, Nat.reduceAdd, Nat.reduceBEq, Nat.reduceEqDiff, Nat.reduceLT, Nat.reduceLeDiff, Nat.reduceMul, Nat.reducePow, Nat.reduceSub, reduceCtorEq, reduceIte, IntKind.bits.eq_def, ti, tin, mrows_length, r0, l0, tk, List.drop_zero]) | (simp (disch := omega) only [w64, wu64, wu32, Nat.min_eq_left]) | (with_reducible first | refine cF (f1) ?_ | refine dF (f1) ?_) | (with_reducible first | refine cF (c1) ?_ | refine dF (c1) ?_) | (with_reducible first | refine cF (awake04) ?_ | refine dF (awake04) ?_) | (with_reducible first | refine cF (p1) ?_ | refine dF (p1) ?_) | (with_reducible first | refine cF (e1) ?_ | refine dF (e1) ?_) | (refine aL ti_ok ?_) | (refine dL ti_ok ?_) | (refine dE (by kernel_rfl) ?_) | ((first | refine cC ?_ ?_ | refine gS ?_ ?_ | refine dS ?_ ?_) <;> intro hc <;> first | (exfalso; simp only [dcT, dcF, bnT, bnF, bnU, bnV] at hc; omega) | (simp only [hc]; try simp only [dcT, dcF, bnT, bnF, bnU, bnV] at hc)) | (refine aN (by omega) ?_) | (refine dN (by omega) ?_))
      all_goals exact fin_same trivial rfl
    · have hk1 : 12 < k := by omega
      clear hj
      repeat' (first | (simp only [go_sem, Int.reduceAdd, Int.reduceEq, Int.reduceLE, Int.reduceLT, Int.reduceMul, Int.reduceNeg, Int.reducePow, Int.reduceSub, Int.reduceToNat, Nat.reduceAdd, Nat.reduceBEq, Nat.reduceEqDiff, Nat.reduceLT, Nat.reduceLeDiff, Nat.reduceMul, Nat.reducePow, Nat.reduceSub, reduceCtorEq, reduceIte, IntKind.bits.eq_def, ti, tin, mrows_length, r0, l0, tk, List.drop_zero]) | (simp (disch := omega) only [w64, wu64, wu32, Nat.min_eq_left]) | (with_reducible first | refine cF (f1) ?_ | refine dF (f1) ?_) | (with_reducible first | refine cF (c1) ?_ | refine dF (c1) ?_) | (with_reducible first | refine cF (awake04) ?_ | refine dF (awake04) ?_) | (with_reducible first | refine cF (p1) ?_ | refine dF (p1) ?_) | (with_reducible first | refine cF (e1) ?_ | refine dF (e1) ?_) | (refine aL ti_ok ?_) | (refine dL ti_ok ?_) | (refine dE (by kernel_rfl) ?_) | ((first | refine cC ?_ ?_ | refine gS ?_ ?_ | refine dS ?_ ?_) <;> intro hc <;> first | (exfalso; simp only [dcT, dcF, bnT, bnF, bnU, bnV] at hc; omega) | (simp only [hc]; try simp only [dcT, dcF, bnT, bnF, bnU, bnV] at hc)) | (refine aN (by omega) ?_) | (refine dN (by omega) ?_))
      all_goals exact fin_same trivial rfl
theorem pow_shape (a : List (List RD)) (j k : Int) (hl : a.length ≤ 9223372036854775807) (ha : argM a) (hf : fewM a) (hc : ckM a = 0) (hj : j ≤ 12) (hk : k ≤ 12) (hs : ¬ a.length = (a.getD 0 []).length) : CallOK Tryd.prog gl 7 [.sl 1 (mrows (a)), .v (.int .i64 j), .v (.int .i64 k)] (.v (.bool (true))) := by
  refine call_ok (C := ⟨Tryd.prog, gl, ti, 175, false⟩) ti_ok mixed 3000 Tryd.call7 Tryd.func7 rfl Tryd.ntmps7 (by simp) byClL byCl ?_
  rw [Tryd.results7]
  have f1 := few_ok hl ha
  rw [decide_eq_true hf] at f1
  have c1 := ref_CheckM a (by have := hf.1.1; omega)
  rw [hc] at c1
  obtain ⟨a1, a2, a3, a4, a5⟩ := ckM_ok hc
  have r0 := mrows_getD (a := a) (i := 0) a1
  have l0 : (vrows (a.getD 0 [])).length = (a.getD 0 []).length := vrows_length _
  have p1 := mat_Power_shape a j hc hs
  have p2 := mat_Power_shape a k hc hs
  have e1 := base_Is 11 11
  rw [decide_eq_true rfl] at e1
  clear hf a5
  generalize a.getD 0 [] = y at *
  repeat' (first | (simp only [go_sem, Int.reduceAdd, Int.reduceEq, Int.reduceLE, Int.reduceLT, Int.reduceMul, Int.reduceNeg, Int.reducePow, Int.reduceSub, Int.reduceToNat, Nat.reduceAdd, Nat.reduceBEq, Nat.reduceEqDiff, Nat.reduceLT, Nat.reduceLeDiff, Nat.reduceMul, Nat.reducePow, Nat.reduceSub, reduceCtorEq, reduceIte, IntKind.bits.eq_def, ti, tin, mrows_length, r0, l0]) | (simp (disch := omega) only [w64, wu64, wu32, Nat.min_eq_left]) | (with_reducible first | refine cF (f1) ?_ | refine dF (f1) ?_) | (with_reducible first | refine cF (c1) ?_ | refine dF (c1) ?_) | (with_reducible first | refine cF (awake04) ?_ | refine dF (awake04) ?_) | (with_reducible first | refine cF (p1) ?_ | refine dF (p1) ?_) | (with_reducible first | refine cF (p2) ?_ | refine dF (p2) ?_) | (with_reducible first | refine cF (e1) ?_ | refine dF (e1) ?_) | (refine aL ti_ok ?_) | (refine dL ti_ok ?_) | (refine dE (by kernel_rfl) ?_) | ((first | refine cC ?_ ?_ | refine gS ?_ ?_ | refine dS ?_ ?_) <;> intro hc <;> first | (exfalso; simp only [dcT, dcF, bnT, bnF, bnU, bnV] at hc; omega) | (simp only [hc]; try simp only [dcT, dcF, bnT, bnF, bnU, bnV] at hc)) | (refine aN (by omega) ?_) | (refine dN (by omega) ?_))
  all_goals exact fin_same trivial rfl
theorem pow_neg (a : List (List RD)) (j k : Int) (hl : a.length ≤ 9223372036854775807) (ha : argM a) (hf : fewM a) (hc : ckM a = 0) (hj : j ≤ 12) (hk : k ≤ 12) (hs : a.length = (a.getD 0 []).length) (hn : j < 0 ∨ k < 0) : CallOK Tryd.prog gl 7 [.sl 1 (mrows (a)), .v (.int .i64 j), .v (.int .i64 k)] (.v (.bool (true))) := by
  refine call_ok (C := ⟨Tryd.prog, gl, ti, 175, false⟩) ti_ok mixed 3000 Tryd.call7 Tryd.func7 rfl Tryd.ntmps7 (by simp) byClL byCl ?_
  rw [Tryd.results7]
  have f1 := few_ok hl ha
  rw [decide_eq_true hf] at f1
  have c1 := ref_CheckM a (by have := hf.1.1; omega)
  rw [hc] at c1
  obtain ⟨oa, _⟩ := few_okM ha hf
  obtain ⟨a1, a2, a3, a4, a5⟩ := ckM_ok hc
  have r0 := mrows_getD (a := a) (i := 0) a1
  have l0 : (vrows (a.getD 0 [])).length = (a.getD 0 []).length := vrows_length _
  have e1 := base_Is 3 3
  rw [decide_eq_true rfl] at e1
  by_cases hj0 : j < 0
  · have p1 := mat_Power_range a j hc hs (.inl hj0)
    have d1 : decide (0 ≤ j) = false := decide_eq_false (by omega)
    by_cases hk0 : k < 0
    · have p2 := mat_Power_range a k hc hs (.inl hk0)
      have d2 : decide (0 ≤ k) = false := decide_eq_false (by omega)
      clear hf a5 oa hn
      generalize a.getD 0 [] = y at *
      repeat' (first | (simp only [go_sem, Int.reduceAdd, Int.reduceEq, Int.reduceLE, Int.reduceLT, Int.reduceMul, Int.reduceNeg, Int.reducePow, Int.reduceSub, Int.reduceToNat, Nat.reduceAdd, Nat.reduceBEq, Nat.reduceEqDiff, Nat.reduceLT, Nat.reduceLeDiff, Nat.reduceMul, Nat.reducePow, Nat.reduceSub, reduceCtorEq, reduceIte, IntKind.bits.eq_def, ti, tin, mrows_length, r0, l0, d1, d2]) | (simp (disch := omega) only [w64, wu64, wu32, Nat.min_eq_left]) | (with_reducible first | refine cF (f1) ?_ | refine dF (f1) ?_) | (with_reducible first | refine cF (c1) ?_ | refine dF (c1) ?_) | (with_reducible first | refine cF (awake04) ?_ | refine dF (awake04) ?_) | (with_reducible first | refine cF (p1) ?_ | refine dF (p1) ?_) | (with_reducible first | refine cF (p2) ?_ | refine dF (p2) ?_) | (with_reducible first | refine cF (e1) ?_ | refine dF (e1) ?_) | (refine aL ti_ok ?_) | (refine dL ti_ok ?_) | (refine dE (by kernel_rfl) ?_) | ((first | refine cC ?_ ?_ | refine gS ?_ ?_ | refine dS ?_ ?_) <;> intro hc <;> first | (exfalso; simp only [dcT, dcF, bnT, bnF, bnU, bnV] at hc; omega) | (simp only [hc]; try simp only [dcT, dcF, bnT, bnF, bnU, bnV] at hc)) | (refine aN (by omega) ?_) | (refine dN (by omega) ?_))
      all_goals exact fin_same trivial rfl
    · obtain ⟨k', rfl⟩ : ∃ k' : Nat, k = k' := ⟨k.toNat, by omega⟩
      have p2 := mat_Power a k' 96 (by omega) hc hs (by omega) oa
      have d2 : decide (0 ≤ (k' : Int)) = true := decide_eq_true (by omega)
      clear hf a5 oa hn
      generalize a.getD 0 [] = y at *
      generalize powD (dyM a) k' = z at *
      repeat' (first | (simp only [go_sem, Int.reduceAdd, Int.reduceEq, Int.reduceLE, Int.reduceLT, Int.reduceMul, Int.reduceNeg, Int.reducePow, Int.reduceSub, Int.reduceToNat, Nat.reduceAdd, Nat.reduceBEq, Nat.reduceEqDiff, Nat.reduceLT, Nat.reduceLeDiff, Nat.reduceMul, Nat.reducePow, Nat.reduceSub, reduceCtorEq, reduceIte, IntKind.bits.eq_def, ti, tin, mrows_length, r0, l0, d1, d2]) | (simp (disch := omega) only [w64, wu64, wu32, Nat.min_eq_left]) | (with_reducible first | refine cF (f1) ?_ | refine dF (f1) ?_) | (with_reducible first | refine cF (c1) ?_ | refine dF (c1) ?_) | (with_reducible first | refine cF (awake04) ?_ | refine dF (awake04) ?_) | (with_reducible first | refine cF (p1) ?_ | refine dF (p1) ?_) | (with_reducible first | refine cF (p2) ?_ | refine dF (p2) ?_) | (with_reducible first | refine cF (e1) ?_ | refine dF (e1) ?_) | (refine aL ti_ok ?_) | (refine dL ti_ok ?_) | (refine dE (by kernel_rfl) ?_) | ((first | refine cC ?_ ?_ | refine gS ?_ ?_ | refine dS ?_ ?_) <;> intro hc <;> first | (exfalso; simp only [dcT, dcF, bnT, bnF, bnU, bnV] at hc; omega) | (simp only [hc]; try simp only [dcT, dcF, bnT, bnF, bnU, bnV] at hc)) | (refine aN (by omega) ?_) | (refine dN (by omega) ?_))
      all_goals exact fin_same trivial rfl
  · have hk0 : k < 0 := by omega
    have p2 := mat_Power_range a k hc hs (.inl hk0)
    have d2 : decide (0 ≤ k) = false := decide_eq_false (by omega)
    obtain ⟨j', rfl⟩ : ∃ j' : Nat, j = j' := ⟨j.toNat, by omega⟩
    have p1 := mat_Power a j' 96 (by omega) hc hs (by omega) oa
    have d1 : decide (0 ≤ (j' : Int)) = true := decide_eq_true (by omega)
    clear hf a5 oa hn
    generalize a.getD 0 [] = y at *
    generalize powD (dyM a) j' = z at *
    repeat' (first | (simp only [go_sem, Int.reduceAdd, Int.reduceEq, Int.reduceLE, Int.reduceLT, Int.reduceMul, Int.reduceNeg, Int.reducePow, Int.reduceSub, Int.reduceToNat, Nat.reduceAdd, Nat.reduceBEq, Nat.reduceEqDiff, Nat.reduceLT, Nat.reduceLeDiff, Nat.reduceMul, Nat.reducePow, Nat.reduceSub, reduceCtorEq, reduceIte, IntKind.bits.eq_def, ti, tin, mrows_length, r0, l0, d1, d2]) | (simp (disch := omega) only [w64, wu64, wu32, Nat.min_eq_left]) | (with_reducible first | refine cF (f1) ?_ | refine dF (f1) ?_) | (with_reducible first | refine cF (c1) ?_ | refine dF (c1) ?_) | (with_reducible first | refine cF (awake04) ?_ | refine dF (awake04) ?_) | (with_reducible first | refine cF (p1) ?_ | refine dF (p1) ?_) | (with_reducible first | refine cF (p2) ?_ | refine dF (p2) ?_) | (with_reducible first | refine cF (e1) ?_ | refine dF (e1) ?_) | (refine aL ti_ok ?_) | (refine dL ti_ok ?_) | (refine dE (by kernel_rfl) ?_) | ((first | refine cC ?_ ?_ | refine gS ?_ ?_ | refine dS ?_ ?_) <;> intro hc <;> first | (exfalso; simp only [dcT, dcF, bnT, bnF, bnU, bnV] at hc; omega) | (simp only [hc]; try simp only [dcT, dcF, bnT, bnF, bnU, bnV] at hc)) | (refine aN (by omega) ?_) | (refine dN (by omega) ?_))
    all_goals exact fin_same trivial rfl
theorem pow_in (a : List (List RD)) (j k : Nat) (hl : a.length ≤ 9223372036854775807) (ha : argM a) (hf : fewM a) (hc : ckM a = 0) (hj : j ≤ 12) (hk : k ≤ 12) (hs : a.length = (a.getD 0 []).length) : CallOK Tryd.prog gl 7 [.sl 1 (mrows (a)), .v (.int .i64 j), .v (.int .i64 k)] (.v (.bool (true))) := by
  refine call_ok (C := ⟨Tryd.prog, gl, ti, 175, false⟩) ti_ok mixed 3000 Tryd.call7 Tryd.func7 rfl Tryd.ntmps7 (by simp) byClL byCl ?_
  rw [Tryd.results7]
  have f1 := few_ok hl ha
  rw [decide_eq_true hf] at f1
  have c1 := ref_CheckM a (by have := hf.1.1; omega)
  rw [hc] at c1
  obtain ⟨oa, fa⟩ := few_okM ha hf
  obtain ⟨a1, a2, a3, a4, a5⟩ := ckM_ok hc
  have hr := rect_of hc
  rw [← hs] at hr
  have r0 := mrows_getD (a := a) (i := 0) a1
  have l0 : (vrows (a.getD 0 [])).length = (a.getD 0 []).length := vrows_length _
  have r00 := vrows_getD (l := a.getD 0 []) (i := 0) a3
  have p1 := mat_Power a j 96 (by omega) hc hs (by omega) oa
  have p2 := mat_Power a k 96 (by omega) hc hs (by omega) oa
  have p3 := mat_Power a (j + k) 96 (by omega) hc hs (by omega) oa
  have p4 := mat_Power a 1 96 (by omega) hc hs (by omega) oa
  have rj := pow_rect hr a1 j
  have rk := pow_rect hr a1 k
  have rjk := pow_rect hr a1 (j + k)
  have gj := mg_powD hr a1 (mg_el_raw oa) j
  have gk := mg_powD hr a1 (mg_el_raw oa) k
  have gjk := mg_powD hr a1 (mg_el_raw oa) (j + k)
  have b1 : j * (96 + a.length) ≤ 12 * 104 := Nat.mul_le_mul hj (by omega)
  have b2 : k * (96 + a.length) ≤ 12 * 104 := Nat.mul_le_mul hk (by omega)
  have b3 : (j + k) * (96 + a.length) ≤ 24 * 104 := Nat.mul_le_mul (by omega) (by omega)
  have bj : bothE (crM (powD (dyM a) j)) (crM (powD (dyM a) k)) (fitMul (crM (powD (dyM a) j)) (crM (powD (dyM a) k))) = 0 := by
    unfold bothE fitMul
    rw [if_pos (ckM_rect rj a1 a2 a1 a2), if_pos (ckM_rect rk a1 a2 a1 a2), if_pos (decide_eq_true (by rw [crM_get, List.length_map, rj.2 0 a1, crM_len, rk.1]))]
  have m1 := mat_Mul _ _ _ _ (by omega) bj (okM_cr gj (by omega)) (okM_cr gk (by omega))
  rw [dyM_cr, dyM_cr, pow_addD hr a1 fa j k (by omega)] at m1
  rw [pow_one hr a1 fa (by omega)] at p4
  have s1 := same_mat rjk (by omega) (by omega) (by omega) gjk
  have q0 := cmat_getD (l := dyM a) (i := 0) (by rw [dyM_len]; exact a1)
  have q00 := crows_getD (l := (dyM a).getD 0 []) (i := 0) (by rw [dyM_get, dyV_len]; exact a3)
  have ql : (mrows (crM (dyM a))).length = a.length := by rw [mrows_length, crM_len, dyM_len]
  have ql0 : (vrows (((dyM a).getD 0 []).map can)).length = (a.getD 0 []).length := by rw [crows_length, dyM_get, dyV_len]
  have e00 : ((dyM a).getD 0 []).getD 0 Dy.zero = ((a.getD 0 []).getD 0 RD.zero).dy := dyM_el a 0 0
  have x0 := oa 0 0
  have cc := ref_Cmp _ _ _ _ _ _ _ _ (x0.2.arg (by omega)) (RD.arg x0.1)
  rw [cmp_self] at cc
  rw [e00] at q00
  rw [n1'] at p4
  have q0 : (mrows (crM (dyM a))).getD 0 [] = [.sl 3 (vrows (((dyM a).getD 0 []).map can))] := q0
  clear hf a5 oa gj gk gjk rj rk rjk bj x0 e00 fa hr
  unfold vrow at r00
  generalize ((a.getD 0 []).getD 0 RD.zero).dy = w at *
  generalize (a.getD 0 []).getD 0 RD.zero = r at *
  generalize a.getD 0 [] = y at *
  generalize (vrows (((dyM a).getD 0 []).map can)) = V at *
  generalize mrows (crM (dyM a)) = MA at *
  generalize crM (powD (dyM a) (j + k)) = Z3 at *
  generalize crM (powD (dyM a) j) = Z1 at *
  generalize crM (powD (dyM a) k) = Z2 at *
  have cast : ((j + k : Nat) : Int) = (j : Int) + (k : Int) := Int.natCast_add j k
  rw [cast] at p3
  repeat' (first | (simp only [go_sem, Int.reduceAdd, Int.reduceEq, Int.reduceLE, Int.reduceLT, Int.reduceMul, Int.reduceNeg, Int.reducePow, Int.reduceSub, Int.reduceToNat, Nat.reduceAdd, Nat.reduceBEq, Nat.reduceEqDiff, Nat.reduceLT, Nat.reduceLeDiff, Nat.reduceMul, Nat.reducePow, Nat.reduceSub, reduceCtorEq, reduceIte, IntKind.bits.eq_def, ti, tin, mrows_length, r0, l0, r00, q0, q00, ql, ql0]) | (simp (disch := omega) only [w64, wu64, wu32, Nat.min_eq_left]) | (with_reducible first | refine cF (f1) ?_ | refine dF (f1) ?_) | (with_reducible first | refine cF (c1) ?_ | refine dF (c1) ?_) | (with_reducible first | refine cF (awake04) ?_ | refine dF (awake04) ?_) | (with_reducible first | refine cF (p1) ?_ | refine dF (p1) ?_) | (with_reducible first | refine cF (p2) ?_ | refine dF (p2) ?_) | (with_reducible first | refine cF (p3) ?_ | refine dF (p3) ?_) | (with_reducible first | refine cF (p4) ?_ | refine dF (p4) ?_) | (with_reducible first | refine cF (m1) ?_ | refine dF (m1) ?_) | (with_reducible first | refine cF (s1) ?_ | refine dF (s1) ?_) | (with_reducible first | refine cF (cc) ?_ | refine dF (cc) ?_) | (refine aL ti_ok ?_) | (refine dL ti_ok ?_) | (refine dE (by kernel_rfl) ?_) | ((first | refine cC ?_ ?_ | refine gS ?_ ?_ | refine dS ?_ ?_) <;> intro hc <;> first | (exfalso; simp only [dcT, dcF, bnT, bnF, bnU, bnV] at hc; omega) | (simp only [hc]; try simp only [dcT, dcF, bnT, bnF, bnU, bnV] at hc)) | (refine aN (by omega) ?_) | (refine dN (by omega) ?_))
  all_goals exact fin_same trivial rfl
theorem powers_law (r : List (List AV)) (j k : Int) (hr : r.length ≤ maxLen) (fr : ∀ x ∈ r, FitL [.sl [.bool, .sl [.int .u32], .int .i64]] x) (hj : -9223372036854775808 ≤ j ∧ j ≤ 9223372036854775807) (hk : -9223372036854775808 ≤ k ∧ k ≤ 9223372036854775807) :
    CallOK Tryd.prog gl 7 [.sl 1 r, .v (.int .i64 j), .v (.int .i64 k)] (.v (.bool true)) := by
  unfold maxLen at hr
  obtain ⟨a, ha, rfl, h1⟩ := fit_mrows fr
  have hl : a.length ≤ 9223372036854775807 := by omega
  by_cases hf : fewM a
  · by_cases hc : ckM a = 0
    · by_cases hfar : 12 < j ∨ 12 < k
      · exact pow_far a j k hl ha hf hc hfar
      · by_cases hs : a.length = (a.getD 0 []).length
        · by_cases hn : j < 0 ∨ k < 0
          · exact pow_neg a j k hl ha hf hc (by omega) (by omega) hs hn
          · obtain ⟨j', rfl⟩ : ∃ j' : Nat, j = j' := ⟨j.toNat, by omega⟩
            obtain ⟨k', rfl⟩ : ∃ k' : Nat, k = k' := ⟨k.toNat, by omega⟩
            exact pow_in a j' k' hl ha hf hc (by omega) (by omega) hs
        · exact pow_shape a j k hl ha hf hc (by omega) (by omega) hs
    · exact pow_bad a j k hl ha hf hc
  · exact pow_out a j k hl ha hf
end Go.Proofs.YtdjgckcninibhaaDoor
