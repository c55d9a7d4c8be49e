/- The statement IdentifyDifferences: its code returns true. -/
import Derived.Test.YtkdpaoicekgalaaDoorL49
import Derived.Test.YtkdpaoicekgalaaDoorIdnD
set_option linter.unusedSimpArgs false
set_option linter.unusedVariables false
set_option linter.deprecated false
namespace Go.Proofs.YtkdpaoicekgalaaDoor
open Go Go.Ax
set_option maxRecDepth 100000
set_option maxHeartbeats 4000000

theorem eq_Sample : EqTy Tryd.prog 61 [true, true] := ⟨⟨_, Tryd.underlying61⟩, by kernel_rfl, by kernel_rfl⟩
theorem diffs_long (x y : List Int) (hx : x.length ≤ 9223372036854775807) (hy : y.length ≤ 9223372036854775807) (h : 80 < x.length ∨ 80 < y.length) : CallOK Tryd.prog gl 7 [.sl 1 (rws irow x), .sl 1 (rws irow y)] (.v (.bool (true))) := by
  refine call_ok (C := ⟨Tryd.prog, gl, ti, 61, false⟩) ti_ok mixed 3000 Tryd.call7 Tryd.func7 rfl Tryd.ntmps7 (by simp) byClL byCl ?_
  rw [Tryd.results7]
  by_cases h1 : 80 < x.length
  ·
    clear h
    repeat' (first | (simp only [go_sem, Int.reduceAdd, Int.reduceEq, Int.reduceLE, Int.reduceLT, Int.reduceMul, Int.reduceNeg, Int.reducePow, Int.reduceSub, Int.reduceToNat, Nat.reduceAdd, Nat.reduceBEq, Nat.reduceEqDiff, Nat.reduceLT, Nat.reduceLeDiff, Nat.reduceMul, Nat.reducePow, Nat.reduceSub, reduceCtorEq, reduceIte, IntKind.bits.eq_def, ti, tin, rws_length]) | (simp (disch := omega) only [w64, wu64, wu32, Nat.min_eq_left]) | (with_reducible first | refine callF_of (awake49) ?_ | refine drawF_of (awake49) ?_) | (refine after_lit ti_ok ?_) | (refine drawAfter_lit ti_ok ?_) | (refine drawEnd_of (by kernel_rfl) ?_) | ((first | refine cond_cases (fun hc => ?_) (fun hc => ?_) | refine guard_split (fun hc => ?_) (fun hc => ?_) | refine drawGuard_split (fun hc => ?_) (fun hc => ?_)) <;> first | (exfalso; simp only [dcT, dcF, bnT, bnF, bnU, bnV] at hc; omega) | (simp only [hc]; try simp only [dcT, dcF, bnT, bnF, bnU, bnV] at hc)) | (refine after_need (by omega) ?_) | (refine drawAfter_need (by omega) ?_))
    all_goals exact fin_same trivial rfl
  ·
    have h2 : 80 < y.length := by omega
    clear h
    repeat' (first | (simp only [go_sem, Int.reduceAdd, Int.reduceEq, Int.reduceLE, Int.reduceLT, Int.reduceMul, Int.reduceNeg, Int.reducePow, Int.reduceSub, Int.reduceToNat, Nat.reduceAdd, Nat.reduceBEq, Nat.reduceEqDiff, Nat.reduceLT, Nat.reduceLeDiff, Nat.reduceMul, Nat.reducePow, Nat.reduceSub, reduceCtorEq, reduceIte, IntKind.bits.eq_def, ti, tin, rws_length]) | (simp (disch := omega) only [w64, wu64, wu32, Nat.min_eq_left]) | (with_reducible first | refine callF_of (awake49) ?_ | refine drawF_of (awake49) ?_) | (refine after_lit ti_ok ?_) | (refine drawAfter_lit ti_ok ?_) | (refine drawEnd_of (by kernel_rfl) ?_) | ((first | refine cond_cases (fun hc => ?_) (fun hc => ?_) | refine guard_split (fun hc => ?_) (fun hc => ?_) | refine drawGuard_split (fun hc => ?_) (fun hc => ?_)) <;> first | (exfalso; simp only [dcT, dcF, bnT, bnF, bnU, bnV] at hc; omega) | (simp only [hc]; try simp only [dcT, dcF, bnT, bnF, bnU, bnV] at hc)) | (refine after_need (by omega) ?_) | (refine drawAfter_need (by omega) ?_))
    all_goals exact fin_same trivial rfl
theorem diffs_err (x y : List Int) (h1 : x.length ≤ 80) (h2 : y.length ≤ 80) (h : ckDf x y ≠ 0) : CallOK Tryd.prog gl 7 [.sl 1 (rws irow x), .sl 1 (rws irow y)] (.v (.bool (true))) := by
  refine call_ok (C := ⟨Tryd.prog, gl, ti, 61, false⟩) ti_ok mixed 3000 Tryd.call7 Tryd.func7 rfl Tryd.ntmps7 (by simp) byClL byCl ?_
  rw [Tryd.results7]
  have d1 := id_Df_err x y _ rfl _ rfl (by omega) (by omega) h
  have d2 := r49_Df_err x y _ rfl _ rfl (by omega) (by omega) h
  have n1 := base_NumE (ckDf x y)
  clear h
  generalize ckDf x y = e at *
  repeat' (first | (simp only [go_sem, Int.reduceAdd, Int.reduceEq, Int.reduceLE, Int.reduceLT, Int.reduceMul, Int.reduceNeg, Int.reducePow, Int.reduceSub, Int.reduceToNat, Nat.reduceAdd, Nat.reduceBEq, Nat.reduceEqDiff, Nat.reduceLT, Nat.reduceLeDiff, Nat.reduceMul, Nat.reducePow, Nat.reduceSub, reduceCtorEq, reduceIte, IntKind.bits.eq_def, ti, tin, rws_length]) | (simp (disch := omega) only [w64, wu64, wu32, Nat.min_eq_left]) | (refine l_unroll 1 _ rfl ?_) | (with_reducible first | refine callF_of (awake49) ?_ | refine drawF_of (awake49) ?_) | (with_reducible first | refine callF_of (d1) ?_ | refine drawF_of (d1) ?_) | (with_reducible first | refine callF_of (d2) ?_ | refine drawF_of (d2) ?_) | (with_reducible first | refine callF_of (n1) ?_ | refine drawF_of (n1) ?_) | (refine after_lit ti_ok ?_) | (refine drawAfter_lit ti_ok ?_) | (refine drawEnd_of (by kernel_rfl) ?_) | ((first | refine cond_cases (fun hc => ?_) (fun hc => ?_) | refine guard_split (fun hc => ?_) (fun hc => ?_) | refine drawGuard_split (fun hc => ?_) (fun hc => ?_)) <;> first | (exfalso; simp only [dcT, dcF, bnT, bnF, bnU, bnV] at hc; omega) | (simp only [hc]; try simp only [dcT, dcF, bnT, bnF, bnU, bnV] at hc)) | (refine after_need (by omega) ?_) | (refine drawAfter_need (by omega) ?_))
  all_goals exact fin_same trivial rfl
theorem diffs_ok (x y : List Int) (n : Nat) (hx : x.length = n) (hy : y.length = n) (h2 : 2 ≤ n) (h3 : n ≤ 65) (hax : allB x) (hay : allB y) : CallOK Tryd.prog gl 7 [.sl 1 (rws irow x), .sl 1 (rws irow y)] (.v (.bool (true))) := by
  refine call_ok (C := ⟨Tryd.prog, gl, ti, 61, false⟩) ti_ok mixed 3000 Tryd.call7 Tryd.func7 rfl Tryd.ntmps7 (by simp) byClL byCl ?_
  rw [Tryd.results7]
  have d1 := id_Df_ok x y n hx hy h2 h3 hax hay
  have d2 := r49_Df_ok x y n hx hy h2 h3 hax hay
  have n1 := base_Num_nil
  have ln := dfS_length x y (n - 1)
  generalize dfS x y (n - 1) = l at *
  repeat' (first | (simp only [go_sem, Int.reduceAdd, Int.reduceEq, Int.reduceLE, Int.reduceLT, Int.reduceMul, Int.reduceNeg, Int.reducePow, Int.reduceSub, Int.reduceToNat, Nat.reduceAdd, Nat.reduceBEq, Nat.reduceEqDiff, Nat.reduceLT, Nat.reduceLeDiff, Nat.reduceMul, Nat.reducePow, Nat.reduceSub, reduceCtorEq, reduceIte, IntKind.bits.eq_def, ti, tin, rws_length, hx, hy, ln]) | (simp (disch := omega) only [w64, wu64, wu32, Nat.min_eq_left]) | (with_reducible first | refine callF_of (awake49) ?_ | refine drawF_of (awake49) ?_) | (with_reducible first | refine callF_of (d1) ?_ | refine drawF_of (d1) ?_) | (with_reducible first | refine callF_of (d2) ?_ | refine drawF_of (d2) ?_) | (with_reducible first | refine callF_of (n1) ?_ | refine drawF_of (n1) ?_) | (refine after_lit ti_ok ?_) | (refine drawAfter_lit ti_ok ?_) | (refine drawEnd_of (by kernel_rfl) ?_) | ((first | refine cond_cases (fun hc => ?_) (fun hc => ?_) | refine guard_split (fun hc => ?_) (fun hc => ?_) | refine drawGuard_split (fun hc => ?_) (fun hc => ?_)) <;> first | (exfalso; simp only [dcT, dcF, bnT, bnF, bnU, bnV] at hc; omega) | (simp only [hc]; try simp only [dcT, dcF, bnT, bnF, bnU, bnV] at hc)) | (refine after_need (by omega) ?_) | (refine drawAfter_need (by omega) ?_))
  refine l_loop (α := Nat) (fun k => ⟨[(5, .sl 2 (rws prow l)), (7, .sl 2 (rws prow l)), (47, .v (.int .i64 ((n - 1 : Nat)))), (48, .v (.int .i64 k))], [], 0⟩) (fun k => k ≤ n - 1) (fun k => n - 1 - k) (0) _ byFresh (fun _ h => by first | (cases h; done) | exact Nat.le_of_ble_eq_true rfl) ?_ ?_ ?_
  · exact Nat.zero_le _
  · exact byWeak
  intro k hk
  by_cases hkn : k < n - 1
  ·
    have rk := rws_getD (f := prow) (l := l) (i := k) (0, 0) (by omega)
    generalize l.getD k (0, 0) = p at *
    obtain ⟨u, v⟩ := p
    rw [prow_mk] at rk
    repeat' (first | (simp only [go_sem, Int.reduceAdd, Int.reduceEq, Int.reduceLE, Int.reduceLT, Int.reduceMul, Int.reduceNeg, Int.reducePow, Int.reduceSub, Int.reduceToNat, Nat.reduceAdd, Nat.reduceBEq, Nat.reduceEqDiff, Nat.reduceLT, Nat.reduceLeDiff, Nat.reduceMul, Nat.reducePow, Nat.reduceSub, reduceCtorEq, reduceIte, IntKind.bits.eq_def, ti, tin, rws_length, ln, rk]) | (simp (disch := omega) only [w64, wu64, wu32, Nat.min_eq_left]) | (refine after_sem (sem_eql eq_Sample rfl rfl rfl rfl rfl rfl) ?_) | (refine after_sem (sem_neq eq_Sample rfl rfl rfl rfl rfl rfl) ?_) | (refine drawAfter_sem (sem_eql eq_Sample rfl rfl rfl rfl rfl rfl) ?_) | (refine drawAfter_sem (sem_neq eq_Sample rfl rfl rfl rfl rfl rfl) ?_) | (refine after_lit ti_ok ?_) | (refine drawAfter_lit ti_ok ?_) | (refine drawEnd_of (by kernel_rfl) ?_) | ((first | refine cond_cases (fun hc => ?_) (fun hc => ?_) | refine guard_split (fun hc => ?_) (fun hc => ?_) | refine drawGuard_split (fun hc => ?_) (fun hc => ?_)) <;> first | (exfalso; simp only [dcT, dcF, bnT, bnF, bnU, bnV] at hc; omega) | (simp only [hc]; try simp only [dcT, dcF, bnT, bnF, bnU, bnV] at hc)) | (refine after_need (by omega) ?_) | (refine drawAfter_need (by omega) ?_))
    refine roundEnd_of (α := Nat) (k + 1) ?_ ?_ ?_
    · show k + 1 ≤ n - 1; omega
    · omega
    · exact byWeak
  ·
    repeat' (first | (simp only [go_sem, Int.reduceAdd, Int.reduceEq, Int.reduceLE, Int.reduceLT, Int.reduceMul, Int.reduceNeg, Int.reducePow, Int.reduceSub, Int.reduceToNat, Nat.reduceAdd, Nat.reduceBEq, Nat.reduceEqDiff, Nat.reduceLT, Nat.reduceLeDiff, Nat.reduceMul, Nat.reducePow, Nat.reduceSub, reduceCtorEq, reduceIte, IntKind.bits.eq_def, ti, tin, rws_length, ln]) | (simp (disch := omega) only [w64, wu64, wu32, Nat.min_eq_left]) | (refine after_lit ti_ok ?_) | (refine drawAfter_lit ti_ok ?_) | (refine drawEnd_of (by kernel_rfl) ?_) | ((first | refine cond_cases (fun hc => ?_) (fun hc => ?_) | refine guard_split (fun hc => ?_) (fun hc => ?_) | refine drawGuard_split (fun hc => ?_) (fun hc => ?_)) <;> first | (exfalso; simp only [dcT, dcF, bnT, bnF, bnU, bnV] at hc; omega) | (simp only [hc]; try simp only [dcT, dcF, bnT, bnF, bnU, bnV] at hc)) | (refine after_need (by omega) ?_) | (refine drawAfter_need (by omega) ?_))
    exact fin_same trivial rfl
theorem diffs_law (r r' : List (List AV)) (m1 : r.length ≤ maxLen) (f1 : ∀ x ∈ r, FitL [.int .i64] x) (m2 : r'.length ≤ maxLen) (f2 : ∀ x ∈ r', FitL [.int .i64] x) : CallOK Tryd.prog gl 7 [.sl 1 r, .sl 1 r'] (.v (.bool true)) := by
  unfold maxLen at *
  obtain ⟨x, b1, rfl, z1⟩ := fit_irows f1
  obtain ⟨y, b2, rfl, z2⟩ := fit_irows f2
  by_cases hl : 80 < x.length ∨ 80 < y.length
  · exact diffs_long x y (by omega) (by omega) hl
  · by_cases h : ckDf x y = 0
    · unfold ckDf at h
      split at h
      · omega
      · split at h
        · omega
        · split at h
          · rename_i h3 h4 h5
            exact diffs_ok x y x.length rfl (by omega) (by omega) (by omega) h5.1 h5.2
          · omega
    · exact diffs_err x y (by omega) (by omega) h
end Go.Proofs.YtkdpaoicekgalaaDoor
