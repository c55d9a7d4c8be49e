/- The plain arithmetic of the reference (ref02), part 1: words. -/
import Derived.Test.YtpggiabnhodjpaaDoorDy6
set_option linter.unusedSimpArgs false
set_option linter.unusedVariables false
set_option linter.deprecated false
namespace Go.Proofs.YtpggiabnhodjpaaDoor
open Go Go.Ax
set_option maxRecDepth 100000
set_option maxHeartbeats 4000000

theorem u32s_snoc {ws : List Nat} {k w : Nat} (h : ws.length = k) : (u32s ws).take k ++ [[AV.v (.int .u32 (w : Nat))]] = u32s (ws ++ [w]) := by
  rw [u32s_take, List.take_of_length_le (by omega), ← u32s_append]; rfl
theorem wd_snoc {ws : List Nat} {w : Nat} (h : Wd ws) (hw : w < 4294967296) : Wd (ws ++ [w]) := h.append (.cons hw .nil)
theorem val_snoc (ws : List Nat) (w : Nat) : val (ws ++ [w]) = val ws + 4294967296 ^ ws.length * w := by rw [val_append]; simp [val]
theorem ref_trim (ws : List Nat) (h : Wd ws) (hl : ws.length ≤ 4611686018427387904) : CallOK Tryd.prog gl 51 [.sl 1 (u32s (ws))] (.sl 1 (u32s (words (val ws)))) := by
  refine call_ok (C := ⟨Tryd.prog, gl, ti, 21, false⟩) ti_ok mixed 3000 Tryd.call51 Tryd.func51 rfl Tryd.ntmps51 (by simp) byClL byCl ?_
  rw [Tryd.results51]
  repeat' (first | (simp only [go_sem, Int.reduceAdd, Int.reduceEq, Int.reduceLE, Int.reduceLT, Int.reduceMul, Int.reduceNeg, Int.reducePow, Int.reduceSub, Int.reduceToNat, Nat.reduceAdd, Nat.reduceBEq, Nat.reduceEqDiff, Nat.reduceLT, Nat.reduceLeDiff, Nat.reduceMul, Nat.reducePow, Nat.reduceSub, reduceCtorEq, reduceIte, IntKind.bits.eq_def, ti, tin, u32s_length]) | (simp (disch := omega) only [w64, wu64, wu32, Nat.min_eq_left]) | (refine aL ti_ok ?_) | (refine dL ti_ok ?_) | (refine dE (by kernel_rfl) ?_) | ((first | refine cC ?_ ?_ | refine gS ?_ ?_ | refine dS ?_ ?_) <;> intro hc <;> first | (exfalso; simp only [dcT, dcF, bnT, bnF, bnU, bnV] at hc; omega) | (simp only [hc]; try simp only [dcT, dcF, bnT, bnF, bnU, bnV] at hc)) | (refine aN (by omega) ?_) | (refine dN (by omega) ?_))
  refine l_loop (α := Nat) (fun k => ⟨[(0, .sl 1 (u32s (ws))), (3, .v (.int .i64 k)), (2, .v (.slice none 0 0))], [], 0⟩) (fun k => k ≤ ws.length ∧ val (ws.take k) = val ws) (fun k => k) (ws.length) _ byFresh (fun _ h => by first | (cases h; done) | exact Nat.le_of_ble_eq_true rfl) ?_ ?_ ?_
  · exact ⟨Nat.le_refl _, by simp⟩
  · exact byWeak
  rintro k ⟨hk, hv⟩
  have fin : (k = 0 ∨ ws.getD (k - 1) 0 ≠ 0) → ((u32s ws).drop 0).take (k - 0) = u32s (words (val ws)) := fun ht => by
    rw [List.drop_zero, Nat.sub_zero, u32s_take, trim_end h hk hv ht]
  cases k with
  | zero =>
    repeat' (first | (simp only [go_sem, Int.reduceAdd, Int.reduceEq, Int.reduceLE, Int.reduceLT, Int.reduceMul, Int.reduceNeg, Int.reducePow, Int.reduceSub, Int.reduceToNat, Nat.reduceAdd, Nat.reduceBEq, Nat.reduceEqDiff, Nat.reduceLT, Nat.reduceLeDiff, Nat.reduceMul, Nat.reducePow, Nat.reduceSub, reduceCtorEq, reduceIte, IntKind.bits.eq_def, ti, tin, u32s_length]) | (simp (disch := omega) only [w64, wu64, wu32, Nat.min_eq_left]) | (refine aL ti_ok ?_) | (refine dL ti_ok ?_) | (refine dE (by kernel_rfl) ?_) | ((first | refine cC ?_ ?_ | refine gS ?_ ?_ | refine dS ?_ ?_) <;> intro hc <;> first | (exfalso; simp only [dcT, dcF, bnT, bnF, bnU, bnV] at hc; omega) | (simp only [hc]; try simp only [dcT, dcF, bnT, bnF, bnU, bnV] at hc)) | (refine aN (by omega) ?_) | (refine dN (by omega) ?_))
    have fin := fin (.inl rfl)
    simp only [List.drop_zero, Nat.sub_zero] at fin
    refine fin_same trivial ?_
    simp [one, ← fin]
  | succ m =>
    have e1 : ((m + 1 : Nat) : Int) - 1 = (m : Int) := by omega
    have r := u32s_getD (ws := ws) (i := m) (by omega)
    by_cases h0 : ws.getD m 0 = 0
    ·
      rw [h0] at r
      repeat' (first | (simp only [go_sem, Int.reduceAdd, Int.reduceEq, Int.reduceLE, Int.reduceLT, Int.reduceMul, Int.reduceNeg, Int.reducePow, Int.reduceSub, Int.reduceToNat, Nat.reduceAdd, Nat.reduceBEq, Nat.reduceEqDiff, Nat.reduceLT, Nat.reduceLeDiff, Nat.reduceMul, Nat.reducePow, Nat.reduceSub, reduceCtorEq, reduceIte, IntKind.bits.eq_def, ti, tin, u32s_length, e1, r]) | (simp (disch := omega) only [w64, wu64, wu32, Nat.min_eq_left]) | (refine aL ti_ok ?_) | (refine dL ti_ok ?_) | (refine dE (by kernel_rfl) ?_) | ((first | refine cC ?_ ?_ | refine gS ?_ ?_ | refine dS ?_ ?_) <;> intro hc <;> first | (exfalso; simp only [dcT, dcF, bnT, bnF, bnU, bnV] at hc; omega) | (simp only [hc]; try simp only [dcT, dcF, bnT, bnF, bnU, bnV] at hc)) | (refine aN (by omega) ?_) | (refine dN (by omega) ?_))
      refine roundEnd_of (α := Nat) m ⟨by omega, ?_⟩ (by omega) ?_
      · rw [← hv, val_take_succ (by omega), h0, Nat.mul_zero, Nat.add_zero]
      · exact byWeak
    ·
      have fin := fin (.inr h0)
      have h1 : ¬ ((ws.getD m 0 : Nat) : Int) = 0 := by omega
      generalize ws.getD m 0 = x at *
      repeat' (first | (simp only [go_sem, Int.reduceAdd, Int.reduceEq, Int.reduceLE, Int.reduceLT, Int.reduceMul, Int.reduceNeg, Int.reducePow, Int.reduceSub, Int.reduceToNat, Nat.reduceAdd, Nat.reduceBEq, Nat.reduceEqDiff, Nat.reduceLT, Nat.reduceLeDiff, Nat.reduceMul, Nat.reducePow, Nat.reduceSub, reduceCtorEq, reduceIte, IntKind.bits.eq_def, ti, tin, u32s_length, e1, r]) | (simp (disch := omega) only [w64, wu64, wu32, Nat.min_eq_left]) | (refine aL ti_ok ?_) | (refine dL ti_ok ?_) | (refine dE (by kernel_rfl) ?_) | ((first | refine cC ?_ ?_ | refine gS ?_ ?_ | refine dS ?_ ?_) <;> intro hc <;> first | (exfalso; simp only [dcT, dcF, bnT, bnF, bnU, bnV] at hc; omega) | (simp only [hc]; try simp only [dcT, dcF, bnT, bnF, bnU, bnV] at hc)) | (refine aN (by omega) ?_) | (refine dN (by omega) ?_))
      refine fin_same trivial ?_
      simp only [List.drop_zero] at fin
      simp only [one, Int.toNat_natCast, fin]

end Go.Proofs.YtpggiabnhodjpaaDoor
/- The plain arithmetic of the reference (ref02), part 2: minus, less. -/
set_option linter.unusedSimpArgs false
set_option linter.unusedVariables false
set_option linter.deprecated false
namespace Go.Proofs.YtpggiabnhodjpaaDoor
open Go Go.Ax
set_option maxRecDepth 100000
set_option maxHeartbeats 4000000

end Go.Proofs.YtpggiabnhodjpaaDoor
/- The plain arithmetic of the reference (ref02), part 3: less, left. -/
set_option linter.unusedSimpArgs false
set_option linter.unusedVariables false
set_option linter.deprecated false
namespace Go.Proofs.YtpggiabnhodjpaaDoor
open Go Go.Ax
set_option maxRecDepth 100000
set_option maxHeartbeats 4000000

end Go.Proofs.YtpggiabnhodjpaaDoor
