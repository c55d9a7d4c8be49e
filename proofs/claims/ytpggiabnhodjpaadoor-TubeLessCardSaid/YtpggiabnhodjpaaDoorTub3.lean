/- Layer 18 (tube): CheckCert, quotients rounded up, norms, reaches. -/
import Derived.Test.YtpggiabnhodjpaaDoorTub2
import Derived.Test.YtpggiabnhodjpaaDoorDy6
import Derived.Test.YtpggiabnhodjpaaDoorU4
set_option linter.unusedSimpArgs false
set_option linter.unusedVariables false
set_option linter.deprecated false
namespace Go.Proofs.YtpggiabnhodjpaaDoor
open Go Go.Ax
set_option maxRecDepth 100000
set_option maxHeartbeats 4000000

theorem matP_Id (n : Nat) (h1 : 1 ≤ n) (h8 : n ≤ 8) : CallOK Tryd.prog gl 55 [.v (.int .i64 n)] (.tup [.sl 1 (mrows (crM (unitD n))), .v .nilIface]) := by
  refine call_ok (C := ⟨Tryd.prog, gl, ti, 13, false⟩) ti_ok mixed 3000 Tryd.call55 Tryd.func55 rfl Tryd.ntmps55 (by simp) byClL byCl ?_
  rw [Tryd.results55]
  have u := mat_unit n h8
  generalize crM (unitD n) = z at *
  repeat' (first | (simp only [go_sem, Int.reduceAdd, Int.reduceEq, Int.reduceLE, Int.reduceLT, Int.reduceMul, Int.reduceNeg, Int.reducePow, Int.reduceSub, Int.reduceToNat, Nat.reduceAdd, Nat.reduceBEq, Nat.reduceEqDiff, Nat.reduceLT, Nat.reduceLeDiff, Nat.reduceMul, Nat.reducePow, Nat.reduceSub, reduceCtorEq, reduceIte, IntKind.bits.eq_def, ti, tin]) | (simp (disch := omega) only [w64, wu64, wu32, Nat.min_eq_left]) | (with_reducible first | refine cF (u) ?_ | refine dF (u) ?_) | (refine aL ti_ok ?_) | (refine dL ti_ok ?_) | (refine dE (by kernel_rfl) ?_) | ((first | refine cC ?_ ?_ | refine gS ?_ ?_ | refine dS ?_ ?_) <;> intro hc <;> first | (exfalso; simp only [dcT, dcF, bnT, bnF, bnU, bnV] at hc; omega) | (simp only [hc]; try simp only [dcT, dcF, bnT, bnF, bnU, bnV] at hc)) | (refine aN (by omega) ?_) | (refine dN (by omega) ?_))
  all_goals exact fin_same trivial rfl
/-! ### the norms of the powers -/
end Go.Proofs.YtpggiabnhodjpaaDoor
