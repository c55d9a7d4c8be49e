/- Layer 18 (tube): CheckCert, quotients rounded up, norms, reaches. -/
import Derived.Test.YtpggiabnhodjpaaGreatDoorTub2
import Derived.Test.YtpggiabnhodjpaaGreatDoorDy6
import Derived.Test.YtpggiabnhodjpaaGreatDoorU4
set_option linter.unusedSimpArgs false
set_option linter.unusedVariables false
set_option linter.deprecated false
namespace Go.Proofs.YtpggiabnhodjpaaGreatDoor
open Go Go.Ax
set_option maxRecDepth 100000
set_option maxHeartbeats 4000000
theorem matP_Id (n : Nat) (h1 : 1 ≤ n) (h8 : n ≤ 8) : CallOK Tryz.prog gl 120 [.v (.int .i64 n)] (.tup [.sl 1 (mrows (crM (unitD n))), .v .nilIface]) := by
  refine call_ok (C := ⟨Tryz.prog, gl, ti, 13, false⟩) ti_ok mixed 3000 Tryz.call120 Tryz.func120 rfl Tryz.ntmps120 (by simp) byClL byCl ?_
  rw [Tryz.results120]
  have u := mat_unit n h8
  generalize crM (unitD n) = z at *
  repeat' (first | (simp only [go_sem, seval, IntKind.bits.eq_def, ti, tin]) | (simp (disch := omega) only [wA]) | (with_reducible first | refine cF u ?_ | refine dF u ?_) | refine aL ti_ok ?_ | refine dL ti_ok ?_ | refine dG ?_ | ((first | refine cC ?_ ?_ | refine gS ?_ ?_ | refine dS ?_ ?_) <;> intro hc <;> first | (exfalso; simp only [dcA] at hc; omega) | (simp only [hc]; try simp only [dcA] at hc)) | refine aO ?_ | refine dO ?_)
  all_goals exact fin_same trivial rfl
end Go.Proofs.YtpggiabnhodjpaaGreatDoor
