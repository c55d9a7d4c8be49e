/- The layers 5 to 7 (angle, sine, arctan) and their references, as layer 39 uses them. -/
import Derived.Test.YtpggiabnhodjpaaGreatDoorPi
import Derived.Test.YtpggiabnhodjpaaGreatDoorU2
import Derived.Test.YtpggiabnhodjpaaGreatDoorTy
set_option linter.unusedSimpArgs false
set_option linter.unusedVariables false
set_option linter.deprecated false
namespace Go.Proofs.YtpggiabnhodjpaaGreatDoor
open Go Go.Ax
set_option maxRecDepth 100000
set_option maxHeartbeats 4000000
theorem ang_Norm (x : Int) : CallOK Tryz.prog gl 179 [.v (.int .i64 x)] (.v (.int .i64 (x % 65536))) := by
  refine call_ok (C := ⟨Tryz.prog, gl, ti, 5, false⟩) ti_ok mixed 3000 Tryz.call179 Tryz.func179 rfl Tryz.ntmps179 (by simp) byClL byCl ?_
  rw [Tryz.results179]
  repeat' (first | (simp only [go_sem, seval, IntKind.bits.eq_def, ti, tin, and_16]) | (simp (disch := omega) only [wA]) | refine aL ti_ok ?_ | refine dL ti_ok ?_ | refine dG ?_ | ((first | refine cC ?_ ?_ | refine gS ?_ ?_ | refine dS ?_ ?_) <;> intro hc <;> first | (exfalso; simp only [dcA] at hc; omega) | (simp only [hc]; try simp only [dcA] at hc)) | refine aO ?_ | refine dO ?_)
  exact fin_same trivial rfl
def dif (a b : Int) : Int := (a - b + 32768) % 65536 - 32768
theorem dif_bd (a b : Int) : -32768 ≤ dif a b ∧ dif a b ≤ 32767 := by unfold dif; omega
theorem dif_wrap (a b : Int) : IntKind.i64.wrap (IntKind.i64.wrap (a - b) + 32768) % 65536 = (a - b + 32768) % 65536 := by
  rw [IntKind.wrap_i64, IntKind.wrap_i64]; omega
theorem ang_Diff (a b : Int) : CallOK Tryz.prog gl 156 [.v (.int .i64 a), .v (.int .i64 b)] (.v (.int .i64 (dif a b))) := by
  refine call_ok (C := ⟨Tryz.prog, gl, ti, 11, false⟩) ti_ok mixed 3000 Tryz.call156 Tryz.func156 rfl Tryz.ntmps156 (by simp) byClL byCl ?_
  rw [Tryz.results156]
  repeat' (first | (simp only [go_sem, seval, IntKind.bits.eq_def, ti, tin, dif_wrap]) | (simp (disch := omega) only [wA]) | (with_reducible first | refine cF (ang_Norm _) ?_ | refine dF (ang_Norm _) ?_) | refine aL ti_ok ?_ | refine dL ti_ok ?_ | refine dG ?_ | ((first | refine cC ?_ ?_ | refine gS ?_ ?_ | refine dS ?_ ?_) <;> intro hc <;> first | (exfalso; simp only [dcA] at hc; omega) | (simp only [hc]; try simp only [dcA] at hc)) | refine aO ?_ | refine dO ?_)
  refine fin_same trivial ?_
  simp (disch := omega) only [one, w64, dif_wrap]
  rfl
end Go.Proofs.YtpggiabnhodjpaaGreatDoor
/- Layer 7 (arctan) and its reference. -/
set_option linter.unusedSimpArgs false
set_option linter.unusedVariables false
set_option linter.deprecated false
namespace Go.Proofs.YtpggiabnhodjpaaGreatDoor
open Go Go.Ax
set_option maxRecDepth 100000
set_option maxHeartbeats 4000000
def farP (x : Int) : Prop := 1099511627776 < x ∨ x < -1099511627776
instance (x : Int) : Decidable (farP x) := by unfold farP; exact inferInstance
def hv : Nat → Int → Int → Int × Int
  | 0, x, y => (x, y)
  | n + 1, x, y => if farP x ∨ farP y then hv n (x.tdiv 2) (y.tdiv 2) else (x, y)
end Go.Proofs.YtpggiabnhodjpaaGreatDoor
/- Layer 7 (arctan) and its reference: the angle of a vector. -/
set_option linter.unusedSimpArgs false
set_option linter.unusedVariables false
set_option linter.deprecated false
namespace Go.Proofs.YtpggiabnhodjpaaGreatDoor
open Go Go.Ax
set_option maxRecDepth 100000
set_option maxHeartbeats 4000000
end Go.Proofs.YtpggiabnhodjpaaGreatDoor
/- The numbers of errors. -/
set_option linter.unusedSimpArgs false
set_option linter.unusedVariables false
set_option linter.deprecated false
namespace Go.Proofs.YtpggiabnhodjpaaGreatDoor
open Go Go.Ax
set_option maxRecDepth 100000
set_option maxHeartbeats 2000000
end Go.Proofs.YtpggiabnhodjpaaGreatDoor
