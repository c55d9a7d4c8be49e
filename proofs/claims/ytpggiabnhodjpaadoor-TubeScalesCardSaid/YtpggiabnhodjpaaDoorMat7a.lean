/- Layer 4 (matrix): Norm. -/
import Derived.Test.YtpggiabnhodjpaaDoorMat6
set_option linter.unusedSimpArgs false
set_option linter.unusedVariables false
set_option linter.deprecated false
namespace Go.Proofs.YtpggiabnhodjpaaDoor
open Go Go.Ax
set_option maxRecDepth 100000
set_option maxHeartbeats 4000000

/-! ### texts -/
def tabS {α : Type} (n : Nat) (f : Nat → α) : List α := (List.range n).map f
theorem tabS_len {α : Type} {n : Nat} {f : Nat → α} : (tabS n f).length = n := by simp [tabS]
theorem tabS_succ {α : Type} {n : Nat} {f : Nat → α} : tabS (n + 1) f = tabS n f ++ [f n] := by simp [tabS, List.range_succ]
end Go.Proofs.YtpggiabnhodjpaaDoor
