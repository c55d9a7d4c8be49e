/- Natural numbers as words (nat.go of layer 2), part 12: divide. -/
import Derived.Test.YtpggiabnhodjpaaDoorNatB
set_option linter.unusedSimpArgs false
set_option linter.unusedVariables false
set_option linter.deprecated false
namespace Go.Proofs.YtpggiabnhodjpaaDoor
open Go Go.Ax
set_option maxRecDepth 100000
set_option maxHeartbeats 4000000

theorem Le.take {sz k : Nat} {rows : List (List AV)} (h : rows.length ≤ k) : Le (.sl sz ((rows.drop 0).take k)) (.sl sz rows) := by
  rw [List.drop_zero, List.take_of_length_le h]; exact Le.refl _
end Go.Proofs.YtpggiabnhodjpaaDoor
