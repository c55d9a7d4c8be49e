/- The statements on layer 18: from the arguments to the plain laws. -/
import Derived.Test.YtpggiabnhodjpaaDoorL18d
import Derived.Test.YtpggiabnhodjpaaDoorU4
set_option linter.unusedSimpArgs false
set_option linter.unusedVariables false
set_option linter.deprecated false
namespace Go.Proofs.YtpggiabnhodjpaaDoor
open Go Go.Ax
set_option maxRecDepth 100000
set_option maxHeartbeats 4000000

theorem fine.mono {k m : Nat} {a : List (List Dy)} (h : fine k a) (hk : k ≤ m) : fine m a := fun i j => Nat.le_trans (h i j) hk
section
variable {a dv : List (List RD)} {w inner outer : List RD}
end
end Go.Proofs.YtpggiabnhodjpaaDoor
