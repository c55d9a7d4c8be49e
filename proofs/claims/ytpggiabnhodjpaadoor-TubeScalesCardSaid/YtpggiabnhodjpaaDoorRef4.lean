/- The plain arithmetic of the reference (ref02), part 3: less, left. -/
import Derived.Test.YtpggiabnhodjpaaDoorRef2
set_option linter.unusedSimpArgs false
set_option linter.unusedVariables false
set_option linter.deprecated false
namespace Go.Proofs.YtpggiabnhodjpaaDoor
open Go Go.Ax
set_option maxRecDepth 100000
set_option maxHeartbeats 4000000

end Go.Proofs.YtpggiabnhodjpaaDoor
/- The plain arithmetic of the reference (ref02), part 4: right. -/
set_option linter.unusedSimpArgs false
set_option linter.unusedVariables false
set_option linter.deprecated false
namespace Go.Proofs.YtpggiabnhodjpaaDoor
open Go Go.Ax
set_option maxRecDepth 100000
set_option maxHeartbeats 4000000

/-- Has a number bits below the n-th. -/
def low (a n : Nat) : Bool := decide (a % 2 ^ n ≠ 0)
end Go.Proofs.YtpggiabnhodjpaaDoor
