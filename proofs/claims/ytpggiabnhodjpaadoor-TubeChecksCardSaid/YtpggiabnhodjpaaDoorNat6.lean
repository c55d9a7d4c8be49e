/- Layer 2 (dyadic.go), part 5: Make, Floor, Ceil, Int. -/
import Derived.Test.YtpggiabnhodjpaaDoorDy4
import Derived.Test.YtpggiabnhodjpaaDoorU2
import Derived.Test.YtpggiabnhodjpaaDoorNat5
set_option linter.unusedSimpArgs false
set_option linter.unusedVariables false
set_option linter.deprecated false
namespace Go.Proofs.YtpggiabnhodjpaaDoor
open Go Go.Ax
set_option maxRecDepth 100000
set_option maxHeartbeats 4000000

end Go.Proofs.YtpggiabnhodjpaaDoor
/- Natural numbers as words (nat.go of layer 2), part 6: division by a word, a digit of a quotient. -/
set_option linter.unusedSimpArgs false
set_option linter.unusedVariables false
set_option linter.deprecated false
namespace Go.Proofs.YtpggiabnhodjpaaDoor
open Go Go.Ax
set_option maxRecDepth 100000
set_option maxHeartbeats 4000000

end Go.Proofs.YtpggiabnhodjpaaDoor
