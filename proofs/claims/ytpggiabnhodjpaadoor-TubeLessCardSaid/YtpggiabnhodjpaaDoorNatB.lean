/- Natural numbers as words (nat.go of layer 2), part 11: what a round of the long division does. -/
import Derived.Test.YtpggiabnhodjpaaDoorNat8
set_option linter.unusedSimpArgs false
set_option linter.unusedVariables false
set_option linter.deprecated false
namespace Go.Proofs.YtpggiabnhodjpaaDoor
open Go Go.Ax
set_option maxRecDepth 100000
set_option maxHeartbeats 4000000

end Go.Proofs.YtpggiabnhodjpaaDoor
