/- The plain arithmetic of the reference (ref02), part 9: Shift, Same. -/
import Derived.Test.YtpggiabnhodjpaaDoorRef8
set_option linter.unusedSimpArgs false
set_option linter.unusedVariables false
set_option linter.deprecated false
namespace Go.Proofs.YtpggiabnhodjpaaDoor
open Go Go.Ax
set_option maxRecDepth 100000
set_option maxHeartbeats 4000000

end Go.Proofs.YtpggiabnhodjpaaDoor
