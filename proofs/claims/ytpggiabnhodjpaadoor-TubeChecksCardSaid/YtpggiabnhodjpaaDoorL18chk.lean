/- The base: Is. -/
import Derived.Test.YtpggiabnhodjpaaDoorNum
import Derived.Test.YtpggiabnhodjpaaDoorL18d
set_option linter.unusedSimpArgs false
set_option linter.unusedVariables false
set_option linter.deprecated false
namespace Go.Proofs.YtpggiabnhodjpaaDoor
open Go Go.Ax
set_option maxRecDepth 100000
set_option maxHeartbeats 4000000

end Go.Proofs.YtpggiabnhodjpaaDoor
/- The statement TubeChecks: its code returns true. -/
set_option linter.unusedSimpArgs false
set_option linter.unusedVariables false
set_option linter.deprecated false
namespace Go.Proofs.YtpggiabnhodjpaaDoor
open Go Go.Ax
set_option maxRecDepth 100000
set_option maxHeartbeats 4000000

end Go.Proofs.YtpggiabnhodjpaaDoor
