/- The numbers of errors. -/
import Derived.Test.YtpggiabnhodjpaaDoorTy
import Derived.Test.YtpggiabnhodjpaaDoorU2
set_option linter.unusedSimpArgs false
set_option linter.unusedVariables false
set_option linter.deprecated false
namespace Go.Proofs.YtpggiabnhodjpaaDoor
open Go Go.Ax
set_option maxRecDepth 100000
set_option maxHeartbeats 2000000
end Go.Proofs.YtpggiabnhodjpaaDoor
