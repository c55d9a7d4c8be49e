/- Matrices as they are handed in; comparisons. -/
import Derived.Test.YtpggiabnhodjpaaDoorMat2
import Derived.Test.YtpggiabnhodjpaaDoorL04a
import Derived.Test.YtpggiabnhodjpaaDoorU4
import Derived.Test.YtpggiabnhodjpaaDoorTub6
import Derived.Test.YtpggiabnhodjpaaDoorNum
set_option linter.unusedSimpArgs false
set_option linter.unusedVariables false
set_option linter.deprecated false
namespace Go.Proofs.YtpggiabnhodjpaaDoor
open Go Go.Ax
set_option maxRecDepth 100000
set_option maxHeartbeats 4000000

end Go.Proofs.YtpggiabnhodjpaaDoor
/- The statements on layer 18: the reference's checks; short arguments. -/
set_option linter.unusedSimpArgs false
set_option linter.unusedVariables false
set_option linter.deprecated false
namespace Go.Proofs.YtpggiabnhodjpaaDoor
open Go Go.Ax
set_option maxRecDepth 100000
set_option maxHeartbeats 4000000

end Go.Proofs.YtpggiabnhodjpaaDoor
