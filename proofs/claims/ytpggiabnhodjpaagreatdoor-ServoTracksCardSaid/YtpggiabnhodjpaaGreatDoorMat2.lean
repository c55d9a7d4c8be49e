/- Equal vectors and matrices (ref04). -/
import Derived.Test.YtpggiabnhodjpaaGreatDoorMat1
set_option linter.unusedSimpArgs false
set_option linter.unusedVariables false
set_option linter.deprecated false
namespace Go.Proofs.YtpggiabnhodjpaaGreatDoor
open Go Go.Ax
set_option maxRecDepth 100000
set_option maxHeartbeats 4000000
end Go.Proofs.YtpggiabnhodjpaaGreatDoor
