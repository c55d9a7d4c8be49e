/- The numbers of errors. -/
import Derived.Test.YtdjgckcninibhaaGreatDoorTy
import Derived.Test.YtdjgckcninibhaaGreatDoorU2
set_option linter.unusedSimpArgs false
set_option linter.unusedVariables false
set_option linter.deprecated false
namespace Go.Proofs.YtdjgckcninibhaaGreatDoor
open Go Go.Ax
set_option maxRecDepth 100000
set_option maxHeartbeats 2000000
end Go.Proofs.YtdjgckcninibhaaGreatDoor
