/- The plain arithmetic of the reference (ref02), part 12: Bits. -/
import Derived.Test.YtdjgckcninibhaaGreatDoorRefB
set_option linter.unusedSimpArgs false
set_option linter.unusedVariables false
set_option linter.deprecated false
namespace Go.Proofs.YtdjgckcninibhaaGreatDoor
open Go Go.Ax
set_option maxRecDepth 100000
set_option maxHeartbeats 4000000

end Go.Proofs.YtdjgckcninibhaaGreatDoor
/- The plain arithmetic of the reference (ref02), part 13: Floor. -/
set_option linter.unusedSimpArgs false
set_option linter.unusedVariables false
set_option linter.deprecated false
namespace Go.Proofs.YtdjgckcninibhaaGreatDoor
open Go Go.Ax
set_option maxRecDepth 100000
set_option maxHeartbeats 4000000

end Go.Proofs.YtdjgckcninibhaaGreatDoor
