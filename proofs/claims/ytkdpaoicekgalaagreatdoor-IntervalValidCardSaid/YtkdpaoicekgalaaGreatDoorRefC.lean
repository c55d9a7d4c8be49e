/- The plain arithmetic of the reference (ref02), part 12: Bits. -/
import Derived.Test.YtkdpaoicekgalaaGreatDoorRefB
set_option linter.unusedSimpArgs false
set_option linter.unusedVariables false
set_option linter.deprecated false
namespace Go.Proofs.YtkdpaoicekgalaaGreatDoor
open Go Go.Ax
set_option maxRecDepth 100000
set_option maxHeartbeats 4000000

end Go.Proofs.YtkdpaoicekgalaaGreatDoor
