/- Layer 2 (dyadic.go), part 5: Make, Floor, Ceil, Int. -/
import Derived.Test.YtdjgckcninibhaaDoorDy4
import Derived.Test.YtdjgckcninibhaaDoorU2
set_option linter.unusedSimpArgs false
set_option linter.unusedVariables false
set_option linter.deprecated false
namespace Go.Proofs.YtdjgckcninibhaaDoor
open Go Go.Ax
set_option maxRecDepth 100000
set_option maxHeartbeats 4000000

end Go.Proofs.YtdjgckcninibhaaDoor
