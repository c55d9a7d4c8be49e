/- The numbers of errors. -/
import Derived.Test.YtdjgckcninibhaaDoorTy
import Derived.Test.YtdjgckcninibhaaDoorU2
set_option linter.unusedSimpArgs false
set_option linter.unusedVariables false
set_option linter.deprecated false
namespace Go.Proofs.YtdjgckcninibhaaDoor
open Go Go.Ax
set_option maxRecDepth 100000
set_option maxHeartbeats 2000000
end Go.Proofs.YtdjgckcninibhaaDoor
