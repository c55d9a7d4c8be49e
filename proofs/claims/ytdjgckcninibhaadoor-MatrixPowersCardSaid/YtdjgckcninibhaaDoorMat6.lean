/- Layer 4 (matrix): Apply, Le, Norm. -/
import Derived.Test.YtdjgckcninibhaaDoorMat5
set_option linter.unusedSimpArgs false
set_option linter.unusedVariables false
set_option linter.deprecated false
namespace Go.Proofs.YtdjgckcninibhaaDoor
open Go Go.Ax
set_option maxRecDepth 100000
set_option maxHeartbeats 4000000

/-! ### comparison -/
end Go.Proofs.YtdjgckcninibhaaDoor
