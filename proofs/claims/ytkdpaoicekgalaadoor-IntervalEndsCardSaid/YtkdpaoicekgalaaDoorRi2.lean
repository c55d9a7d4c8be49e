/- The reference of layer 3 (ref.go), part 2: negatives, sums, products, minima, hulls. -/
import Derived.Test.YtkdpaoicekgalaaDoorRi1
set_option linter.unusedSimpArgs false
set_option linter.unusedVariables false
set_option linter.deprecated false
namespace Go.Proofs.YtkdpaoicekgalaaDoor
open Go Go.Ax
set_option maxRecDepth 100000
set_option maxHeartbeats 4000000

end Go.Proofs.YtkdpaoicekgalaaDoor
