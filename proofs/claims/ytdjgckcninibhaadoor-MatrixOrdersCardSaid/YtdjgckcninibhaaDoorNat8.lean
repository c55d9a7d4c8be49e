/- Natural numbers as words (nat.go of layer 2), part 9: a digit of a quotient, the second case. -/
import Derived.Test.YtdjgckcninibhaaDoorNat7
import Derived.Test.YtdjgckcninibhaaDoorU3
set_option linter.unusedSimpArgs false
set_option linter.unusedVariables false
set_option linter.deprecated false
namespace Go.Proofs.YtdjgckcninibhaaDoor
open Go Go.Ax
set_option maxRecDepth 100000
set_option maxHeartbeats 4000000

end Go.Proofs.YtdjgckcninibhaaDoor
/- Natural numbers as words (nat.go of layer 2), part 10: the length of a word. -/
set_option linter.unusedSimpArgs false
set_option linter.unusedVariables false
set_option linter.deprecated false
namespace Go.Proofs.YtdjgckcninibhaaDoor
open Go Go.Ax
set_option maxRecDepth 100000
set_option maxHeartbeats 4000000

end Go.Proofs.YtdjgckcninibhaaDoor
/- Natural numbers as words (nat.go of layer 2), part 8: a digit of a quotient, the first case. -/
set_option linter.unusedSimpArgs false
set_option linter.unusedVariables false
set_option linter.deprecated false
namespace Go.Proofs.YtdjgckcninibhaaDoor
open Go Go.Ax
set_option maxRecDepth 100000
set_option maxHeartbeats 4000000

end Go.Proofs.YtdjgckcninibhaaDoor
