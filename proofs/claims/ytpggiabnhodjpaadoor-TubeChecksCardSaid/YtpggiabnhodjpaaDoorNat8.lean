/- Natural numbers as words (nat.go of layer 2), part 10: the length of a word. -/
import Derived.Test.YtpggiabnhodjpaaDoorNat9
import Derived.Test.YtpggiabnhodjpaaDoorU3
import Derived.Test.YtpggiabnhodjpaaDoorNat7
set_option linter.unusedSimpArgs false
set_option linter.unusedVariables false
set_option linter.deprecated false
namespace Go.Proofs.YtpggiabnhodjpaaDoor
open Go Go.Ax
set_option maxRecDepth 100000
set_option maxHeartbeats 4000000

end Go.Proofs.YtpggiabnhodjpaaDoor
/- Natural numbers as words (nat.go of layer 2), part 8: a digit of a quotient, the first case. -/
set_option linter.unusedSimpArgs false
set_option linter.unusedVariables false
set_option linter.deprecated false
namespace Go.Proofs.YtpggiabnhodjpaaDoor
open Go Go.Ax
set_option maxRecDepth 100000
set_option maxHeartbeats 4000000

end Go.Proofs.YtpggiabnhodjpaaDoor
