/- Dyadic numbers (layer 2), part 6: Quo, Bits. -/
import Derived.Test.YtpggiabnhodjpaaDoorNat6
import Derived.Test.YtpggiabnhodjpaaDoorNatC
set_option linter.unusedSimpArgs false
set_option linter.unusedVariables false
set_option linter.deprecated false
namespace Go.Proofs.YtpggiabnhodjpaaDoor
open Go Go.Ax
set_option maxRecDepth 100000
set_option maxHeartbeats 4000000

end Go.Proofs.YtpggiabnhodjpaaDoor
