import Derived.Test.YtpggiabnhodjpaaDoorRows
import Derived.Test.YtpggiabnhodjpaaDoorCards
import Derived.Test.YtpggiabnhodjpaaDoorTie
import Derived.SevenTiedAt
import Derived.Test.YtpggiabnhodjpaaDoorL18chk
import Derived.Test.YtpggiabnhodjpaaDoorU3
set_option linter.unusedSimpArgs false
set_option linter.unusedVariables false
set_option linter.deprecated false
set_option maxRecDepth 100000
set_option maxHeartbeats 2000000
namespace Go.Proofs.YtpggiabnhodjpaaDoor.tubeChecks
open Go Go.Ax Go.ChangeShapes Go.WideShapes Go.ChangeAt Go.RowKit
theorem own : ownKnob Tryd.prog.godebug = none := by kernel_rfl
end Go.Proofs.YtpggiabnhodjpaaDoor.tubeChecks
