/- The statements on layer 18: the document's example; parts of numbers. -/
import Derived.Test.YtpggiabnhodjpaaDoorT18b
import Derived.Test.YtpggiabnhodjpaaDoorRefB
import Derived.Test.YtpggiabnhodjpaaDoorMat2
set_option linter.unusedSimpArgs false
set_option linter.unusedVariables false
set_option linter.deprecated false
namespace Go.Proofs.YtpggiabnhodjpaaDoor
open Go Go.Ax
set_option maxRecDepth 100000
set_option maxHeartbeats 4000000

/-! ### parts of numbers -/
def bytes (n : Int) : List AV := [.v (.int .i8 n)]
/-! ### the document's example -/
def hA : List (List RD) := [[can (nrm 1 1)]]
def hD : List (List RD) := [[RD.zero]]
def hW : List RD := [can (Dy.int 1)]
end Go.Proofs.YtpggiabnhodjpaaDoor
