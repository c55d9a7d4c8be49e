/- The plain arithmetic of the reference (ref02), part 8: Cmp, Min, Max, Shift, Of, Make. -/
import Derived.Test.YtpggiabnhodjpaaDoorRef7
import Derived.Test.YtpggiabnhodjpaaDoorU2
set_option linter.unusedSimpArgs false
set_option linter.unusedVariables false
set_option linter.deprecated false
namespace Go.Proofs.YtpggiabnhodjpaaDoor
open Go Go.Ax
set_option maxRecDepth 100000
set_option maxHeartbeats 4000000

theorem add_zero (x : Dy) : x.add Dy.zero = x := Dy.ext_v (by rw [Dy.v_add, Dy.v_zero]; grind)
end Go.Proofs.YtpggiabnhodjpaaDoor
