/- Matrices as they are handed in; comparisons. -/
import Derived.Test.YtpggiabnhodjpaaGreatDoorMat2
import Derived.Test.YtpggiabnhodjpaaGreatDoorL04a
import Derived.Test.YtpggiabnhodjpaaGreatDoorU4
import Derived.Test.YtpggiabnhodjpaaGreatDoorTub6
import Derived.Test.YtpggiabnhodjpaaGreatDoorNum
set_option linter.unusedSimpArgs false
set_option linter.unusedVariables false
set_option linter.deprecated false
namespace Go.Proofs.YtpggiabnhodjpaaGreatDoor
open Go Go.Ax
set_option maxRecDepth 100000
set_option maxHeartbeats 4000000
end Go.Proofs.YtpggiabnhodjpaaGreatDoor
/- The statements on layer 18: the reference's checks; short arguments. -/
set_option linter.unusedSimpArgs false
set_option linter.unusedVariables false
set_option linter.deprecated false
namespace Go.Proofs.YtpggiabnhodjpaaGreatDoor
open Go Go.Ax
set_option maxRecDepth 100000
set_option maxHeartbeats 4000000
end Go.Proofs.YtpggiabnhodjpaaGreatDoor
/- The statements on layer 18: short arguments, the document's example. -/
set_option linter.unusedSimpArgs false
set_option linter.unusedVariables false
set_option linter.deprecated false
namespace Go.Proofs.YtpggiabnhodjpaaGreatDoor
open Go Go.Ax
set_option maxRecDepth 100000
set_option maxHeartbeats 4000000
def briefX (x : RD) : Prop := x.ws.length ≤ 2 ∧ (x.d ≤ 40 ∨ 65536 < x.d)
instance (x : RD) : Decidable (briefX x) := inferInstanceAs (Decidable (_ ∧ _))
def briefV (r : List RD) : Prop := r.length ≤ 10 ∧ ∀ j, j < r.length → briefX (r.getD j RD.zero)
instance (r : List RD) : Decidable (briefV r) := inferInstanceAs (Decidable (_ ∧ _))
def briefM (a : List (List RD)) : Prop := ∀ i, i < a.length → briefV (a.getD i [])
instance (a : List (List RD)) : Decidable (briefM a) := inferInstanceAs (Decidable (∀ i, i < a.length → briefV (a.getD i [])))
def lightP (a dv : List (List RD)) (w : List RD) : Prop := ((a.length ≤ 10 ∧ dv.length ≤ 10 ∧ briefV w) ∧ briefM a ∧ briefM dv) ∧ (¬ ckT a dv w = 0 ∨ a.length ≤ 3)
instance (a dv : List (List RD)) (w : List RD) : Decidable (lightP a dv w) := inferInstanceAs (Decidable (_ ∧ _))
def shortP (K : Int) (inner outer : List RD) : Prop := briefV inner ∧ briefV outer ∧ (K ≤ 8 ∨ 32 < K)
instance (K : Int) (inner outer : List RD) : Decidable (shortP K inner outer) := inferInstanceAs (Decidable (_ ∧ _))
end Go.Proofs.YtpggiabnhodjpaaGreatDoor
