/- The statements on layer 4: short matrices; errors. -/
import Derived.Test.YtpggiabnhodjpaaDoorMat1
import Derived.Test.YtpggiabnhodjpaaDoorU4
set_option linter.unusedSimpArgs false
set_option linter.unusedVariables false
set_option linter.deprecated false
namespace Go.Proofs.YtpggiabnhodjpaaDoor
open Go Go.Ax
set_option maxRecDepth 100000
set_option maxHeartbeats 4000000

/-! ### short numbers -/
def fewX (x : RD) : Prop := x.ws.length ≤ 3 ∧ (x.d ≤ 60 ∨ 65536 < x.d)
instance (x : RD) : Decidable (fewX x) := inferInstanceAs (Decidable (_ ∧ _))
def shortX (x : RD) : Prop := x.ws.length ≤ 1 ∧ (x.d ≤ 8 ∨ 65536 < x.d)
instance (x : RD) : Decidable (shortX x) := inferInstanceAs (Decidable (_ ∧ _))
def rowF (r : List RD) : Prop := r.length ≤ 10 ∧ ∀ j, j < r.length → fewX (r.getD j RD.zero)
instance (r : List RD) : Decidable (rowF r) := inferInstanceAs (Decidable (_ ∧ _))
def shortM (a : List (List RD)) : Prop := ∀ i, i < a.length → ∀ j, j < (a.getD i []).length → shortX ((a.getD i []).getD j RD.zero)
instance (a : List (List RD)) : Decidable (shortM a) := inferInstanceAs (Decidable (∀ i, i < a.length → ∀ j, j < (a.getD i []).length → shortX ((a.getD i []).getD j RD.zero)))
def fewM (a : List (List RD)) : Prop := (a.length ≤ 10 ∧ ∀ i, i < a.length → rowF (a.getD i [])) ∧ (¬ ckM a = 0 ∨ (a.length ≤ 4 ∧ (a.getD 0 []).length ≤ 4) ∨ shortM a)
instance (a : List (List RD)) : Decidable (fewM a) := inferInstanceAs (Decidable (_ ∧ _))
end Go.Proofs.YtpggiabnhodjpaaDoor
