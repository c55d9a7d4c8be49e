/- The plain arithmetic of the reference (ref02), part 10: Same. -/
import Derived.Test.YtpggiabnhodjpaaDoorRef9
set_option linter.unusedSimpArgs false
set_option linter.unusedVariables false
set_option linter.deprecated false
namespace Go.Proofs.YtpggiabnhodjpaaDoor
open Go Go.Ax
set_option maxRecDepth 100000
set_option maxHeartbeats 4000000

theorem Dy.same {x y : Dy} : (sg x = sg y ∧ ms x = ms y ∧ dn x = dn y) ↔ x = y := by
  refine ⟨fun ⟨h1, h2, h3⟩ => ?_, fun h => by subst h; exact ⟨rfl, rfl, rfl⟩⟩
  have a := res_self x
  have b := res_self y
  rw [h1, h2, h3] at a
  exact a.symm.trans b
instance : DecidableEq Dy := fun _ _ => decidable_of_iff _ Dy.same
end Go.Proofs.YtpggiabnhodjpaaDoor
