/- The plain arithmetic of the reference (ref02), part 13: Floor. -/
import Derived.Test.YtkdpaoicekgalaaDoorRefC
set_option linter.unusedSimpArgs false
set_option linter.unusedVariables false
set_option linter.deprecated false
namespace Go.Proofs.YtkdpaoicekgalaaDoor
open Go Go.Ax
set_option maxRecDepth 100000
set_option maxHeartbeats 4000000

theorem low_odd {a k : Nat} (h : a % 2 = 1) (hk : 0 < k) : low a k = true := by
  unfold low
  refine decide_eq_true fun h0 => ?_
  obtain ⟨j, rfl⟩ : ∃ j, k = j + 1 := ⟨k - 1, by omega⟩
  obtain ⟨q, hq⟩ := Nat.dvd_of_mod_eq_zero h0
  rw [hq, Nat.pow_succ, Nat.mul_assoc, Nat.mul_left_comm] at h
  omega

end Go.Proofs.YtkdpaoicekgalaaDoor
