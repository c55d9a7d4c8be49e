/- The plain arithmetic of the reference (ref02), part 9: Shift, Same. -/
import Derived.Test.YtkdpaoicekgalaaGreatDoorRef8
set_option linter.unusedSimpArgs false
set_option linter.unusedVariables false
set_option linter.deprecated false
namespace Go.Proofs.YtkdpaoicekgalaaGreatDoor
open Go Go.Ax
set_option maxRecDepth 100000
set_option maxHeartbeats 4000000

theorem res_shift_up {x : Dy} {c : Nat} (h : c ≤ 65536) : nrm (sgn (sg x) (x.n.natAbs * 2 ^ c)) x.d = x.shift (c : Int) := by
  refine Dy.ext_v ?_
  rw [v_shift_pos h, sgn_mul_nat, sgn_sg]
  have h1 := v_nrm_mul (z := x.n * ((2 ^ c : Nat) : Int)) (d := x.d) x.ok.1
  have h2 := x.v_mul
  refine v_of_mul (d := x.d) ?_
  rw [h1, Rat.intCast_mul, ← h2, ← p2int, ← p2nat]
  grind

end Go.Proofs.YtkdpaoicekgalaaGreatDoor
