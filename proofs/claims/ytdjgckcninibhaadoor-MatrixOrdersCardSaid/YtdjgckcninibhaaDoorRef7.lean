/- The plain arithmetic of the reference (ref02), part 6: its numbers. -/
import Derived.Test.YtdjgckcninibhaaDoorRef5
set_option linter.unusedSimpArgs false
set_option linter.unusedVariables false
set_option linter.deprecated false
namespace Go.Proofs.YtdjgckcninibhaaDoor
open Go Go.Ax
set_option maxRecDepth 100000
set_option maxHeartbeats 4000000

end Go.Proofs.YtdjgckcninibhaaDoor
/- The plain arithmetic of the reference (ref02), part 7: sums and orders. -/
set_option linter.unusedSimpArgs false
set_option linter.unusedVariables false
set_option linter.deprecated false
namespace Go.Proofs.YtdjgckcninibhaaDoor
open Go Go.Ax
set_option maxRecDepth 100000
set_option maxHeartbeats 4000000

theorem ref_num (s : Bool) (ws : List Nat) (den : Int) (hW : Wd ws) (hl : ws.length ≤ 1099511627776) (h0 : 0 ≤ den) (h1 : den ≤ 549755813888) : CallOK Tryd.prog gl 56 [.v (.bool s), .sl 1 (u32s ws), .v (.int .i64 den)] (.agg [.v (.bool (sg (nrm (sgn s (val ws)) den.toNat))), .sl 1 (u32s (ms (nrm (sgn s (val ws)) den.toNat))), .v (.int .i64 (dn (nrm (sgn s (val ws)) den.toNat)))]) := by
  obtain ⟨e, rfl⟩ : ∃ e : Nat, den = e := ⟨den.toNat, by omega⟩
  rw [Int.toNat_natCast]
  exact ref_number s ws e hW hl (by omega)

end Go.Proofs.YtdjgckcninibhaaDoor
