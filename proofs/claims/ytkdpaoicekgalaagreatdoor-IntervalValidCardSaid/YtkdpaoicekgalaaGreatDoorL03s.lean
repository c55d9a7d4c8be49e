/- Equal numbers and intervals. -/
import Derived.Test.YtkdpaoicekgalaaGreatDoorL03
set_option linter.unusedSimpArgs false
set_option linter.unusedVariables false
set_option linter.deprecated false
namespace Go.Proofs.YtkdpaoicekgalaaGreatDoor
open Go Go.Ax
set_option maxRecDepth 100000
set_option maxHeartbeats 4000000

theorem same03 {k : Nat} {x : Dy} (h : Mg k x) (hk : k ≤ 1099511627776 := by omega) : CallOK Tryz.prog gl 53 [.agg [.v (.bool (sg x)), .sl 1 (u32s (ms x)), .v (.int .i64 (dn x))], .agg [.v (.bool (sg x)), .sl 1 (u32s (ms x)), .v (.int .i64 (dn x))]] (.v (.bool true)) := by
  have hl := (Arg.of h hk).len
  have := ref_Same x x (by omega) (by omega)
  rwa [decide_eq_true rfl] at this
end Go.Proofs.YtkdpaoicekgalaaGreatDoor
