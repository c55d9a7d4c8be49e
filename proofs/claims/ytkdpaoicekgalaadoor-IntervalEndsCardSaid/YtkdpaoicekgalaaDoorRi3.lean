/- The reference of layer 3 (ref.go), part 3: limits. -/
import Derived.Test.YtkdpaoicekgalaaDoorRi2
import Derived.Test.YtkdpaoicekgalaaDoorRefD
set_option linter.unusedSimpArgs false
set_option linter.unusedVariables false
set_option linter.deprecated false
namespace Go.Proofs.YtkdpaoicekgalaaDoor
open Go Go.Ax
set_option maxRecDepth 100000
set_option maxHeartbeats 4000000

theorem has_zero (a : Iv) : a.has Dy.zero = decide (a.lo.v ≤ 0 ∧ 0 ≤ a.hi.v) := by unfold Iv.has; rw [Dy.v_zero]
theorem CallOK.zlitI {P : Program} {G : GL} {f : FuncId} {a : AV} {res : AV} (h : CallOK P G f [a, .agg [.v (.bool (sg Dy.zero)), .sl 1 (u32s (ms Dy.zero)), .v (.int .i64 (dn Dy.zero))]] res) : CallOK P G f [a, zlit] res := h.zlit2
end Go.Proofs.YtkdpaoicekgalaaDoor
