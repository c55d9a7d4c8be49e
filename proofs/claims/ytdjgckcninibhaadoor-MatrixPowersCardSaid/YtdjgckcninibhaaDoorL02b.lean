/- The statements on layer 2: the document's examples; short numbers. -/
import Derived.Test.YtdjgckcninibhaaDoorText
import Derived.Test.YtdjgckcninibhaaDoorDy6
import Derived.Test.YtdjgckcninibhaaDoorRefD
import Derived.Test.YtdjgckcninibhaaDoorNum
import Derived.Test.YtdjgckcninibhaaDoorU3
set_option linter.unusedSimpArgs false
set_option linter.unusedVariables false
set_option linter.deprecated false
namespace Go.Proofs.YtdjgckcninibhaaDoor
open Go Go.Ax
set_option maxRecDepth 100000
set_option maxHeartbeats 4000000

theorem c2 : ((2 : Nat) : Int) = 2 := rfl
theorem c0 : ((0 : Nat) : Int) = 0 := rfl
theorem c3 : ((3 : Nat) : Int) = 3 := rfl
theorem c4 : ((4 : Nat) : Int) = 4 := rfl
/-- A number is short. -/
def fewR (r : RD) : Prop := r.ws.length ≤ 16 ∧ (r.d ≤ 300 ∨ 65536 < r.d)
instance (r : RD) : Decidable (fewR r) := inferInstanceAs (Decidable (_ ∧ _))
end Go.Proofs.YtdjgckcninibhaaDoor
/- The statements on layer 2: short numbers, by one, two and three. -/
set_option linter.unusedSimpArgs false
set_option linter.unusedVariables false
set_option linter.deprecated false
namespace Go.Proofs.YtdjgckcninibhaaDoor
open Go Go.Ax
set_option maxRecDepth 100000
set_option maxHeartbeats 4000000

def okR (r : RD) : Prop := Wd r.ws ∧ r.ws.length ≤ 9223372036854775807
theorem base_Is (n m : Int) : CallOK Tryd.prog gl 26 [.v (.iface 57 (.int .i64 (n))), .v (.int .i64 m)] (.v (.bool ((decide (n = m))))) := by
  refine call_ok (C := ⟨Tryd.prog, gl, ti, 18, false⟩) ti_ok mixed 3000 Tryd.call26 Tryd.func26 rfl Tryd.ntmps26 (by simp) byClL byCl ?_
  rw [Tryd.results26]
  repeat' (first | (simp only [go_sem, Int.reduceAdd, Int.reduceEq, Int.reduceLE, Int.reduceLT, Int.reduceMul, Int.reduceNeg, Int.reducePow, Int.reduceSub, Int.reduceToNat, Nat.reduceAdd, Nat.reduceBEq, Nat.reduceEqDiff, Nat.reduceLT, Nat.reduceLeDiff, Nat.reduceMul, Nat.reducePow, Nat.reduceSub, reduceCtorEq, reduceIte, IntKind.bits.eq_def, ti, tin]) | (simp (disch := omega) only [w64, wu64, wu32, Nat.min_eq_left]) | (refine aL ti_ok ?_) | (refine dL ti_ok ?_) | (refine dE (by kernel_rfl) ?_) | ((first | refine cC ?_ ?_ | refine gS ?_ ?_ | refine dS ?_ ?_) <;> intro hc <;> first | (exfalso; simp only [dcT, dcF, bnT, bnF, bnU, bnV] at hc; omega) | (simp only [hc]; try simp only [dcT, dcF, bnT, bnF, bnU, bnV] at hc)) | (refine aN (by omega) ?_) | (refine dN (by omega) ?_))
  all_goals exact fin_same trivial rfl
end Go.Proofs.YtdjgckcninibhaaDoor
