/- Layer 4 (matrix) and its reference: Check; equal vectors and matrices. -/
import Derived.Test.YtkdpaoicekgalaaGreatDoorNum
import Derived.Test.YtkdpaoicekgalaaGreatDoorRefA
import Derived.Test.YtkdpaoicekgalaaGreatDoorU3
set_option linter.unusedSimpArgs false
set_option linter.unusedVariables false
set_option linter.deprecated false
namespace Go.Proofs.YtkdpaoicekgalaaGreatDoor
open Go Go.Ax
set_option maxRecDepth 100000
set_option maxHeartbeats 4000000

/-- An error by its number. -/
def eV (e : Int) : Value := if e = 0 then .nilIface else .iface 80 (.int .i64 e)
theorem eV_zero : eV 0 = .nilIface := (rfl)
theorem eV_ne {e : Int} (h : ¬ e = 0) : eV e = .iface 80 (.int .i64 e) := if_neg h
theorem base_NumE (e : Int) : CallOK Tryz.prog gl 18 [.v (eV e)] (.v (.int .i64 e)) := by
  by_cases h : e = 0
  · subst h; exact base_Num_nil
  · rw [eV_ne h]; exact base_Num e

/-- The number of the first error of a matrix. -/
def ckM {α : Type} (a : List (List α)) : Int :=
  if a.length = 0 then 11 else if (a.getD 0 []).length = 0 then 11 else if 8 < a.length then 4 else if 8 < (a.getD 0 []).length then 4 else if ∀ i, i < a.length → (a.getD i []).length = (a.getD 0 []).length then 0 else 11
theorem ckM_bd {α : Type} (a : List (List α)) : 0 ≤ ckM a ∧ ckM a ≤ 11 := by
  unfold ckM; repeat' split
  all_goals omega
end Go.Proofs.YtkdpaoicekgalaaGreatDoor
