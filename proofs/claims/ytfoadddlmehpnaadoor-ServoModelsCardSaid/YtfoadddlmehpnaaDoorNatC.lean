/- Natural numbers as words (nat.go of layer 2), part 12: divide. -/
import Derived.Test.YtfoadddlmehpnaaDoorNatB
set_option linter.unusedSimpArgs false
set_option linter.unusedVariables false
set_option linter.deprecated false
namespace Go.Proofs.YtfoadddlmehpnaaDoor
open Go Go.Ax
set_option maxRecDepth 100000
set_option maxHeartbeats 4000000

/-- One state or another. -/
def fz {α : Type} (k : Nat) (a b : α) : α := match k with
  | 0 => a
  | _ + 1 => b
theorem fz_zero {α : Type} {a b : α} : fz 0 a b = a := (rfl)
theorem fz_succ {α : Type} {k : Nat} {a b : α} : fz (k + 1) a b = b := (rfl)

theorem Le.take {sz k : Nat} {rows : List (List AV)} (h : rows.length ≤ k) : Le (.sl sz ((rows.drop 0).take k)) (.sl sz rows) := by
  rw [List.drop_zero, List.take_of_length_le h]; exact Le.refl _
theorem div_of {r Y q X : Nat} (hY : 0 < Y) (h : r < Y) (e : r + Y * q = X) : q = X / Y ∧ r = X % Y := by
  subst e
  rw [Nat.add_mul_div_left _ _ hY, Nat.add_mul_mod_self_left, Nat.div_eq_of_lt h, Nat.mod_eq_of_lt h]
  exact ⟨(Nat.zero_add _).symm, rfl⟩
theorem div_go {v v' Y q Q Q' X : Nat} {j : Nat} (h : v' + 4294967296 ^ j * (Y * q) = v) (k : v + 4294967296 ^ (j + 1) * (Y * Q) = X) (e : Q' = q + 4294967296 * Q) : v' + 4294967296 ^ j * (Y * Q') = X := by
  subst h k e
  rw [Nat.pow_succ]
  grind
end Go.Proofs.YtfoadddlmehpnaaDoor
