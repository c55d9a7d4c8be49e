/- Natural numbers as words (nat.go of layer 2), part 6: division by a word, a digit of a quotient. -/
import Derived.Test.YtfoadddlmehpnaaDoorNat5
set_option linter.unusedSimpArgs false
set_option linter.unusedVariables false
set_option linter.deprecated false
namespace Go.Proofs.YtfoadddlmehpnaaDoor
open Go Go.Ax
set_option maxRecDepth 100000
set_option maxHeartbeats 4000000

theorem div_step {a d B : Nat} (hd : 0 < d) (hB : 0 < B) (k : Nat) : a / B ^ k / d = (a / B ^ (k + 1) % d * B + a / B ^ k % B) / d + B * (a / B ^ (k + 1) / d) ∧ a / B ^ k % d = (a / B ^ (k + 1) % d * B + a / B ^ k % B) % d := by
  rw [Nat.pow_succ, ← Nat.div_div_eq_div_mul]
  generalize a / B ^ k = x
  have h1 := Nat.div_add_mod x B
  have h2 := Nat.div_add_mod (x / B) d
  have e : x = d * (B * (x / B / d)) + (x / B % d * B + x % B) := by
    conv => lhs; rw [← h1, ← h2]
    rw [Nat.mul_add, ← Nat.mul_assoc, Nat.mul_comm B d, Nat.mul_assoc, Nat.mul_comm B (x / B % d), Nat.add_assoc]
  constructor
  · conv => lhs; rw [e]
    rw [Nat.mul_add_div hd, Nat.add_comm]
  · conv => lhs; rw [e]
    rw [Nat.mul_add_mod]
theorem val_drop_set {ws : List Nat} {m : Nat} (h : m < ws.length) (q : Nat) : val ((ws.set m q).drop m) = q + 4294967296 * val (ws.drop (m + 1)) := by
  rw [drop_getD (by rw [List.length_set]; exact h), getD_set_eq h, List.drop_set_of_lt (by omega)]
  rfl
end Go.Proofs.YtfoadddlmehpnaaDoor
