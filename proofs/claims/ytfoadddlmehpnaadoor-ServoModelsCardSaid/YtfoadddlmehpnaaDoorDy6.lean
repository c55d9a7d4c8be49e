/- Dyadic numbers (layer 2), part 6: Quo, Bits. -/
import Derived.Test.YtfoadddlmehpnaaDoorDy5
import Derived.Test.YtfoadddlmehpnaaDoorNatC
set_option linter.unusedSimpArgs false
set_option linter.unusedVariables false
set_option linter.deprecated false
namespace Go.Proofs.YtfoadddlmehpnaaDoor
open Go Go.Ax
set_option maxRecDepth 100000
set_option maxHeartbeats 4000000

theorem words_shl2 {a n : Nat} : (words (a * 2 ^ n)).length ≤ (words a).length + (n / 32 + 1) := by
  refine words_length_le ?_
  have h1 := lt_words a
  have h2 : 2 ^ n ≤ 4294967296 ^ (n / 32 + 1) := by
    rw [two_pow_32]
    exact Nat.pow_le_pow_right (by omega) (by omega)
  rw [Nat.pow_add 4294967296 (words a).length]
  exact Nat.lt_of_lt_of_le (Nat.mul_lt_mul_of_pos_right h1 (Nat.pow_pos (by omega))) (Nat.mul_le_mul_left _ h2)

theorem blen_words {a n : Nat} (hn : (words a).length = n + 1) : blen a = 32 * n + blen ((words a).getD n 0) := by
  have ha : a ≠ 0 := words_length_pos.1 (by omega)
  have h1 := words_ge ha
  rw [hn, Nat.add_sub_cancel, two_pow_32] at h1
  have h2 := getD_val (Wd.words a) n
  have h3 := lt_words a
  rw [val_words] at h2
  rw [hn] at h3
  rw [Nat.mod_eq_of_lt (Nat.div_lt_of_lt_mul (by rw [← Nat.pow_succ]; exact h3)), two_pow_32] at h2
  rw [h2]
  exact blen_hi h1

end Go.Proofs.YtfoadddlmehpnaaDoor
