/- Natural numbers as words (nat.go of layer 2), part 7: a digit of a quotient (Knuth's D). -/
import Derived.Test.YtpggiabnhodjpaaDoorNat6
set_option linter.unusedSimpArgs false
set_option linter.unusedVariables false
set_option linter.deprecated false
namespace Go.Proofs.YtpggiabnhodjpaaDoor
open Go Go.Ax
set_option maxRecDepth 100000
set_option maxHeartbeats 4000000

theorem val_window (ws : List Nat) {i n : Nat} (h : i + n ≤ ws.length) : val ws = val (ws.take i) + 4294967296 ^ i * (val ((ws.drop i).take n) + 4294967296 ^ n * val (ws.drop (i + n))) := by
  rw [val_take_drop ws (k := i) (by omega), val_take_drop (ws.drop i) (k := n) (by simp; omega), List.drop_drop]
/-- Words out of the window have not turned. -/
def Same (i n : Nat) (rs ws : List Nat) : Prop := ws.length = rs.length ∧ Wd ws ∧ ws.take i = rs.take i ∧ ws.drop (i + n) = rs.drop (i + n)
theorem Same.set {i n : Nat} {rs ws : List Nat} (h : Same i n rs ws) {p x : Nat} (h1 : i ≤ p) (h2 : p < i + n) (hx : x < 4294967296) : Same i n rs (ws.set p x) := by
  obtain ⟨a, b, c, d⟩ := h
  exact ⟨by simp [a], b.set p hx, by rw [List.take_set_of_le h1]; exact c, by rw [List.drop_set_of_lt h2]; exact d⟩
/-- The equation of the windows. -/
theorem Same.eq {i n : Nat} {rs ws : List Nat} (h : Same i n rs ws) (hl : i + n ≤ rs.length) {Z bo : Nat} (hv : val ws + 4294967296 ^ i * Z = val rs + 4294967296 ^ (i + n) * bo) :
    val ((ws.drop i).take n) + Z = val ((rs.drop i).take n) + 4294967296 ^ n * bo := by
  obtain ⟨a, b, c, d⟩ := h
  rw [val_window ws (i := i) (n := n) (by omega), val_window rs hl, c, d, Nat.pow_add] at hv
  have hp : 0 < 4294967296 ^ i := Nat.pow_pos (by omega)
  apply Nat.eq_of_mul_eq_mul_left hp
  generalize 4294967296 ^ i = P at *
  generalize 4294967296 ^ n * val (rs.drop (i + n)) = T at *
  rw [Nat.mul_assoc] at hv
  simp only [Nat.mul_add] at hv ⊢
  omega
end Go.Proofs.YtpggiabnhodjpaaDoor
