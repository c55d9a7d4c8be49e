/- Layer 7 (arctan) and its reference: the angle of a vector. -/
import Derived.Test.YtfoadddlmehpnaaDoorArc
set_option linter.unusedSimpArgs false
set_option linter.unusedVariables false
set_option linter.deprecated false
namespace Go.Proofs.YtfoadddlmehpnaaDoor
open Go Go.Ax
set_option maxRecDepth 100000
set_option maxHeartbeats 4000000

/-- The greatest angle, by halving. -/
def bsr (x y : Int) : Nat → Int → Int → Int
  | 0, lo, _ => lo
  | n + 1, lo, hi => if lo < hi then (if sinF ((lo + hi + 1) / 2).toNat * x ≤ cosF ((lo + hi + 1) / 2).toNat * y then bsr x y n ((lo + hi + 1) / 2) hi else bsr x y n lo ((lo + hi + 1) / 2 - 1)) else lo
def arc (x y : Int) : Int := bsr x y 14 0 16383
theorem bsr_bd (x y : Int) : ∀ (n : Nat) (lo hi : Int), lo ≤ hi → lo ≤ bsr x y n lo hi ∧ bsr x y n lo hi ≤ hi
  | 0, lo, hi, h => ⟨Int.le_refl _, h⟩
  | n + 1, lo, hi, h => by
    simp only [bsr]
    split
    · split
      · have := bsr_bd x y n ((lo + hi + 1) / 2) hi (by omega); omega
      · have := bsr_bd x y n lo ((lo + hi + 1) / 2 - 1) (by omega); omega
    · omega
theorem arc_bd (x y : Int) : 0 ≤ arc x y ∧ arc x y ≤ 16383 := bsr_bd x y 14 0 16383 (by omega)
theorem two_pow_succ (n : Nat) : (2 : Int) ^ (n + 1) = 2 * 2 ^ n := by rw [Int.pow_succ, Int.mul_comm]

/-- Quarter turns. -/
def rseq (a b : Int) : Nat → Int × Int
  | 0 => (a, b)
  | k + 1 => ((rseq a b k).2, 0 - (rseq a b k).1)
theorem rseq_bd {a b B : Int} (ha : -B ≤ a ∧ a ≤ B) (hb : -B ≤ b ∧ b ≤ B) : ∀ k : Nat, (-B ≤ (rseq a b k).1 ∧ (rseq a b k).1 ≤ B) ∧ (-B ≤ (rseq a b k).2 ∧ (rseq a b k).2 ≤ B)
  | 0 => ⟨ha, hb⟩
  | k + 1 => by
    have := rseq_bd ha hb k
    simp only [rseq]
    omega
theorem rot_rseq {a b x y q : Int} (h : Rot a b x y q) (h0 : ¬ (a = 0 ∧ b = 0)) : rseq a b q.toNat = (x, y) := by
  rcases h with ⟨c1, c2, _⟩ | ⟨_, _, rfl, rfl, rfl⟩ | ⟨_, _, rfl, rfl, rfl⟩ | ⟨_, _, rfl, rfl, rfl⟩ | ⟨_, _, rfl, rfl, rfl⟩
  · exact absurd ⟨c1, c2⟩ h0
  · rfl
  · rfl
  · rfl
  · show (0 - b, 0 - (0 - y)) = (0 - b, y)
    simp

end Go.Proofs.YtfoadddlmehpnaaDoor
