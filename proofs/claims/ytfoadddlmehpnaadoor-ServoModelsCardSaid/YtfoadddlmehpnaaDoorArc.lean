/- Layer 7 (arctan) and its reference. -/
import Derived.Test.YtfoadddlmehpnaaDoorAng
set_option linter.unusedSimpArgs false
set_option linter.unusedVariables false
set_option linter.deprecated false
namespace Go.Proofs.YtfoadddlmehpnaaDoor
open Go Go.Ax
set_option maxRecDepth 100000
set_option maxHeartbeats 4000000

def farP (x : Int) : Prop := 1099511627776 < x ∨ x < -1099511627776
instance (x : Int) : Decidable (farP x) := by unfold farP; exact inferInstance
/-- Halved until it is small. -/
def hv : Nat → Int → Int → Int × Int
  | 0, x, y => (x, y)
  | n + 1, x, y => if farP x ∨ farP y then hv n (x.tdiv 2) (y.tdiv 2) else (x, y)
theorem hv_near {n : Nat} {x y : Int} (h : ¬ (farP x ∨ farP y)) : hv n x y = (x, y) := by
  cases n with
  | zero => rfl
  | succ n => simp only [hv]; rw [if_neg h]
theorem hv_far {n : Nat} {x y : Int} (h : farP x ∨ farP y) : hv (n + 1) x y = hv n (x.tdiv 2) (y.tdiv 2) := by
  simp only [hv]; rw [if_pos h]
theorem tdiv2 (x : Int) : (0 ≤ x → 0 ≤ x.tdiv 2 ∧ 2 * x.tdiv 2 ≤ x) ∧ (x ≤ 0 → x.tdiv 2 ≤ 0 ∧ x ≤ 2 * x.tdiv 2) := by
  have h1 := Int.mul_tdiv_add_tmod x 2
  have h2 := tmod_bd x (b := 2) (by omega)
  constructor
  · intro h
    have := Int.tmod_nonneg 2 h
    omega
  · intro h
    have : x.tmod 2 ≤ 0 := by
      have h3 := Int.tmod_nonneg 2 (a := -x) (by omega)
      rw [Int.neg_tmod] at h3; omega
    omega
theorem tdiv2_bd {x B : Int} (h : -(2 * B) ≤ x ∧ x ≤ 2 * B) : -B ≤ x.tdiv 2 ∧ x.tdiv 2 ≤ B := by
  have := tdiv2 x
  by_cases h0 : 0 ≤ x
  · have := this.1 h0; omega
  · have := this.2 (by omega); omega
theorem pow_two_succ (n : Nat) : (2 : Int) ^ (39 + (n + 1)) = 2 * 2 ^ (39 + n) := by rw [show 39 + (n + 1) = (39 + n) + 1 by omega, Int.pow_succ, Int.mul_comm]
theorem hv_bd : ∀ (n : Nat) (x y : Int), (-(2 ^ (39 + n)) ≤ x ∧ x ≤ 2 ^ (39 + n)) → (-(2 ^ (39 + n)) ≤ y ∧ y ≤ 2 ^ (39 + n)) → ¬ farP (hv n x y).1 ∧ ¬ farP (hv n x y).2
  | 0, x, y, hx, hy => by
    simp only [hv, farP]
    have : (2 : Int) ^ (39 + 0) = 549755813888 := by decide
    rw [this] at hx hy
    omega
  | n + 1, x, y, hx, hy => by
    by_cases h : farP x ∨ farP y
    · rw [hv_far h]
      rw [pow_two_succ] at hx hy
      exact hv_bd n _ _ (tdiv2_bd hx) (tdiv2_bd hy)
    · rw [hv_near h]
      exact ⟨fun q => h (.inl q), fun q => h (.inr q)⟩

/-- A vector is turned back into the first quarter, by q quarters. -/
def Rot (a b x y q : Int) : Prop := (a = 0 ∧ b = 0 ∧ x = 1 ∧ y = 0 ∧ q = 0) ∨ (0 < a ∧ 0 ≤ b ∧ x = a ∧ y = b ∧ q = 0) ∨ (a ≤ 0 ∧ 0 < b ∧ x = b ∧ y = 0 - a ∧ q = 1) ∨ (a < 0 ∧ b ≤ 0 ∧ x = 0 - a ∧ y = 0 - b ∧ q = 2) ∨ (0 ≤ a ∧ b < 0 ∧ x = 0 - b ∧ y = a ∧ q = 3)
theorem rot_ex (a b : Int) : ∃ x y q, Rot a b x y q := by
  unfold Rot
  by_cases h1 : 0 < a
  · by_cases h2 : 0 ≤ b
    · exact ⟨a, b, 0, by omega⟩
    · exact ⟨0 - b, a, 3, by omega⟩
  · by_cases h2 : 0 < b
    · exact ⟨b, 0 - a, 1, by omega⟩
    · by_cases h3 : a = 0
      · by_cases h4 : b = 0
        · exact ⟨1, 0, 0, by omega⟩
        · exact ⟨0 - b, a, 3, by omega⟩
      · exact ⟨0 - a, 0 - b, 2, by omega⟩
theorem rot_bd {a b x y q : Int} (h : Rot a b x y q) (ha : ¬ farP a) (hb : ¬ farP b) : (0 < x ∧ x ≤ 1099511627776) ∧ (0 ≤ y ∧ y ≤ 1099511627776) ∧ 0 ≤ q ∧ q ≤ 3 := by
  unfold Rot at h; unfold farP at ha hb; omega

end Go.Proofs.YtfoadddlmehpnaaDoor
