/- Plain facts on integers: clipping, division, products within bounds. -/
import Derived.Test.YtekmhhmemkjcbaaAxK
import Derived.Test.YtekmhhmemkjcbaaAxV
set_option linter.unusedSimpArgs false
set_option linter.unusedVariables false
set_option linter.deprecated false
namespace Go.Ax

def clip (x lo hi : Int) : Int := max lo (min x hi)
theorem clip_bd {lo hi : Int} (h : lo ≤ hi) (x : Int) : lo ≤ clip x lo hi ∧ clip x lo hi ≤ hi := by unfold clip; omega
theorem clip_id {x lo hi : Int} (h : lo ≤ x ∧ x ≤ hi) : clip x lo hi = x := by unfold clip; omega
theorem clip_mono {x y : Int} (h : x ≤ y) (lo hi : Int) : clip x lo hi ≤ clip y lo hi := by unfold clip; omega

theorem mul_bd {a b A B : Int} (ha : -A ≤ a ∧ a ≤ A) (hb : -B ≤ b ∧ b ≤ B) : -(A * B) ≤ a * b ∧ a * b ≤ A * B := by
  have hA : 0 ≤ A := by omega
  have hB : 0 ≤ B := by omega
  have h1 : 0 ≤ (A - a) * (B - b) := Int.mul_nonneg (by omega) (by omega)
  have h2 : 0 ≤ (A + a) * (B + b) := Int.mul_nonneg (by omega) (by omega)
  have h3 : 0 ≤ (A - a) * (B + b) := Int.mul_nonneg (by omega) (by omega)
  have h4 : 0 ≤ (A + a) * (B - b) := Int.mul_nonneg (by omega) (by omega)
  simp only [Int.sub_mul, Int.mul_sub, Int.add_mul, Int.mul_add] at h1 h2 h3 h4
  omega

/-- Go's quotient and remainder give the quotient rounded down. -/
theorem div_floor {a b : Int} (hb : 0 < b) : (if a.tmod b < 0 then a.tdiv b - 1 else a.tdiv b) = a / b := by
  have h1 := Int.mul_tdiv_add_tmod a b
  have h2 := Int.mul_ediv_add_emod a b
  have h3 := Int.emod_nonneg a (by omega : b ≠ 0)
  have h4 := Int.emod_lt_of_pos a hb
  have h5 : -b < a.tmod b := Int.lt_tmod_of_pos a hb
  have h6 := Int.tmod_lt_of_pos a hb
  by_cases h : a.tmod b < 0
  · rw [if_pos h]
    have h7 : b * (a.tdiv b - a / b - 1) = a % b - a.tmod b - b := by rw [Int.mul_sub, Int.mul_sub]; omega
    have h8 : a.tdiv b - a / b - 1 = 0 := by
      rcases Int.lt_trichotomy (a.tdiv b - a / b - 1) 0 with hlt | heq | hgt
      · have : b * (a.tdiv b - a / b - 1) ≤ b * (-1) := Int.mul_le_mul_of_nonneg_left (by omega) (by omega)
        omega
      · exact heq
      · have : b * 1 ≤ b * (a.tdiv b - a / b - 1) := Int.mul_le_mul_of_nonneg_left (by omega) (by omega)
        omega
    omega
  · rw [if_neg h]
    have h7 : b * (a.tdiv b - a / b) = a % b - a.tmod b := by rw [Int.mul_sub]; omega
    rcases Int.lt_trichotomy (a.tdiv b - a / b) 0 with hlt | heq | hgt
    · have : b * (a.tdiv b - a / b) ≤ b * (-1) := Int.mul_le_mul_of_nonneg_left (by omega) (by omega)
      omega
    · omega
    · have : b * 1 ≤ b * (a.tdiv b - a / b) := Int.mul_le_mul_of_nonneg_left (by omega) (by omega)
      omega

theorem ediv_bd {a b : Int} (hb : 0 < b) (ha : -9223372036854775808 ≤ a ∧ a ≤ 9223372036854775807) : -9223372036854775808 ≤ a / b ∧ a / b ≤ 9223372036854775807 := by
  by_cases h : 0 ≤ a
  · have h1 := Int.ediv_nonneg h (by omega : 0 ≤ b)
    have h2 := Int.ediv_le_self b h
    omega
  · have h1 := Int.ediv_neg_of_neg_of_pos (by omega : a < 0) hb
    have h2 : a ≤ a / b := (Int.le_ediv_iff_mul_le hb).2 (by
      have := Int.mul_le_mul_of_nonpos_left (a := a) (by omega : a ≤ 0) (by omega : 1 ≤ b)
      omega)
    omega
theorem tdiv_bd {a b : Int} (hb : 0 < b) (ha : -9223372036854775808 ≤ a ∧ a ≤ 9223372036854775807) : -9223372036854775808 ≤ a.tdiv b ∧ a.tdiv b ≤ 9223372036854775807 := by
  have h1 := div_floor (a := a) hb
  have h2 := ediv_bd hb ha
  by_cases h : a.tmod b < 0
  · rw [if_pos h] at h1
    have h3 : a < 0 := by
      by_cases h0 : 0 ≤ a
      · have := Int.tmod_nonneg b h0; omega
      · omega
    have h4 := Int.ediv_neg_of_neg_of_pos h3 hb
    omega
  · rw [if_neg h] at h1; omega
theorem pow_bd {n m : Nat} (h : n ≤ m) : 1 ≤ (2 : Int) ^ n ∧ (2 : Int) ^ n ≤ 2 ^ m := by
  have h1 : 1 ≤ 2 ^ n := Nat.one_le_two_pow
  have h2 : 2 ^ n ≤ 2 ^ m := Nat.pow_le_pow_right (by omega) h
  have e : ∀ k : Nat, ((2 ^ k : Nat) : Int) = (2 : Int) ^ k := fun k => by simp
  rw [← e, ← e]
  omega
/-- The bitwise or of a multiple of 2^(k+1) with 2^k. -/
theorem or_bit {r b : Int} {k : Nat} (hr : 0 ≤ r) (hr2 : r < 18446744073709551616) (hb : b = 2 ^ k) (hk : k < 63) (hm : r % 2 ^ (k + 1) = 0) : (((BitVec.ofInt IntKind.i64.bits r ||| BitVec.ofInt IntKind.i64.bits b).toNat : Nat) : Int) = r + b := by
  show (((BitVec.ofInt 64 r ||| BitVec.ofInt 64 b).toNat : Nat) : Int) = r + b
  obtain ⟨n, rfl⟩ := Int.eq_ofNat_of_zero_le hr
  have e : ∀ k : Nat, (2 : Int) ^ k = ((2 ^ k : Nat) : Int) := fun k => by simp
  rw [e] at hb hm
  subst hb
  have hlt : 2 ^ k < 2 ^ 64 := Nat.pow_lt_pow_right (by omega) (by omega)
  have hn : n < 2 ^ 64 := by simp at hr2 ⊢; omega
  have e1 : ∀ x : Nat, x < 2 ^ 64 → (BitVec.ofInt 64 (x : Int)).toNat = x := fun x hx => by
    rw [BitVec.toNat_ofInt]
    have : ((x : Int) % ((2 ^ 64 : Nat) : Int)) = ((x % 2 ^ 64 : Nat) : Int) := by simp
    rw [this, Nat.mod_eq_of_lt hx]
    simp
  rw [BitVec.toNat_or, e1 _ hn, e1 _ hlt]
  have hm' : n % 2 ^ (k + 1) = 0 := by exact_mod_cast hm
  have hd : n = 2 ^ (k + 1) * (n / 2 ^ (k + 1)) := by have := Nat.div_add_mod n (2 ^ (k + 1)); omega
  have h := Nat.two_pow_add_eq_or_of_lt (i := k + 1) (b := 2 ^ k) (Nat.pow_lt_pow_right (by omega) (by omega)) (n / 2 ^ (k + 1))
  rw [← hd] at h
  rw [← h]
  simp
end Go.Ax
