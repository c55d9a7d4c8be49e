/- Lists of ints as the executor's rows; arithmetic on ints. -/
import Derived.Test.YtekmhhmemkjcbaaAxU
set_option linter.unusedSimpArgs false
set_option linter.unusedVariables false
set_option linter.deprecated false
namespace Go.Ax
open Go Go.RowKit

def i64s (xs : List Int) : List (List AV) := xs.map fun x => [.v (.int .i64 x)]
theorem i64s_length (xs : List Int) : (i64s xs).length = xs.length := by simp [i64s]
theorem i64s_getD {xs : List Int} {i : Nat} (h : i < xs.length) : (i64s xs).getD i [] = [.v (.int .i64 (xs.getD i 0))] := by
  simp [i64s, List.getD, h]
theorem Cl.i64s {xs : List Int} {sz : Nat} : Cl (.sl sz (i64s xs)) := Cl.sl (fun r hr a ha => by
  obtain ⟨x, _, rfl⟩ := List.mem_map.1 hr
  simp at ha
  subst ha
  exact .v _)

/-- The low bits. -/
theorem and_low (x : Int) (k : Nat) (hk : k ≤ 62) {c : Int} (hc : c = 2 ^ k - 1) : (((BitVec.ofInt IntKind.i64.bits x &&& BitVec.ofInt IntKind.i64.bits c).toNat : Nat) : Int) = x % 2 ^ k := by
  show (((BitVec.ofInt 64 x &&& BitVec.ofInt 64 c).toNat : Nat) : Int) = x % 2 ^ k
  subst hc
  have e : ∀ k : Nat, (2 : Int) ^ k = ((2 ^ k : Nat) : Int) := fun k => by simp
  have hp : 1 ≤ 2 ^ k := Nat.one_le_two_pow
  have hlt : 2 ^ k < 2 ^ 64 := Nat.pow_lt_pow_right (by omega) (by omega)
  rw [BitVec.toNat_and, BitVec.toNat_ofInt, BitVec.toNat_ofInt]
  have e2 : (((2 : Int) ^ k - 1) % ((2 ^ 64 : Nat) : Int)).toNat = 2 ^ k - 1 := by
    rw [e k, Int.emod_eq_of_lt (by omega) (by omega)]
    omega
  rw [e2, Nat.and_two_pow_sub_one_eq_mod, e k]
  have h1 : 0 ≤ x % ((2 ^ 64 : Nat) : Int) := Int.emod_nonneg _ (by decide)
  rw [Int.natCast_emod, Int.toNat_of_nonneg h1]
  refine Int.emod_emod_of_dvd x ?_
  exact Int.natCast_dvd_natCast.2 (Nat.pow_dvd_pow 2 (by omega))

theorem and_16 (x : Int) : (((BitVec.ofInt IntKind.i64.bits x &&& BitVec.ofInt IntKind.i64.bits 65535).toNat : Nat) : Int) = x % 65536 := and_low x 16 (by omega) rfl
theorem and_32 (x : Int) : (((BitVec.ofInt IntKind.i64.bits x &&& BitVec.ofInt IntKind.i64.bits 4294967295).toNat : Nat) : Int) = x % 4294967296 := and_low x 32 (by omega) rfl

theorem tmod_fix (x : Int) {b : Int} (hb : 0 < b) : (x.tmod b + b).tmod b = x % b := by
  have h1 : -b < x.tmod b := Int.lt_tmod_of_pos x hb
  rw [Int.tmod_eq_emod_of_nonneg (by omega), Int.add_emod_right]
  have h2 := Int.mul_tdiv_add_tmod x b
  have h3 : x.tmod b = x + b * (-(x.tdiv b)) := by rw [Int.mul_neg]; omega
  rw [h3, Int.add_mul_emod_self_left]
theorem tmod_16 (x : Int) : (x.tmod 65536 + 65536).tmod 65536 = x % 65536 := tmod_fix x (by omega)
theorem tmod_32 (x : Int) : (x.tmod 4294967296 + 4294967296).tmod 4294967296 = x % 4294967296 := tmod_fix x (by omega)
theorem tmod_bd (x : Int) {b : Int} (hb : 0 < b) : -b < x.tmod b ∧ x.tmod b < b := ⟨Int.lt_tmod_of_pos x hb, Int.tmod_lt_of_pos x hb⟩
theorem tmod_nn {x b : Int} (h : 0 ≤ x) : x.tmod b = x % b := Int.tmod_eq_emod_of_nonneg h
theorem tdiv_nn {x b : Int} (h : 0 ≤ x) : x.tdiv b = x / b := Int.tdiv_eq_ediv_of_nonneg h
end Go.Ax
