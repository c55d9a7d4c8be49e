/- Natural numbers as words (nat.go of layer 2), part 11: what a round of the long division does. -/
import Derived.Test.YtfmgfjmfogmeeaaGreatDoorNatA
import Derived.Test.YtfmgfjmfogmeeaaGreatDoorNat8
set_option linter.unusedSimpArgs false
set_option linter.unusedVariables false
set_option linter.deprecated false
namespace Go.Proofs.YtfmgfjmfogmeeaaGreatDoor
open Go Go.Ax
set_option maxRecDepth 100000
set_option maxHeartbeats 4000000
theorem digit_ok (rs : List Nat) (i k y : Nat) (hW : Wd rs) (hy : (words y).length = k + 1) (hl : i + (k + 2) ≤ rs.length) (hlen : rs.length ≤ 4398046511104) (hR : val ((rs.drop i).take (k + 2)) < y * 4294967296) :
    CallW Tryz.prog gl 109 [.ps 0 1 i (k + 2), .sl 1 (u32s (words y))] ⟨1, u32s rs⟩ (.v (.int .u32 (val ((rs.drop i).take (k + 2)) / y : Nat))) ⟨1, u32s (rs.take i ++ fixw (k + 2) (val ((rs.drop i).take (k + 2)) % y) ++ rs.drop (i + (k + 2)))⟩ := by
  by_cases ht : rs.getD (i + k + 1) 0 < (words y).getD k 0
  · exact digit_a rs i k y hW hy hl hlen hR ht
  · exact digit_b rs i k y hW hy hl hlen hR ht
theorem words_len_mono {a b : Nat} (h : a ≤ b) : (words a).length ≤ (words b).length := words_length_le (Nat.lt_of_le_of_lt h (lt_words b))
theorem norm_len {b n : Nat} (hb : 0 < b) (hn : (words b).length = n + 1) : (words (b * 2 ^ (32 - blen ((words b).getD n 0)))).length = n + 1 := by
  have hw := (Wd.words b).get n
  have h1 := blen_word hw
  have h2 := (blen_le (w := (words b).getD n 0) (l := blen ((words b).getD n 0))).1 (Nat.le_refl _)
  have hv : b = val ((words b).take n) + 4294967296 ^ n * (words b).getD n 0 := by
    have := val_take_drop (words b) (k := n) (by omega)
    rw [val_words, drop_getD (by omega), show (words b).drop (n + 1) = [] from List.drop_eq_nil_of_le (by omega)] at this
    simpa [val] using this
  have hlt : val ((words b).take n) < 4294967296 ^ n := by
    have := val_lt ((Wd.words b).take n)
    rwa [List.length_take, Nat.min_eq_left (by omega)] at this
  have hup : b < 4294967296 ^ n * 2 ^ blen ((words b).getD n 0) := by
    have : 4294967296 ^ n * ((words b).getD n 0 + 1) ≤ 4294967296 ^ n * 2 ^ blen ((words b).getD n 0) := Nat.mul_le_mul_left _ h2
    rw [Nat.mul_add, Nat.mul_one] at this
    omega
  generalize blen ((words b).getD n 0) = l at *
  have hp : b * 2 ^ (32 - l) < 4294967296 ^ (n + 1) := by
    have e : 4294967296 ^ (n + 1) = 4294967296 ^ n * 2 ^ l * 2 ^ (32 - l) := by
      rw [Nat.mul_assoc, ← Nat.pow_add, Nat.add_sub_cancel' h1]; rw [Nat.pow_succ, show (2 : Nat) ^ 32 = 4294967296 by decide]
    rw [e]
    exact Nat.mul_lt_mul_of_pos_right hup (Nat.pow_pos (by omega))
  have := words_length_le hp
  have := words_len_mono (Nat.le_mul_of_pos_right b (Nat.pow_pos (n := 32 - l) (by omega : 0 < 2)))
  omega
theorem round_win {rest : List Nat} {j n Y : Nat} (hl : j + (n + 1) ≤ rest.length) (hY : Y < 4294967296 ^ n) (hlt : val (rest.drop (j + 1)) < Y) (hW : Wd rest) :
    val ((rest.drop j).take (n + 1)) = val (rest.drop j) ∧ val (rest.drop j) < Y * 4294967296 ∧ val (rest.drop (j + (n + 1))) = 0 := by
  have h1 := val_take_drop (rest.drop (j + 1)) (k := n) (by simp; omega)
  rw [List.drop_drop, show j + 1 + n = j + (n + 1) by omega] at h1
  have hz : val (rest.drop (j + (n + 1))) = 0 := by
    rcases Nat.eq_zero_or_pos (val (rest.drop (j + (n + 1)))) with h | h
    · exact h
    · have := Nat.mul_le_mul_left (4294967296 ^ n) h
      rw [Nat.mul_one] at this
      omega
  have h2 := val_take_drop (rest.drop j) (k := n + 1) (by simp; omega)
  rw [List.drop_drop, hz, Nat.mul_zero, Nat.add_zero] at h2
  refine ⟨h2.symm, ?_, hz⟩
  rw [val_drop_getD (by omega)]
  have := hW.get j
  have := Nat.mul_le_mul_right 4294967296 hlt
  omega
theorem round_div {rest : List Nat} {j n Y R : Nat} (hl : j + (n + 1) ≤ rest.length) (hW : Wd rest) (hz : val (rest.drop (j + (n + 1))) = 0) (hR : R = val (rest.drop j)) (hY0 : 0 < Y) (hY : Y < 4294967296 ^ n) :
    let rest' := rest.take j ++ fixw (n + 1) (R % Y) ++ rest.drop (j + (n + 1))
    rest'.length = rest.length ∧ Wd rest' ∧ val (rest'.drop j) < Y ∧ val rest' + 4294967296 ^ j * (Y * (R / Y)) = val rest := by
  intro rest'
  have hm := Nat.mod_lt R hY0
  have hfl : (words (R % Y)).length ≤ n + 1 := words_length_le (Nat.lt_trans (Nat.lt_trans hm hY) (Nat.pow_lt_pow_right (by omega) (by omega)))
  have hf := fixw_len hfl
  have htl : (rest.take j).length = j := by simp; omega
  have hd : rest'.drop j = fixw (n + 1) (R % Y) ++ rest.drop (j + (n + 1)) := by
    show (rest.take j ++ fixw (n + 1) (R % Y) ++ rest.drop (j + (n + 1))).drop j = _
    rw [List.append_assoc, List.drop_append, htl, Nat.sub_self, List.drop_zero, List.drop_eq_nil_of_le (by omega), List.nil_append]
  have hvd : val (rest'.drop j) = R % Y := by rw [hd, val_append, fixw_val, hz, Nat.mul_zero, Nat.add_zero]
  have hlen : rest'.length = rest.length := by
    show (rest.take j ++ fixw (n + 1) (R % Y) ++ rest.drop (j + (n + 1))).length = _
    simp only [List.length_append, htl, hf, List.length_drop]; omega
  refine ⟨hlen, ((hW.take j).append (fixw_wd _ _)).append (hW.drop _), by rw [hvd]; exact hm, ?_⟩
  rw [val_take_drop rest' (k := j) (by omega), val_take_drop rest (k := j) (by omega), hvd, ← hR]
  have : rest'.take j = rest.take j := by
    show (rest.take j ++ fixw (n + 1) (R % Y) ++ rest.drop (j + (n + 1))).take j = _
    rw [List.append_assoc, List.take_append, htl, Nat.sub_self, List.take_zero, List.append_nil, List.take_take, Nat.min_self]
  rw [this, Nat.add_assoc, ← Nat.mul_add, Nat.mod_add_div]
theorem fix_lt {a s n : Nat} (h : a < 4294967296 ^ n) (hs : s ≤ 32) : a * 2 ^ s < 4294967296 ^ (n + 1) := by
  have h2 : 2 ^ s ≤ 4294967296 := Nat.pow_le_pow_right (n := 2) (by omega) hs
  have h3 : a * 2 ^ s ≤ a * 4294967296 := Nat.mul_le_mul_left _ h2
  have h4 : a * 4294967296 < 4294967296 ^ n * 4294967296 := Nat.mul_lt_mul_of_pos_right h (by omega)
  rw [Nat.pow_succ]; omega
theorem round_top {a b n la s : Nat} (hn : (words b).length = n + 1) (hb : 0 < b) (hla : a < 4294967296 ^ la) (hnl : n ≤ la) : val ((fixw (la + 1) (a * 2 ^ s)).drop (la - n)) < b * 2 ^ s := by
  rw [val_drop (fixw_wd _ _), fixw_val]
  refine Nat.div_lt_of_lt_mul ?_
  have h1 := words_ge (n := b) (by omega)
  rw [hn, Nat.add_sub_cancel] at h1
  have h2 : 4294967296 ^ la ≤ 4294967296 ^ (la - n) * b := by
    have := Nat.mul_le_mul_left (4294967296 ^ (la - n)) h1
    rwa [← Nat.pow_add, Nat.sub_add_cancel hnl] at this
  rw [← Nat.mul_assoc]
  exact Nat.mul_lt_mul_of_pos_right (Nat.lt_of_lt_of_le hla h2) (Nat.pow_pos (by omega))
end Go.Proofs.YtfmgfjmfogmeeaaGreatDoor
