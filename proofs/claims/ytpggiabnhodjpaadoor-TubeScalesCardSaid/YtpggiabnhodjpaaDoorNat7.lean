/- Natural numbers as words (nat.go of layer 2), part 7: a digit of a quotient (Knuth's D). -/
import Derived.Test.YtpggiabnhodjpaaDoorNat6
set_option linter.unusedSimpArgs false
set_option linter.unusedVariables false
set_option linter.deprecated false
namespace Go.Proofs.YtpggiabnhodjpaaDoor
open Go Go.Ax
set_option maxRecDepth 100000
set_option maxHeartbeats 4000000

/-- The words of a number, filled up to a length. -/
def fixw (n k : Nat) : List Nat := words k ++ List.replicate (n - (words k).length) 0
theorem fixw_val (n k : Nat) : val (fixw n k) = k := by rw [fixw, val_append, val_zeros, val_words]; simp
theorem fixw_wd (n k : Nat) : Wd (fixw n k) := (Wd.words k).append (Wd.zeros _)
theorem fixw_len {n k : Nat} (h : (words k).length ≤ n) : (fixw n k).length = n := by rw [fixw, List.length_append, List.length_replicate]; omega
theorem val_inj_len : ∀ {a b : List Nat}, Wd a → Wd b → a.length = b.length → val a = val b → a = b
  | [], [], _, _, _, _ => rfl
  | [], _ :: _, _, _, h, _ => by simp at h
  | _ :: _, [], _, _, h, _ => by simp at h
  | x :: a, y :: b, ha, hb, hl, hv => by
    have h1 := ha.head
    have h2 := hb.head
    simp only [val] at hv
    have h3 : x = y := by omega
    have h4 : val a = val b := by omega
    rw [h3, val_inj_len ha.tail hb.tail (by simpa using hl) h4]
theorem val_window (ws : List Nat) {i n : Nat} (h : i + n ≤ ws.length) : val ws = val (ws.take i) + 4294967296 ^ i * (val ((ws.drop i).take n) + 4294967296 ^ n * val (ws.drop (i + n))) := by
  rw [val_take_drop ws (k := i) (by omega), val_take_drop (ws.drop i) (k := n) (by simp; omega), List.drop_drop]
theorem window_words (ws : List Nat) {i n W : Nat} (hw : Wd ws) (h : i + n ≤ ws.length) (hv : val ((ws.drop i).take n) = W) : ws = ws.take i ++ fixw n W ++ ws.drop (i + n) := by
  have hlen : ((ws.drop i).take n).length = n := by simp; omega
  have hW : W < 4294967296 ^ n := by
    rw [← hv]
    have := val_lt ((hw.drop i).take n)
    rwa [hlen] at this
  have e : (ws.drop i).take n = fixw n W := val_inj_len ((hw.drop i).take n) (fixw_wd _ _) (by rw [hlen, fixw_len (words_length_le hW)]) (by rw [hv, fixw_val])
  rw [← e, ← List.drop_drop, List.append_assoc, List.take_append_drop, List.take_append_drop]

theorem sub_word {x y c d e : Nat} (hc : c ≤ 1) (hx : x < 4294967296) (hy : y < 4294967296) (hd : d = (x + 8589934592 - y - c) % 4294967296) (he : e = if x < y + c then 1 else 0) : d + y + c = x + 4294967296 * e ∧ d < 4294967296 ∧ e ≤ 1 := by
  subst hd he
  split <;> omega
theorem dig_sub {V V' Vr p o r' tl bo bo' ca ca' w d Bi Bj Ymod : Nat} (hp : p = Bi * Bj) (hset : V' + p * o = V + p * r') (hsub : r' + tl + bo = o + 4294967296 * bo') (ht : w * d + ca = tl + 4294967296 * ca') (hinv : V + Bi * (Ymod * d) = Vr + p * (ca + bo)) :
    V' + Bi * ((Ymod + Bj * w) * d) = Vr + p * 4294967296 * (ca' + bo') := by grind
theorem dig_add {V V' V0 p o r' c c' w Bi Bj Ymod : Nat} (hp : p = Bi * Bj) (hset : V' + p * o = V + p * r') (hadd : 4294967296 * c' + r' = o + w + c) (hinv : V + p * c = V0 + Bi * Ymod) :
    V' + p * 4294967296 * c' = V0 + Bi * (Ymod + Bj * w) := by grind
theorem dig_top {V V' Vr p o r' bo bo' ca Y d Bi : Nat} (hset : V' + p * o = V + p * r') (hsub : r' + ca + bo = o + 4294967296 * bo') (hinv : V + Bi * (Y * d) = Vr + p * (ca + bo)) :
    V' + Bi * (Y * d) = Vr + p * 4294967296 * bo' := by grind
theorem dig_top2 {V V' V0 p o r' c c' Y d Bi Vr bo : Nat} (hset : V' + p * o = V + p * r') (hadd : 4294967296 * c' + r' = o + c) (hinv : V + p * c = V0 + Bi * Y) (h0 : V0 + Bi * (Y * (d + 1)) = Vr + p * 4294967296 * bo) (hc : c' ≤ bo) :
    V' + Bi * (Y * d) = Vr + p * 4294967296 * (bo - c') := by
  obtain ⟨e, rfl⟩ : ∃ e, bo = c' + e := ⟨bo - c', by omega⟩
  rw [Nat.add_sub_cancel_left]
  grind

theorem win_gt {W Z R P : Nat} (h1 : W < P) (h2 : W + Z = R + P * 1) : R < Z := by omega
/-- Words out of the window have not turned. -/
def Same (i n : Nat) (rs ws : List Nat) : Prop := ws.length = rs.length ∧ Wd ws ∧ ws.take i = rs.take i ∧ ws.drop (i + n) = rs.drop (i + n)
theorem Same.set {i n : Nat} {rs ws : List Nat} (h : Same i n rs ws) {p x : Nat} (h1 : i ≤ p) (h2 : p < i + n) (hx : x < 4294967296) : Same i n rs (ws.set p x) := by
  obtain ⟨a, b, c, d⟩ := h
  exact ⟨by simp [a], b.set p hx, by rw [List.take_set_of_le h1]; exact c, by rw [List.drop_set_of_lt h2]; exact d⟩
/-- The equation of the windows. -/
theorem Same.eq {i n : Nat} {rs ws : List Nat} (h : Same i n rs ws) (hl : i + n ≤ rs.length) {Z bo : Nat} (hv : val ws + 4294967296 ^ i * Z = val rs + 4294967296 ^ (i + n) * bo) :
    val ((ws.drop i).take n) + Z = val ((rs.drop i).take n) + 4294967296 ^ n * bo := by
  obtain ⟨a, b, c, d⟩ := h
  rw [val_window ws (i := i) (n := n) (by omega), val_window rs hl, c, d, Nat.pow_add] at hv
  have hp : 0 < 4294967296 ^ i := Nat.pow_pos (by omega)
  apply Nat.eq_of_mul_eq_mul_left hp
  generalize 4294967296 ^ i = P at *
  generalize 4294967296 ^ n * val (rs.drop (i + n)) = T at *
  rw [Nat.mul_assoc] at hv
  simp only [Nat.mul_add] at hv ⊢
  omega
theorem digit_est {R Y top sec yt lo yl : Nat} {P : Nat} (hP : 0 < P) (hR : R = (top * 4294967296 + sec) * P + lo) (hlo : lo < P) (hY : Y = yt * P + yl) (hyt : 0 < yt) : R / Y ≤ (top * 4294967296 + sec) / yt := by
  rw [Nat.le_div_iff_mul_le hyt]
  have h1 := Nat.div_mul_le_self R Y
  have h2 : R / Y * yt * P ≤ R / Y * Y := by rw [Nat.mul_assoc]; exact Nat.mul_le_mul_left _ (by omega)
  have h3 : R / Y * yt * P < (top * 4294967296 + sec + 1) * P := by
    rw [Nat.add_mul, Nat.one_mul]; omega
  have := Nat.lt_of_mul_lt_mul_right h3
  omega

end Go.Proofs.YtpggiabnhodjpaaDoor
