/- Layer 2 (dyadic.go), part 5: Make, Floor, Ceil, Int. -/
import Derived.Test.YtfmgfjmfogmeeaaGreatDoorDy4
import Derived.Test.YtfmgfjmfogmeeaaGreatDoorU2
import Derived.Test.YtfmgfjmfogmeeaaGreatDoorDy1
set_option linter.unusedSimpArgs false
set_option linter.unusedVariables false
set_option linter.deprecated false
namespace Go.Proofs.YtfmgfjmfogmeeaaGreatDoor
open Go Go.Ax
set_option maxRecDepth 100000
set_option maxHeartbeats 4000000
end Go.Proofs.YtfmgfjmfogmeeaaGreatDoor
/- Natural numbers as words (nat.go of layer 2), part 6: division by a word, a digit of a quotient. -/
set_option linter.unusedSimpArgs false
set_option linter.unusedVariables false
set_option linter.deprecated false
namespace Go.Proofs.YtfmgfjmfogmeeaaGreatDoor
open Go Go.Ax
set_option maxRecDepth 100000
set_option maxHeartbeats 4000000
theorem bits_Div32 (hi lo y : Nat) (h : hi < y) (hlo : lo < 4294967296) (hy : y < 4294967296) : CallOK Tryz.prog gl 110 [.v (.int .u32 (hi)), .v (.int .u32 (lo)), .v (.int .u32 (y))] (.tup [.v (.int .u32 (((hi * 4294967296 + lo) / y : Nat))), .v (.int .u32 (((hi * 4294967296 + lo) % y : Nat)))]) := by
  refine call_ok (C := ⟨Tryz.prog, gl, ti, 33, false⟩) ti_ok mixed 3000 Tryz.call110 Tryz.func110 rfl Tryz.ntmps110 (by simp) byClL byCl ?_
  rw [Tryz.results110]
  have f0 : (hi : Int) * 4294967296 = ((hi * 4294967296 : Nat) : Int) := by omega
  have f1 := or_word (a := hi) (b := lo) (by omega) hlo
  have hq : (hi * 4294967296 + lo) / y < 4294967296 := by
    rw [Nat.div_lt_iff_lt_mul (by omega)]
    have := Nat.mul_le_mul_left 4294967296 (show hi + 1 ≤ y by omega)
    omega
  have hr : (hi * 4294967296 + lo) % y < y := Nat.mod_lt _ (by omega)
  have ht : hi * 4294967296 + lo < 18446744073709551616 := by omega
  have f2 : ((hi * 4294967296 + lo : Nat) : Int).tdiv (y : Int) = (((hi * 4294967296 + lo) / y : Nat) : Int) := rfl
  have f3 : ((hi * 4294967296 + lo : Nat) : Int).tmod (y : Int) = (((hi * 4294967296 + lo) % y : Nat) : Int) := rfl
  generalize (hi * 4294967296 + lo) / y = q at *
  generalize (hi * 4294967296 + lo) % y = r at *
  repeat' (first | (simp only [go_sem, seval, IntKind.bits.eq_def, ti, tin, f0, f1, f2, f3]) | (simp (disch := omega) only [wA]) | refine aL ti_ok ?_ | refine dL ti_ok ?_ | refine dG ?_ | ((first | refine cC ?_ ?_ | refine gS ?_ ?_ | refine dS ?_ ?_) <;> intro hc <;> first | (exfalso; simp only [dcA] at hc; omega) | (simp only [hc]; try simp only [dcA] at hc)) | refine aO ?_ | refine dO ?_)
  exact fin_same trivial rfl
theorem div_step {a d B : Nat} (hd : 0 < d) (hB : 0 < B) (k : Nat) : a / B ^ k / d = (a / B ^ (k + 1) % d * B + a / B ^ k % B) / d + B * (a / B ^ (k + 1) / d) ∧ a / B ^ k % d = (a / B ^ (k + 1) % d * B + a / B ^ k % B) % d := by
  rw [Nat.pow_succ, ← Nat.div_div_eq_div_mul]
  generalize a / B ^ k = x
  have h1 := Nat.div_add_mod x B
  have h2 := Nat.div_add_mod (x / B) d
  have e : x = d * (B * (x / B / d)) + (x / B % d * B + x % B) := by
    conv => lhs; rw [← h1, ← h2]
    rw [Nat.mul_add, ← Nat.mul_assoc, Nat.mul_comm B d, Nat.mul_assoc, Nat.mul_comm B (x / B % d), Nat.add_assoc]
  constructor
  · conv => lhs; rw [e]
    rw [Nat.mul_add_div hd, Nat.add_comm]
  · conv => lhs; rw [e]
    rw [Nat.mul_add_mod]
theorem val_drop_set {ws : List Nat} {m : Nat} (h : m < ws.length) (q : Nat) : val ((ws.set m q).drop m) = q + 4294967296 * val (ws.drop (m + 1)) := by
  rw [drop_getD (by rw [List.length_set]; exact h), getD_set_eq h, List.drop_set_of_lt (by omega)]
  rfl
theorem nat_divWord (a d : Nat) (hd : 0 < d) (hd2 : d < 4294967296) (ha : (words a).length ≤ 1099511627776) : CallOK Tryz.prog gl 68 [.sl 1 (u32s (words a)), .v (.int .u32 (d))] (.tup [.sl 1 (u32s (words (a / d))), .v (.int .u32 ((a % d : Nat)))]) := by
  refine call_ok (C := ⟨Tryz.prog, gl, ti, 35, false⟩) ti_ok mixed 3000 Tryz.call68 Tryz.func68 rfl Tryz.ntmps68 (by simp) byClL byCl ?_
  rw [Tryz.results68]
  obtain ⟨la, hla⟩ : ∃ la : Nat, la = (words a).length := ⟨_, rfl⟩
  have el : (words a).length = la := hla.symm
  have hlt := lt_words a
  rw [el] at hlt
  repeat' (first | (simp only [go_sem, seval, IntKind.bits.eq_def, ti, tin, u32s_length, el, u32s_zeros]) | (simp (disch := omega) only [wA]) | refine aL ti_ok ?_ | refine dL ti_ok ?_ | refine dG ?_ | ((first | refine cC ?_ ?_ | refine gS ?_ ?_ | refine dS ?_ ?_) <;> intro hc <;> first | (exfalso; simp only [dcA] at hc; omega) | (simp only [hc]; try simp only [dcA] at hc)) | refine aO ?_ | refine dO ?_)
  refine l_loop (α := Nat × List Nat × Nat) (fun x => ⟨[(0, .sl 1 (u32s (words a))), (1, .v (.int .u32 (d))), (6, .ps 0 1 0 la), (7, .v (.int .u32 (x.2.2))), (8, .v (.int .i64 (((x.1 : Int) - 1)))), (4, .v (.slice none 0 0)), (5, .v (.int .u32 (0)))], [(0, ⟨1, u32s x.2.1⟩)], 1⟩) (fun x => x.1 ≤ la ∧ x.2.1.length = la ∧ Wd x.2.1 ∧ x.2.2 = a / 4294967296 ^ x.1 % d ∧ val (x.2.1.drop x.1) = a / 4294967296 ^ x.1 / d) (fun x => x.1) ((la, List.replicate la 0, 0)) _ byFresh (fun _ h => by first | (cases h; done) | exact Nat.le_of_ble_eq_true rfl) ?_ ?_ ?_
  · exact ⟨Nat.le_refl _, by simp, Wd.zeros la, by rw [Nat.div_eq_of_lt hlt]; simp, by rw [List.drop_eq_nil_of_le (by simp), Nat.div_eq_of_lt hlt]; simp [val]⟩
  · exact byWeak
  rintro ⟨k, ws, r⟩ ⟨hk, hw, hW, hr, hv⟩
  simp only at hk hw hW hr hv
  cases k with
  | zero =>
    rw [Nat.pow_zero, Nat.div_one] at hr hv
    rw [List.drop_zero] at hv
    repeat' (first | (simp only [go_sem, seval, IntKind.bits.eq_def, ti, tin, u32s_length]) | (simp (disch := omega) only [wA]) | refine aL ti_ok ?_ | refine dL ti_ok ?_ | refine dG ?_ | ((first | refine cC ?_ ?_ | refine gS ?_ ?_ | refine dS ?_ ?_) <;> intro hc <;> first | (exfalso; simp only [dcA] at hc; omega) | (simp only [hc]; try simp only [dcA] at hc)) | refine aO ?_ | refine dO ?_)
    refine callF_frz 0 rfl (.cons (frz_ps rfl (by show 0 + la ≤ (u32s ws).length; rw [u32s_length]; omega)) .nil) ?_ (nat_trim ws hW (by omega)) ?_
    · simp only [List.drop_zero, u32s_take]
      rw [List.take_of_length_le (by omega)]
      exact LeL.refl _
    · rw [hv, ← hr]
      repeat' (first | (simp only [go_sem, seval, IntKind.bits.eq_def, ti, tin]) | (simp (disch := omega) only [wA]) | refine aL ti_ok ?_ | refine dL ti_ok ?_ | refine dG ?_ | ((first | refine cC ?_ ?_ | refine gS ?_ ?_ | refine dS ?_ ?_) <;> intro hc <;> first | (exfalso; simp only [dcA] at hc; omega) | (simp only [hc]; try simp only [dcA] at hc)) | refine aO ?_ | refine dO ?_)
      exact fin_same trivial rfl
  | succ m =>
    have e1 : ((m + 1 : Nat) : Int) - 1 = (m : Int) := by omega
    have ra := u32s_getD (ws := words a) (i := m) (by omega)
    have hx := (Wd.words a).get m
    have hxv := getD_val (Wd.words a) m
    rw [val_words] at hxv
    obtain ⟨s1, s2⟩ := div_step (a := a) hd (by omega : 0 < 4294967296) m
    rw [← hxv, ← hr, ← hv] at s1
    rw [← hxv, ← hr] at s2
    generalize (words a).getD m 0 = x at *
    have hrd : r < d := by rw [hr]; exact Nat.mod_lt _ hd
    have dv := bits_Div32 r x d hrd hx hd2
    have hq : (r * 4294967296 + x) / d < 4294967296 := by
      rw [Nat.div_lt_iff_lt_mul hd]
      have := Nat.mul_le_mul_left 4294967296 (show r + 1 ≤ d by omega)
      omega
    generalize (r * 4294967296 + x) / d = q at *
    generalize (r * 4294967296 + x) % d = r2 at *
    have ro := u32s_getD (ws := ws) (i := m) (by omega)
    repeat' (first | (simp only [go_sem, seval, IntKind.bits.eq_def, ti, tin, u32s_length, el, e1, ra, ro, u32s_set]) | (simp (disch := omega) only [wA]) | (with_reducible first | refine cF dv ?_ | refine dF dv ?_) | refine aL ti_ok ?_ | refine dL ti_ok ?_ | refine dG ?_ | ((first | refine cC ?_ ?_ | refine gS ?_ ?_ | refine dS ?_ ?_) <;> intro hc <;> first | (exfalso; simp only [dcA] at hc; omega) | (simp only [hc]; try simp only [dcA] at hc)) | refine aO ?_ | refine dO ?_)
    refine roundEnd_of (α := Nat × List Nat × Nat) (m, ws.set m q, r2) ?_ ?_ ?_
    · refine ⟨by omega, by simp [hw], hW.set m hq, s2.symm, ?_⟩
      show val ((ws.set m q).drop m) = _
      rw [val_drop_set (by omega), s1]
    · show m < m + 1
      omega
    · exact byWeak
end Go.Proofs.YtfmgfjmfogmeeaaGreatDoor
/- Natural numbers as words (nat.go of layer 2), part 7: a digit of a quotient (Knuth's D). -/
set_option linter.unusedSimpArgs false
set_option linter.unusedVariables false
set_option linter.deprecated false
namespace Go.Proofs.YtfmgfjmfogmeeaaGreatDoor
open Go Go.Ax
set_option maxRecDepth 100000
set_option maxHeartbeats 4000000
def fixw (n k : Nat) : List Nat := words k ++ List.replicate (n - (words k).length) 0
theorem fixw_val (n k : Nat) : val (fixw n k) = k := by rw [fixw, val_append, val_zeros, val_words]; simp
theorem fixw_wd (n k : Nat) : Wd (fixw n k) := (Wd.words k).append (Wd.zeros _)
theorem fixw_len {n k : Nat} (h : (words k).length ≤ n) : (fixw n k).length = n := by rw [fixw, List.length_append, List.length_replicate]; omega
theorem val_inj_len : ∀ {a b : List Nat}, Wd a → Wd b → a.length = b.length → val a = val b → a = b
  | [], [], _, _, _, _ => rfl
  | [], _ :: _, _, _, h, _ => by simp at h
  | _ :: _, [], _, _, h, _ => by simp at h
  | x :: a, y :: b, ha, hb, hl, hv => by
    have h1 := ha.head
    have h2 := hb.head
    simp only [val] at hv
    have h3 : x = y := by omega
    have h4 : val a = val b := by omega
    rw [h3, val_inj_len ha.tail hb.tail (by simpa using hl) h4]
theorem val_window (ws : List Nat) {i n : Nat} (h : i + n ≤ ws.length) : val ws = val (ws.take i) + 4294967296 ^ i * (val ((ws.drop i).take n) + 4294967296 ^ n * val (ws.drop (i + n))) := by
  rw [val_take_drop ws (k := i) (by omega), val_take_drop (ws.drop i) (k := n) (by simp; omega), List.drop_drop]
theorem window_words (ws : List Nat) {i n W : Nat} (hw : Wd ws) (h : i + n ≤ ws.length) (hv : val ((ws.drop i).take n) = W) : ws = ws.take i ++ fixw n W ++ ws.drop (i + n) := by
  have hlen : ((ws.drop i).take n).length = n := by simp; omega
  have hW : W < 4294967296 ^ n := by
    rw [← hv]
    have := val_lt ((hw.drop i).take n)
    rwa [hlen] at this
  have e : (ws.drop i).take n = fixw n W := val_inj_len ((hw.drop i).take n) (fixw_wd _ _) (by rw [hlen, fixw_len (words_length_le hW)]) (by rw [hv, fixw_val])
  rw [← e, ← List.drop_drop, List.append_assoc, List.take_append_drop, List.take_append_drop]
theorem sub_word {x y c d e : Nat} (hc : c ≤ 1) (hx : x < 4294967296) (hy : y < 4294967296) (hd : d = (x + 8589934592 - y - c) % 4294967296) (he : e = if x < y + c then 1 else 0) : d + y + c = x + 4294967296 * e ∧ d < 4294967296 ∧ e ≤ 1 := by
  subst hd he
  split <;> omega
theorem dig_sub {V V' Vr p o r' tl bo bo' ca ca' w d Bi Bj Ymod : Nat} (hp : p = Bi * Bj) (hset : V' + p * o = V + p * r') (hsub : r' + tl + bo = o + 4294967296 * bo') (ht : w * d + ca = tl + 4294967296 * ca') (hinv : V + Bi * (Ymod * d) = Vr + p * (ca + bo)) :
    V' + Bi * ((Ymod + Bj * w) * d) = Vr + p * 4294967296 * (ca' + bo') := by grind
theorem dig_add {V V' V0 p o r' c c' w Bi Bj Ymod : Nat} (hp : p = Bi * Bj) (hset : V' + p * o = V + p * r') (hadd : 4294967296 * c' + r' = o + w + c) (hinv : V + p * c = V0 + Bi * Ymod) :
    V' + p * 4294967296 * c' = V0 + Bi * (Ymod + Bj * w) := by grind
theorem dig_top {V V' Vr p o r' bo bo' ca Y d Bi : Nat} (hset : V' + p * o = V + p * r') (hsub : r' + ca + bo = o + 4294967296 * bo') (hinv : V + Bi * (Y * d) = Vr + p * (ca + bo)) :
    V' + Bi * (Y * d) = Vr + p * 4294967296 * bo' := by grind
theorem dig_top2 {V V' V0 p o r' c c' Y d Bi Vr bo : Nat} (hset : V' + p * o = V + p * r') (hadd : 4294967296 * c' + r' = o + c) (hinv : V + p * c = V0 + Bi * Y) (h0 : V0 + Bi * (Y * (d + 1)) = Vr + p * 4294967296 * bo) (hc : c' ≤ bo) :
    V' + Bi * (Y * d) = Vr + p * 4294967296 * (bo - c') := by
  obtain ⟨e, rfl⟩ : ∃ e, bo = c' + e := ⟨bo - c', by omega⟩
  rw [Nat.add_sub_cancel_left]
  grind
theorem win_gt {W Z R P : Nat} (h1 : W < P) (h2 : W + Z = R + P * 1) : R < Z := by omega
def Same (i n : Nat) (rs ws : List Nat) : Prop := ws.length = rs.length ∧ Wd ws ∧ ws.take i = rs.take i ∧ ws.drop (i + n) = rs.drop (i + n)
theorem Same.set {i n : Nat} {rs ws : List Nat} (h : Same i n rs ws) {p x : Nat} (h1 : i ≤ p) (h2 : p < i + n) (hx : x < 4294967296) : Same i n rs (ws.set p x) := by
  obtain ⟨a, b, c, d⟩ := h
  exact ⟨by simp [a], b.set p hx, by rw [List.take_set_of_le h1]; exact c, by rw [List.drop_set_of_lt h2]; exact d⟩
theorem Same.eq {i n : Nat} {rs ws : List Nat} (h : Same i n rs ws) (hl : i + n ≤ rs.length) {Z bo : Nat} (hv : val ws + 4294967296 ^ i * Z = val rs + 4294967296 ^ (i + n) * bo) :
    val ((ws.drop i).take n) + Z = val ((rs.drop i).take n) + 4294967296 ^ n * bo := by
  obtain ⟨a, b, c, d⟩ := h
  rw [val_window ws (i := i) (n := n) (by omega), val_window rs hl, c, d, Nat.pow_add] at hv
  have hp : 0 < 4294967296 ^ i := Nat.pow_pos (by omega)
  apply Nat.eq_of_mul_eq_mul_left hp
  generalize 4294967296 ^ i = P at *
  generalize 4294967296 ^ n * val (rs.drop (i + n)) = T at *
  rw [Nat.mul_assoc] at hv
  simp only [Nat.mul_add] at hv ⊢
  omega
theorem digit_est {R Y top sec yt lo yl : Nat} {P : Nat} (hP : 0 < P) (hR : R = (top * 4294967296 + sec) * P + lo) (hlo : lo < P) (hY : Y = yt * P + yl) (hyt : 0 < yt) : R / Y ≤ (top * 4294967296 + sec) / yt := by
  rw [Nat.le_div_iff_mul_le hyt]
  have h1 := Nat.div_mul_le_self R Y
  have h2 : R / Y * yt * P ≤ R / Y * Y := by rw [Nat.mul_assoc]; exact Nat.mul_le_mul_left _ (by omega)
  have h3 : R / Y * yt * P < (top * 4294967296 + sec + 1) * P := by
    rw [Nat.add_mul, Nat.one_mul]; omega
  have := Nat.lt_of_mul_lt_mul_right h3
  omega
end Go.Proofs.YtfmgfjmfogmeeaaGreatDoor
