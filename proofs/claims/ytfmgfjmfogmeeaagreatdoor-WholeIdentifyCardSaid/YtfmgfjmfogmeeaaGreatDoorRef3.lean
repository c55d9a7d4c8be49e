/- The plain arithmetic of the reference (ref02), part 3: less, left. -/
import Derived.Test.YtfmgfjmfogmeeaaGreatDoorRef2
set_option linter.unusedSimpArgs false
set_option linter.unusedVariables false
set_option linter.deprecated false
namespace Go.Proofs.YtfmgfjmfogmeeaaGreatDoor
open Go Go.Ax
set_option maxRecDepth 100000
set_option maxHeartbeats 4000000
theorem ref_less (a b : Nat) (ha : (words a).length ≤ 4611686018427387904) (hb : (words b).length ≤ 4611686018427387904) : CallOK Tryz.prog gl 152 [.sl 1 (u32s (words a)), .sl 1 (u32s (words b))] (.v (.bool ((decide (a < b))))) := by
  refine call_ok (C := ⟨Tryz.prog, gl, ti, 41, false⟩) ti_ok mixed 3000 Tryz.call152 Tryz.func152 rfl Tryz.ntmps152 (by simp) byClL byCl ?_
  rw [Tryz.results152]
  by_cases hl : (words a).length = (words b).length
  ·
    repeat' (first | (simp only [go_sem, seval, IntKind.bits.eq_def, ti, tin, u32s_length]) | (simp (disch := omega) only [wA]) | refine aL ti_ok ?_ | refine dL ti_ok ?_ | refine dG ?_ | ((first | refine cC ?_ ?_ | refine gS ?_ ?_ | refine dS ?_ ?_) <;> intro hc <;> first | (exfalso; simp only [dcA] at hc; omega) | (simp only [hc]; try simp only [dcA] at hc)) | refine aO ?_ | refine dO ?_)
    refine l_loop (α := Nat) (fun k => ⟨[(0, .sl 1 (u32s (words a))), (1, .sl 1 (u32s (words b))), (5, .v (.int .i64 (((k : Int) - 1)))), (4, .v (.bool (false)))], [], 0⟩) (fun k => k ≤ (words a).length ∧ (words a).drop k = (words b).drop k) (fun k => k) ((words a).length) _ byFresh (fun _ h => by first | (cases h; done) | exact Nat.le_of_ble_eq_true rfl) ?_ ?_ ?_
    · exact ⟨Nat.le_refl _, by rw [List.drop_length, hl, List.drop_length]⟩
    · exact byWeak
    rintro k ⟨hk, hd⟩
    cases k with
    | zero =>
      repeat' (first | (simp only [go_sem, seval, IntKind.bits.eq_def, ti, tin, u32s_length]) | (simp (disch := omega) only [wA]) | refine aL ti_ok ?_ | refine dL ti_ok ?_ | refine dG ?_ | ((first | refine cC ?_ ?_ | refine gS ?_ ?_ | refine dS ?_ ?_) <;> intro hc <;> first | (exfalso; simp only [dcA] at hc; omega) | (simp only [hc]; try simp only [dcA] at hc)) | refine aO ?_ | refine dO ?_)
      rw [List.drop_zero, List.drop_zero] at hd
      have e : decide (a < b) = false := decide_eq_false (by rw [← val_words a, hd, val_words]; omega)
      rw [e]
      exact fin_same trivial rfl
    | succ m =>
      have e1 : ((m + 1 : Nat) : Int) - 1 = (m : Int) := by omega
      have r := u32s_getD (ws := words a) (i := m) (by omega)
      have r' := u32s_getD (ws := words b) (i := m) (by omega)
      have c1 := lt_at (xs := words a) (ys := words b) (Wd.words a) (k := m) (by omega) (by omega) hd
      have c2 := lt_at (xs := words b) (ys := words a) (Wd.words b) (k := m) (by omega) (by omega) hd.symm
      rw [val_words, val_words] at c1 c2
      have c0 : (words a).getD m 0 = (words b).getD m 0 → (words a).drop m = (words b).drop m := fun h => by
        rw [drop_getD (by omega), drop_getD (ws := words b) (by omega), h, hd]
      have g1 : (words a).getD m 0 < (words b).getD m 0 → decide (a < b) = true := fun h => decide_eq_true (c1 h)
      have g2 : (words b).getD m 0 < (words a).getD m 0 → decide (a < b) = false := fun h => decide_eq_false (by have := c2 h; omega)
      generalize decide (a < b) = z at *
      generalize (words a).getD m 0 = x at *
      generalize (words b).getD m 0 = y at *
      rcases Nat.lt_trichotomy x y with h | h | h
      · rw [g1 h]
        repeat' (first | (simp only [go_sem, seval, IntKind.bits.eq_def, ti, tin, u32s_length, e1, r, r']) | (simp (disch := omega) only [wA]) | refine aL ti_ok ?_ | refine dL ti_ok ?_ | refine dG ?_ | ((first | refine cC ?_ ?_ | refine gS ?_ ?_ | refine dS ?_ ?_) <;> intro hc <;> first | (exfalso; simp only [dcA] at hc; omega) | (simp only [hc]; try simp only [dcA] at hc)) | refine aO ?_ | refine dO ?_)
        exact fin_same trivial (by have : (x : Int) < y := by omega
                                   simp only [this, decide_true]; rfl)
      · subst h
        repeat' (first | (simp only [go_sem, seval, IntKind.bits.eq_def, ti, tin, u32s_length, e1, r, r']) | (simp (disch := omega) only [wA]) | refine aL ti_ok ?_ | refine dL ti_ok ?_ | refine dG ?_ | ((first | refine cC ?_ ?_ | refine gS ?_ ?_ | refine dS ?_ ?_) <;> intro hc <;> first | (exfalso; simp only [dcA] at hc; omega) | (simp only [hc]; try simp only [dcA] at hc)) | refine aO ?_ | refine dO ?_)
        refine roundEnd_of (α := Nat) m ⟨by omega, c0 rfl⟩ (by omega) ?_
        exact byWeak
      · rw [g2 h]
        repeat' (first | (simp only [go_sem, seval, IntKind.bits.eq_def, ti, tin, u32s_length, e1, r, r']) | (simp (disch := omega) only [wA]) | refine aL ti_ok ?_ | refine dL ti_ok ?_ | refine dG ?_ | ((first | refine cC ?_ ?_ | refine gS ?_ ?_ | refine dS ?_ ?_) <;> intro hc <;> first | (exfalso; simp only [dcA] at hc; omega) | (simp only [hc]; try simp only [dcA] at hc)) | refine aO ?_ | refine dO ?_)
        exact fin_same trivial (by have : ¬ (x : Int) < y := by omega
                                   simp only [this, decide_false]; rfl)
  · by_cases hl2 : (words a).length < (words b).length
    · have e : decide (a < b) = true := decide_eq_true (len_lt hl2)
      rw [e]
      repeat' (first | (simp only [go_sem, seval, IntKind.bits.eq_def, ti, tin, u32s_length]) | (simp (disch := omega) only [wA]) | refine aL ti_ok ?_ | refine dL ti_ok ?_ | refine dG ?_ | ((first | refine cC ?_ ?_ | refine gS ?_ ?_ | refine dS ?_ ?_) <;> intro hc <;> first | (exfalso; simp only [dcA] at hc; omega) | (simp only [hc]; try simp only [dcA] at hc)) | refine aO ?_ | refine dO ?_)
      exact fin_same trivial (by have : ((words a).length : Int) < (words b).length := by omega
                                 simp only [this, decide_true]; rfl)
    · have e : decide (a < b) = false := decide_eq_false (by have := len_lt (a := b) (b := a) (by omega); omega)
      rw [e]
      repeat' (first | (simp only [go_sem, seval, IntKind.bits.eq_def, ti, tin, u32s_length]) | (simp (disch := omega) only [wA]) | refine aL ti_ok ?_ | refine dL ti_ok ?_ | refine dG ?_ | ((first | refine cC ?_ ?_ | refine gS ?_ ?_ | refine dS ?_ ?_) <;> intro hc <;> first | (exfalso; simp only [dcA] at hc; omega) | (simp only [hc]; try simp only [dcA] at hc)) | refine aO ?_ | refine dO ?_)
      exact fin_same trivial (by have : ¬ ((words a).length : Int) < (words b).length := by omega
                                 simp only [this, decide_false]; rfl)
theorem left_step {V c P w t q r p ai : Nat} (ht : t = w * P + c) (hd : 4294967296 * q + r = t) {B : Nat} (h : V + c * p = ai * (B * P)) (bi : Nat) (hp : p = B * bi) : V + p * r + q * (p * 4294967296) = (ai + bi * w) * (B * P) := by
  subst ht hp; grind
theorem ref_left (a n : Nat) (ha : (words a).length ≤ 1099511627776) (hn : n ≤ 1099511627776) : CallOK Tryz.prog gl 149 [.sl 1 (u32s (words a)), .v (.int .i64 n)] (.sl 1 (u32s (words (a * 2 ^ n)))) := by
  refine call_ok (C := ⟨Tryz.prog, gl, ti, 40, false⟩) ti_ok mixed 3000 Tryz.call149 Tryz.func149 rfl Tryz.ntmps149 (by simp) byClL byCl ?_
  rw [Tryz.results149]
  have d1 : (n : Int).tdiv 32 = ((n / 32 : Nat) : Int) := rfl
  have d2 : (n : Int).tmod 32 = ((n % 32 : Nat) : Int) := rfl
  have hp := two_pow_split n
  have hk : n % 32 < 32 := Nat.mod_lt _ (by omega)
  have hwd : n / 32 ≤ n := Nat.div_le_self _ _
  generalize n / 32 = wd at *
  generalize n % 32 = k at *
  obtain ⟨la, hla⟩ : ∃ la : Nat, la = (words a).length := ⟨_, rfl⟩
  have el : (words a).length = la := hla.symm
  have hk2 : 2 ^ k < 4294967296 := by
    have hp32 : (2 : Nat) ^ 32 = 4294967296 := by decide
    rw [← hp32]; exact Nat.pow_lt_pow_right (by omega) hk
  have hk0 : 0 < 2 ^ k := Nat.pow_pos (by omega)
  repeat' (first | (simp only [go_sem, seval, IntKind.bits.eq_def, ti, tin, u32s_length, el, d1, d2, u32s_zeros]) | (simp (disch := omega) only [wA]) | refine aL ti_ok ?_ | refine dL ti_ok ?_ | refine dG ?_ | ((first | refine cC ?_ ?_ | refine gS ?_ ?_ | refine dS ?_ ?_) <;> intro hc <;> first | (exfalso; simp only [dcA] at hc; omega) | (simp only [hc]; try simp only [dcA] at hc)) | refine aO ?_ | refine dO ?_)
  refine l_loop (α := Nat × List Nat × Nat) (fun x => ⟨[(0, .sl 1 (u32s (words a))), (1, .v (.int .i64 n)), (12, .sl 1 (u32s (words a))), (14, .v (.int .i64 x.1)), (13, .v (.int .i64 la)), (5, .ps 0 1 0 (wd + x.1)), (6, .v (.int .u64 (x.2.2))), (4, .v (.slice none 0 0))], [(0, ⟨1, u32s x.2.1⟩)], 1⟩) (fun x => x.1 ≤ la ∧ x.2.1.length = wd + x.1 ∧ Wd x.2.1 ∧ x.2.2 < 2 ^ k ∧ val x.2.1 + x.2.2 * 4294967296 ^ (wd + x.1) = (a % 4294967296 ^ x.1) * (4294967296 ^ wd * 2 ^ k)) (fun x => la - x.1) ((0, List.replicate wd 0, 0)) _ byFresh (fun _ h => by first | (cases h; done) | exact Nat.le_of_ble_eq_true rfl) ?_ ?_ ?_
  · exact ⟨Nat.zero_le _, by simp, Wd.zeros _, hk0, by simp [val_zeros, Nat.mod_one]⟩
  · exact byWeak
  rintro ⟨i, ws, c⟩ ⟨hi, hw, hW, hc0, hv⟩
  simp only at hi hw hW hc0 hv
  by_cases hin : i < la
  ·
    have hx := (Wd.words a).get i
    have ra := u32s_getD (ws := words a) (i := i) (by omega)
    have hms := mod_succ a i
    generalize (words a).getD i 0 = w at *
    have hwk : w * 2 ^ k + c < 4294967296 * 2 ^ k := by
      have := Nat.mul_le_mul_right (2 ^ k) hx
      rw [Nat.succ_mul] at this
      omega
    have hwk2 : 4294967296 * 2 ^ k < 18446744073709551616 := by omega
    have hor : bOr .u64 (c : Int) ((w * 2 ^ k : Nat) : Int) = ((w * 2 ^ k + c : Nat) : Int) := by
      rw [or64 (by omega) (by omega), Nat.or_comm, Nat.mul_comm w, or_add hc0]
    have f0 : (w : Int) * 2 ^ k = ((w * 2 ^ k : Nat) : Int) := by simp
    have ht0 : w * 2 ^ k < 18446744073709551616 := by omega
    obtain ⟨t, ht⟩ : ∃ t, t = w * 2 ^ k + c := ⟨_, rfl⟩
    have hst := fun r q hd => left_step (r := r) (q := q) ht hd (B := 4294967296 ^ wd) hv (4294967296 ^ i) (Nat.pow_add 4294967296 wd i)
    have hq : t / 4294967296 < 2 ^ k := Nat.div_lt_of_lt_mul (by rw [ht]; exact hwk)
    rw [← ht] at hor hwk
    have hst := hst _ _ (Nat.div_add_mod t 4294967296)
    have f1 := wrap_u32 t
    have f2 : (t : Int) / 4294967296 = ((t / 4294967296 : Nat) : Int) := rfl
    have hr : t % 4294967296 < 4294967296 := Nat.mod_lt _ (by omega)
    have htl : t < 18446744073709551616 := by omega
    generalize t % 4294967296 = r at *
    generalize t / 4294967296 = q at *
    generalize w * 2 ^ k = wk at *
    have e9 := u32s_snoc (w := r) hw
    clear hp ht
    repeat' (first | (simp only [go_sem, seval, IntKind.bits.eq_def, ti, tin, u32s_length, el, ra, f0, f1, f2, hor, e9, d2]) | (simp (disch := omega) only [wA]) | (refine after_append_nil ti_ok rfl rfl rfl rfl ⟨rfl, by decide⟩ rfl ⟨trivial, by (try simp only [List.length_cons, List.length_nil, List.length_append, u32s_length, List.length_map, hw]); omega, by (try simp only [List.length_cons, List.length_nil, List.length_append, u32s_length, List.length_map, hw]); omega⟩ (fun _ => byRows) ?_) | (refine after_append_own ti_ok rfl rfl rfl rfl rfl ⟨rfl, rfl, by decide, Nat.le_of_ble_eq_true rfl⟩ (fun h => by first | (cases h; done) | decide) rfl ⟨trivial, by (try simp only [List.length_cons, List.length_nil, List.length_append, u32s_length, List.length_map, hw]); omega, by (try simp only [List.length_cons, List.length_nil, List.length_append, u32s_length, List.length_map, hw]); omega, by (try simp only [List.length_cons, List.length_nil, List.length_append, u32s_length, List.length_map, hw]); omega⟩ byRows byNoE byNoM ?_) | refine aL ti_ok ?_ | refine dL ti_ok ?_ | refine dG ?_ | ((first | refine cC ?_ ?_ | refine gS ?_ ?_ | refine dS ?_ ?_) <;> intro hc <;> first | (exfalso; simp only [dcA] at hc; omega) | (simp only [hc]; try simp only [dcA] at hc)) | refine aO ?_ | refine dO ?_)
    refine roundEnd_of (α := Nat × List Nat × Nat) (i + 1, ws ++ [r], q) ?_ ?_ ?_
    · refine ⟨hin, by simp [hw, Nat.add_assoc], wd_snoc hW hr, hq, ?_⟩
      show val (ws ++ [r]) + q * 4294967296 ^ (wd + (i + 1)) = a % 4294967296 ^ (i + 1) * (4294967296 ^ wd * 2 ^ k)
      rw [val_snoc, hw, hms, ← Nat.add_assoc, Nat.pow_succ]
      exact hst
    · show la - (i + 1) < la - i
      omega
    · exact byWeak
  ·
    have hi1 : i = la := by omega
    subst hi1
    have hc2 : c < 4294967296 := by omega
    have hval : val (ws ++ [c]) = a * 2 ^ n := by
      rw [val_snoc, hw, Nat.mul_comm _ c, hv, Nat.mod_eq_of_lt (by rw [hla]; exact lt_words a), hp]
    have e9 := u32s_snoc (w := c) hw
    have f1 := wrap_u32 c
    rw [Nat.mod_eq_of_lt hc2] at f1
    have hl2 : (ws ++ [c]).length = wd + i + 1 := by simp [hw]
    have tr := ref_trim (ws ++ [c]) (wd_snoc hW hc2) (by omega)
    rw [hval] at tr
    clear hp hv
    repeat' (first | (simp only [go_sem, seval, IntKind.bits.eq_def, ti, tin, u32s_length, el, f1, e9, hw]) | (simp (disch := omega) only [wA]) | (refine after_append_nil ti_ok rfl rfl rfl rfl ⟨rfl, by decide⟩ rfl ⟨trivial, by (try simp only [List.length_cons, List.length_nil, List.length_append, u32s_length, List.length_map, hw]); omega, by (try simp only [List.length_cons, List.length_nil, List.length_append, u32s_length, List.length_map, hw]); omega⟩ (fun _ => byRows) ?_) | (refine after_append_own ti_ok rfl rfl rfl rfl rfl ⟨rfl, rfl, by decide, Nat.le_of_ble_eq_true rfl⟩ (fun h => by first | (cases h; done) | decide) rfl ⟨trivial, by (try simp only [List.length_cons, List.length_nil, List.length_append, u32s_length, List.length_map, hw]); omega, by (try simp only [List.length_cons, List.length_nil, List.length_append, u32s_length, List.length_map, hw]); omega, by (try simp only [List.length_cons, List.length_nil, List.length_append, u32s_length, List.length_map, hw]); omega⟩ byRows byNoE byNoM ?_) | refine aL ti_ok ?_ | refine dL ti_ok ?_ | refine dG ?_ | ((first | refine cC ?_ ?_ | refine gS ?_ ?_ | refine dS ?_ ?_) <;> intro hc <;> first | (exfalso; simp only [dcA] at hc; omega) | (simp only [hc]; try simp only [dcA] at hc)) | refine aO ?_ | refine dO ?_)
    refine callF_frz 0 rfl (.cons (frz_ps rfl (by show 0 + (wd + i + 1) ≤ (u32s (ws ++ [c])).length; rw [u32s_length]; omega)) .nil) ?_ tr ?_
    · simp only [List.drop_zero, u32s_take]
      rw [List.take_of_length_le (by omega)]
      exact LeL.refl _
    ·
      repeat' (first | (simp only [go_sem, seval, IntKind.bits.eq_def, ti, tin]) | (simp (disch := omega) only [wA]) | refine aL ti_ok ?_ | refine dL ti_ok ?_ | refine dG ?_ | ((first | refine cC ?_ ?_ | refine gS ?_ ?_ | refine dS ?_ ?_) <;> intro hc <;> first | (exfalso; simp only [dcA] at hc; omega) | (simp only [hc]; try simp only [dcA] at hc)) | refine aO ?_ | refine dO ?_)
      exact fin_same trivial rfl
end Go.Proofs.YtfmgfjmfogmeeaaGreatDoor
