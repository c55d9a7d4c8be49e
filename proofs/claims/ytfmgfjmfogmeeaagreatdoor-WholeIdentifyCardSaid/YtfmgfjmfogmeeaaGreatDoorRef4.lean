/- The plain arithmetic of the reference (ref02), part 4: right. -/
import Derived.Test.YtfmgfjmfogmeeaaGreatDoorRef3
set_option linter.unusedSimpArgs false
set_option linter.unusedVariables false
set_option linter.deprecated false
namespace Go.Proofs.YtfmgfjmfogmeeaaGreatDoor
open Go Go.Ax
set_option maxRecDepth 100000
set_option maxHeartbeats 4000000
theorem word_bit (a i : Nat) : (words a).getD (i / 32) 0 / 2 ^ (i % 32) % 2 = a / 2 ^ i % 2 := by
  have hk : i % 32 < 32 := Nat.mod_lt _ (by omega)
  rw [getD_val (Wd.words a), val_words]
  have e : (4294967296 : Nat) = 2 ^ (i % 32) * (2 * 2 ^ (31 - i % 32)) := by
    rw [← Nat.pow_succ', ← Nat.pow_add, show i % 32 + (31 - i % 32).succ = 32 by omega]
  have h : ∀ z, z % 4294967296 / 2 ^ (i % 32) % 2 = z / 2 ^ (i % 32) % 2 := fun z => by
    rw [e, Nat.mod_mul_right_div_self, Nat.mod_mul_right_mod]
  rw [h, Nat.div_div_eq_div_mul]
  congr 2
  rw [two_pow_32, ← Nat.pow_add, Nat.div_add_mod]
theorem and32_one {y : Nat} (h : y < 4294967296) : bAnd .u32 (y : Int) 1 = ((y % 2 : Nat) : Int) := by
  have := and32 h (by omega : 1 < 4294967296)
  rw [Nat.and_one_is_mod] at this; exact this
theorem or_word' {a b : Nat} (ha : a < 4294967296) (hb : b < 4294967296) : bOr .u64 (b : Int) ((a * 4294967296 : Nat) : Int) = ((a * 4294967296 + b : Nat) : Int) := by
  rw [← or_word ha hb, or64 (by omega) (by omega), or64 (by omega) (by omega), Nat.or_comm]
def low (a n : Nat) : Bool := decide (a % 2 ^ n ≠ 0)
theorem low_zero (a : Nat) : low a 0 = false := by simp [low, Nat.mod_one]
theorem low_succ (a i : Nat) : low a (i + 1) = (low a i || decide (a / 2 ^ i % 2 = 1)) := by
  have h := Nat.mod_pow_succ (x := a) (b := 2) (k := i)
  have hp : 0 < 2 ^ i := Nat.pow_pos (by omega)
  unfold low
  rw [h]
  rcases Nat.mod_two_eq_zero_or_one (a / 2 ^ i) with h1 | h1 <;> rw [h1]
  · simp
  · by_cases h2 : a % 2 ^ i = 0
    · rw [h2]; simp
    · simp [h2]
theorem low_big {a i n : Nat} (h : a < 2 ^ i) (hn : i ≤ n) : low a i = low a n := by
  unfold low
  rw [Nat.mod_eq_of_lt h, Nat.mod_eq_of_lt (Nat.lt_of_lt_of_le h (Nat.pow_le_pow_right (by omega) hn))]
theorem ref_right (a n : Nat) (ha : (words a).length ≤ 1099511627776) (hn : n ≤ 1099511627776) : CallOK Tryz.prog gl 180 [.sl 1 (u32s (words a)), .v (.int .i64 n)] (.tup [.sl 1 (u32s (words (a / 2 ^ n))), .v (.bool (low a n))]) := by
  refine call_ok (C := ⟨Tryz.prog, gl, ti, 82, false⟩) ti_ok mixed 3000 Tryz.call180 Tryz.func180 rfl Tryz.ntmps180 (by simp) byClL byCl ?_
  rw [Tryz.results180]
  obtain ⟨la, hla⟩ : ∃ la : Nat, la = (words a).length := ⟨_, rfl⟩
  have el : (words a).length = la := hla.symm
  have hlt : a < 2 ^ (32 * la) := by have := lt_words a; rw [el, two_pow_32] at this; exact this
  have hlw : a < 4294967296 ^ la := by rw [hla]; exact lt_words a
  have hp := two_pow_split n
  have hk : n % 32 < 32 := Nat.mod_lt _ (by omega)
  repeat' (first | (simp only [go_sem, seval, IntKind.bits.eq_def, ti, tin, u32s_length, el]) | (simp (disch := omega) only [wA]) | refine aL ti_ok ?_ | refine dL ti_ok ?_ | refine dG ?_ | ((first | refine cC ?_ ?_ | refine gS ?_ ?_ | refine dS ?_ ?_) <;> intro hc <;> first | (exfalso; simp only [dcA] at hc; omega) | (simp only [hc]; try simp only [dcA] at hc)) | refine aO ?_ | refine dO ?_)
  refine l_loop (α := Nat) (fun x => ⟨[(0, .sl 1 (u32s (words a))), (1, .v (.int .i64 n)), (7, .v (.int .i64 x)), (6, .v (.bool (low a x))), (4, .v (.slice none 0 0)), (5, .v (.bool (false)))], [], 0⟩) (fun x => x ≤ n ∧ x ≤ 32 * la) (fun x => n - x) (0) _ byFresh (fun _ h => by first | (cases h; done) | exact Nat.le_of_ble_eq_true rfl) ?_ ?_ ?_
  · exact ⟨Nat.zero_le _, Nat.zero_le _⟩
  · rw [low_zero]
    exact byWeak
  rintro i ⟨hi, hi2⟩
  by_cases hin : i < n ∧ i < 32 * la
  ·
    have d1 : (i : Int).tdiv 32 = ((i / 32 : Nat) : Int) := rfl
    have d2 : (i : Int).tmod 32 = ((i % 32 : Nat) : Int) := rfl
    have hb := word_bit a i
    have hx := (Wd.words a).get (i / 32)
    have ra := u32s_getD (ws := words a) (i := i / 32) (by omega)
    have hls := low_succ a i
    have hj : i / 32 < la := by omega
    have hk1 : i % 32 < 32 := by omega
    obtain ⟨h1, h2⟩ := hin
    cases hf : low a i
    ·
      rw [← hb, hf, Bool.false_or] at hls
      generalize (words a).getD (i / 32) 0 = x at *
      generalize i / 32 = j at *
      generalize i % 32 = k at *
      have hd := Nat.div_le_self x (2 ^ k)
      have f2 : (x : Int) / 2 ^ k = ((x / 2 ^ k : Nat) : Int) := by simp
      have f3 := and32_one (y := x / 2 ^ k) (by omega)
      generalize x / 2 ^ k = y at *
      have hb2 : y % 2 < 2 := Nat.mod_lt _ (by omega)
      by_cases hbit : y % 2 = 1
      ·
        rw [hbit] at f3
        rw [decide_eq_true hbit] at hls
        clear hb hp hlt hlw
        repeat' (first | (simp only [go_sem, seval, IntKind.bits.eq_def, ti, tin, u32s_length, el, d1, d2, ra, f2, f3]) | (simp (disch := omega) only [wA]) | refine aL ti_ok ?_ | refine dL ti_ok ?_ | refine dG ?_ | ((first | refine cC ?_ ?_ | refine gS ?_ ?_ | refine dS ?_ ?_) <;> intro hc <;> first | (exfalso; simp only [dcA] at hc; omega) | (simp only [hc]; try simp only [dcA] at hc)) | refine aO ?_ | refine dO ?_)
        refine roundEnd_of (α := Nat) (i + 1) ⟨by omega, by omega⟩ (by omega) ?_
        rw [hls]
        exact byWeak
      ·
        have hbit0 : y % 2 = 0 := by omega
        rw [hbit0] at f3
        rw [decide_eq_false hbit] at hls
        clear hb hp hlt hlw
        repeat' (first | (simp only [go_sem, seval, IntKind.bits.eq_def, ti, tin, u32s_length, el, d1, d2, ra, f2, f3]) | (simp (disch := omega) only [wA]) | refine aL ti_ok ?_ | refine dL ti_ok ?_ | refine dG ?_ | ((first | refine cC ?_ ?_ | refine gS ?_ ?_ | refine dS ?_ ?_) <;> intro hc <;> first | (exfalso; simp only [dcA] at hc; omega) | (simp only [hc]; try simp only [dcA] at hc)) | refine aO ?_ | refine dO ?_)
        refine roundEnd_of (α := Nat) (i + 1) ⟨by omega, by omega⟩ (by omega) ?_
        rw [hls]
        exact byWeak
    ·
      rw [hf, Bool.true_or] at hls
      clear hb hp hlt hlw
      repeat' (first | (simp only [go_sem, seval, IntKind.bits.eq_def, ti, tin, u32s_length, el, d1, d2, ra]) | (simp (disch := omega) only [wA]) | refine aL ti_ok ?_ | refine dL ti_ok ?_ | refine dG ?_ | ((first | refine cC ?_ ?_ | refine gS ?_ ?_ | refine dS ?_ ?_) <;> intro hc <;> first | (exfalso; simp only [dcA] at hc; omega) | (simp only [hc]; try simp only [dcA] at hc)) | refine aO ?_ | refine dO ?_)
      refine roundEnd_of (α := Nat) (i + 1) ⟨by omega, by omega⟩ (by omega) ?_
      rw [hls]
      exact byWeak
  ·
    have hlow : low a i = low a n := by
      by_cases h : i = n
      · rw [h]
      · exact low_big (by rw [show i = 32 * la by omega]; exact hlt) hi
    rw [hlow]
    generalize low a n = fl
    by_cases hbig : 32 * la ≤ n
    ·
      have e0 : a / 2 ^ n = 0 := Nat.div_eq_of_lt (Nat.lt_of_lt_of_le hlt (Nat.pow_le_pow_right (by omega) hbig))
      rw [e0, words_zero]
      clear hp hlt hlw hlow
      repeat' (first | (simp only [go_sem, seval, IntKind.bits.eq_def, ti, tin, u32s_length, el]) | (simp (disch := omega) only [wA]) | refine aL ti_ok ?_ | refine dL ti_ok ?_ | refine dG ?_ | ((first | refine cC ?_ ?_ | refine gS ?_ ?_ | refine dS ?_ ?_) <;> intro hc <;> first | (exfalso; simp only [dcA] at hc; omega) | (simp only [hc]; try simp only [dcA] at hc)) | refine aO ?_ | refine dO ?_)
      all_goals exact fin_le trivial (Le.tup (.cons (Le.nil _) (.cons (.refl _) .nil)))
    ·
      have hin : i = n := by omega
      have d1 : (n : Int).tdiv 32 = ((n / 32 : Nat) : Int) := rfl
      have d2 : (n : Int).tmod 32 = ((n % 32 : Nat) : Int) := rfl
      have hwd : n / 32 ≤ n := Nat.div_le_self _ _
      have hwl : n / 32 < la := by omega
      generalize n / 32 = wd at *
      generalize n % 32 = k at *
      clear hlow hi2
      subst hin
      generalize i = n at *
      repeat' (first | (simp only [go_sem, seval, IntKind.bits.eq_def, ti, tin, u32s_length, el, d1]) | (simp (disch := omega) only [wA]) | refine aL ti_ok ?_ | refine dL ti_ok ?_ | refine dG ?_ | ((first | refine cC ?_ ?_ | refine gS ?_ ?_ | refine dS ?_ ?_) <;> intro hc <;> first | (exfalso; simp only [dcA] at hc; omega) | (simp only [hc]; try simp only [dcA] at hc)) | refine aO ?_ | refine dO ?_)
      refine l_loop (α := Nat × List Nat) (fun x => ⟨[(0, .sl 1 (u32s (words a))), (1, .v (.int .i64 n)), (9, .v (.int .i64 ((wd + x.1 : Nat)))), (8, .ps 0 1 0 x.1), (6, .v (.bool (fl)))], [(0, ⟨1, u32s x.2⟩)], 1⟩) (fun x => wd + x.1 ≤ la ∧ x.2.length = x.1 ∧ Wd x.2 ∧ val x.2 = a / 2 ^ n % 4294967296 ^ x.1) (fun x => la - x.1) ((0, [])) _ byFresh (fun _ h => by first | (cases h; done) | exact Nat.le_of_ble_eq_true rfl) ?_ ?_ ?_
      · exact ⟨by show wd + 0 ≤ la; omega, rfl, Wd.nil, by simp [val, Nat.mod_one]⟩
      · exact Weak.trans (Weak.newnil 0 1 (Nat.le_refl _)) (Nat.le_of_ble_eq_true rfl) (by exact byWeak)
      rintro ⟨m, ws⟩ ⟨hm, hw, hW, hv⟩
      simp only at hm hw hW hv
      by_cases hml : wd + m < la
      ·
        have hx := (Wd.words a).get (wd + m + 1)
        have hy := (Wd.words a).get (wd + m)
        have ry := u32s_getD (ws := words a) (i := wd + m) (by omega)
        have f6 : ((wd + m : Nat) : Int) + 1 = ((wd + m + 1 : Nat) : Int) := by omega
        have h2w := two_words (words a) (Wd.words a) (wd + m)
        rw [val_words] at h2w
        have hP : 0 < 2 ^ k := Nat.pow_pos (by omega)
        have hword : (((words a).getD (wd + m + 1) 0 * 4294967296 + (words a).getD (wd + m) 0) / 2 ^ k) % 4294967296 = a / 2 ^ n / 4294967296 ^ m % 4294967296 := by
          rw [h2w, shr_word hP (Q := 2 ^ (32 - k)) (by rw [← Nat.pow_add, Nat.add_sub_cancel' (Nat.le_of_lt hk)]), Nat.div_div_eq_div_mul, Nat.div_div_eq_div_mul, hp, Nat.pow_add]
          congr 2
          ac_rfl
        clear h2w
        by_cases hlast : wd + m + 1 < la
        ·
          have rx := u32s_getD (ws := words a) (i := wd + m + 1) (by omega)
          generalize (words a).getD (wd + m + 1) 0 = x at *
          generalize (words a).getD (wd + m) 0 = y at *
          have f0 : (x : Int) * 4294967296 = ((x * 4294967296 : Nat) : Int) := by omega
          have f1 := or_word' hx hy
          have f2 : ((x * 4294967296 + y : Nat) : Int) / 2 ^ k = (((x * 4294967296 + y) / 2 ^ k : Nat) : Int) := by simp
          have hz : (x * 4294967296 + y) / 2 ^ k ≤ x * 4294967296 + y := Nat.div_le_self _ _
          have hms := Nat.mod_pow_succ (x := a / 2 ^ n) (b := 4294967296) (k := m)
          rw [← hword] at hms
          have hlt2 : x * 4294967296 + y < 18446744073709551616 := by omega
          generalize (x * 4294967296 + y) / 2 ^ k = z at *
          have f3 := wrap_u32 z
          have hr : z % 4294967296 < 4294967296 := Nat.mod_lt _ (by omega)
          generalize z % 4294967296 = r at *
          clear hword hp
          have e9 := u32s_snoc (w := r) hw
          generalize hpd : wd + m = p at *
          repeat' (first | (simp only [go_sem, seval, IntKind.bits.eq_def, ti, tin, u32s_length, el, d2, ry, rx, f0, f1, f2, f3, f6, hw, e9]) | (simp (disch := omega) only [wA]) | (refine after_append_nil ti_ok rfl rfl rfl rfl ⟨rfl, by decide⟩ rfl ⟨trivial, by (try simp only [List.length_cons, List.length_nil, List.length_append, u32s_length, List.length_map, hw]); omega, by (try simp only [List.length_cons, List.length_nil, List.length_append, u32s_length, List.length_map, hw]); omega⟩ (fun _ => byRows) ?_) | (refine after_append_own ti_ok rfl rfl rfl rfl rfl ⟨rfl, rfl, by decide, Nat.le_of_ble_eq_true rfl⟩ (fun h => by first | (cases h; done) | decide) rfl ⟨trivial, by (try simp only [List.length_cons, List.length_nil, List.length_append, u32s_length, List.length_map, hw]); omega, by (try simp only [List.length_cons, List.length_nil, List.length_append, u32s_length, List.length_map, hw]); omega, by (try simp only [List.length_cons, List.length_nil, List.length_append, u32s_length, List.length_map, hw]); omega⟩ byRows byNoE byNoM ?_) | refine aL ti_ok ?_ | refine dL ti_ok ?_ | refine dG ?_ | ((first | refine cC ?_ ?_ | refine gS ?_ ?_ | refine dS ?_ ?_) <;> intro hc <;> first | (exfalso; simp only [dcA] at hc; omega) | (simp only [hc]; try simp only [dcA] at hc)) | refine aO ?_ | refine dO ?_)
          refine roundEnd_of (α := Nat × List Nat) (m + 1, ws ++ [r]) ?_ ?_ ?_
          · refine ⟨by omega, by simp [hw], wd_snoc hW hr, ?_⟩
            show val (ws ++ [r]) = _
            rw [val_snoc, hw, hv, hms]
          · show la - (m + 1) < la - m
            omega
          · rw [show ((wd + (m + 1) : Nat) : Int) = ((p + 1 : Nat) : Int) by omega]
            exact byWeak
        ·
          have hx0 : (words a).getD (wd + m + 1) 0 = 0 := getD_out (by omega)
          rw [hx0, Nat.zero_mul, Nat.zero_add] at hword
          generalize (words a).getD (wd + m) 0 = y at *
          have f2 : ((y : Nat) : Int) / 2 ^ k = (((y) / 2 ^ k : Nat) : Int) := by simp
          have hz : (y) / 2 ^ k ≤ y := Nat.div_le_self _ _
          have hms := Nat.mod_pow_succ (x := a / 2 ^ n) (b := 4294967296) (k := m)
          rw [← hword] at hms
          have hlt2 : y < 18446744073709551616 := by omega
          generalize (y) / 2 ^ k = z at *
          have f3 := wrap_u32 z
          have hr : z % 4294967296 < 4294967296 := Nat.mod_lt _ (by omega)
          generalize z % 4294967296 = r at *
          clear hword hp
          have e9 := u32s_snoc (w := r) hw
          generalize hpd : wd + m = p at *
          repeat' (first | (simp only [go_sem, seval, IntKind.bits.eq_def, ti, tin, u32s_length, el, d2, ry, f2, f3, f6, hw, e9]) | (simp (disch := omega) only [wA]) | (refine after_append_nil ti_ok rfl rfl rfl rfl ⟨rfl, by decide⟩ rfl ⟨trivial, by (try simp only [List.length_cons, List.length_nil, List.length_append, u32s_length, List.length_map, hw]); omega, by (try simp only [List.length_cons, List.length_nil, List.length_append, u32s_length, List.length_map, hw]); omega⟩ (fun _ => byRows) ?_) | (refine after_append_own ti_ok rfl rfl rfl rfl rfl ⟨rfl, rfl, by decide, Nat.le_of_ble_eq_true rfl⟩ (fun h => by first | (cases h; done) | decide) rfl ⟨trivial, by (try simp only [List.length_cons, List.length_nil, List.length_append, u32s_length, List.length_map, hw]); omega, by (try simp only [List.length_cons, List.length_nil, List.length_append, u32s_length, List.length_map, hw]); omega, by (try simp only [List.length_cons, List.length_nil, List.length_append, u32s_length, List.length_map, hw]); omega⟩ byRows byNoE byNoM ?_) | refine aL ti_ok ?_ | refine dL ti_ok ?_ | refine dG ?_ | ((first | refine cC ?_ ?_ | refine gS ?_ ?_ | refine dS ?_ ?_) <;> intro hc <;> first | (exfalso; simp only [dcA] at hc; omega) | (simp only [hc]; try simp only [dcA] at hc)) | refine aO ?_ | refine dO ?_)
          refine roundEnd_of (α := Nat × List Nat) (m + 1, ws ++ [r]) ?_ ?_ ?_
          · refine ⟨by omega, by simp [hw], wd_snoc hW hr, ?_⟩
            show val (ws ++ [r]) = _
            rw [val_snoc, hw, hv, hms]
          · show la - (m + 1) < la - m
            omega
          · rw [show ((wd + (m + 1) : Nat) : Int) = ((p + 1 : Nat) : Int) by omega]
            exact byWeak
      ·
        have hval : val ws = a / 2 ^ n := by
          rw [hv, Nat.mod_eq_of_lt]
          rw [hp, ← Nat.div_div_eq_div_mul]
          refine Nat.lt_of_le_of_lt (Nat.div_le_self _ _) ?_
          rw [Nat.div_lt_iff_lt_mul (Nat.pow_pos (by omega)), ← Nat.pow_add, show m + wd = la by omega]
          exact hlw
        have tr := ref_trim ws hW (by omega)
        rw [hval] at tr
        clear hp hlt hlw hv
        repeat' (first | (simp only [go_sem, seval, IntKind.bits.eq_def, ti, tin, u32s_length, el, hw]) | (simp (disch := omega) only [wA]) | refine aL ti_ok ?_ | refine dL ti_ok ?_ | refine dG ?_ | ((first | refine cC ?_ ?_ | refine gS ?_ ?_ | refine dS ?_ ?_) <;> intro hc <;> first | (exfalso; simp only [dcA] at hc; omega) | (simp only [hc]; try simp only [dcA] at hc)) | refine aO ?_ | refine dO ?_)
        refine callF_frz 0 rfl (.cons (frz_ps rfl (by show 0 + m ≤ (u32s ws).length; rw [u32s_length]; omega)) .nil) ?_ tr ?_
        · simp only [List.drop_zero, u32s_take]
          rw [List.take_of_length_le (by omega)]
          exact LeL.refl _
        ·
          repeat' (first | (simp only [go_sem, seval, IntKind.bits.eq_def, ti, tin]) | (simp (disch := omega) only [wA]) | refine aL ti_ok ?_ | refine dL ti_ok ?_ | refine dG ?_ | ((first | refine cC ?_ ?_ | refine gS ?_ ?_ | refine dS ?_ ?_) <;> intro hc <;> first | (exfalso; simp only [dcA] at hc; omega) | (simp only [hc]; try simp only [dcA] at hc)) | refine aO ?_ | refine dO ?_)
          exact fin_same trivial rfl
end Go.Proofs.YtfmgfjmfogmeeaaGreatDoor
