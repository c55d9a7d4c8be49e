/- Natural numbers as words (nat.go of layer 2), part 2: comparing, adding, subtracting. -/
import Derived.Test.YtfmgfjmfogmeeaaGreatDoorNat1
set_option linter.unusedSimpArgs false
set_option linter.unusedVariables false
set_option linter.deprecated false
namespace Go.Proofs.YtfmgfjmfogmeeaaGreatDoor
open Go Go.Ax
set_option maxRecDepth 100000
set_option maxHeartbeats 4000000
theorem pow_le {a b : Nat} (h : a ≤ b) : 4294967296 ^ a ≤ 4294967296 ^ b := Nat.pow_le_pow_right (by omega) h
theorem len_lt {a b : Nat} (h : (words a).length < (words b).length) : a < b := by
  have hb : b ≠ 0 := words_length_pos.1 (by omega)
  exact Nat.lt_of_lt_of_le (lt_words a) (Nat.le_trans (pow_le (by omega)) (words_ge hb))
theorem val_split {ws : List Nat} {k : Nat} (h : k < ws.length) : val ws = val (ws.take k) + 4294967296 ^ k * (ws.getD k 0 + 4294967296 * val (ws.drop (k + 1))) := by
  rw [val_take_drop ws (Nat.le_of_lt h), val_drop_getD h]
theorem lt_at {xs ys : List Nat} (hx : Wd xs) {k : Nat} (h1 : k < xs.length) (h2 : k < ys.length) (hd : xs.drop (k + 1) = ys.drop (k + 1)) (h : xs.getD k 0 < ys.getD k 0) : val xs < val ys := by
  rw [val_split h1, val_split h2, hd]
  have h3 := val_lt (hx.take k)
  rw [List.length_take, Nat.min_eq_left (Nat.le_of_lt h1)] at h3
  generalize xs.getD k 0 = x at *
  generalize ys.getD k 0 = y at *
  obtain ⟨d, rfl⟩ : ∃ d, y = x + 1 + d := ⟨y - x - 1, by omega⟩
  generalize 4294967296 * val (ys.drop (k + 1)) = r at *
  simp only [Nat.mul_add, Nat.mul_one]
  omega
def cmpI (a b : Nat) : Int := if a < b then -1 else if b < a then 1 else 0
theorem cmpI_lt {a b : Nat} (h : a < b) : cmpI a b = -1 := by rw [cmpI, if_pos h]
theorem cmpI_gt {a b : Nat} (h : b < a) : cmpI a b = 1 := by rw [cmpI, if_neg (by omega), if_pos h]
theorem cmpI_eq {a b : Nat} (h : a = b) : cmpI a b = 0 := by rw [cmpI, if_neg (by omega), if_neg (by omega)]
theorem nat_compare (a b : Nat) (ha : (words a).length ≤ 4611686018427387904) (hb : (words b).length ≤ 4611686018427387904) : CallOK Tryz.prog gl 103 [.sl 1 (u32s (words a)), .sl 1 (u32s (words b))] (.v (.int .i64 ((cmpI a b : Int)))) := by
  refine call_ok (C := ⟨Tryz.prog, gl, ti, 41, false⟩) ti_ok mixed 3000 Tryz.call103 Tryz.func103 rfl Tryz.ntmps103 (by simp) byClL byCl ?_
  rw [Tryz.results103]
  have la := lt_words a
  have lb := lt_words b
  by_cases hl : (words a).length = (words b).length
  ·
    repeat' (first | (simp only [go_sem, seval, IntKind.bits.eq_def, ti, tin, u32s_length]) | (simp (disch := omega) only [wA]) | refine aL ti_ok ?_ | refine dL ti_ok ?_ | refine dG ?_ | ((first | refine cC ?_ ?_ | refine gS ?_ ?_ | refine dS ?_ ?_) <;> intro hc <;> first | (exfalso; simp only [dcA] at hc; omega) | (simp only [hc]; try simp only [dcA] at hc)) | refine aO ?_ | refine dO ?_)
    refine l_loop (α := Nat) (fun k => ⟨[(0, .sl 1 (u32s (words a))), (1, .sl 1 (u32s (words b))), (5, .v (.int .i64 (((k : Int) - 1)))), (4, .v (.int .i64 0))], [], 0⟩) (fun k => k ≤ (words a).length ∧ (words a).drop k = (words b).drop k) (fun k => k) ((words a).length) _ byFresh (fun _ h => by first | (cases h; done) | exact Nat.le_of_ble_eq_true rfl) ?_ ?_ ?_
    · exact ⟨Nat.le_refl _, by rw [List.drop_length, hl, List.drop_length]⟩
    · exact byWeak
    rintro k ⟨hk, hd⟩
    cases k with
    | zero =>
      repeat' (first | (simp only [go_sem, seval, IntKind.bits.eq_def, ti, tin, u32s_length]) | (simp (disch := omega) only [wA]) | refine aL ti_ok ?_ | refine dL ti_ok ?_ | refine dG ?_ | ((first | refine cC ?_ ?_ | refine gS ?_ ?_ | refine dS ?_ ?_) <;> intro hc <;> first | (exfalso; simp only [dcA] at hc; omega) | (simp only [hc]; try simp only [dcA] at hc)) | refine aO ?_ | refine dO ?_)
      rw [List.drop_zero, List.drop_zero] at hd
      have e : cmpI a b = 0 := cmpI_eq (by rw [← val_words a, hd, val_words])
      rw [e]
      exact fin_same trivial rfl
    | succ m =>
      have e1 : ((m + 1 : Nat) : Int) - 1 = (m : Int) := by omega
      have r := u32s_getD (ws := words a) (i := m) (by omega)
      have r' := u32s_getD (ws := words b) (i := m) (by omega)
      have c1 := lt_at (xs := words a) (ys := words b) (Wd.words a) (k := m) (by omega) (by omega) hd
      have c2 := lt_at (xs := words b) (ys := words a) (Wd.words b) (k := m) (by omega) (by omega) hd.symm
      rw [val_words, val_words] at c1 c2
      have c0 : (words a).getD m 0 = (words b).getD m 0 → (words a).drop m = (words b).drop m := fun h => by
        rw [drop_getD (by omega), drop_getD (ws := words b) (by omega), h, hd]
      have hg := cmpI_gt (a := a) (b := b)
      have hc1 := cmpI_lt (a := a) (b := b)
      generalize cmpI a b = z at *
      generalize (words a).getD m 0 = x at *
      generalize (words b).getD m 0 = y at *
      repeat' (first | (simp only [go_sem, seval, IntKind.bits.eq_def, ti, tin, u32s_length, e1, r, r']) | (simp (disch := omega) only [wA]) | refine aL ti_ok ?_ | refine dL ti_ok ?_ | refine dG ?_ | ((first | refine cC ?_ ?_ | refine gS ?_ ?_ | refine dS ?_ ?_) <;> intro hc <;> first | (exfalso; simp only [dcA] at hc; omega) | (simp only [hc]; try simp only [dcA] at hc)) | refine aO ?_ | refine dO ?_)
      · rw [hc1 (c1 (by omega))]
        exact fin_same trivial rfl
      · rw [hg (c2 (by omega))]
        exact fin_same trivial rfl
      · refine roundEnd_of (α := Nat) m ⟨by omega, c0 (by omega)⟩ (by omega) ?_
        exact byWeak
  · by_cases hl2 : (words a).length < (words b).length
    · have e := cmpI_lt (len_lt hl2)
      rw [e]
      repeat' (first | (simp only [go_sem, seval, IntKind.bits.eq_def, ti, tin, u32s_length]) | (simp (disch := omega) only [wA]) | refine aL ti_ok ?_ | refine dL ti_ok ?_ | refine dG ?_ | ((first | refine cC ?_ ?_ | refine gS ?_ ?_ | refine dS ?_ ?_) <;> intro hc <;> first | (exfalso; simp only [dcA] at hc; omega) | (simp only [hc]; try simp only [dcA] at hc)) | refine aO ?_ | refine dO ?_)
      exact fin_same trivial rfl
    · have e := cmpI_gt (len_lt (a := b) (b := a) (by omega))
      rw [e]
      repeat' (first | (simp only [go_sem, seval, IntKind.bits.eq_def, ti, tin, u32s_length]) | (simp (disch := omega) only [wA]) | refine aL ti_ok ?_ | refine dL ti_ok ?_ | refine dG ?_ | ((first | refine cC ?_ ?_ | refine gS ?_ ?_ | refine dS ?_ ?_) <;> intro hc <;> first | (exfalso; simp only [dcA] at hc; omega) | (simp only [hc]; try simp only [dcA] at hc)) | refine aO ?_ | refine dO ?_)
      exact fin_same trivial rfl
theorem add_step {v c p x y aa bb : Nat} (h : v + c * p = aa + bb) : (v + p * ((x + y + c) % 4294967296)) + ((x + y + c) / 4294967296) * (p * 4294967296) = (aa + p * x) + (bb + p * y) := by
  have h1 := Nat.div_add_mod (x + y + c) 4294967296
  generalize (x + y + c) / 4294967296 = q at *
  generalize (x + y + c) % 4294967296 = r at *
  have e : q * (p * 4294967296) = p * (4294967296 * q) := by rw [Nat.mul_left_comm, Nat.mul_comm q]
  have e2 : p * (4294967296 * q + r) = p * (x + y + c) := by rw [h1]
  rw [e]
  simp only [Nat.mul_add] at e2
  rw [Nat.mul_comm c p] at h
  omega
theorem mod_succ (a i : Nat) : a % 4294967296 ^ (i + 1) = a % 4294967296 ^ i + 4294967296 ^ i * (words a).getD i 0 := by
  rw [getD_val (Wd.words a), val_words, Nat.mod_pow_succ]
theorem nat_add (a b : Nat) (ha : (words a).length ≤ 1099511627776) (hb : (words b).length ≤ 1099511627776) : CallOK Tryz.prog gl 64 [.sl 1 (u32s (words a)), .sl 1 (u32s (words b))] (.sl 1 (u32s (words (a + b)))) := by
  refine call_ok (C := ⟨Tryz.prog, gl, ti, 37, false⟩) ti_ok mixed 3000 Tryz.call64 Tryz.func64 rfl Tryz.ntmps64 (by simp) byClL byCl ?_
  rw [Tryz.results64]
  obtain ⟨n, hn, e1⟩ : ∃ n : Nat, ((words a).length < n ∧ (words b).length < n ∧ n ≤ 1099511627777) ∧ max ((words a).length : Int) ((words b).length : Int) + 1 = (n : Int) := ⟨max (words a).length (words b).length + 1, by omega, by omega⟩
  repeat' (first | (simp only [go_sem, seval, IntKind.bits.eq_def, ti, tin, u32s_length, e1, u32s_zeros]) | (simp (disch := omega) only [wA]) | refine aL ti_ok ?_ | refine dL ti_ok ?_ | refine dG ?_ | ((first | refine cC ?_ ?_ | refine gS ?_ ?_ | refine dS ?_ ?_) <;> intro hc <;> first | (exfalso; simp only [dcA] at hc; omega) | (simp only [hc]; try simp only [dcA] at hc)) | refine aO ?_ | refine dO ?_)
  refine l_loop (α := Nat × List Nat × Nat) (fun x => ⟨[(0, .sl 1 (u32s (words a))), (1, .sl 1 (u32s (words b))), (17, .v (.int .i64 x.1)), (16, .v (.int .i64 n)), (5, .ps 0 1 0 n), (6, .v (.int .u32 (x.2.2))), (4, .v (.slice none 0 0))], [(0, ⟨1, u32s x.2.1⟩)], 1⟩) (fun x => x.1 ≤ n ∧ x.2.1.length = n ∧ Wd x.2.1 ∧ x.2.2 ≤ 1 ∧ val (x.2.1.take x.1) + x.2.2 * 4294967296 ^ x.1 = a % 4294967296 ^ x.1 + b % 4294967296 ^ x.1) (fun x => n - x.1) ((0, List.replicate n 0, 0)) _ byFresh (fun _ h => by first | (cases h; done) | exact Nat.le_of_ble_eq_true rfl) ?_ ?_ ?_
  · exact ⟨Nat.zero_le _, by simp, Wd.zeros n, Nat.zero_le _, by simp [val, Nat.mod_one]⟩
  · exact byWeak
  rintro ⟨i, ws, c⟩ ⟨hi, hw, hW, hc0, hv⟩
  simp only at hi hw hW hc0 hv
  by_cases hin : i < n
  ·
    have hs := add_step (x := (words a).getD i 0) (y := (words b).getD i 0) hv
    rw [← mod_succ, ← mod_succ] at hs
    have hx := (Wd.words a).get i
    have hy := (Wd.words b).get i
    have at1 := nat_at (words a) i
    have at2 := nat_at (words b) i
    generalize (words a).getD i 0 = x at *
    generalize (words b).getD i 0 = y at *
    have ad := bits_Add32 x y c hx hy hc0
    have hr : (x + y + c) % 4294967296 < 4294967296 := Nat.mod_lt _ (by omega)
    have hq : (x + y + c) / 4294967296 ≤ 1 := by omega
    generalize (x + y + c) % 4294967296 = r at *
    generalize (x + y + c) / 4294967296 = q at *
    have r0 := u32s_getD (ws := ws) (i := i) (by omega)
    repeat' (first | (simp only [go_sem, seval, IntKind.bits.eq_def, ti, tin, u32s_length, u32s_set, r0]) | (simp (disch := omega) only [wA]) | (with_reducible first | refine cF at1 ?_ | refine dF at1 ?_ | refine cF at2 ?_ | refine dF at2 ?_ | refine cF ad ?_ | refine dF ad ?_) | refine aL ti_ok ?_ | refine dL ti_ok ?_ | refine dG ?_ | ((first | refine cC ?_ ?_ | refine gS ?_ ?_ | refine dS ?_ ?_) <;> intro hc <;> first | (exfalso; simp only [dcA] at hc; omega) | (simp only [hc]; try simp only [dcA] at hc)) | refine aO ?_ | refine dO ?_)
    refine roundEnd_of (α := Nat × List Nat × Nat) (i + 1, ws.set i r, q) ?_ ?_ ?_
    · refine ⟨by omega, by simp [hw], hW.set i hr, hq, ?_⟩
      show val ((ws.set i r).take (i + 1)) + q * 4294967296 ^ (i + 1) = _
      rw [val_take_set (by omega), ← hs, Nat.pow_succ]
    · show n - (i + 1) < n - i
      omega
    · exact byWeak
  ·
    have hn1 : i = n := by omega
    subst hn1
    repeat' (first | (simp only [go_sem, seval, IntKind.bits.eq_def, ti, tin, u32s_length]) | (simp (disch := omega) only [wA]) | refine aL ti_ok ?_ | refine dL ti_ok ?_ | refine dG ?_ | ((first | refine cC ?_ ?_ | refine gS ?_ ?_ | refine dS ?_ ?_) <;> intro hc <;> first | (exfalso; simp only [dcA] at hc; omega) | (simp only [hc]; try simp only [dcA] at hc)) | refine aO ?_ | refine dO ?_)
    have hval : val ws = a + b := by
      have h1 := lt_words a
      have h2 := lt_words b
      have h3 := pow_le (a := (words a).length) (b := i - 1) (by omega)
      have h4 := pow_le (a := (words b).length) (b := i - 1) (by omega)
      have h5 : 4294967296 ^ i = 4294967296 ^ (i - 1) * 4294967296 := by rw [← Nat.pow_succ]; congr 1; omega
      rw [List.take_of_length_le (by omega), Nat.mod_eq_of_lt (by omega), Nat.mod_eq_of_lt (by omega)] at hv
      rcases (by omega : c = 0 ∨ c = 1) with rfl | rfl <;> omega
    refine callF_frz 0 rfl (.cons (frz_ps rfl (by show 0 + i ≤ (u32s ws).length; rw [u32s_length]; omega)) .nil) ?_ (nat_trim ws hW (by omega)) ?_
    · simp only [List.drop_zero, u32s_take]
      rw [List.take_of_length_le (by omega)]
      exact LeL.refl _
    · rw [hval]
      repeat' (first | (simp only [go_sem, seval, IntKind.bits.eq_def, ti, tin]) | (simp (disch := omega) only [wA]) | refine aL ti_ok ?_ | refine dL ti_ok ?_ | refine dG ?_ | ((first | refine cC ?_ ?_ | refine gS ?_ ?_ | refine dS ?_ ?_) <;> intro hc <;> first | (exfalso; simp only [dcA] at hc; omega) | (simp only [hc]; try simp only [dcA] at hc)) | refine aO ?_ | refine dO ?_)
      exact fin_same trivial rfl
theorem sub_step {v c p x y aa bb d e : Nat} (hc : c ≤ 1) (hx : x < 4294967296) (hy : y < 4294967296) (hd : d = (x + 8589934592 - y - c) % 4294967296) (he : e = if x < y + c then 1 else 0) (h : v + bb = aa + c * p) : (v + p * d) + (bb + p * y) = (aa + p * x) + e * (p * 4294967296) := by
  have h1 : d + y + c = x + 4294967296 * e := by
    subst hd he
    split <;> omega
  have e1 : e * (p * 4294967296) = p * (4294967296 * e) := by rw [Nat.mul_left_comm, Nat.mul_comm e]
  have e2 : p * (d + y + c) = p * (x + 4294967296 * e) := by rw [h1]
  rw [e1]
  simp only [Nat.mul_add] at e2
  rw [Nat.mul_comm c p] at h
  omega
theorem nat_sub (a b : Nat) (hba : b ≤ a) (ha : (words a).length ≤ 1099511627776) : CallOK Tryz.prog gl 198 [.sl 1 (u32s (words a)), .sl 1 (u32s (words b))] (.sl 1 (u32s (words (a - b)))) := by
  refine call_ok (C := ⟨Tryz.prog, gl, ti, 34, false⟩) ti_ok mixed 3000 Tryz.call198 Tryz.func198 rfl Tryz.ntmps198 (by simp) byClL byCl ?_
  rw [Tryz.results198]
  obtain ⟨n, hn⟩ : ∃ n : Nat, n = (words a).length := ⟨_, rfl⟩
  have e1 : (words a).length = n := hn.symm
  have hbl : (words b).length ≤ n := by
    rw [hn]
    rcases Nat.lt_or_ge (words a).length (words b).length with h | h
    · have := len_lt h; omega
    · exact h
  repeat' (first | (simp only [go_sem, seval, IntKind.bits.eq_def, ti, tin, u32s_length, e1, u32s_zeros]) | (simp (disch := omega) only [wA]) | refine aL ti_ok ?_ | refine dL ti_ok ?_ | refine dG ?_ | ((first | refine cC ?_ ?_ | refine gS ?_ ?_ | refine dS ?_ ?_) <;> intro hc <;> first | (exfalso; simp only [dcA] at hc; omega) | (simp only [hc]; try simp only [dcA] at hc)) | refine aO ?_ | refine dO ?_)
  refine l_loop (α := Nat × List Nat × Nat) (fun x => ⟨[(0, .sl 1 (u32s (words a))), (1, .sl 1 (u32s (words b))), (13, .v (.int .i64 x.1)), (12, .v (.int .i64 n)), (5, .ps 0 1 0 n), (6, .v (.int .u32 (x.2.2))), (4, .v (.slice none 0 0))], [(0, ⟨1, u32s x.2.1⟩)], 1⟩) (fun x => x.1 ≤ n ∧ x.2.1.length = n ∧ Wd x.2.1 ∧ x.2.2 ≤ 1 ∧ val (x.2.1.take x.1) + b % 4294967296 ^ x.1 = a % 4294967296 ^ x.1 + x.2.2 * 4294967296 ^ x.1) (fun x => n - x.1) ((0, List.replicate n 0, 0)) _ byFresh (fun _ h => by first | (cases h; done) | exact Nat.le_of_ble_eq_true rfl) ?_ ?_ ?_
  · exact ⟨Nat.zero_le _, by simp, Wd.zeros n, Nat.zero_le _, by simp [val, Nat.mod_one]⟩
  · exact byWeak
  rintro ⟨i, ws, c⟩ ⟨hi, hw, hW, hc0, hv⟩
  simp only at hi hw hW hc0 hv
  by_cases hin : i < n
  ·
    have hx := (Wd.words a).get i
    have hy := (Wd.words b).get i
    have hs := sub_step (x := (words a).getD i 0) (y := (words b).getD i 0) hc0 hx hy rfl rfl hv
    rw [← mod_succ, ← mod_succ] at hs
    have ra := u32s_getD (ws := words a) (i := i) (by omega)
    have at2 := nat_at (words b) i
    generalize (words a).getD i 0 = x at *
    generalize (words b).getD i 0 = y at *
    have ad := bits_Sub32 x y c hx hy hc0
    have hr : (x + 8589934592 - y - c) % 4294967296 < 4294967296 := Nat.mod_lt _ (by omega)
    have hq : (if x < y + c then 1 else 0) ≤ 1 := by split <;> omega
    generalize (x + 8589934592 - y - c) % 4294967296 = r at *
    generalize (if x < y + c then 1 else 0) = q at *
    have r0 := u32s_getD (ws := ws) (i := i) (by omega)
    repeat' (first | (simp only [go_sem, seval, IntKind.bits.eq_def, ti, tin, u32s_length, u32s_set, r0, ra]) | (simp (disch := omega) only [wA]) | (with_reducible first | refine cF at2 ?_ | refine dF at2 ?_ | refine cF ad ?_ | refine dF ad ?_) | refine aL ti_ok ?_ | refine dL ti_ok ?_ | refine dG ?_ | ((first | refine cC ?_ ?_ | refine gS ?_ ?_ | refine dS ?_ ?_) <;> intro hc <;> first | (exfalso; simp only [dcA] at hc; omega) | (simp only [hc]; try simp only [dcA] at hc)) | refine aO ?_ | refine dO ?_)
    refine roundEnd_of (α := Nat × List Nat × Nat) (i + 1, ws.set i r, q) ?_ ?_ ?_
    · refine ⟨by omega, by simp [hw], hW.set i hr, hq, ?_⟩
      show val ((ws.set i r).take (i + 1)) + _ = _ + q * 4294967296 ^ (i + 1)
      rw [val_take_set (by omega), hs, Nat.pow_succ]
    · show n - (i + 1) < n - i
      omega
    · exact byWeak
  ·
    have hn1 : i = n := by omega
    subst hn1
    repeat' (first | (simp only [go_sem, seval, IntKind.bits.eq_def, ti, tin, u32s_length]) | (simp (disch := omega) only [wA]) | refine aL ti_ok ?_ | refine dL ti_ok ?_ | refine dG ?_ | ((first | refine cC ?_ ?_ | refine gS ?_ ?_ | refine dS ?_ ?_) <;> intro hc <;> first | (exfalso; simp only [dcA] at hc; omega) | (simp only [hc]; try simp only [dcA] at hc)) | refine aO ?_ | refine dO ?_)
    have hval : val ws = a - b := by
      have h1 := lt_words a
      have h2 := lt_words b
      have h3 := pow_le (a := (words b).length) (b := i) hbl
      have h4 := val_lt hW
      rw [hw] at h4
      rw [e1] at h1
      rw [List.take_of_length_le (by omega), Nat.mod_eq_of_lt (by omega), Nat.mod_eq_of_lt (by omega)] at hv
      rcases (by omega : c = 0 ∨ c = 1) with rfl | rfl <;> omega
    refine callF_frz 0 rfl (.cons (frz_ps rfl (by show 0 + i ≤ (u32s ws).length; rw [u32s_length]; omega)) .nil) ?_ (nat_trim ws hW (by omega)) ?_
    · simp only [List.drop_zero, u32s_take]
      rw [List.take_of_length_le (by omega)]
      exact LeL.refl _
    · rw [hval]
      repeat' (first | (simp only [go_sem, seval, IntKind.bits.eq_def, ti, tin]) | (simp (disch := omega) only [wA]) | refine aL ti_ok ?_ | refine dL ti_ok ?_ | refine dG ?_ | ((first | refine cC ?_ ?_ | refine gS ?_ ?_ | refine dS ?_ ?_) <;> intro hc <;> first | (exfalso; simp only [dcA] at hc; omega) | (simp only [hc]; try simp only [dcA] at hc)) | refine aO ?_ | refine dO ?_)
      exact fin_same trivial rfl
end Go.Proofs.YtfmgfjmfogmeeaaGreatDoor
