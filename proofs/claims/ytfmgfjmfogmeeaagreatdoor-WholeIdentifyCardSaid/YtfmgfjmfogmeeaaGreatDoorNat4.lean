/- Natural numbers as words (nat.go of layer 2), part 3: products. -/
import Derived.Test.YtfmgfjmfogmeeaaGreatDoorNat2
set_option linter.unusedSimpArgs false
set_option linter.unusedVariables false
set_option linter.deprecated false
namespace Go.Proofs.YtfmgfjmfogmeeaaGreatDoor
open Go Go.Ax
set_option maxRecDepth 100000
set_option maxHeartbeats 4000000
theorem mul_step {V V' V0 c x y o r q Pi Bj bj : Nat} (hs : V' + Pi * Bj * o = V + Pi * Bj * r) (ht : 4294967296 * q + r = x * y + o + c) (hi : V + c * (Pi * Bj) = V0 + x * bj * Pi) : V' + q * (Pi * (Bj * 4294967296)) = V0 + x * (bj + Bj * y) * Pi := by
  have e2 : Pi * Bj * (4294967296 * q + r) = Pi * Bj * (x * y + o + c) := by rw [ht]
  have e3 : q * (Pi * (Bj * 4294967296)) = Pi * Bj * (4294967296 * q) := by ac_rfl
  have e4 : x * (bj + Bj * y) * Pi = x * bj * Pi + Pi * Bj * (x * y) := by rw [Nat.mul_add, Nat.add_mul]; congr 1; ac_rfl
  have e5 : c * (Pi * Bj) = Pi * Bj * c := Nat.mul_comm _ _
  simp only [Nat.mul_add] at e2
  generalize Pi * Bj = P at *
  omega
theorem mul_word {x y : Nat} (hx : x < 4294967296) (hy : y < 4294967296) : x * y ≤ 18446744065119617025 := Nat.le_trans (Nat.mul_le_mul (Nat.le_of_lt_succ hx) (Nat.le_of_lt_succ hy)) (by decide)
theorem nat_mul (a b : Nat) (ha : (words a).length ≤ 1099511627776) (hb : (words b).length ≤ 1099511627776) : CallOK Tryz.prog gl 76 [.sl 1 (u32s (words a)), .sl 1 (u32s (words b))] (.sl 1 (u32s (words (a * b)))) := by
  refine call_ok (C := ⟨Tryz.prog, gl, ti, 68, false⟩) ti_ok mixed 3000 Tryz.call76 Tryz.func76 rfl Tryz.ntmps76 (by simp) byClL byCl ?_
  rw [Tryz.results76]
  obtain ⟨k, hk⟩ : ∃ k : Nat, k = (words a).length := ⟨_, rfl⟩
  obtain ⟨m, hm⟩ : ∃ m : Nat, m = (words b).length := ⟨_, rfl⟩
  have ek : (words a).length = k := hk.symm
  have em : (words b).length = m := hm.symm
  have e1 : (k : Int) + (m : Int) = ((k + m : Nat) : Int) := by omega
  obtain ⟨n, hn⟩ : ∃ n : Nat, n = k + m := ⟨_, rfl⟩
  rw [← hn] at e1
  repeat' (first | (simp only [go_sem, seval, IntKind.bits.eq_def, ti, tin, u32s_length, ek, em, e1, u32s_zeros]) | (simp (disch := omega) only [wA]) | refine aL ti_ok ?_ | refine dL ti_ok ?_ | refine dG ?_ | ((first | refine cC ?_ ?_ | refine gS ?_ ?_ | refine dS ?_ ?_) <;> intro hc <;> first | (exfalso; simp only [dcA] at hc; omega) | (simp only [hc]; try simp only [dcA] at hc)) | refine aO ?_ | refine dO ?_)
  refine l_loop (α := Nat × List Nat) (fun x => ⟨[(0, .sl 1 (u32s (words a))), (1, .sl 1 (u32s (words b))), (18, .v (.int .i64 x.1)), (17, .v (.int .i64 k)), (5, .ps 0 1 0 n), (4, .v (.slice none 0 0))], [(0, ⟨1, u32s x.2⟩)], 1⟩) (fun x => x.1 ≤ k ∧ x.2.length = n ∧ Wd x.2 ∧ val x.2 = (a % 4294967296 ^ x.1) * b) (fun x => k - x.1) ((0, List.replicate n 0)) _ byFresh (fun _ h => by first | (cases h; done) | exact Nat.le_of_ble_eq_true rfl) ?_ ?_ ?_
  · exact ⟨Nat.zero_le _, by simp, Wd.zeros n, by simp [val_zeros, Nat.mod_one]⟩
  · exact byWeak
  rintro ⟨i, ws0⟩ ⟨hi, hw0, hW0, hv0⟩
  simp only at hi hw0 hW0 hv0
  by_cases hin : i < k
  ·
    have hx := (Wd.words a).get i
    have ra := u32s_getD (ws := words a) (i := i) (by omega)
    have hz0 : ws0.getD (i + m) 0 = 0 := by
      rw [getD_val hW0, hv0]
      have h1 : a % 4294967296 ^ i * b < 4294967296 ^ (i + m) := by
        rw [Nat.pow_add]
        have h2 : a % 4294967296 ^ i < 4294967296 ^ i := Nat.mod_lt _ (Nat.pow_pos (by omega))
        have h3 : b < 4294967296 ^ m := by rw [hm]; exact lt_words b
        exact Nat.mul_lt_mul'' h2 h3
      rw [Nat.div_eq_of_lt h1]
    have hs0 := mod_succ a i
    generalize (words a).getD i 0 = x at *
    repeat' (first | (simp only [go_sem, seval, IntKind.bits.eq_def, ti, tin, u32s_length, ek, em]) | (simp (disch := omega) only [wA]) | refine aL ti_ok ?_ | refine dL ti_ok ?_ | refine dG ?_ | ((first | refine cC ?_ ?_ | refine gS ?_ ?_ | refine dS ?_ ?_) <;> intro hc <;> first | (exfalso; simp only [dcA] at hc; omega) | (simp only [hc]; try simp only [dcA] at hc)) | refine aO ?_ | refine dO ?_)
    refine l_loop (α := Nat × List Nat × Nat) (fun z => ⟨[(0, .sl 1 (u32s (words a))), (1, .sl 1 (u32s (words b))), (23, .v (.int .i64 z.1)), (22, .v (.int .i64 m)), (6, .v (.int .i64 i)), (7, .v (.int .u64 (z.2.2))), (18, .v (.int .i64 i)), (17, .v (.int .i64 k)), (5, .ps 0 1 0 n), (4, .v (.slice none 0 0))], [(0, ⟨1, u32s z.2.1⟩)], 1⟩) (fun z => z.1 ≤ m ∧ z.2.1.length = n ∧ Wd z.2.1 ∧ z.2.2 < 4294967296 ∧ z.2.1.getD (i + m) 0 = 0 ∧ val z.2.1 + z.2.2 * (4294967296 ^ i * 4294967296 ^ z.1) = val ws0 + x * (b % 4294967296 ^ z.1) * 4294967296 ^ i) (fun z => m - z.1) ((0, ws0, 0)) _ byFresh (fun _ h => by first | (cases h; done) | exact Nat.le_of_ble_eq_true rfl) ?_ ?_ ?_
    · exact ⟨Nat.zero_le _, hw0, hW0, Nat.zero_lt_succ _, hz0, by simp [Nat.mod_one]⟩
    · exact byWeak
    rintro ⟨j, ws, c⟩ ⟨hj, hw, hW, hc0, hz, hv⟩
    simp only at hj hw hW hc0 hz hv
    by_cases hjm : j < m
    ·
      have hy := (Wd.words b).get j
      have rb := u32s_getD (ws := words b) (i := j) (by omega)
      have ro := u32s_getD (ws := ws) (i := i + j) (by omega)
      have ho := hW.get (i + j)
      have hset := val_set (ws := ws) (k := i + j) (by omega) ((x * (words b).getD j 0 + ws.getD (i + j) 0 + c) % 4294967296)
      rw [Nat.pow_add] at hset
      have hms := mod_succ b j
      generalize (words b).getD j 0 = y at *
      generalize ws.getD (i + j) 0 = o at *
      have hp := mul_word hx hy
      have f1 : (x : Int) * (y : Int) = ((x * y : Nat) : Int) := by simp
      have hr : (x * y + o + c) % 4294967296 < 4294967296 := Nat.mod_lt _ (by omega)
      have ht := Nat.div_add_mod (x * y + o + c) 4294967296
      have hst := mul_step hset ht hv
      generalize hpp : x * y = p at *
      have f2 : (p : Int) + (o : Int) + (c : Int) = ((p + o + c : Nat) : Int) := by omega
      have f3 := wrap_u32 (p + o + c)
      have f4 : ((p + o + c : Nat) : Int) / 4294967296 = (((p + o + c) / 4294967296 : Nat) : Int) := rfl
      have f5 : (i : Int) + (j : Int) = ((i + j : Nat) : Int) := by omega
      have hq : (p + o + c) / 4294967296 < 4294967296 := by omega
      have htl : p + o + c < 18446744073709551616 := by omega
      generalize (p + o + c) % 4294967296 = r at *
      generalize (p + o + c) / 4294967296 = q at *
      repeat' (first | (simp only [go_sem, seval, IntKind.bits.eq_def, ti, tin, u32s_length, ek, em, ra, rb, ro, u32s_set, f1, f2, f3, f4, f5]) | (simp (disch := omega) only [wA]) | refine aL ti_ok ?_ | refine dL ti_ok ?_ | refine dG ?_ | ((first | refine cC ?_ ?_ | refine gS ?_ ?_ | refine dS ?_ ?_) <;> intro hc <;> first | (exfalso; simp only [dcA] at hc; omega) | (simp only [hc]; try simp only [dcA] at hc)) | refine aO ?_ | refine dO ?_)
      refine roundEnd_of (α := Nat × List Nat × Nat) (j + 1, ws.set (i + j) r, q) ?_ ?_ ?_
      · refine ⟨by omega, by simp [hw], hW.set _ hr, hq, ?_, ?_⟩
        · show (ws.set (i + j) r).getD (i + m) 0 = 0
          rw [getD_set_of_ne (by omega)]; exact hz
        · show val (ws.set (i + j) r) + q * (4294967296 ^ i * 4294967296 ^ (j + 1)) = _
          rw [hms, Nat.pow_succ]; exact hst
      · show m - (j + 1) < m - j
        omega
      · exact byWeak
    ·
      have hjm1 : j = m := by omega
      subst hjm1
      have ro := u32s_getD (ws := ws) (i := i + j) (by omega)
      have f5 : (i : Int) + (j : Int) = ((i + j : Nat) : Int) := by omega
      have f3 := wrap_u32 c
      rw [Nat.mod_eq_of_lt hc0] at f3
      have hset := val_set (ws := ws) (k := i + j) (by omega) c
      rw [hz] at hset ro
      repeat' (first | (simp only [go_sem, seval, IntKind.bits.eq_def, ti, tin, u32s_length, ek, em, ro, u32s_set, f3, f5]) | (simp (disch := omega) only [wA]) | refine aL ti_ok ?_ | refine dL ti_ok ?_ | refine dG ?_ | ((first | refine cC ?_ ?_ | refine gS ?_ ?_ | refine dS ?_ ?_) <;> intro hc <;> first | (exfalso; simp only [dcA] at hc; omega) | (simp only [hc]; try simp only [dcA] at hc)) | refine aO ?_ | refine dO ?_)
      refine roundEnd_of (α := Nat × List Nat) (i + 1, ws.set (i + j) c) ?_ ?_ ?_
      · refine ⟨by omega, by simp [hw], hW.set _ hc0, ?_⟩
        show val (ws.set (i + j) c) = _
        have hb : b % 4294967296 ^ j = b := Nat.mod_eq_of_lt (by rw [hm]; exact lt_words b)
        rw [hb, hv0, ← Nat.pow_add] at hv
        rw [Nat.mul_zero] at hset
        have e2 : x * b * 4294967296 ^ i = 4294967296 ^ i * x * b := by ac_rfl
        show _ = (a % 4294967296 ^ (i + 1)) * b
        rw [hs0, Nat.add_mul, ← e2, ← hv, Nat.mul_comm c]
        omega
      · show k - (i + 1) < k - i
        omega
      · exact byWeak
  ·
    have hi1 : i = k := by omega
    subst hi1
    repeat' (first | (simp only [go_sem, seval, IntKind.bits.eq_def, ti, tin, u32s_length]) | (simp (disch := omega) only [wA]) | refine aL ti_ok ?_ | refine dL ti_ok ?_ | refine dG ?_ | ((first | refine cC ?_ ?_ | refine gS ?_ ?_ | refine dS ?_ ?_) <;> intro hc <;> first | (exfalso; simp only [dcA] at hc; omega) | (simp only [hc]; try simp only [dcA] at hc)) | refine aO ?_ | refine dO ?_)
    have hval : val ws0 = a * b := by
      rw [hv0, Nat.mod_eq_of_lt (by rw [hk]; exact lt_words a)]
    refine callF_frz 0 rfl (.cons (frz_ps rfl (by show 0 + n ≤ (u32s ws0).length; rw [u32s_length]; omega)) .nil) ?_ (nat_trim ws0 hW0 (by omega)) ?_
    · simp only [List.drop_zero, u32s_take]
      rw [List.take_of_length_le (by omega)]
      exact LeL.refl _
    · rw [hval]
      repeat' (first | (simp only [go_sem, seval, IntKind.bits.eq_def, ti, tin]) | (simp (disch := omega) only [wA]) | refine aL ti_ok ?_ | refine dL ti_ok ?_ | refine dG ?_ | ((first | refine cC ?_ ?_ | refine gS ?_ ?_ | refine dS ?_ ?_) <;> intro hc <;> first | (exfalso; simp only [dcA] at hc; omega) | (simp only [hc]; try simp only [dcA] at hc)) | refine aO ?_ | refine dO ?_)
      exact fin_same trivial rfl
end Go.Proofs.YtfmgfjmfogmeeaaGreatDoor
/- Natural numbers as words (nat.go of layer 2), part 4: zeros at the low end, shifts. -/
set_option linter.unusedSimpArgs false
set_option linter.unusedVariables false
set_option linter.deprecated false
namespace Go.Proofs.YtfmgfjmfogmeeaaGreatDoor
open Go Go.Ax
set_option maxRecDepth 100000
set_option maxHeartbeats 4000000
theorem odd_uniq : ∀ {k k' q q' : Nat}, 2 ^ k * (2 * q + 1) = 2 ^ k' * (2 * q' + 1) → k = k'
  | 0, 0, _, _, _ => rfl
  | 0, k' + 1, q, q', h => by
    rw [Nat.pow_succ, Nat.mul_comm (2 ^ k') 2, Nat.mul_assoc] at h
    generalize 2 ^ k' * (2 * q' + 1) = z at h
    omega
  | k + 1, 0, q, q', h => by
    rw [Nat.pow_succ, Nat.mul_comm (2 ^ k) 2, Nat.mul_assoc] at h
    generalize 2 ^ k * (2 * q + 1) = z at h
    omega
  | k + 1, k' + 1, q, q', h => by
    rw [Nat.pow_succ, Nat.mul_comm (2 ^ k) 2, Nat.mul_assoc, Nat.pow_succ, Nat.mul_comm (2 ^ k') 2, Nat.mul_assoc] at h
    rw [odd_uniq (Nat.eq_of_mul_eq_mul_left (by omega : 0 < 2) h)]
theorem two_pow_32 (i : Nat) : 4294967296 ^ i = 2 ^ (32 * i) := by rw [Nat.pow_mul]
theorem zeros_at {n i w j r rest k q : Nat} (hn : n = 4294967296 ^ i * (w + 4294967296 * rest)) (hw : w = 2 ^ j * (2 * r + 1)) (hj : j < 32) (hk : n = 2 ^ k * (2 * q + 1)) : k = 32 * i + j := by
  obtain ⟨d, hd⟩ : ∃ d, 32 = j + 1 + d := ⟨32 - j - 1, by omega⟩
  have e1 : 4294967296 = 2 ^ j * (2 * 2 ^ d) := by
    rw [← Nat.mul_assoc, ← Nat.pow_succ, ← Nat.pow_add, ← hd]
  refine odd_uniq (q := q) (q' := r + 2 ^ d * rest) ?_
  rw [← hk, hn, hw, two_pow_32, Nat.pow_add, Nat.mul_assoc]
  congr 1
  rw [show 4294967296 * rest = 2 ^ j * (2 * (2 ^ d * rest)) by rw [← Nat.mul_assoc 2, ← Nat.mul_assoc, ← e1], ← Nat.mul_add]
  congr 1
  omega
theorem nat_zeros (n k q : Nat) (hn : n = 2 ^ k * (2 * q + 1)) (hl : (words n).length ≤ 1099511627776) : CallOK Tryz.prog gl 80 [.sl 1 (u32s (words n))] (.v (.int .i64 k)) := by
  refine call_ok (C := ⟨Tryz.prog, gl, ti, 20, false⟩) ti_ok mixed 3000 Tryz.call80 Tryz.func80 rfl Tryz.ntmps80 (by simp) byClL byCl ?_
  rw [Tryz.results80]
  have hn0 : n ≠ 0 := by
    have := Nat.mul_pos (Nat.pow_pos (n := k) (by omega : 0 < 2)) (by omega : 0 < 2 * q + 1)
    omega
  repeat' (first | (simp only [go_sem, seval, IntKind.bits.eq_def, ti, tin, u32s_length]) | (simp (disch := omega) only [wA]) | refine aL ti_ok ?_ | refine dL ti_ok ?_ | refine dG ?_ | ((first | refine cC ?_ ?_ | refine gS ?_ ?_ | refine dS ?_ ?_) <;> intro hc <;> first | (exfalso; simp only [dcA] at hc; omega) | (simp only [hc]; try simp only [dcA] at hc)) | refine aO ?_ | refine dO ?_)
  refine l_loop (α := Nat) (fun i => ⟨[(0, .sl 1 (u32s (words n))), (5, .sl 1 (u32s (words n))), (7, .v (.int .i64 i)), (6, .v (.int .i64 ((words n).length))), (2, .v (.int .i64 0))], [], 0⟩) (fun i => i ≤ (words n).length ∧ val ((words n).take i) = 0) (fun i => (words n).length - i) (0) _ byFresh (fun _ h => by first | (cases h; done) | exact Nat.le_of_ble_eq_true rfl) ?_ ?_ ?_
  · exact ⟨Nat.zero_le _, rfl⟩
  · exact byWeak
  rintro i ⟨hi, hv⟩
  by_cases hin : i < (words n).length
  ·
    have r := u32s_getD hin
    have hw := (Wd.words n).get i
    have hvs := val_split hin
    have hts := val_take_succ hin
    rw [hv, Nat.zero_add, val_words] at hvs
    generalize (words n).getD i 0 = w at *
    by_cases h0 : w = 0
    ·
      subst h0
      repeat' (first | (simp only [go_sem, seval, IntKind.bits.eq_def, ti, tin, u32s_length, r]) | (simp (disch := omega) only [wA]) | refine aL ti_ok ?_ | refine dL ti_ok ?_ | refine dG ?_ | ((first | refine cC ?_ ?_ | refine gS ?_ ?_ | refine dS ?_ ?_) <;> intro hc <;> first | (exfalso; simp only [dcA] at hc; omega) | (simp only [hc]; try simp only [dcA] at hc)) | refine aO ?_ | refine dO ?_)
      refine roundEnd_of (α := Nat) (i + 1) ⟨by omega, by rw [hts, hv]; simp⟩ (by omega) ?_
      exact byWeak
    ·
      obtain ⟨j, s, hjs⟩ := odd_part w h0
      have ct := bits_Tz32 w j s hjs hw
      have hj : j < 32 := (low_bit hjs hw).2
      have hk := zeros_at hvs hjs hj hn
      have h1 : ¬ (w : Int) = 0 := by omega
      repeat' (first | (simp only [go_sem, seval, IntKind.bits.eq_def, ti, tin, u32s_length, r]) | (simp (disch := omega) only [wA]) | (with_reducible first | refine cF ct ?_ | refine dF ct ?_) | refine aL ti_ok ?_ | refine dL ti_ok ?_ | refine dG ?_ | ((first | refine cC ?_ ?_ | refine gS ?_ ?_ | refine dS ?_ ?_) <;> intro hc <;> first | (exfalso; simp only [dcA] at hc; omega) | (simp only [hc]; try simp only [dcA] at hc)) | refine aO ?_ | refine dO ?_)
      refine fin_same trivial ?_
      simp only [one]
      congr 3
      omega
  ·
    have : i = (words n).length := by omega
    subst this
    rw [List.take_length, val_words] at hv
    exact absurd hv hn0
theorem two_pow_split (n : Nat) : 2 ^ n = 4294967296 ^ (n / 32) * 2 ^ (n % 32) := by
  rw [two_pow_32, ← Nat.pow_add]; congr 1; omega
theorem nat_left (a n : Nat) (ha : (words a).length ≤ 1099511627776) (hn : n ≤ 1099511627776) : CallOK Tryz.prog gl 65 [.sl 1 (u32s (words a)), .v (.int .i64 n)] (.sl 1 (u32s (words (a * 2 ^ n)))) := by
  refine call_ok (C := ⟨Tryz.prog, gl, ti, 63, false⟩) ti_ok mixed 3000 Tryz.call65 Tryz.func65 rfl Tryz.ntmps65 (by simp) byClL byCl ?_
  rw [Tryz.results65]
  have d1 : (n : Int).tdiv 32 = ((n / 32 : Nat) : Int) := rfl
  have d2 : (n : Int).tmod 32 = ((n % 32 : Nat) : Int) := rfl
  have hp := two_pow_split n
  by_cases h0 : n = 0 ∨ (words a).length = 0
  ·
    have e : words (a * 2 ^ n) = words a := by
      rcases h0 with rfl | h0
      · simp
      · have := words_nil.1 (List.length_eq_zero_iff.1 h0)
        subst this; simp
    rw [e]
    clear hp d1 d2
    repeat' (first | (simp only [go_sem, seval, IntKind.bits.eq_def, ti, tin, u32s_length]) | (simp (disch := omega) only [wA]) | refine aL ti_ok ?_ | refine dL ti_ok ?_ | refine dG ?_ | ((first | refine cC ?_ ?_ | refine gS ?_ ?_ | refine dS ?_ ?_) <;> intro hc <;> first | (exfalso; simp only [dcA] at hc; omega) | (simp only [hc]; try simp only [dcA] at hc)) | refine aO ?_ | refine dO ?_)
    all_goals exact fin_same trivial rfl
  ·
    have hn0 : ¬ (n : Int) = 0 := by omega
    have hl0 : ¬ ((words a).length : Int) = 0 := by omega
    have hk : n % 32 < 32 := Nat.mod_lt _ (by omega)
    have hwd : n / 32 ≤ n := Nat.div_le_self _ _
    generalize n / 32 = wd at *
    generalize n % 32 = k at *
    obtain ⟨la, hla⟩ : ∃ la : Nat, la = (words a).length := ⟨_, rfl⟩
    have el : (words a).length = la := hla.symm
    obtain ⟨N, hN⟩ : ∃ N : Nat, N = la + wd + 1 := ⟨_, rfl⟩
    have eN : (la : Int) + (wd : Int) + 1 = (N : Int) := by omega
    repeat' (first | (simp only [go_sem, seval, IntKind.bits.eq_def, ti, tin, u32s_length, el, d1, d2, eN, u32s_zeros]) | (simp (disch := omega) only [wA]) | refine aL ti_ok ?_ | refine dL ti_ok ?_ | refine dG ?_ | ((first | refine cC ?_ ?_ | refine gS ?_ ?_ | refine dS ?_ ?_) <;> intro hc <;> first | (exfalso; simp only [dcA] at hc; omega) | (simp only [hc]; try simp only [dcA] at hc)) | refine aO ?_ | refine dO ?_)
    refine l_loop (α := Nat × List Nat) (fun x => ⟨[(0, .sl 1 (u32s (words a))), (30, .sl 1 (u32s (words a))), (32, .v (.int .i64 x.1)), (31, .v (.int .i64 la)), (7, .ps 0 1 0 N), (6, .v (.int .u64 (k))), (5, .v (.int .i64 wd)), (4, .v (.slice none 0 0))], [(0, ⟨1, u32s x.2⟩)], 1⟩) (fun x => x.1 ≤ la ∧ x.2.length = N ∧ Wd x.2 ∧ val x.2 = (a % 4294967296 ^ x.1) * (4294967296 ^ wd * 2 ^ k)) (fun x => la - x.1) ((0, List.replicate N 0)) _ byFresh (fun _ h => by first | (cases h; done) | exact Nat.le_of_ble_eq_true rfl) ?_ ?_ ?_
    · exact ⟨Nat.zero_le _, by simp, Wd.zeros N, by simp [val_zeros, Nat.mod_one]⟩
    · exact byWeak
    rintro ⟨i, ws⟩ ⟨hi, hw, hW, hv⟩
    simp only at hi hw hW hv
    have hk2 : 2 ^ k < 4294967296 := by
      have hp32 : (2 : Nat) ^ 32 = 4294967296 := by decide
      rw [← hp32]; exact Nat.pow_lt_pow_right (by omega) hk
    have hk0 : 0 < 2 ^ k := Nat.pow_pos (by omega)
    by_cases hin : i < la
    ·
      have hx := (Wd.words a).get i
      have ra := u32s_getD (ws := words a) (i := i) (by omega)
      have hms := mod_succ a i
      have hlt : val ws < 4294967296 ^ (i + wd) * 2 ^ k := by
        rw [hv, Nat.pow_add, Nat.mul_assoc]
        exact Nat.mul_lt_mul_of_pos_right (Nat.mod_lt _ (Nat.pow_pos (by omega))) (Nat.mul_pos (Nat.pow_pos (by omega)) hk0)
      have ho : ws.getD (i + wd) 0 < 2 ^ k := by
        rw [getD_val hW]
        have := Nat.div_lt_of_lt_mul hlt
        rw [Nat.mod_eq_of_lt (by omega)]; exact this
      have hz : ws.getD (i + wd + 1) 0 = 0 := by
        rw [getD_val hW, Nat.div_eq_of_lt]
        rw [Nat.pow_succ]
        exact Nat.lt_of_lt_of_le hlt (Nat.mul_le_mul_left _ (Nat.le_of_lt hk2))
      obtain ⟨p, hpp⟩ : ∃ p, p = i + wd := ⟨_, rfl⟩
      rw [← hpp] at hlt ho hz
      have f5 : (i : Int) + (wd : Int) = (p : Int) := by omega
      have f6 : (p : Int) + 1 = ((p + 1 : Nat) : Int) := by omega
      have ro := u32s_getD (ws := ws) (i := p) (by omega)
      have hset := fun d => val_set (ws := ws) (k := p) (by omega) d
      have hpw : 4294967296 ^ p = 4294967296 ^ i * 4294967296 ^ wd := by rw [hpp, Nat.pow_add]
      generalize (words a).getD i 0 = w at *
      have hor : ∀ o, o < 2 ^ k → o ||| (w * 2 ^ k % 4294967296) = o + w * 2 ^ k % 4294967296 := fun o ho => by
        have e : 4294967296 = 2 ^ (32 - k) * 2 ^ k := by rw [← Nat.pow_add, Nat.sub_add_cancel (Nat.le_of_lt hk)]
        have e2 : w * 2 ^ k % 4294967296 = 2 ^ k * (w % 2 ^ (32 - k)) := by rw [e, Nat.mul_mod_mul_right, Nat.mul_comm]
        rw [e2, Nat.or_comm, or_add ho, Nat.add_comm]
      have hop : ∀ o, o < 2 ^ k → o + w * 2 ^ k % 4294967296 < 4294967296 := fun o ho => by
        rw [← hor o ho]
        exact Nat.or_lt_two_pow (n := 32) (Nat.lt_trans ho hk2) (Nat.mod_lt _ (by omega))
      have hor := hor _ ho
      have hop := hop _ ho
      have ho2 : ws.getD p 0 < 4294967296 := Nat.lt_trans ho hk2
      have o32 := or32 ho2 (Nat.mod_lt (w * 2 ^ k) (by omega : 0 < 4294967296))
      rw [hor] at o32
      have f0 : (w : Int) * 2 ^ k = ((w * 2 ^ k : Nat) : Int) := by simp
      have htl : w * 2 ^ k < 18446744073709551616 := Nat.lt_of_le_of_lt (mul_word hx hk2) (by decide)
      have hst : 4294967296 ^ i * w * (4294967296 ^ wd * 2 ^ k) = 4294967296 ^ p * (w * 2 ^ k) := by rw [hpw]; ac_rfl
      have hdm := Nat.div_add_mod (w * 2 ^ k) 4294967296
      generalize w * 2 ^ k = t at *
      have f1 := wrap_u32 t
      have f2 : (t : Int) / 4294967296 = ((t / 4294967296 : Nat) : Int) := rfl
      have hq : t / 4294967296 < 4294967296 := by omega
      generalize t % 4294967296 = tl at *
      generalize t / 4294967296 = th at *
      have f3 := wrap_u32 th
      rw [Nat.mod_eq_of_lt hq] at f3
      have hset2 := val_set (ws := ws.set p (ws.getD p 0 + tl)) (k := p + 1) (by rw [List.length_set]; omega) th
      rw [getD_set_of_ne (by omega), hz] at hset2
      have ro2 := u32s_getD (ws := ws.set p (ws.getD p 0 + tl)) (i := p + 1) (by rw [List.length_set]; omega)
      rw [getD_set_of_ne (by omega), hz] at ro2
      have hset := hset (ws.getD p 0 + tl)
      generalize ws.getD p 0 = o at *
      generalize hs : o + tl = s at *
      clear hp hlt hpw hor ho
      repeat' (first | (simp only [go_sem, seval, IntKind.bits.eq_def, ti, tin, u32s_length, ra, ro, ro2, f0, f1, f2, f3, f5, f6, o32, u32s_set, List.length_set]) | (simp (disch := omega) only [wA]) | refine aL ti_ok ?_ | refine dL ti_ok ?_ | refine dG ?_ | ((first | refine cC ?_ ?_ | refine gS ?_ ?_ | refine dS ?_ ?_) <;> intro hc <;> first | (exfalso; simp only [dcA] at hc; omega) | (simp only [hc]; try simp only [dcA] at hc)) | refine aO ?_ | refine dO ?_)
      refine roundEnd_of (α := Nat × List Nat) (i + 1, (ws.set p s).set (p + 1) th) ?_ ?_ ?_
      · refine ⟨by omega, by simp [hw], (hW.set _ hop).set _ hq, ?_⟩
        show val ((ws.set p s).set (p + 1) th) = a % 4294967296 ^ (i + 1) * (4294967296 ^ wd * 2 ^ k)
        rw [hms, Nat.add_mul, hst, ← hv, ← hdm]
        rw [Nat.mul_zero, Nat.pow_succ, Nat.mul_assoc] at hset2
        rw [← hs] at hset hset2 ⊢
        simp only [Nat.mul_add] at hset ⊢
        omega
      · show la - (i + 1) < la - i
        omega
      · exact byWeak
    ·
      have hi1 : i = la := by omega
      subst hi1
      repeat' (first | (simp only [go_sem, seval, IntKind.bits.eq_def, ti, tin, u32s_length]) | (simp (disch := omega) only [wA]) | refine aL ti_ok ?_ | refine dL ti_ok ?_ | refine dG ?_ | ((first | refine cC ?_ ?_ | refine gS ?_ ?_ | refine dS ?_ ?_) <;> intro hc <;> first | (exfalso; simp only [dcA] at hc; omega) | (simp only [hc]; try simp only [dcA] at hc)) | refine aO ?_ | refine dO ?_)
      have hval : val ws = a * 2 ^ n := by
        rw [hv, Nat.mod_eq_of_lt (by rw [hla]; exact lt_words a), hp]
      refine callF_frz 0 rfl (.cons (frz_ps rfl (by show 0 + N ≤ (u32s ws).length; rw [u32s_length]; omega)) .nil) ?_ (nat_trim ws hW (by omega)) ?_
      · simp only [List.drop_zero, u32s_take]
        rw [List.take_of_length_le (by omega)]
        exact LeL.refl _
      · rw [hval]
        repeat' (first | (simp only [go_sem, seval, IntKind.bits.eq_def, ti, tin]) | (simp (disch := omega) only [wA]) | refine aL ti_ok ?_ | refine dL ti_ok ?_ | refine dG ?_ | ((first | refine cC ?_ ?_ | refine gS ?_ ?_ | refine dS ?_ ?_) <;> intro hc <;> first | (exfalso; simp only [dcA] at hc; omega) | (simp only [hc]; try simp only [dcA] at hc)) | refine aO ?_ | refine dO ?_)
        exact fin_same trivial rfl
end Go.Proofs.YtfmgfjmfogmeeaaGreatDoor
