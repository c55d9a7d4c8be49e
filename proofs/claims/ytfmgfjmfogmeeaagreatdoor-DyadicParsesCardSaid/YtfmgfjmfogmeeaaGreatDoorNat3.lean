/- Natural numbers as words (nat.go of layer 2), part 3: products. -/
import Derived.Test.YtfmgfjmfogmeeaaGreatDoorNat2
set_option linter.unusedSimpArgs false
set_option linter.unusedVariables false
set_option linter.deprecated false
namespace Go.Proofs.YtfmgfjmfogmeeaaGreatDoor
open Go Go.Ax
set_option maxRecDepth 100000
set_option maxHeartbeats 4000000
theorem mul_step {V V' V0 c x y o r q Pi Bj bj : Nat} (hs : V' + Pi * Bj * o = V + Pi * Bj * r) (ht : 4294967296 * q + r = x * y + o + c) (hi : V + c * (Pi * Bj) = V0 + x * bj * Pi) : V' + q * (Pi * (Bj * 4294967296)) = V0 + x * (bj + Bj * y) * Pi := by
  have e2 : Pi * Bj * (4294967296 * q + r) = Pi * Bj * (x * y + o + c) := by rw [ht]
  have e3 : q * (Pi * (Bj * 4294967296)) = Pi * Bj * (4294967296 * q) := by ac_rfl
  have e4 : x * (bj + Bj * y) * Pi = x * bj * Pi + Pi * Bj * (x * y) := by rw [Nat.mul_add, Nat.add_mul]; congr 1; ac_rfl
  have e5 : c * (Pi * Bj) = Pi * Bj * c := Nat.mul_comm _ _
  simp only [Nat.mul_add] at e2
  generalize Pi * Bj = P at *
  omega
theorem mul_word {x y : Nat} (hx : x < 4294967296) (hy : y < 4294967296) : x * y ≤ 18446744065119617025 := Nat.le_trans (Nat.mul_le_mul (Nat.le_of_lt_succ hx) (Nat.le_of_lt_succ hy)) (by decide)
theorem nat_mul (a b : Nat) (ha : (words a).length ≤ 1099511627776) (hb : (words b).length ≤ 1099511627776) : CallOK Tryz.prog gl 76 [.sl 1 (u32s (words a)), .sl 1 (u32s (words b))] (.sl 1 (u32s (words (a * b)))) := by
  refine call_ok (C := ⟨Tryz.prog, gl, ti, 68, false⟩) ti_ok mixed 3000 Tryz.call76 Tryz.func76 rfl Tryz.ntmps76 (by simp) byClL byCl ?_
  rw [Tryz.results76]
  obtain ⟨k, hk⟩ : ∃ k : Nat, k = (words a).length := ⟨_, rfl⟩
  obtain ⟨m, hm⟩ : ∃ m : Nat, m = (words b).length := ⟨_, rfl⟩
  have ek : (words a).length = k := hk.symm
  have em : (words b).length = m := hm.symm
  have e1 : (k : Int) + (m : Int) = ((k + m : Nat) : Int) := by omega
  obtain ⟨n, hn⟩ : ∃ n : Nat, n = k + m := ⟨_, rfl⟩
  rw [← hn] at e1
  repeat' (first | (simp only [go_sem, seval, IntKind.bits.eq_def, ti, tin, u32s_length, ek, em, e1, u32s_zeros]) | (simp (disch := omega) only [wA]) | refine aL ti_ok ?_ | refine dL ti_ok ?_ | refine dG ?_ | ((first | refine cC ?_ ?_ | refine gS ?_ ?_ | refine dS ?_ ?_) <;> intro hc <;> first | (exfalso; simp only [dcA] at hc; omega) | (simp only [hc]; try simp only [dcA] at hc)) | refine aO ?_ | refine dO ?_)
  refine l_loop (α := Nat × List Nat) (fun x => ⟨[(0, .sl 1 (u32s (words a))), (1, .sl 1 (u32s (words b))), (18, .v (.int .i64 x.1)), (17, .v (.int .i64 k)), (5, .ps 0 1 0 n), (4, .v (.slice none 0 0))], [(0, ⟨1, u32s x.2⟩)], 1⟩) (fun x => x.1 ≤ k ∧ x.2.length = n ∧ Wd x.2 ∧ val x.2 = (a % 4294967296 ^ x.1) * b) (fun x => k - x.1) ((0, List.replicate n 0)) _ byFresh (fun _ h => by first | (cases h; done) | exact Nat.le_of_ble_eq_true rfl) ?_ ?_ ?_
  · exact ⟨Nat.zero_le _, by simp, Wd.zeros n, by simp [val_zeros, Nat.mod_one]⟩
  · exact byWeak
  rintro ⟨i, ws0⟩ ⟨hi, hw0, hW0, hv0⟩
  simp only at hi hw0 hW0 hv0
  by_cases hin : i < k
  ·
    have hx := (Wd.words a).get i
    have ra := u32s_getD (ws := words a) (i := i) (by omega)
    have hz0 : ws0.getD (i + m) 0 = 0 := by
      rw [getD_val hW0, hv0]
      have h1 : a % 4294967296 ^ i * b < 4294967296 ^ (i + m) := by
        rw [Nat.pow_add]
        have h2 : a % 4294967296 ^ i < 4294967296 ^ i := Nat.mod_lt _ (Nat.pow_pos (by omega))
        have h3 : b < 4294967296 ^ m := by rw [hm]; exact lt_words b
        exact Nat.mul_lt_mul'' h2 h3
      rw [Nat.div_eq_of_lt h1]
    have hs0 := mod_succ a i
    generalize (words a).getD i 0 = x at *
    repeat' (first | (simp only [go_sem, seval, IntKind.bits.eq_def, ti, tin, u32s_length, ek, em]) | (simp (disch := omega) only [wA]) | refine aL ti_ok ?_ | refine dL ti_ok ?_ | refine dG ?_ | ((first | refine cC ?_ ?_ | refine gS ?_ ?_ | refine dS ?_ ?_) <;> intro hc <;> first | (exfalso; simp only [dcA] at hc; omega) | (simp only [hc]; try simp only [dcA] at hc)) | refine aO ?_ | refine dO ?_)
    refine l_loop (α := Nat × List Nat × Nat) (fun z => ⟨[(0, .sl 1 (u32s (words a))), (1, .sl 1 (u32s (words b))), (23, .v (.int .i64 z.1)), (22, .v (.int .i64 m)), (6, .v (.int .i64 i)), (7, .v (.int .u64 (z.2.2))), (18, .v (.int .i64 i)), (17, .v (.int .i64 k)), (5, .ps 0 1 0 n), (4, .v (.slice none 0 0))], [(0, ⟨1, u32s z.2.1⟩)], 1⟩) (fun z => z.1 ≤ m ∧ z.2.1.length = n ∧ Wd z.2.1 ∧ z.2.2 < 4294967296 ∧ z.2.1.getD (i + m) 0 = 0 ∧ val z.2.1 + z.2.2 * (4294967296 ^ i * 4294967296 ^ z.1) = val ws0 + x * (b % 4294967296 ^ z.1) * 4294967296 ^ i) (fun z => m - z.1) ((0, ws0, 0)) _ byFresh (fun _ h => by first | (cases h; done) | exact Nat.le_of_ble_eq_true rfl) ?_ ?_ ?_
    · exact ⟨Nat.zero_le _, hw0, hW0, Nat.zero_lt_succ _, hz0, by simp [Nat.mod_one]⟩
    · exact byWeak
    rintro ⟨j, ws, c⟩ ⟨hj, hw, hW, hc0, hz, hv⟩
    simp only at hj hw hW hc0 hz hv
    by_cases hjm : j < m
    ·
      have hy := (Wd.words b).get j
      have rb := u32s_getD (ws := words b) (i := j) (by omega)
      have ro := u32s_getD (ws := ws) (i := i + j) (by omega)
      have ho := hW.get (i + j)
      have hset := val_set (ws := ws) (k := i + j) (by omega) ((x * (words b).getD j 0 + ws.getD (i + j) 0 + c) % 4294967296)
      rw [Nat.pow_add] at hset
      have hms := mod_succ b j
      generalize (words b).getD j 0 = y at *
      generalize ws.getD (i + j) 0 = o at *
      have hp := mul_word hx hy
      have f1 : (x : Int) * (y : Int) = ((x * y : Nat) : Int) := by simp
      have hr : (x * y + o + c) % 4294967296 < 4294967296 := Nat.mod_lt _ (by omega)
      have ht := Nat.div_add_mod (x * y + o + c) 4294967296
      have hst := mul_step hset ht hv
      generalize hpp : x * y = p at *
      have f2 : (p : Int) + (o : Int) + (c : Int) = ((p + o + c : Nat) : Int) := by omega
      have f3 := wrap_u32 (p + o + c)
      have f4 : ((p + o + c : Nat) : Int) / 4294967296 = (((p + o + c) / 4294967296 : Nat) : Int) := rfl
      have f5 : (i : Int) + (j : Int) = ((i + j : Nat) : Int) := by omega
      have hq : (p + o + c) / 4294967296 < 4294967296 := by omega
      have htl : p + o + c < 18446744073709551616 := by omega
      generalize (p + o + c) % 4294967296 = r at *
      generalize (p + o + c) / 4294967296 = q at *
      repeat' (first | (simp only [go_sem, seval, IntKind.bits.eq_def, ti, tin, u32s_length, ek, em, ra, rb, ro, u32s_set, f1, f2, f3, f4, f5]) | (simp (disch := omega) only [wA]) | refine aL ti_ok ?_ | refine dL ti_ok ?_ | refine dG ?_ | ((first | refine cC ?_ ?_ | refine gS ?_ ?_ | refine dS ?_ ?_) <;> intro hc <;> first | (exfalso; simp only [dcA] at hc; omega) | (simp only [hc]; try simp only [dcA] at hc)) | refine aO ?_ | refine dO ?_)
      refine roundEnd_of (α := Nat × List Nat × Nat) (j + 1, ws.set (i + j) r, q) ?_ ?_ ?_
      · refine ⟨by omega, by simp [hw], hW.set _ hr, hq, ?_, ?_⟩
        · show (ws.set (i + j) r).getD (i + m) 0 = 0
          rw [getD_set_of_ne (by omega)]; exact hz
        · show val (ws.set (i + j) r) + q * (4294967296 ^ i * 4294967296 ^ (j + 1)) = _
          rw [hms, Nat.pow_succ]; exact hst
      · show m - (j + 1) < m - j
        omega
      · exact byWeak
    ·
      have hjm1 : j = m := by omega
      subst hjm1
      have ro := u32s_getD (ws := ws) (i := i + j) (by omega)
      have f5 : (i : Int) + (j : Int) = ((i + j : Nat) : Int) := by omega
      have f3 := wrap_u32 c
      rw [Nat.mod_eq_of_lt hc0] at f3
      have hset := val_set (ws := ws) (k := i + j) (by omega) c
      rw [hz] at hset ro
      repeat' (first | (simp only [go_sem, seval, IntKind.bits.eq_def, ti, tin, u32s_length, ek, em, ro, u32s_set, f3, f5]) | (simp (disch := omega) only [wA]) | refine aL ti_ok ?_ | refine dL ti_ok ?_ | refine dG ?_ | ((first | refine cC ?_ ?_ | refine gS ?_ ?_ | refine dS ?_ ?_) <;> intro hc <;> first | (exfalso; simp only [dcA] at hc; omega) | (simp only [hc]; try simp only [dcA] at hc)) | refine aO ?_ | refine dO ?_)
      refine roundEnd_of (α := Nat × List Nat) (i + 1, ws.set (i + j) c) ?_ ?_ ?_
      · refine ⟨by omega, by simp [hw], hW.set _ hc0, ?_⟩
        show val (ws.set (i + j) c) = _
        have hb : b % 4294967296 ^ j = b := Nat.mod_eq_of_lt (by rw [hm]; exact lt_words b)
        rw [hb, hv0, ← Nat.pow_add] at hv
        rw [Nat.mul_zero] at hset
        have e2 : x * b * 4294967296 ^ i = 4294967296 ^ i * x * b := by ac_rfl
        show _ = (a % 4294967296 ^ (i + 1)) * b
        rw [hs0, Nat.add_mul, ← e2, ← hv, Nat.mul_comm c]
        omega
      · show k - (i + 1) < k - i
        omega
      · exact byWeak
  ·
    have hi1 : i = k := by omega
    subst hi1
    repeat' (first | (simp only [go_sem, seval, IntKind.bits.eq_def, ti, tin, u32s_length]) | (simp (disch := omega) only [wA]) | refine aL ti_ok ?_ | refine dL ti_ok ?_ | refine dG ?_ | ((first | refine cC ?_ ?_ | refine gS ?_ ?_ | refine dS ?_ ?_) <;> intro hc <;> first | (exfalso; simp only [dcA] at hc; omega) | (simp only [hc]; try simp only [dcA] at hc)) | refine aO ?_ | refine dO ?_)
    have hval : val ws0 = a * b := by
      rw [hv0, Nat.mod_eq_of_lt (by rw [hk]; exact lt_words a)]
    refine callF_frz 0 rfl (.cons (frz_ps rfl (by show 0 + n ≤ (u32s ws0).length; rw [u32s_length]; omega)) .nil) ?_ (nat_trim ws0 hW0 (by omega)) ?_
    · simp only [List.drop_zero, u32s_take]
      rw [List.take_of_length_le (by omega)]
      exact LeL.refl _
    · rw [hval]
      repeat' (first | (simp only [go_sem, seval, IntKind.bits.eq_def, ti, tin]) | (simp (disch := omega) only [wA]) | refine aL ti_ok ?_ | refine dL ti_ok ?_ | refine dG ?_ | ((first | refine cC ?_ ?_ | refine gS ?_ ?_ | refine dS ?_ ?_) <;> intro hc <;> first | (exfalso; simp only [dcA] at hc; omega) | (simp only [hc]; try simp only [dcA] at hc)) | refine aO ?_ | refine dO ?_)
      exact fin_same trivial rfl
end Go.Proofs.YtfmgfjmfogmeeaaGreatDoor
