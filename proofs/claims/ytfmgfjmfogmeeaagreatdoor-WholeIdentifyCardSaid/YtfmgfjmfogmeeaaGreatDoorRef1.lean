/- The plain arithmetic of the reference (ref02), part 1: words. -/
import Derived.Test.YtfmgfjmfogmeeaaGreatDoorNum
set_option linter.unusedSimpArgs false
set_option linter.unusedVariables false
set_option linter.deprecated false
namespace Go.Proofs.YtfmgfjmfogmeeaaGreatDoor
open Go Go.Ax
set_option maxRecDepth 100000
set_option maxHeartbeats 4000000
theorem u32s_snoc {ws : List Nat} {k w : Nat} (h : ws.length = k) : (u32s ws).take k ++ [[AV.v (.int .u32 (w : Nat))]] = u32s (ws ++ [w]) := by
  rw [u32s_take, List.take_of_length_le (by omega), ← u32s_append]; rfl
theorem wd_snoc {ws : List Nat} {w : Nat} (h : Wd ws) (hw : w < 4294967296) : Wd (ws ++ [w]) := h.append (.cons hw .nil)
theorem val_snoc (ws : List Nat) (w : Nat) : val (ws ++ [w]) = val ws + 4294967296 ^ ws.length * w := by rw [val_append]; simp [val]
theorem ref_trim (ws : List Nat) (h : Wd ws) (hl : ws.length ≤ 4611686018427387904) : CallOK Tryz.prog gl 81 [.sl 1 (u32s (ws))] (.sl 1 (u32s (words (val ws)))) := by
  refine call_ok (C := ⟨Tryz.prog, gl, ti, 21, false⟩) ti_ok mixed 3000 Tryz.call81 Tryz.func81 rfl Tryz.ntmps81 (by simp) byClL byCl ?_
  rw [Tryz.results81]
  repeat' (first | (simp only [go_sem, Int.reduceAdd, Int.reduceEq, Int.reduceLE, Int.reduceLT, Int.reduceMul, Int.reduceNeg, Int.reducePow, Int.reduceSub, Int.reduceToNat, Nat.reduceAdd, Nat.reduceBEq, Nat.reduceEqDiff, Nat.reduceLT, Nat.reduceLeDiff, Nat.reduceMul, Nat.reducePow, Nat.reduceSub, reduceCtorEq, reduceIte, IntKind.bits.eq_def, ti, tin, u32s_length]) | (simp (disch := omega) only [wA]) | refine aL ti_ok ?_ | refine dL ti_ok ?_ | refine dG ?_ | ((first | refine cC ?_ ?_ | refine gS ?_ ?_ | refine dS ?_ ?_) <;> intro hc <;> first | (exfalso; simp only [dcA] at hc; omega) | (simp only [hc]; try simp only [dcA] at hc)) | refine aO ?_ | refine dO ?_)
  refine l_loop (α := Nat) (fun k => ⟨[(0, .sl 1 (u32s (ws))), (3, .v (.int .i64 k)), (2, .v (.slice none 0 0))], [], 0⟩) (fun k => k ≤ ws.length ∧ val (ws.take k) = val ws) (fun k => k) (ws.length) _ byFresh (fun _ h => by first | (cases h; done) | exact Nat.le_of_ble_eq_true rfl) ?_ ?_ ?_
  · exact ⟨Nat.le_refl _, by simp⟩
  · exact byWeak
  rintro k ⟨hk, hv⟩
  have fin : (k = 0 ∨ ws.getD (k - 1) 0 ≠ 0) → ((u32s ws).drop 0).take (k - 0) = u32s (words (val ws)) := fun ht => by
    rw [List.drop_zero, Nat.sub_zero, u32s_take, trim_end h hk hv ht]
  cases k with
  | zero =>
    repeat' (first | (simp only [go_sem, Int.reduceAdd, Int.reduceEq, Int.reduceLE, Int.reduceLT, Int.reduceMul, Int.reduceNeg, Int.reducePow, Int.reduceSub, Int.reduceToNat, Nat.reduceAdd, Nat.reduceBEq, Nat.reduceEqDiff, Nat.reduceLT, Nat.reduceLeDiff, Nat.reduceMul, Nat.reducePow, Nat.reduceSub, reduceCtorEq, reduceIte, IntKind.bits.eq_def, ti, tin, u32s_length]) | (simp (disch := omega) only [wA]) | refine aL ti_ok ?_ | refine dL ti_ok ?_ | refine dG ?_ | ((first | refine cC ?_ ?_ | refine gS ?_ ?_ | refine dS ?_ ?_) <;> intro hc <;> first | (exfalso; simp only [dcA] at hc; omega) | (simp only [hc]; try simp only [dcA] at hc)) | refine aO ?_ | refine dO ?_)
    have fin := fin (.inl rfl)
    simp only [List.drop_zero, Nat.sub_zero] at fin
    refine fin_same trivial ?_
    simp [one, ← fin]
  | succ m =>
    have e1 : ((m + 1 : Nat) : Int) - 1 = (m : Int) := by omega
    have r := u32s_getD (ws := ws) (i := m) (by omega)
    by_cases h0 : ws.getD m 0 = 0
    ·
      rw [h0] at r
      repeat' (first | (simp only [go_sem, Int.reduceAdd, Int.reduceEq, Int.reduceLE, Int.reduceLT, Int.reduceMul, Int.reduceNeg, Int.reducePow, Int.reduceSub, Int.reduceToNat, Nat.reduceAdd, Nat.reduceBEq, Nat.reduceEqDiff, Nat.reduceLT, Nat.reduceLeDiff, Nat.reduceMul, Nat.reducePow, Nat.reduceSub, reduceCtorEq, reduceIte, IntKind.bits.eq_def, ti, tin, u32s_length, e1, r]) | (simp (disch := omega) only [wA]) | refine aL ti_ok ?_ | refine dL ti_ok ?_ | refine dG ?_ | ((first | refine cC ?_ ?_ | refine gS ?_ ?_ | refine dS ?_ ?_) <;> intro hc <;> first | (exfalso; simp only [dcA] at hc; omega) | (simp only [hc]; try simp only [dcA] at hc)) | refine aO ?_ | refine dO ?_)
      refine roundEnd_of (α := Nat) m ⟨by omega, ?_⟩ (by omega) ?_
      · rw [← hv, val_take_succ (by omega), h0, Nat.mul_zero, Nat.add_zero]
      · exact byWeak
    ·
      have fin := fin (.inr h0)
      have h1 : ¬ ((ws.getD m 0 : Nat) : Int) = 0 := by omega
      generalize ws.getD m 0 = x at *
      repeat' (first | (simp only [go_sem, Int.reduceAdd, Int.reduceEq, Int.reduceLE, Int.reduceLT, Int.reduceMul, Int.reduceNeg, Int.reducePow, Int.reduceSub, Int.reduceToNat, Nat.reduceAdd, Nat.reduceBEq, Nat.reduceEqDiff, Nat.reduceLT, Nat.reduceLeDiff, Nat.reduceMul, Nat.reducePow, Nat.reduceSub, reduceCtorEq, reduceIte, IntKind.bits.eq_def, ti, tin, u32s_length, e1, r]) | (simp (disch := omega) only [wA]) | refine aL ti_ok ?_ | refine dL ti_ok ?_ | refine dG ?_ | ((first | refine cC ?_ ?_ | refine gS ?_ ?_ | refine dS ?_ ?_) <;> intro hc <;> first | (exfalso; simp only [dcA] at hc; omega) | (simp only [hc]; try simp only [dcA] at hc)) | refine aO ?_ | refine dO ?_)
      refine fin_same trivial ?_
      simp only [List.drop_zero] at fin
      simp only [one, Int.toNat_natCast, fin]
theorem plus_step {v c p x y aa bb s q r : Nat} (h : v + c * p = aa + bb) (hs : s = c + x + y) (hd : 4294967296 * q + r = s) : (v + p * r) + q * (p * 4294967296) = (aa + p * x) + (bb + p * y) := by
  subst hs; grind
theorem ref_plus (a b : Nat) (ha : (words a).length ≤ 1099511627776) (hb : (words b).length ≤ 1099511627776) : CallOK Tryz.prog gl 151 [.sl 1 (u32s (words a)), .sl 1 (u32s (words b))] (.sl 1 (u32s (words (a + b)))) := by
  refine call_ok (C := ⟨Tryz.prog, gl, ti, 52, false⟩) ti_ok mixed 3000 Tryz.call151 Tryz.func151 rfl Tryz.ntmps151 (by simp) byClL byCl ?_
  rw [Tryz.results151]
  obtain ⟨la, hla⟩ : ∃ n : Nat, (words a).length = n := ⟨_, rfl⟩
  obtain ⟨lb, hlb⟩ : ∃ n : Nat, (words b).length = n := ⟨_, rfl⟩
  obtain ⟨N, hN⟩ : ∃ N : Nat, N = max la lb := ⟨_, rfl⟩
  have eN : max (la : Int) (lb : Int) = (N : Int) := by omega
  rw [hla] at ha
  rw [hlb] at hb
  repeat' (first | (simp only [go_sem, Int.reduceAdd, Int.reduceEq, Int.reduceLE, Int.reduceLT, Int.reduceMul, Int.reduceNeg, Int.reducePow, Int.reduceSub, Int.reduceToNat, Nat.reduceAdd, Nat.reduceBEq, Nat.reduceEqDiff, Nat.reduceLT, Nat.reduceLeDiff, Nat.reduceMul, Nat.reducePow, Nat.reduceSub, reduceCtorEq, reduceIte, IntKind.bits.eq_def, ti, tin, u32s_length, hla, hlb, eN]) | (simp (disch := omega) only [wA]) | refine aL ti_ok ?_ | refine dL ti_ok ?_ | refine dG ?_ | ((first | refine cC ?_ ?_ | refine gS ?_ ?_ | refine dS ?_ ?_) <;> intro hc <;> first | (exfalso; simp only [dcA] at hc; omega) | (simp only [hc]; try simp only [dcA] at hc)) | refine aO ?_ | refine dO ?_)
  refine l_loop (α := Nat × List Nat × Nat) (fun x => ⟨[(0, .sl 1 (u32s (words a))), (1, .sl 1 (u32s (words b))), (7, .v (.int .i64 x.1)), (5, .ps 0 1 0 x.1), (6, .v (.int .u64 (x.2.2)))], [(0, ⟨1, u32s x.2.1⟩)], 1⟩) (fun x => x.1 ≤ N ∧ x.2.1.length = x.1 ∧ Wd x.2.1 ∧ x.2.2 ≤ 1 ∧ val x.2.1 + x.2.2 * 4294967296 ^ x.1 = a % 4294967296 ^ x.1 + b % 4294967296 ^ x.1) (fun x => N - x.1) ((0, [], 0)) _ byFresh (fun _ h => by first | (cases h; done) | exact Nat.le_of_ble_eq_true rfl) ?_ ?_ ?_
  · exact ⟨Nat.zero_le _, rfl, Wd.nil, Nat.zero_le _, by simp [val, Nat.mod_one]⟩
  · exact Weak.trans (Weak.newnil 0 1 (Nat.le_refl _)) (Nat.le_of_ble_eq_true rfl) (by exact byWeak)
  rintro ⟨i, ws, c⟩ ⟨hi, hw, hW, hc0, hv⟩
  simp only at hi hw hW hc0 hv
  by_cases hin : i < N
  ·
    have hx := (Wd.words a).get i
    have hy := (Wd.words b).get i
    have hma := mod_succ a i
    have hmb := mod_succ b i
    have key : ∀ x y s, x = (words a).getD i 0 → y = (words b).getD i 0 → s = c + x + y → s / 4294967296 ≤ 1 ∧ val (ws ++ [s % 4294967296]) + s / 4294967296 * 4294967296 ^ (i + 1) = a % 4294967296 ^ (i + 1) + b % 4294967296 ^ (i + 1) := fun x y s h1 h2 h3 => by
      refine ⟨by omega, ?_⟩
      rw [hma, hmb, val_snoc, hw, Nat.pow_succ, ← h1, ← h2]
      exact plus_step hv h3 (Nat.div_add_mod _ _)
    by_cases h1 : i < la
    ·
      by_cases h2 : i < lb
      ·
        have ra := u32s_getD (ws := words a) (i := i) (by omega)
        have rb := u32s_getD (ws := words b) (i := i) (by omega)
        obtain ⟨k1, k2⟩ := key ((words a).getD i 0) ((words b).getD i 0) _ rfl rfl rfl
        clear key hma hmb
        generalize (words a).getD i 0 = x at *
        generalize (words b).getD i 0 = y at *
        obtain ⟨s, hs⟩ : ∃ s, s = c + x + y := ⟨_, rfl⟩
        rw [← hs] at k1 k2
        have es : (c : Int) + (x : Int) + (y : Int) = (s : Int) := by omega
        have f1 := wrap_u32 s
        have f2 : (s : Int) / 4294967296 = ((s / 4294967296 : Nat) : Int) := rfl
        have hr : s % 4294967296 < 4294967296 := Nat.mod_lt _ (by omega)
        generalize s % 4294967296 = r at *
        generalize s / 4294967296 = q at *
        have e9 := u32s_snoc (w := r) hw
        repeat' (first | (simp only [go_sem, Int.reduceAdd, Int.reduceEq, Int.reduceLE, Int.reduceLT, Int.reduceMul, Int.reduceNeg, Int.reducePow, Int.reduceSub, Int.reduceToNat, Nat.reduceAdd, Nat.reduceBEq, Nat.reduceEqDiff, Nat.reduceLT, Nat.reduceLeDiff, Nat.reduceMul, Nat.reducePow, Nat.reduceSub, reduceCtorEq, reduceIte, IntKind.bits.eq_def, ti, tin, u32s_length, hla, hlb, eN, es, f1, f2, e9, hw, ra, rb]) | (simp (disch := omega) only [wA]) | (refine after_append_nil ti_ok rfl rfl rfl rfl ⟨rfl, by decide⟩ rfl ⟨trivial, by (try simp only [List.length_cons, List.length_nil, List.length_append, u32s_length, List.length_map, hw]); omega, by (try simp only [List.length_cons, List.length_nil, List.length_append, u32s_length, List.length_map, hw]); omega⟩ (fun _ => byRows) ?_) | (refine after_append_own ti_ok rfl rfl rfl rfl rfl ⟨rfl, rfl, by decide, Nat.le_of_ble_eq_true rfl⟩ (fun h => by first | (cases h; done) | decide) rfl ⟨trivial, by (try simp only [List.length_cons, List.length_nil, List.length_append, u32s_length, List.length_map, hw]); omega, by (try simp only [List.length_cons, List.length_nil, List.length_append, u32s_length, List.length_map, hw]); omega, by (try simp only [List.length_cons, List.length_nil, List.length_append, u32s_length, List.length_map, hw]); omega⟩ byRows byNoE byNoM ?_) | refine aL ti_ok ?_ | refine dL ti_ok ?_ | refine dG ?_ | ((first | refine cC ?_ ?_ | refine gS ?_ ?_ | refine dS ?_ ?_) <;> intro hc <;> first | (exfalso; simp only [dcA] at hc; omega) | (simp only [hc]; try simp only [dcA] at hc)) | refine aO ?_ | refine dO ?_)
        refine roundEnd_of (α := Nat × List Nat × Nat) (i + 1, ws ++ [r], q) ?_ ?_ ?_
        · exact ⟨hin, by simp [hw], wd_snoc hW hr, k1, k2⟩
        · show N - (i + 1) < N - i
          omega
        · exact byWeak
      ·
        have ra := u32s_getD (ws := words a) (i := i) (by omega)
        have zb : (words b).getD i 0 = 0 := getD_out (by omega)
        obtain ⟨k1, k2⟩ := key ((words a).getD i 0) 0 _ rfl zb.symm rfl
        clear key hma hmb
        generalize (words a).getD i 0 = x at *
        obtain ⟨s, hs⟩ : ∃ s, s = c + x + 0 := ⟨_, rfl⟩
        rw [← hs] at k1 k2
        have es : (c : Int) + (x : Int) = (s : Int) := by omega
        have f1 := wrap_u32 s
        have f2 : (s : Int) / 4294967296 = ((s / 4294967296 : Nat) : Int) := rfl
        have hr : s % 4294967296 < 4294967296 := Nat.mod_lt _ (by omega)
        generalize s % 4294967296 = r at *
        generalize s / 4294967296 = q at *
        have e9 := u32s_snoc (w := r) hw
        repeat' (first | (simp only [go_sem, Int.reduceAdd, Int.reduceEq, Int.reduceLE, Int.reduceLT, Int.reduceMul, Int.reduceNeg, Int.reducePow, Int.reduceSub, Int.reduceToNat, Nat.reduceAdd, Nat.reduceBEq, Nat.reduceEqDiff, Nat.reduceLT, Nat.reduceLeDiff, Nat.reduceMul, Nat.reducePow, Nat.reduceSub, reduceCtorEq, reduceIte, IntKind.bits.eq_def, ti, tin, u32s_length, hla, hlb, eN, es, f1, f2, e9, hw, ra]) | (simp (disch := omega) only [wA]) | (refine after_append_nil ti_ok rfl rfl rfl rfl ⟨rfl, by decide⟩ rfl ⟨trivial, by (try simp only [List.length_cons, List.length_nil, List.length_append, u32s_length, List.length_map, hw]); omega, by (try simp only [List.length_cons, List.length_nil, List.length_append, u32s_length, List.length_map, hw]); omega⟩ (fun _ => byRows) ?_) | (refine after_append_own ti_ok rfl rfl rfl rfl rfl ⟨rfl, rfl, by decide, Nat.le_of_ble_eq_true rfl⟩ (fun h => by first | (cases h; done) | decide) rfl ⟨trivial, by (try simp only [List.length_cons, List.length_nil, List.length_append, u32s_length, List.length_map, hw]); omega, by (try simp only [List.length_cons, List.length_nil, List.length_append, u32s_length, List.length_map, hw]); omega, by (try simp only [List.length_cons, List.length_nil, List.length_append, u32s_length, List.length_map, hw]); omega⟩ byRows byNoE byNoM ?_) | refine aL ti_ok ?_ | refine dL ti_ok ?_ | refine dG ?_ | ((first | refine cC ?_ ?_ | refine gS ?_ ?_ | refine dS ?_ ?_) <;> intro hc <;> first | (exfalso; simp only [dcA] at hc; omega) | (simp only [hc]; try simp only [dcA] at hc)) | refine aO ?_ | refine dO ?_)
        refine roundEnd_of (α := Nat × List Nat × Nat) (i + 1, ws ++ [r], q) ?_ ?_ ?_
        · exact ⟨hin, by simp [hw], wd_snoc hW hr, k1, k2⟩
        · show N - (i + 1) < N - i
          omega
        · exact byWeak
    ·
      have za : (words a).getD i 0 = 0 := getD_out (by omega)
      have rb := u32s_getD (ws := words b) (i := i) (by omega)
      obtain ⟨k1, k2⟩ := key 0 ((words b).getD i 0) _ za.symm rfl rfl
      clear key hma hmb
      generalize (words b).getD i 0 = y at *
      obtain ⟨s, hs⟩ : ∃ s, s = c + 0 + y := ⟨_, rfl⟩
      rw [← hs] at k1 k2
      have es : (c : Int) + (y : Int) = (s : Int) := by omega
      have f1 := wrap_u32 s
      have f2 : (s : Int) / 4294967296 = ((s / 4294967296 : Nat) : Int) := rfl
      have hr : s % 4294967296 < 4294967296 := Nat.mod_lt _ (by omega)
      generalize s % 4294967296 = r at *
      generalize s / 4294967296 = q at *
      have e9 := u32s_snoc (w := r) hw
      repeat' (first | (simp only [go_sem, Int.reduceAdd, Int.reduceEq, Int.reduceLE, Int.reduceLT, Int.reduceMul, Int.reduceNeg, Int.reducePow, Int.reduceSub, Int.reduceToNat, Nat.reduceAdd, Nat.reduceBEq, Nat.reduceEqDiff, Nat.reduceLT, Nat.reduceLeDiff, Nat.reduceMul, Nat.reducePow, Nat.reduceSub, reduceCtorEq, reduceIte, IntKind.bits.eq_def, ti, tin, u32s_length, hla, hlb, eN, es, f1, f2, e9, hw, rb]) | (simp (disch := omega) only [wA]) | (refine after_append_nil ti_ok rfl rfl rfl rfl ⟨rfl, by decide⟩ rfl ⟨trivial, by (try simp only [List.length_cons, List.length_nil, List.length_append, u32s_length, List.length_map, hw]); omega, by (try simp only [List.length_cons, List.length_nil, List.length_append, u32s_length, List.length_map, hw]); omega⟩ (fun _ => byRows) ?_) | (refine after_append_own ti_ok rfl rfl rfl rfl rfl ⟨rfl, rfl, by decide, Nat.le_of_ble_eq_true rfl⟩ (fun h => by first | (cases h; done) | decide) rfl ⟨trivial, by (try simp only [List.length_cons, List.length_nil, List.length_append, u32s_length, List.length_map, hw]); omega, by (try simp only [List.length_cons, List.length_nil, List.length_append, u32s_length, List.length_map, hw]); omega, by (try simp only [List.length_cons, List.length_nil, List.length_append, u32s_length, List.length_map, hw]); omega⟩ byRows byNoE byNoM ?_) | refine aL ti_ok ?_ | refine dL ti_ok ?_ | refine dG ?_ | ((first | refine cC ?_ ?_ | refine gS ?_ ?_ | refine dS ?_ ?_) <;> intro hc <;> first | (exfalso; simp only [dcA] at hc; omega) | (simp only [hc]; try simp only [dcA] at hc)) | refine aO ?_ | refine dO ?_)
      refine roundEnd_of (α := Nat × List Nat × Nat) (i + 1, ws ++ [r], q) ?_ ?_ ?_
      · exact ⟨hin, by simp [hw], wd_snoc hW hr, k1, k2⟩
      · show N - (i + 1) < N - i
        omega
      · exact byWeak
  ·
    have hn1 : i = N := by omega
    subst hn1
    have hla' := lt_words a
    have hlb' := lt_words b
    rw [hla] at hla'
    rw [hlb] at hlb'
    rw [Nat.mod_eq_of_lt (Nat.lt_of_lt_of_le hla' (pow_le (by omega))), Nat.mod_eq_of_lt (Nat.lt_of_lt_of_le hlb' (pow_le (by omega)))] at hv
    have hval : val (ws ++ [c]) = a + b := by rw [val_snoc, hw, Nat.mul_comm]; exact hv
    have hW2 := wd_snoc (w := c) hW (by omega)
    have hl2 : (ws ++ [c]).length = i + 1 := by simp [hw]
    have e9 := u32s_snoc (w := c) hw
    have f1 := wrap_u32 c
    rw [Nat.mod_eq_of_lt (by omega)] at f1
    have tr := ref_trim (ws ++ [c]) hW2 (by omega)
    rw [hval] at tr
    clear hla' hlb' hv
    repeat' (first | (simp only [go_sem, Int.reduceAdd, Int.reduceEq, Int.reduceLE, Int.reduceLT, Int.reduceMul, Int.reduceNeg, Int.reducePow, Int.reduceSub, Int.reduceToNat, Nat.reduceAdd, Nat.reduceBEq, Nat.reduceEqDiff, Nat.reduceLT, Nat.reduceLeDiff, Nat.reduceMul, Nat.reducePow, Nat.reduceSub, reduceCtorEq, reduceIte, IntKind.bits.eq_def, ti, tin, u32s_length, hla, hlb, eN, f1, e9, hw]) | (simp (disch := omega) only [wA]) | (refine after_append_nil ti_ok rfl rfl rfl rfl ⟨rfl, by decide⟩ rfl ⟨trivial, by (try simp only [List.length_cons, List.length_nil, List.length_append, u32s_length, List.length_map, hw]); omega, by (try simp only [List.length_cons, List.length_nil, List.length_append, u32s_length, List.length_map, hw]); omega⟩ (fun _ => byRows) ?_) | (refine after_append_own ti_ok rfl rfl rfl rfl rfl ⟨rfl, rfl, by decide, Nat.le_of_ble_eq_true rfl⟩ (fun h => by first | (cases h; done) | decide) rfl ⟨trivial, by (try simp only [List.length_cons, List.length_nil, List.length_append, u32s_length, List.length_map, hw]); omega, by (try simp only [List.length_cons, List.length_nil, List.length_append, u32s_length, List.length_map, hw]); omega, by (try simp only [List.length_cons, List.length_nil, List.length_append, u32s_length, List.length_map, hw]); omega⟩ byRows byNoE byNoM ?_) | refine aL ti_ok ?_ | refine dL ti_ok ?_ | refine dG ?_ | ((first | refine cC ?_ ?_ | refine gS ?_ ?_ | refine dS ?_ ?_) <;> intro hc <;> first | (exfalso; simp only [dcA] at hc; omega) | (simp only [hc]; try simp only [dcA] at hc)) | refine aO ?_ | refine dO ?_)
    refine callF_frz 0 rfl (.cons (frz_ps rfl (by show 0 + (i + 1) ≤ (u32s (ws ++ [c])).length; rw [u32s_length]; omega)) .nil) ?_ tr ?_
    · simp only [List.drop_zero, u32s_take]
      rw [List.take_of_length_le (by omega)]
      exact LeL.refl _
    ·
      repeat' (first | (simp only [go_sem, Int.reduceAdd, Int.reduceEq, Int.reduceLE, Int.reduceLT, Int.reduceMul, Int.reduceNeg, Int.reducePow, Int.reduceSub, Int.reduceToNat, Nat.reduceAdd, Nat.reduceBEq, Nat.reduceEqDiff, Nat.reduceLT, Nat.reduceLeDiff, Nat.reduceMul, Nat.reducePow, Nat.reduceSub, reduceCtorEq, reduceIte, IntKind.bits.eq_def, ti, tin]) | (simp (disch := omega) only [wA]) | refine aL ti_ok ?_ | refine dL ti_ok ?_ | refine dG ?_ | ((first | refine cC ?_ ?_ | refine gS ?_ ?_ | refine dS ?_ ?_) <;> intro hc <;> first | (exfalso; simp only [dcA] at hc; omega) | (simp only [hc]; try simp only [dcA] at hc)) | refine aO ?_ | refine dO ?_)
      exact fin_same trivial rfl
end Go.Proofs.YtfmgfjmfogmeeaaGreatDoor
