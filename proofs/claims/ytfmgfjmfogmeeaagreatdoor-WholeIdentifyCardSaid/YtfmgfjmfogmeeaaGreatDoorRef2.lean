/- The plain arithmetic of the reference (ref02), part 2: minus, less. -/
import Derived.Test.YtfmgfjmfogmeeaaGreatDoorRef1
set_option linter.unusedSimpArgs false
set_option linter.unusedVariables false
set_option linter.deprecated false
namespace Go.Proofs.YtfmgfjmfogmeeaaGreatDoor
open Go Go.Ax
set_option maxRecDepth 100000
set_option maxHeartbeats 4000000
theorem ref_minus (a b : Nat) (hba : b ≤ a) (ha : (words a).length ≤ 1099511627776) : CallOK Tryz.prog gl 153 [.sl 1 (u32s (words a)), .sl 1 (u32s (words b))] (.sl 1 (u32s (words (a - b)))) := by
  refine call_ok (C := ⟨Tryz.prog, gl, ti, 44, false⟩) ti_ok mixed 3000 Tryz.call153 Tryz.func153 rfl Tryz.ntmps153 (by simp) byClL byCl ?_
  rw [Tryz.results153]
  obtain ⟨la, hla⟩ : ∃ n : Nat, (words a).length = n := ⟨_, rfl⟩
  obtain ⟨lb, hlb⟩ : ∃ n : Nat, (words b).length = n := ⟨_, rfl⟩
  have hbl := words_len_mono hba
  rw [hla, hlb] at hbl
  rw [hla] at ha
  repeat' (first | (simp only [go_sem, seval, IntKind.bits.eq_def, ti, tin, u32s_length, hla, hlb]) | (simp (disch := omega) only [wA]) | refine aL ti_ok ?_ | refine dL ti_ok ?_ | refine dG ?_ | ((first | refine cC ?_ ?_ | refine gS ?_ ?_ | refine dS ?_ ?_) <;> intro hc <;> first | (exfalso; simp only [dcA] at hc; omega) | (simp only [hc]; try simp only [dcA] at hc)) | refine aO ?_ | refine dO ?_)
  refine l_loop (α := Nat × List Nat × Nat) (fun x => ⟨[(0, .sl 1 (u32s (words a))), (1, .sl 1 (u32s (words b))), (11, .v (.int .i64 x.1)), (10, .v (.int .i64 la)), (5, .ps 0 1 0 x.1), (6, .v (.int .i64 x.2.2))], [(0, ⟨1, u32s x.2.1⟩)], 1⟩) (fun x => x.1 ≤ la ∧ x.2.1.length = x.1 ∧ Wd x.2.1 ∧ x.2.2 ≤ 1 ∧ val x.2.1 + b % 4294967296 ^ x.1 = a % 4294967296 ^ x.1 + x.2.2 * 4294967296 ^ x.1) (fun x => la - x.1) ((0, [], 0)) _ byFresh (fun _ h => by first | (cases h; done) | exact Nat.le_of_ble_eq_true rfl) ?_ ?_ ?_
  · exact ⟨Nat.zero_le _, rfl, Wd.nil, Nat.zero_le _, by simp [val, Nat.mod_one]⟩
  · exact Weak.trans (Weak.newnil 0 1 (Nat.le_refl _)) (Nat.le_of_ble_eq_true rfl) (by exact byWeak)
  rintro ⟨i, ws, c⟩ ⟨hi, hw, hW, hc0, hv⟩
  simp only at hi hw hW hc0 hv
  by_cases hin : i < la
  ·
    have hx := (Wd.words a).get i
    have hy := (Wd.words b).get i
    have hs := sub_step (x := (words a).getD i 0) (y := (words b).getD i 0) hc0 hx hy rfl rfl hv
    rw [← mod_succ, ← mod_succ] at hs
    have ra := u32s_getD (ws := words a) (i := i) (by omega)
    have key : ∀ r e : Nat, r = ((words a).getD i 0 + 8589934592 - (words b).getD i 0 - c) % 4294967296 → e = (if (words a).getD i 0 < (words b).getD i 0 + c then 1 else 0) → e ≤ 1 ∧ r < 4294967296 ∧ val (ws ++ [r]) + b % 4294967296 ^ (i + 1) = a % 4294967296 ^ (i + 1) + e * 4294967296 ^ (i + 1) := fun r e h1 h2 => by
      refine ⟨by rw [h2]; split <;> omega, by rw [h1]; exact Nat.mod_lt _ (by omega), ?_⟩
      rw [val_snoc, hw, h1, hs, h2, Nat.pow_succ]
    have rb : i < lb → (u32s (words b)).getD i [] = _ := fun h => u32s_getD (ws := words b) (i := i) (by omega)
    have zb : ¬ i < lb → (words b).getD i 0 = 0 := fun h => getD_out (by omega)
    clear hs
    generalize (words a).getD i 0 = x at *
    generalize (words b).getD i 0 = y at *
    by_cases h1 : i < lb
    ·
      have rb := rb h1
      by_cases h2 : x < y + c
      ·
        obtain ⟨r, hr⟩ : ∃ r, r = (x + 8589934592 - y - c) % 4294967296 := ⟨_, rfl⟩
        obtain ⟨k1, k2, k3⟩ := key r 1 hr (by rw [if_pos h2])
        have es : (x : Int) - (c : Int) - (y : Int) + 4294967296 = (r : Int) := by omega
        have f1 := wrap_u32 r
        rw [Nat.mod_eq_of_lt k2] at f1
        have e9 := u32s_snoc (w := r) hw
        clear key zb
        repeat' (first | (simp only [go_sem, seval, IntKind.bits.eq_def, ti, tin, u32s_length, hla, hlb, es, f1, e9, hw, ra, rb]) | (simp (disch := omega) only [wA]) | (refine after_append_nil ti_ok rfl rfl rfl rfl ⟨rfl, by decide⟩ rfl ⟨trivial, by (try simp only [List.length_cons, List.length_nil, List.length_append, u32s_length, List.length_map, hw]); omega, by (try simp only [List.length_cons, List.length_nil, List.length_append, u32s_length, List.length_map, hw]); omega⟩ (fun _ => byRows) ?_) | (refine after_append_own ti_ok rfl rfl rfl rfl rfl ⟨rfl, rfl, by decide, Nat.le_of_ble_eq_true rfl⟩ (fun h => by first | (cases h; done) | decide) rfl ⟨trivial, by (try simp only [List.length_cons, List.length_nil, List.length_append, u32s_length, List.length_map, hw]); omega, by (try simp only [List.length_cons, List.length_nil, List.length_append, u32s_length, List.length_map, hw]); omega, by (try simp only [List.length_cons, List.length_nil, List.length_append, u32s_length, List.length_map, hw]); omega⟩ byRows byNoE byNoM ?_) | refine aL ti_ok ?_ | refine dL ti_ok ?_ | refine dG ?_ | ((first | refine cC ?_ ?_ | refine gS ?_ ?_ | refine dS ?_ ?_) <;> intro hc <;> first | (exfalso; simp only [dcA] at hc; omega) | (simp only [hc]; try simp only [dcA] at hc)) | refine aO ?_ | refine dO ?_)
        refine roundEnd_of (α := Nat × List Nat × Nat) (i + 1, ws ++ [r], 1) ?_ ?_ ?_
        · exact ⟨hin, by simp [hw], wd_snoc hW k2, k1, k3⟩
        · show la - (i + 1) < la - i
          omega
        · exact byWeak
      ·
        obtain ⟨r, hr⟩ : ∃ r, r = (x + 8589934592 - y - c) % 4294967296 := ⟨_, rfl⟩
        obtain ⟨k1, k2, k3⟩ := key r 0 hr (by rw [if_neg h2])
        have es : (x : Int) - (c : Int) - (y : Int) = (r : Int) := by omega
        have f1 := wrap_u32 r
        rw [Nat.mod_eq_of_lt k2] at f1
        have e9 := u32s_snoc (w := r) hw
        clear key zb
        repeat' (first | (simp only [go_sem, seval, IntKind.bits.eq_def, ti, tin, u32s_length, hla, hlb, es, f1, e9, hw, ra, rb]) | (simp (disch := omega) only [wA]) | (refine after_append_nil ti_ok rfl rfl rfl rfl ⟨rfl, by decide⟩ rfl ⟨trivial, by (try simp only [List.length_cons, List.length_nil, List.length_append, u32s_length, List.length_map, hw]); omega, by (try simp only [List.length_cons, List.length_nil, List.length_append, u32s_length, List.length_map, hw]); omega⟩ (fun _ => byRows) ?_) | (refine after_append_own ti_ok rfl rfl rfl rfl rfl ⟨rfl, rfl, by decide, Nat.le_of_ble_eq_true rfl⟩ (fun h => by first | (cases h; done) | decide) rfl ⟨trivial, by (try simp only [List.length_cons, List.length_nil, List.length_append, u32s_length, List.length_map, hw]); omega, by (try simp only [List.length_cons, List.length_nil, List.length_append, u32s_length, List.length_map, hw]); omega, by (try simp only [List.length_cons, List.length_nil, List.length_append, u32s_length, List.length_map, hw]); omega⟩ byRows byNoE byNoM ?_) | refine aL ti_ok ?_ | refine dL ti_ok ?_ | refine dG ?_ | ((first | refine cC ?_ ?_ | refine gS ?_ ?_ | refine dS ?_ ?_) <;> intro hc <;> first | (exfalso; simp only [dcA] at hc; omega) | (simp only [hc]; try simp only [dcA] at hc)) | refine aO ?_ | refine dO ?_)
        refine roundEnd_of (α := Nat × List Nat × Nat) (i + 1, ws ++ [r], 0) ?_ ?_ ?_
        · exact ⟨hin, by simp [hw], wd_snoc hW k2, k1, k3⟩
        · show la - (i + 1) < la - i
          omega
        · exact byWeak
    ·
      have zb := zb h1
      subst zb
      by_cases h2 : x < 0 + c
      ·
        obtain ⟨r, hr⟩ : ∃ r, r = (x + 8589934592 - 0 - c) % 4294967296 := ⟨_, rfl⟩
        obtain ⟨k1, k2, k3⟩ := key r 1 hr (by rw [if_pos h2])
        have es : (x : Int) - (c : Int) + 4294967296 = (r : Int) := by omega
        have f1 := wrap_u32 r
        rw [Nat.mod_eq_of_lt k2] at f1
        have e9 := u32s_snoc (w := r) hw
        clear key rb
        repeat' (first | (simp only [go_sem, seval, IntKind.bits.eq_def, ti, tin, u32s_length, hla, hlb, es, f1, e9, hw, ra]) | (simp (disch := omega) only [wA]) | (refine after_append_nil ti_ok rfl rfl rfl rfl ⟨rfl, by decide⟩ rfl ⟨trivial, by (try simp only [List.length_cons, List.length_nil, List.length_append, u32s_length, List.length_map, hw]); omega, by (try simp only [List.length_cons, List.length_nil, List.length_append, u32s_length, List.length_map, hw]); omega⟩ (fun _ => byRows) ?_) | (refine after_append_own ti_ok rfl rfl rfl rfl rfl ⟨rfl, rfl, by decide, Nat.le_of_ble_eq_true rfl⟩ (fun h => by first | (cases h; done) | decide) rfl ⟨trivial, by (try simp only [List.length_cons, List.length_nil, List.length_append, u32s_length, List.length_map, hw]); omega, by (try simp only [List.length_cons, List.length_nil, List.length_append, u32s_length, List.length_map, hw]); omega, by (try simp only [List.length_cons, List.length_nil, List.length_append, u32s_length, List.length_map, hw]); omega⟩ byRows byNoE byNoM ?_) | refine aL ti_ok ?_ | refine dL ti_ok ?_ | refine dG ?_ | ((first | refine cC ?_ ?_ | refine gS ?_ ?_ | refine dS ?_ ?_) <;> intro hc <;> first | (exfalso; simp only [dcA] at hc; omega) | (simp only [hc]; try simp only [dcA] at hc)) | refine aO ?_ | refine dO ?_)
        refine roundEnd_of (α := Nat × List Nat × Nat) (i + 1, ws ++ [r], 1) ?_ ?_ ?_
        · exact ⟨hin, by simp [hw], wd_snoc hW k2, k1, k3⟩
        · show la - (i + 1) < la - i
          omega
        · exact byWeak
      ·
        obtain ⟨r, hr⟩ : ∃ r, r = (x + 8589934592 - 0 - c) % 4294967296 := ⟨_, rfl⟩
        obtain ⟨k1, k2, k3⟩ := key r 0 hr (by rw [if_neg h2])
        have es : (x : Int) - (c : Int) = (r : Int) := by omega
        have f1 := wrap_u32 r
        rw [Nat.mod_eq_of_lt k2] at f1
        have e9 := u32s_snoc (w := r) hw
        clear key rb
        repeat' (first | (simp only [go_sem, seval, IntKind.bits.eq_def, ti, tin, u32s_length, hla, hlb, es, f1, e9, hw, ra]) | (simp (disch := omega) only [wA]) | (refine after_append_nil ti_ok rfl rfl rfl rfl ⟨rfl, by decide⟩ rfl ⟨trivial, by (try simp only [List.length_cons, List.length_nil, List.length_append, u32s_length, List.length_map, hw]); omega, by (try simp only [List.length_cons, List.length_nil, List.length_append, u32s_length, List.length_map, hw]); omega⟩ (fun _ => byRows) ?_) | (refine after_append_own ti_ok rfl rfl rfl rfl rfl ⟨rfl, rfl, by decide, Nat.le_of_ble_eq_true rfl⟩ (fun h => by first | (cases h; done) | decide) rfl ⟨trivial, by (try simp only [List.length_cons, List.length_nil, List.length_append, u32s_length, List.length_map, hw]); omega, by (try simp only [List.length_cons, List.length_nil, List.length_append, u32s_length, List.length_map, hw]); omega, by (try simp only [List.length_cons, List.length_nil, List.length_append, u32s_length, List.length_map, hw]); omega⟩ byRows byNoE byNoM ?_) | refine aL ti_ok ?_ | refine dL ti_ok ?_ | refine dG ?_ | ((first | refine cC ?_ ?_ | refine gS ?_ ?_ | refine dS ?_ ?_) <;> intro hc <;> first | (exfalso; simp only [dcA] at hc; omega) | (simp only [hc]; try simp only [dcA] at hc)) | refine aO ?_ | refine dO ?_)
        refine roundEnd_of (α := Nat × List Nat × Nat) (i + 1, ws ++ [r], 0) ?_ ?_ ?_
        · exact ⟨hin, by simp [hw], wd_snoc hW k2, k1, k3⟩
        · show la - (i + 1) < la - i
          omega
        · exact byWeak
  ·
    have hn1 : i = la := by omega
    subst hn1
    have hval : val ws = a - b := by
      have h1 := lt_words a
      have h2 := Nat.lt_of_le_of_lt hba h1
      have h4 := val_lt hW
      rw [hw] at h4
      rw [hla] at h1 h2
      rw [Nat.mod_eq_of_lt h2, Nat.mod_eq_of_lt h1] at hv
      rcases (by omega : c = 0 ∨ c = 1) with rfl | rfl <;> omega
    have tr := ref_trim ws hW (by omega)
    rw [hval] at tr
    clear hv
    repeat' (first | (simp only [go_sem, seval, IntKind.bits.eq_def, ti, tin, u32s_length, hla, hlb, hw]) | (simp (disch := omega) only [wA]) | refine aL ti_ok ?_ | refine dL ti_ok ?_ | refine dG ?_ | ((first | refine cC ?_ ?_ | refine gS ?_ ?_ | refine dS ?_ ?_) <;> intro hc <;> first | (exfalso; simp only [dcA] at hc; omega) | (simp only [hc]; try simp only [dcA] at hc)) | refine aO ?_ | refine dO ?_)
    refine callF_frz 0 rfl (.cons (frz_ps rfl (by show 0 + i ≤ (u32s ws).length; rw [u32s_length]; omega)) .nil) ?_ tr ?_
    · simp only [List.drop_zero, u32s_take]
      rw [List.take_of_length_le (by omega)]
      exact LeL.refl _
    ·
      repeat' (first | (simp only [go_sem, seval, IntKind.bits.eq_def, ti, tin]) | (simp (disch := omega) only [wA]) | refine aL ti_ok ?_ | refine dL ti_ok ?_ | refine dG ?_ | ((first | refine cC ?_ ?_ | refine gS ?_ ?_ | refine dS ?_ ?_) <;> intro hc <;> first | (exfalso; simp only [dcA] at hc; omega) | (simp only [hc]; try simp only [dcA] at hc)) | refine aO ?_ | refine dO ?_)
      exact fin_same trivial rfl
end Go.Proofs.YtfmgfjmfogmeeaaGreatDoor
