/- The plain arithmetic of the reference (ref02), part 5: number. -/
import Derived.Test.YtfmgfjmfogmeeaaGreatDoorRef4
set_option linter.unusedSimpArgs false
set_option linter.unusedVariables false
set_option linter.deprecated false
namespace Go.Proofs.YtfmgfjmfogmeeaaGreatDoor
open Go Go.Ax
set_option maxRecDepth 100000
set_option maxHeartbeats 4000000
theorem nrm_cut {s : Bool} {m e : Nat} (h : 65536 < e) : nrm (sgn s (m / 2 ^ (e - 65536))) 65536 = nrm (sgn s m) e := by
  have h1 : ((sgn s (m / 2 ^ (e - 65536))).natAbs / 2 ^ (65536 - 65536)) = (sgn s m).natAbs / 2 ^ (e - 65536) := by rw [sgn_abs, sgn_abs]; simp
  refine Dy.eq ?_ ?_
  · rw [nrm_n, nrm_n, h1, Nat.min_self, Nat.min_eq_right (by omega), sgn_abs]
    by_cases hz : m / 2 ^ (e - 65536) = 0
    · rw [hz, strip_zero, sgn_zero, sgn_zero]
    · have hm : m ≠ 0 := fun h => hz (by rw [h]; simp)
      have : decide (sgn s (m / 2 ^ (e - 65536)) < 0) = decide (sgn s m < 0) := by rw [sgn_lt hz, sgn_lt hm]
      rw [this]
  · rw [nrm_d, nrm_d, h1, Nat.min_self, Nat.min_eq_right (by omega)]
theorem ref_num_gen (s : Bool) (ws : List Nat) (e : Nat) (hW : Wd ws) (hl : ws.length ≤ 1099511627776) (h1 : e ≤ 549755813888) (hrec : 65536 < e → ∀ m2 : Nat, (words m2).length ≤ 1099511627776 → CallOK Tryz.prog gl 150 [.v (.bool s), .sl 1 (u32s (words m2)), .v (.int .i64 65536)] (.agg [.v (.bool (sg (nrm (sgn s m2) 65536))), .sl 1 (u32s (ms (nrm (sgn s m2) 65536))), .v (.int .i64 (dn (nrm (sgn s m2) 65536)))])) : CallOK Tryz.prog gl 150 [.v (.bool (s)), .sl 1 (u32s (ws)), .v (.int .i64 e)] (.agg [.v (.bool (sg (nrm (sgn s (val ws)) e))), .sl 1 (u32s (ms (nrm (sgn s (val ws)) e))), .v (.int .i64 (dn (nrm (sgn s (val ws)) e)))]) := by
  refine call_ok (C := ⟨Tryz.prog, gl, ti, 67, false⟩) ti_ok mixed 3000 Tryz.call150 Tryz.func150 rfl Tryz.ntmps150 (by simp) byClL byCl ?_
  rw [Tryz.results150]
  have tr := ref_trim ws hW (by omega)
  have hlm : (words (val ws)).length ≤ 1099511627776 := Nat.le_trans (take_words hW).2 hl
  generalize val ws = m at *
  obtain ⟨la, hla⟩ : ∃ la : Nat, la = (words m).length := ⟨_, rfl⟩
  have el : (words m).length = la := hla.symm
  repeat' (first | (simp only [go_sem, seval, IntKind.bits.eq_def, ti, tin, u32s_length, el]) | (simp (disch := omega) only [wA]) | (with_reducible first | refine cF tr ?_ | refine dF tr ?_) | refine aL ti_ok ?_ | refine dL ti_ok ?_ | refine dG ?_ | ((first | refine cC ?_ ?_ | refine gS ?_ ?_ | refine dS ?_ ?_) <;> intro hc <;> first | (exfalso; simp only [dcA] at hc; omega) | (simp only [hc]; try simp only [dcA] at hc)) | refine aO ?_ | refine dO ?_)
  refine l_loop (α := Nat) (fun x => ⟨[(0, .v (.bool (s))), (1, .sl 1 (u32s (words m))), (2, .v (.int .i64 e)), (7, .v (.int .i64 x)), (6, .p 0 3 0 0)], [(0, ⟨3, [[.v (.bool (false)), .v (.slice none 0 0), .v (.int .i64 0)]]⟩)], 1⟩) (fun x => x ≤ e ∧ x ≤ 32 * la ∧ m % 2 ^ x = 0) (fun x => e - x) (0) _ byFresh (fun _ h => by first | (cases h; done) | exact Nat.le_of_ble_eq_true rfl) ?_ ?_ ?_
  · exact ⟨Nat.zero_le _, Nat.zero_le _, by simp [Nat.mod_one]⟩
  · exact byWeak
  rintro k ⟨hk, hk2, hmod⟩
  by_cases hin : k < e ∧ k < 32 * la
  ·
    obtain ⟨g1, g2⟩ := hin
    have d1 : (k : Int).tdiv 32 = ((k / 32 : Nat) : Int) := rfl
    have d2 : (k : Int).tmod 32 = ((k % 32 : Nat) : Int) := rfl
    have hb := word_bit m k
    have hx := (Wd.words m).get (k / 32)
    have ra := u32s_getD (ws := words m) (i := k / 32) (by omega)
    have hms := Nat.mod_pow_succ (x := m) (b := 2) (k := k)
    have hj : k / 32 < la := by omega
    have hk1 : k % 32 < 32 := by omega
    generalize (words m).getD (k / 32) 0 = x at *
    generalize k / 32 = j at *
    generalize k % 32 = i at *
    have hd := Nat.div_le_self x (2 ^ i)
    have f2 : (x : Int) / 2 ^ i = ((x / 2 ^ i : Nat) : Int) := by simp
    have f3 := and32_one (y := x / 2 ^ i) (by omega)
    generalize x / 2 ^ i = y at *
    by_cases hbit : y % 2 = 0
    ·
      rw [hbit] at f3 hb
      rw [← hb, hmod] at hms
      clear hb hrec
      repeat' (first | (simp only [go_sem, seval, IntKind.bits.eq_def, ti, tin, u32s_length, el, d1, d2, ra, f2, f3]) | (simp (disch := omega) only [wA]) | refine aL ti_ok ?_ | refine dL ti_ok ?_ | refine dG ?_ | ((first | refine cC ?_ ?_ | refine gS ?_ ?_ | refine dS ?_ ?_) <;> intro hc <;> first | (exfalso; simp only [dcA] at hc; omega) | (simp only [hc]; try simp only [dcA] at hc)) | refine aO ?_ | refine dO ?_)
      refine roundEnd_of (α := Nat) (k + 1) ⟨by omega, by omega, by simpa using hms⟩ (by omega) ?_
      exact byWeak
    ·
      have hbit1 : y % 2 = 1 := by omega
      rw [hbit1] at f3 hb
      have hmne : m ≠ 0 := fun h => by rw [h, Nat.zero_div] at hb; simp at hb
      have hodd : k = e ∨ m / 2 ^ k % 2 = 1 ∨ m = 0 := .inr (.inl hb.symm)
      clear hb hms
      by_cases hbig : e - k > 65536
      ·
        have hrec := hrec (by omega) (m / 2 ^ (e - 65536)) (words_div_len hlm)
        rw [nrm_cut (by omega)] at hrec
        have rj := ref_right m (e - 65536) hlm (by omega)
        have e2 : (e : Int) - (k : Int) = ((e - k : Nat) : Int) := by omega
        have e3 : (e : Int) - 65536 = ((e - 65536 : Nat) : Int) := by omega
        have hb2 : 65536 < ((e - k : Nat) : Int) := by omega
        generalize nrm (sgn s m) e = z at *
        generalize m / 2 ^ (e - 65536) = m2 at *
        generalize low m (e - 65536) = fl at *
        generalize e - 65536 = j at *
        generalize e - k = d at *
        clear hmod hodd hbig
        repeat' (first | (simp only [go_sem, seval, IntKind.bits.eq_def, ti, tin, u32s_length, e2, e3, el, d1, d2, ra, f2, f3]) | (simp (disch := omega) only [wA]) | (with_reducible first | refine cF rj ?_ | refine dF rj ?_ | refine cF hrec ?_ | refine dF hrec ?_) | refine aL ti_ok ?_ | refine dL ti_ok ?_ | refine dG ?_ | ((first | refine cC ?_ ?_ | refine gS ?_ ?_ | refine dS ?_ ?_) <;> intro hc <;> first | (exfalso; simp only [dcA] at hc; omega) | (simp only [hc]; try simp only [dcA] at hc)) | refine aO ?_ | refine dO ?_)
        exact fin_same trivial rfl
      ·
        have rk := ref_right m k hlm (by omega)
        have e2 : (e : Int) - (k : Int) = ((e - k : Nat) : Int) := by omega
        have hb2 : ¬ 65536 < ((e - k : Nat) : Int) := by omega
        generalize low m k = fl at *
        by_cases hm0 : m = 0
        ·
          exact absurd hm0 hmne
        ·
          have ho : e - k = 0 ∨ m / 2 ^ k % 2 = 1 := by
            rcases hodd with h | h | h
            · exact .inl (by omega)
            · exact .inr h
            · exact absurd h hm0
          have hst : strip m e = (m / 2 ^ k, e - k) := strip_uniq (Nat.sub_le _ _) (by rw [Nat.sub_sub_self hk]; exact (Nat.div_mul_cancel (Nat.dvd_of_mod_eq_zero hmod)).symm) ho
          have hr := res_one (s := s) (m := m) (den := e) (by rw [hst]; show e - k ≤ 65536; omega)
          rw [hst] at hr
          obtain ⟨r1, r2⟩ := hr
          simp only at r1 r2
          have hn0 : m / 2 ^ k ≠ 0 := fun h => by
            have := Nat.div_add_mod m (2 ^ k)
            rw [h, hmod] at this; simp at this; exact hm0 this.symm
          have hl3 : (words (m / 2 ^ k)).length ≤ 1099511627776 := words_div_len hlm
          generalize m / 2 ^ k = n1 at *
          have hpos : 0 < (words n1).length := words_length_pos.2 hn0
          have hne : (nrm (sgn s m) e).n ≠ 0 := fun h => by
            have h2 : words (nrm (sgn s m) e).n.natAbs = words n1 := r1
            rw [h, Int.natAbs_zero, words_zero] at h2
            rw [← h2] at hpos; simp at hpos
          rw [sg_nrm hne, r1, r2]
          clear hrec hst hmod hodd hbig r1 r2 hne ho
          generalize e - k = d at *
          repeat' (first | (simp only [go_sem, seval, IntKind.bits.eq_def, ti, tin, e2, u32s_length, el, d1, d2, ra, f2, f3]) | (simp (disch := omega) only [wA]) | (with_reducible first | refine cF rk ?_ | refine dF rk ?_) | (refine after_lit0 ti_ok rfl rfl ?_) | (refine after_append_nil ti_ok rfl rfl rfl rfl ⟨rfl, by decide⟩ rfl ⟨trivial, by (try simp only [List.length_cons, List.length_nil, List.length_append, u32s_length, List.length_map]); omega, by (try simp only [List.length_cons, List.length_nil, List.length_append, u32s_length, List.length_map]); omega⟩ (fun _ => byRows) ?_) | (refine after_append_own ti_ok rfl rfl rfl rfl rfl ⟨rfl, rfl, by decide, Nat.le_of_ble_eq_true rfl⟩ (fun h => by first | (cases h; done) | decide) rfl ⟨trivial, by (try simp only [List.length_cons, List.length_nil, List.length_append, u32s_length, List.length_map]); omega, by (try simp only [List.length_cons, List.length_nil, List.length_append, u32s_length, List.length_map]); omega, by (try simp only [List.length_cons, List.length_nil, List.length_append, u32s_length, List.length_map]); omega⟩ byRows byNoE byNoM ?_) | refine aL ti_ok ?_ | refine dL ti_ok ?_ | refine dG ?_ | ((first | refine cC ?_ ?_ | refine gS ?_ ?_ | refine dS ?_ ?_) <;> intro hc <;> first | (exfalso; simp only [dcA] at hc; omega) | (simp only [hc]; try simp only [dcA] at hc)) | refine aO ?_ | refine dO ?_)
          all_goals (refine fin_pub trivial (.one (.agg (.cons .same (.cons (.ps rfl rfl (by simp [u32s_length])) (.cons .same .nil))))) ?_; simp [u32s_length, List.take_of_length_le]; exact .refl _)
  ·
    have hodd : k = e ∨ m / 2 ^ k % 2 = 1 ∨ m = 0 := by
      by_cases h : k = e
      · exact .inl h
      · refine .inr (.inr ?_)
        have h2 : k = 32 * la := by omega
        have h3 := lt_words m
        rw [el, two_pow_32, ← h2] at h3
        rwa [Nat.mod_eq_of_lt h3] at hmod
    by_cases hbig : e - k > 65536
    ·
      have hrec := hrec (by omega) (m / 2 ^ (e - 65536)) (words_div_len hlm)
      rw [nrm_cut (by omega)] at hrec
      have rj := ref_right m (e - 65536) hlm (by omega)
      have e2 : (e : Int) - (k : Int) = ((e - k : Nat) : Int) := by omega
      have e3 : (e : Int) - 65536 = ((e - 65536 : Nat) : Int) := by omega
      have hb2 : 65536 < ((e - k : Nat) : Int) := by omega
      generalize nrm (sgn s m) e = z at *
      generalize m / 2 ^ (e - 65536) = m2 at *
      generalize low m (e - 65536) = fl at *
      generalize e - 65536 = j at *
      generalize e - k = d at *
      clear hmod hodd hbig
      repeat' (first | (simp only [go_sem, seval, IntKind.bits.eq_def, ti, tin, u32s_length, e2, e3, el]) | (simp (disch := omega) only [wA]) | (with_reducible first | refine cF rj ?_ | refine dF rj ?_ | refine cF hrec ?_ | refine dF hrec ?_) | refine aL ti_ok ?_ | refine dL ti_ok ?_ | refine dG ?_ | ((first | refine cC ?_ ?_ | refine gS ?_ ?_ | refine dS ?_ ?_) <;> intro hc <;> first | (exfalso; simp only [dcA] at hc; omega) | (simp only [hc]; try simp only [dcA] at hc)) | refine aO ?_ | refine dO ?_)
      exact fin_same trivial rfl
    ·
      have rk := ref_right m k hlm (by omega)
      have e2 : (e : Int) - (k : Int) = ((e - k : Nat) : Int) := by omega
      have hb2 : ¬ 65536 < ((e - k : Nat) : Int) := by omega
      generalize low m k = fl at *
      by_cases hm0 : m = 0
      ·
        have hz0 : nrm (sgn s m) e = Dy.zero := by rw [hm0, sgn_zero, nrm_zero]
        have hz1 : m / 2 ^ k = 0 := by rw [hm0]; simp
        rw [hz0]
        rw [hz1, words_zero] at rk
        clear hrec hmod hodd hbig
        generalize e - k = d at *
        repeat' (first | (simp only [go_sem, seval, IntKind.bits.eq_def, ti, tin, u32s_length, e2, u32s_nil, el]) | (simp (disch := omega) only [wA]) | (with_reducible first | refine cF rk ?_ | refine dF rk ?_) | refine aL ti_ok ?_ | refine dL ti_ok ?_ | refine dG ?_ | ((first | refine cC ?_ ?_ | refine gS ?_ ?_ | refine dS ?_ ?_) <;> intro hc <;> first | (exfalso; simp only [dcA] at hc; omega) | (simp only [hc]; try simp only [dcA] at hc)) | refine aO ?_ | refine dO ?_)
        all_goals exact fin_le trivial Le.dy0
      ·
        have ho : e - k = 0 ∨ m / 2 ^ k % 2 = 1 := by
          rcases hodd with h | h | h
          · exact .inl (by omega)
          · exact .inr h
          · exact absurd h hm0
        have hst : strip m e = (m / 2 ^ k, e - k) := strip_uniq (Nat.sub_le _ _) (by rw [Nat.sub_sub_self hk]; exact (Nat.div_mul_cancel (Nat.dvd_of_mod_eq_zero hmod)).symm) ho
        have hr := res_one (s := s) (m := m) (den := e) (by rw [hst]; show e - k ≤ 65536; omega)
        rw [hst] at hr
        obtain ⟨r1, r2⟩ := hr
        simp only at r1 r2
        have hn0 : m / 2 ^ k ≠ 0 := fun h => by
          have := Nat.div_add_mod m (2 ^ k)
          rw [h, hmod] at this; simp at this; exact hm0 this.symm
        have hl3 : (words (m / 2 ^ k)).length ≤ 1099511627776 := words_div_len hlm
        generalize m / 2 ^ k = n1 at *
        have hpos : 0 < (words n1).length := words_length_pos.2 hn0
        have hne : (nrm (sgn s m) e).n ≠ 0 := fun h => by
          have h2 : words (nrm (sgn s m) e).n.natAbs = words n1 := r1
          rw [h, Int.natAbs_zero, words_zero] at h2
          rw [← h2] at hpos; simp at hpos
        rw [sg_nrm hne, r1, r2]
        clear hrec hst hmod hodd hbig r1 r2 hne ho
        generalize e - k = d at *
        repeat' (first | (simp only [go_sem, seval, IntKind.bits.eq_def, ti, tin, e2, u32s_length, el]) | (simp (disch := omega) only [wA]) | (with_reducible first | refine cF rk ?_ | refine dF rk ?_) | (refine after_lit0 ti_ok rfl rfl ?_) | (refine after_append_nil ti_ok rfl rfl rfl rfl ⟨rfl, by decide⟩ rfl ⟨trivial, by (try simp only [List.length_cons, List.length_nil, List.length_append, u32s_length, List.length_map]); omega, by (try simp only [List.length_cons, List.length_nil, List.length_append, u32s_length, List.length_map]); omega⟩ (fun _ => byRows) ?_) | (refine after_append_own ti_ok rfl rfl rfl rfl rfl ⟨rfl, rfl, by decide, Nat.le_of_ble_eq_true rfl⟩ (fun h => by first | (cases h; done) | decide) rfl ⟨trivial, by (try simp only [List.length_cons, List.length_nil, List.length_append, u32s_length, List.length_map]); omega, by (try simp only [List.length_cons, List.length_nil, List.length_append, u32s_length, List.length_map]); omega, by (try simp only [List.length_cons, List.length_nil, List.length_append, u32s_length, List.length_map]); omega⟩ byRows byNoE byNoM ?_) | refine aL ti_ok ?_ | refine dL ti_ok ?_ | refine dG ?_ | ((first | refine cC ?_ ?_ | refine gS ?_ ?_ | refine dS ?_ ?_) <;> intro hc <;> first | (exfalso; simp only [dcA] at hc; omega) | (simp only [hc]; try simp only [dcA] at hc)) | refine aO ?_ | refine dO ?_)
        all_goals (refine fin_pub trivial (.one (.agg (.cons .same (.cons (.ps rfl rfl (by simp [u32s_length])) (.cons .same .nil))))) ?_; simp [u32s_length, List.take_of_length_le]; exact .refl _)
theorem ref_number (s : Bool) (ws : List Nat) (e : Nat) (hW : Wd ws) (hl : ws.length ≤ 1099511627776) (h1 : e ≤ 549755813888) : CallOK Tryz.prog gl 150 [.v (.bool s), .sl 1 (u32s ws), .v (.int .i64 e)] (.agg [.v (.bool (sg (nrm (sgn s (val ws)) e))), .sl 1 (u32s (ms (nrm (sgn s (val ws)) e))), .v (.int .i64 (dn (nrm (sgn s (val ws)) e)))]) :=
  ref_num_gen s ws e hW hl h1 (fun _ m2 h2 => by
    have := ref_num_gen s (words m2) 65536 (Wd.words m2) h2 (by omega) (fun h => absurd h (by omega))
    rw [val_words] at this; exact this)
end Go.Proofs.YtfmgfjmfogmeeaaGreatDoor
/- The plain arithmetic of the reference (ref02), part 6: its numbers. -/
set_option linter.unusedSimpArgs false
set_option linter.unusedVariables false
set_option linter.deprecated false
namespace Go.Proofs.YtfmgfjmfogmeeaaGreatDoor
open Go Go.Ax
set_option maxRecDepth 100000
set_option maxHeartbeats 4000000
theorem ref_Valid (s : Bool) (ws : List Nat) (d : Int) (hl : ws.length ≤ 4611686018427387904) : CallOK Tryz.prog gl 41 [.agg [.v (.bool s), .sl 1 (u32s ws), .v (.int .i64 d)]] (.v (.bool (validR s ws d))) := by
  refine call_ok (C := ⟨Tryz.prog, gl, ti, 47, false⟩) ti_ok mixed 3000 Tryz.call41 Tryz.func41 rfl Tryz.ntmps41 (by simp) byClL byCl ?_
  rw [Tryz.results41]
  by_cases h2 : ws.length = 0
  · have : ws = [] := List.length_eq_zero_iff.1 h2
    subst this
    have e : validR s [] d = (!s && decide (d = 0)) := by
      unfold validR
      by_cases h1 : d < 0 ∨ 65536 < d
      · rw [if_pos h1, decide_eq_false (by omega), Bool.and_false]
      · rw [if_neg h1, if_pos h2]
    rw [e]
    cases s
    ·
      repeat' (first | (simp only [go_sem, seval, IntKind.bits.eq_def, ti, tin, u32s_nil]) | (simp (disch := omega) only [wA]) | refine aL ti_ok ?_ | refine dL ti_ok ?_ | refine dG ?_ | ((first | refine cC ?_ ?_ | refine gS ?_ ?_ | refine dS ?_ ?_) <;> intro hc <;> first | (exfalso; simp only [dcA] at hc; omega) | (simp only [hc]; try simp only [dcA] at hc)) | refine aO ?_ | refine dO ?_)
      all_goals (refine fin_same trivial ?_; simp [one])
    ·
      repeat' (first | (simp only [go_sem, seval, IntKind.bits.eq_def, ti, tin, u32s_nil]) | (simp (disch := omega) only [wA]) | refine aL ti_ok ?_ | refine dL ti_ok ?_ | refine dG ?_ | ((first | refine cC ?_ ?_ | refine gS ?_ ?_ | refine dS ?_ ?_) <;> intro hc <;> first | (exfalso; simp only [dcA] at hc; omega) | (simp only [hc]; try simp only [dcA] at hc)) | refine aO ?_ | refine dO ?_)
      all_goals (refine fin_same trivial ?_; simp [one])
  · have r0 := u32s_getD (ws := ws) (i := 0) (by omega)
    obtain ⟨n, hn⟩ : ∃ n, ws.length = n + 1 := ⟨ws.length - 1, by omega⟩
    have r1 := u32s_getD (ws := ws) (i := n) (by omega)
    have e1 : ((n + 1 : Nat) : Int) - 1 = (n : Int) := by omega
    have e2 : ¬ ((n + 1 : Nat) : Int) = 0 := by omega
    have hx : (ws.getD 0 0 : Int).tmod 2 = ((ws.getD 0 0 % 2 : Nat) : Int) := rfl
    by_cases h1 : d < 0 ∨ 65536 < d
    · have e : validR s ws d = false := by unfold validR; rw [if_pos h1]
      rw [e]
      generalize ws.getD n 0 = a at *
      generalize ws.getD 0 0 = b at *
      by_cases ha : (a : Int) = 0
      ·
        repeat' (first | (simp only [go_sem, seval, IntKind.bits.eq_def, ti, tin, u32s_length, hn, e1, e2, r0, r1, hx]) | (simp (disch := omega) only [wA]) | refine aL ti_ok ?_ | refine dL ti_ok ?_ | refine dG ?_ | ((first | refine cC ?_ ?_ | refine gS ?_ ?_ | refine dS ?_ ?_) <;> intro hc <;> first | (exfalso; simp only [dcA] at hc; omega) | (simp only [hc]; try simp only [dcA] at hc)) | refine aO ?_ | refine dO ?_)
        all_goals first | exact fin_same trivial rfl | (refine fin_same trivial ?_; simp [one]; omega)
      · rcases h1 with h1 | h1
        · have h1' : ¬ 0 ≤ d := by omega
          repeat' (first | (simp only [go_sem, seval, IntKind.bits.eq_def, ti, tin, u32s_length, hn, e1, e2, r0, r1, hx]) | (simp (disch := omega) only [wA]) | refine aL ti_ok ?_ | refine dL ti_ok ?_ | refine dG ?_ | ((first | refine cC ?_ ?_ | refine gS ?_ ?_ | refine dS ?_ ?_) <;> intro hc <;> first | (exfalso; simp only [dcA] at hc; omega) | (simp only [hc]; try simp only [dcA] at hc)) | refine aO ?_ | refine dO ?_)
          all_goals first | exact fin_same trivial rfl | (refine fin_same trivial ?_; simp [one]; omega)
        · have h1' : 0 ≤ d := by omega
          have h1'' : ¬ d ≤ 65536 := by omega
          repeat' (first | (simp only [go_sem, seval, IntKind.bits.eq_def, ti, tin, u32s_length, hn, e1, e2, r0, r1, hx]) | (simp (disch := omega) only [wA]) | refine aL ti_ok ?_ | refine dL ti_ok ?_ | refine dG ?_ | ((first | refine cC ?_ ?_ | refine gS ?_ ?_ | refine dS ?_ ?_) <;> intro hc <;> first | (exfalso; simp only [dcA] at hc; omega) | (simp only [hc]; try simp only [dcA] at hc)) | refine aO ?_ | refine dO ?_)
          all_goals first | exact fin_same trivial rfl | (refine fin_same trivial ?_; simp [one]; omega)
    · have e : validR s ws d = (decide (ws.getD (ws.length - 1) 0 ≠ 0) && (decide (d = 0) || decide (ws.getD 0 0 % 2 = 1))) := by unfold validR; rw [if_neg h1, if_neg h2]
      rw [e]
      rw [show ws.length - 1 = n by omega]
      generalize ws.getD n 0 = a at *
      generalize ws.getD 0 0 = b at *
      have g1 : 0 ≤ d := by omega
      have g2 : d ≤ 65536 := by omega
      by_cases ha : a = 0
      · subst ha
        repeat' (first | (simp only [go_sem, seval, IntKind.bits.eq_def, ti, tin, u32s_length, hn, e1, e2, r0, r1, hx]) | (simp (disch := omega) only [wA]) | refine aL ti_ok ?_ | refine dL ti_ok ?_ | refine dG ?_ | ((first | refine cC ?_ ?_ | refine gS ?_ ?_ | refine dS ?_ ?_) <;> intro hc <;> first | (exfalso; simp only [dcA] at hc; omega) | (simp only [hc]; try simp only [dcA] at hc)) | refine aO ?_ | refine dO ?_)
        all_goals (refine fin_same trivial ?_; simp [one])
      · have ha' : ¬ (a : Int) = 0 := by omega
        by_cases hd : d = 0
        · subst hd
          repeat' (first | (simp only [go_sem, seval, IntKind.bits.eq_def, ti, tin, u32s_length, hn, e1, e2, r0, r1, hx]) | (simp (disch := omega) only [wA]) | refine aL ti_ok ?_ | refine dL ti_ok ?_ | refine dG ?_ | ((first | refine cC ?_ ?_ | refine gS ?_ ?_ | refine dS ?_ ?_) <;> intro hc <;> first | (exfalso; simp only [dcA] at hc; omega) | (simp only [hc]; try simp only [dcA] at hc)) | refine aO ?_ | refine dO ?_)
          all_goals (refine fin_same trivial ?_; simp [one, ha])
        ·
          repeat' (first | (simp only [go_sem, seval, IntKind.bits.eq_def, ti, tin, u32s_length, hn, e1, e2, r0, r1, hx]) | (simp (disch := omega) only [wA]) | refine aL ti_ok ?_ | refine dL ti_ok ?_ | refine dG ?_ | ((first | refine cC ?_ ?_ | refine gS ?_ ?_ | refine dS ?_ ?_) <;> intro hc <;> first | (exfalso; simp only [dcA] at hc; omega) | (simp only [hc]; try simp only [dcA] at hc)) | refine aO ?_ | refine dO ?_)
          all_goals (refine fin_same trivial ?_; simp [one, ha, hd]; try omega)
end Go.Proofs.YtfmgfjmfogmeeaaGreatDoor
