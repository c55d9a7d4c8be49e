/- Layer 2 (dyadic.go), part 2: 'result'. -/
import Derived.Test.YtfmgfjmfogmeeaaGreatDoorDy1
set_option linter.unusedSimpArgs false
set_option linter.unusedVariables false
set_option linter.deprecated false
namespace Go.Proofs.YtfmgfjmfogmeeaaGreatDoor
open Go Go.Ax
set_option maxRecDepth 100000
set_option maxHeartbeats 4000000
theorem result_ok (s : Bool) (ws : List Nat) (den : Int) (hW : Wd ws) (hl : ws.length ≤ 1099511627776) (h0 : 0 ≤ den) (h1 : den ≤ 549755813888) : CallOK Tryz.prog gl 39 [.v (.bool (s)), .sl 1 (u32s (ws)), .v (.int .i64 den)] (.agg [.v (.bool (sg (nrm (sgn s (val ws)) den.toNat))), .sl 1 (u32s (ms (nrm (sgn s (val ws)) den.toNat))), .v (.int .i64 (dn (nrm (sgn s (val ws)) den.toNat)))]) := by
  refine call_ok (C := ⟨Tryz.prog, gl, ti, 48, false⟩) ti_ok mixed 3000 Tryz.call39 Tryz.func39 rfl Tryz.ntmps39 (by simp) byClL byCl ?_
  rw [Tryz.results39]
  obtain ⟨e, rfl⟩ : ∃ e : Nat, den = e := ⟨den.toNat, by omega⟩
  rw [Int.toNat_natCast]
  have tr := nat_trim ws hW (by omega)
  have hlm : (words (val ws)).length ≤ 1099511627776 := Nat.le_trans (take_words hW).2 hl
  generalize val ws = m at *
  by_cases hm : m = 0
  · subst hm
    have ze := nat_zeros0
    have ri := nat_right 0 e (by rw [words_zero]; simp) (by omega)
    have e1 : min (1099511627776 : Int) (e : Int) = e := by omega
    have e2 : (e : Int) - e = 0 := by omega
    simp only [words_zero, u32s_nil, Nat.zero_div] at tr ze ri
    rw [sgn_zero, nrm_zero]
    repeat' (first | (simp only [go_sem, seval, IntKind.bits.eq_def, ti, tin, e1, e2]) | (simp (disch := omega) only [wA]) | (with_reducible first | refine cF tr ?_ | refine dF tr ?_ | refine cF ze ?_ | refine dF ze ?_ | refine cF ri ?_ | refine dF ri ?_) | refine aL ti_ok ?_ | refine dL ti_ok ?_ | refine dG ?_ | ((first | refine cC ?_ ?_ | refine gS ?_ ?_ | refine dS ?_ ?_) <;> intro hc <;> first | (exfalso; simp only [dcA] at hc; omega) | (simp only [hc]; try simp only [dcA] at hc)) | refine aO ?_ | refine dO ?_)
    all_goals exact fin_le trivial Le.dy0
  obtain ⟨k, q, hk⟩ := odd_part m hm
  have ze := nat_zeros m k q hk hlm
  have hst := strip_zeros (den := e) hk
  have e1 : min (k : Int) (e : Int) = ((min k e : Nat) : Int) := by omega
  have hze : min k e ≤ e := Nat.min_le_right _ _
  have hzk : min k e ≤ k := Nat.min_le_left _ _
  generalize min k e = z at *
  obtain ⟨n1, hn1⟩ : ∃ n1, n1 = m / 2 ^ z := ⟨_, rfl⟩
  obtain ⟨d1, hd1⟩ : ∃ d1, d1 = e - z := ⟨_, rfl⟩
  have ri := nat_right m z hlm (by omega)
  rw [← hn1, ← hd1] at hst
  rw [← hn1] at ri
  have e2 : (e : Int) - (z : Int) = (d1 : Int) := by omega
  have hn0 : n1 ≠ 0 := by
    rw [hn1]
    have hz : 2 ^ z ≤ m := by
      rw [hk]
      have h2 : 2 ^ z ≤ 2 ^ k := Nat.pow_le_pow_right (by omega) hzk
      exact Nat.le_trans h2 (Nat.le_mul_of_pos_right _ (by omega))
    have := Nat.div_pos hz (Nat.pow_pos (by omega)); omega
  have hl1 : (words n1).length ≤ 1099511627776 := by rw [hn1]; exact words_div_len hlm
  have hpos : 0 < (words n1).length := words_length_pos.2 hn0
  by_cases hd : d1 ≤ 65536
  · have hr := res_one (s := s) (m := m) (den := e) (by rw [hst]; exact hd)
    rw [hst] at hr
    obtain ⟨r1, r2⟩ := hr
    simp only at r1 r2
    have hne : (nrm (sgn s m) e).n ≠ 0 := fun h => by
      have h2 : words (nrm (sgn s m) e).n.natAbs = words n1 := r1
      rw [h, Int.natAbs_zero, words_zero] at h2
      rw [← h2] at hpos; simp at hpos
    rw [sg_nrm hne, r1, r2]
    clear ri hst r1 r2 hne hk
    rcases Nat.eq_zero_or_pos z with hz | hz
    · subst hz
      rw [Nat.pow_zero, Nat.div_one] at hn1
      subst hn1
      rw [Nat.sub_zero] at hd1
      subst hd1
      repeat' (first | (simp only [go_sem, seval, IntKind.bits.eq_def, ti, tin, e1, u32s_length]) | (simp (disch := omega) only [wA]) | (with_reducible first | refine cF tr ?_ | refine dF tr ?_ | refine cF ze ?_ | refine dF ze ?_) | (refine after_append_nil ti_ok rfl rfl rfl rfl ⟨rfl, by decide⟩ rfl ⟨trivial, by (try simp only [List.length_cons, List.length_nil, List.length_append, u32s_length, List.length_map]); omega, by (try simp only [List.length_cons, List.length_nil, List.length_append, u32s_length, List.length_map]); omega⟩ (fun _ => byRows) ?_) | (refine after_append_own ti_ok rfl rfl rfl rfl rfl ⟨rfl, rfl, by decide, Nat.le_of_ble_eq_true rfl⟩ (fun h => by first | (cases h; done) | decide) rfl ⟨trivial, by (try simp only [List.length_cons, List.length_nil, List.length_append, u32s_length, List.length_map]); omega, by (try simp only [List.length_cons, List.length_nil, List.length_append, u32s_length, List.length_map]); omega, by (try simp only [List.length_cons, List.length_nil, List.length_append, u32s_length, List.length_map]); omega⟩ byRows byNoE byNoM ?_) | refine aL ti_ok ?_ | refine dL ti_ok ?_ | refine dG ?_ | ((first | refine cC ?_ ?_ | refine gS ?_ ?_ | refine dS ?_ ?_) <;> intro hc <;> first | (exfalso; simp only [dcA] at hc; omega) | (simp only [hc]; try simp only [dcA] at hc)) | refine aO ?_ | refine dO ?_)
      all_goals (refine fin_pub trivial (.one (.agg (.cons .same (.cons (.ps rfl rfl (by simp [u32s_length])) (.cons .same .nil))))) ?_; simp [u32s_length, List.take_of_length_le]; exact .refl _)
    · have ri := nat_right m z hlm (by omega)
      rw [← hn1] at ri
      repeat' (first | (simp only [go_sem, seval, IntKind.bits.eq_def, ti, tin, e1, e2, u32s_length]) | (simp (disch := omega) only [wA]) | (with_reducible first | refine cF tr ?_ | refine dF tr ?_ | refine cF ze ?_ | refine dF ze ?_ | refine cF ri ?_ | refine dF ri ?_) | (refine after_append_nil ti_ok rfl rfl rfl rfl ⟨rfl, by decide⟩ rfl ⟨trivial, by (try simp only [List.length_cons, List.length_nil, List.length_append, u32s_length, List.length_map]); omega, by (try simp only [List.length_cons, List.length_nil, List.length_append, u32s_length, List.length_map]); omega⟩ (fun _ => byRows) ?_) | (refine after_append_own ti_ok rfl rfl rfl rfl rfl ⟨rfl, rfl, by decide, Nat.le_of_ble_eq_true rfl⟩ (fun h => by first | (cases h; done) | decide) rfl ⟨trivial, by (try simp only [List.length_cons, List.length_nil, List.length_append, u32s_length, List.length_map]); omega, by (try simp only [List.length_cons, List.length_nil, List.length_append, u32s_length, List.length_map]); omega, by (try simp only [List.length_cons, List.length_nil, List.length_append, u32s_length, List.length_map]); omega⟩ byRows byNoE byNoM ?_) | refine aL ti_ok ?_ | refine dL ti_ok ?_ | refine dG ?_ | ((first | refine cC ?_ ?_ | refine gS ?_ ?_ | refine dS ?_ ?_) <;> intro hc <;> first | (exfalso; simp only [dcA] at hc; omega) | (simp only [hc]; try simp only [dcA] at hc)) | refine aO ?_ | refine dO ?_)
      all_goals (refine fin_pub trivial (.one (.agg (.cons .same (.cons (.ps rfl rfl (by simp [u32s_length])) (.cons .same .nil))))) ?_; simp [u32s_length, List.take_of_length_le]; exact .refl _)
  · have hr := res_two (s := s) (m := m) (den := e) (by rw [hst]; exact hd)
    rw [hst] at hr
    simp only at hr
    have rj := nat_right n1 (d1 - 65536) hl1 (by omega)
    have e3 : (d1 : Int) - 65536 = ((d1 - 65536 : Nat) : Int) := by omega
    have hl2 : (words (n1 / 2 ^ (d1 - 65536))).length ≤ 1099511627776 := words_div_len hl1
    generalize n1 / 2 ^ (d1 - 65536) = n2 at *
    generalize hx : nrm (sgn s m) e = x at *
    by_cases hm2 : n2 = 0
    · subst hm2
      rw [strip_zero, words_zero] at hr
      have hx0 := ms_nil.1 hr.1
      subst hx0
      have zf := nat_zeros0
      have rk := nat_right 0 65536 (by rw [words_zero]; simp) (by omega)
      have e4 : min (1099511627776 : Int) 65536 = 65536 := by omega
      simp only [words_zero, u32s_nil, Nat.zero_div] at zf rk rj
      have rk : CallOK _ _ _ _ _ := rk
      clear hst hk hr hx ri
      rcases Nat.eq_zero_or_pos z with hz | hz
      · subst hz
        rw [Nat.pow_zero, Nat.div_one] at hn1
        subst hn1
        rw [Nat.sub_zero] at hd1
        subst hd1
        repeat' (first | (simp only [go_sem, seval, IntKind.bits.eq_def, ti, tin, e1, e3, e4, u32s_length]) | (simp (disch := omega) only [wA]) | (with_reducible first | refine cF tr ?_ | refine dF tr ?_ | refine cF ze ?_ | refine dF ze ?_ | refine cF rj ?_ | refine dF rj ?_ | refine cF zf ?_ | refine dF zf ?_ | refine cF rk ?_ | refine dF rk ?_) | refine aL ti_ok ?_ | refine dL ti_ok ?_ | refine dG ?_ | ((first | refine cC ?_ ?_ | refine gS ?_ ?_ | refine dS ?_ ?_) <;> intro hc <;> first | (exfalso; simp only [dcA] at hc; omega) | (simp only [hc]; try simp only [dcA] at hc)) | refine aO ?_ | refine dO ?_)
        all_goals exact fin_le trivial Le.dy0
      · have ri := nat_right m z hlm (by omega)
        rw [← hn1] at ri
        repeat' (first | (simp only [go_sem, seval, IntKind.bits.eq_def, ti, tin, e1, e2, e3, e4, u32s_length]) | (simp (disch := omega) only [wA]) | (with_reducible first | refine cF tr ?_ | refine dF tr ?_ | refine cF ze ?_ | refine dF ze ?_ | refine cF ri ?_ | refine dF ri ?_ | refine cF rj ?_ | refine dF rj ?_ | refine cF zf ?_ | refine dF zf ?_ | refine cF rk ?_ | refine dF rk ?_) | refine aL ti_ok ?_ | refine dL ti_ok ?_ | refine dG ?_ | ((first | refine cC ?_ ?_ | refine gS ?_ ?_ | refine dS ?_ ?_) <;> intro hc <;> first | (exfalso; simp only [dcA] at hc; omega) | (simp only [hc]; try simp only [dcA] at hc)) | refine aO ?_ | refine dO ?_)
        all_goals exact fin_le trivial Le.dy0
    · obtain ⟨k2, q2, hk2⟩ := odd_part n2 hm2
      have zf := nat_zeros n2 k2 q2 hk2 hl2
      rw [strip_zeros hk2] at hr
      have e4 : min (k2 : Int) 65536 = ((min k2 65536 : Nat) : Int) := by omega
      have hz2 : min k2 65536 ≤ 65536 := Nat.min_le_right _ _
      have hzk2 : min k2 65536 ≤ k2 := Nat.min_le_left _ _
      generalize min k2 65536 = z2 at *
      have rk := nat_right n2 z2 hl2 (by omega)
      have e5 : (65536 : Int) - (z2 : Int) = ((65536 - z2 : Nat) : Int) := by omega
      have hn3 : n2 / 2 ^ z2 ≠ 0 := by
        have hz : 2 ^ z2 ≤ n2 := by
          rw [hk2]
          have h2 : 2 ^ z2 ≤ 2 ^ k2 := Nat.pow_le_pow_right (by omega) hzk2
          exact Nat.le_trans h2 (Nat.le_mul_of_pos_right _ (by omega))
        have := Nat.div_pos hz (Nat.pow_pos (by omega)); omega
      have hl3 : (words (n2 / 2 ^ z2)).length ≤ 1099511627776 := words_div_len hl2
      have hpos3 : 0 < (words (n2 / 2 ^ z2)).length := words_length_pos.2 hn3
      obtain ⟨r1, r2⟩ := hr
      simp only at r1 r2
      have hne : x.n ≠ 0 := fun h => by
        have h2 : words x.n.natAbs = words (n2 / 2 ^ z2) := r1
        rw [h, Int.natAbs_zero, words_zero] at h2
        rw [← h2] at hpos3; simp at hpos3
      have hsg : sg x = s := by rw [← hx] at hne ⊢; exact sg_nrm hne
      rw [hsg, r1, r2]
      clear ri hst r1 r2 hne hk hsg hx hk2
      generalize n2 / 2 ^ z2 = n3 at *
      rcases Nat.eq_zero_or_pos z with hz | hz
      · subst hz
        rw [Nat.pow_zero, Nat.div_one] at hn1
        subst hn1
        rw [Nat.sub_zero] at hd1
        subst hd1
        repeat' (first | (simp only [go_sem, seval, IntKind.bits.eq_def, ti, tin, e1, e3, e4, e5, u32s_length]) | (simp (disch := omega) only [wA]) | (with_reducible first | refine cF tr ?_ | refine dF tr ?_ | refine cF ze ?_ | refine dF ze ?_ | refine cF rj ?_ | refine dF rj ?_ | refine cF zf ?_ | refine dF zf ?_ | refine cF rk ?_ | refine dF rk ?_) | (refine after_append_nil ti_ok rfl rfl rfl rfl ⟨rfl, by decide⟩ rfl ⟨trivial, by (try simp only [List.length_cons, List.length_nil, List.length_append, u32s_length, List.length_map]); omega, by (try simp only [List.length_cons, List.length_nil, List.length_append, u32s_length, List.length_map]); omega⟩ (fun _ => byRows) ?_) | (refine after_append_own ti_ok rfl rfl rfl rfl rfl ⟨rfl, rfl, by decide, Nat.le_of_ble_eq_true rfl⟩ (fun h => by first | (cases h; done) | decide) rfl ⟨trivial, by (try simp only [List.length_cons, List.length_nil, List.length_append, u32s_length, List.length_map]); omega, by (try simp only [List.length_cons, List.length_nil, List.length_append, u32s_length, List.length_map]); omega, by (try simp only [List.length_cons, List.length_nil, List.length_append, u32s_length, List.length_map]); omega⟩ byRows byNoE byNoM ?_) | refine aL ti_ok ?_ | refine dL ti_ok ?_ | refine dG ?_ | ((first | refine cC ?_ ?_ | refine gS ?_ ?_ | refine dS ?_ ?_) <;> intro hc <;> first | (exfalso; simp only [dcA] at hc; omega) | (simp only [hc]; try simp only [dcA] at hc)) | refine aO ?_ | refine dO ?_)
        all_goals (refine fin_pub trivial (.one (.agg (.cons .same (.cons (.ps rfl rfl (by simp [u32s_length])) (.cons .same .nil))))) ?_; simp [u32s_length, List.take_of_length_le]; exact .refl _)
      · have ri := nat_right m z hlm (by omega)
        rw [← hn1] at ri
        repeat' (first | (simp only [go_sem, seval, IntKind.bits.eq_def, ti, tin, e1, e2, e3, e4, e5, u32s_length]) | (simp (disch := omega) only [wA]) | (with_reducible first | refine cF tr ?_ | refine dF tr ?_ | refine cF ze ?_ | refine dF ze ?_ | refine cF ri ?_ | refine dF ri ?_ | refine cF rj ?_ | refine dF rj ?_ | refine cF zf ?_ | refine dF zf ?_ | refine cF rk ?_ | refine dF rk ?_) | (refine after_append_nil ti_ok rfl rfl rfl rfl ⟨rfl, by decide⟩ rfl ⟨trivial, by (try simp only [List.length_cons, List.length_nil, List.length_append, u32s_length, List.length_map]); omega, by (try simp only [List.length_cons, List.length_nil, List.length_append, u32s_length, List.length_map]); omega⟩ (fun _ => byRows) ?_) | (refine after_append_own ti_ok rfl rfl rfl rfl rfl ⟨rfl, rfl, by decide, Nat.le_of_ble_eq_true rfl⟩ (fun h => by first | (cases h; done) | decide) rfl ⟨trivial, by (try simp only [List.length_cons, List.length_nil, List.length_append, u32s_length, List.length_map]); omega, by (try simp only [List.length_cons, List.length_nil, List.length_append, u32s_length, List.length_map]); omega, by (try simp only [List.length_cons, List.length_nil, List.length_append, u32s_length, List.length_map]); omega⟩ byRows byNoE byNoM ?_) | refine aL ti_ok ?_ | refine dL ti_ok ?_ | refine dG ?_ | ((first | refine cC ?_ ?_ | refine gS ?_ ?_ | refine dS ?_ ?_) <;> intro hc <;> first | (exfalso; simp only [dcA] at hc; omega) | (simp only [hc]; try simp only [dcA] at hc)) | refine aO ?_ | refine dO ?_)
        all_goals (refine fin_pub trivial (.one (.agg (.cons .same (.cons (.ps rfl rfl (by simp [u32s_length])) (.cons .same .nil))))) ?_; simp [u32s_length, List.take_of_length_le]; exact .refl _)
end Go.Proofs.YtfmgfjmfogmeeaaGreatDoor
