/- Natural numbers as words (nat.go of layer 2), part 9: a digit of a quotient, the second case. -/
import Derived.Test.YtfmgfjmfogmeeaaGreatDoorNat7
set_option linter.unusedSimpArgs false
set_option linter.unusedVariables false
set_option linter.deprecated false
namespace Go.Proofs.YtfmgfjmfogmeeaaGreatDoor
open Go Go.Ax
set_option maxRecDepth 100000
set_option maxHeartbeats 4000000
theorem digit_b (rs : List Nat) (i k y : Nat) (hW : Wd rs) (hy : (words y).length = k + 1) (hl : i + (k + 2) ≤ rs.length) (hlen : rs.length ≤ 4398046511104) (hR : val ((rs.drop i).take (k + 2)) < y * 4294967296) (ht : ¬ rs.getD (i + k + 1) 0 < (words y).getD k 0) : CallW Tryz.prog gl 109 [.ps 0 1 i (k + 2), .sl 1 (u32s (words y))] ⟨1, u32s rs⟩ (.v (.int .u32 ((val ((rs.drop i).take (k + 2)) / y : Nat)))) ⟨1, u32s (rs.take i ++ fixw (k + 2) (val ((rs.drop i).take (k + 2)) % y) ++ rs.drop (i + (k + 2)))⟩ := by
  refine call_w (C := ⟨Tryz.prog, gl, ti, 131, true⟩) ti_ok mixed rfl 3000 Tryz.call109 Tryz.func109 rfl Tryz.ntmps109 (by simp) byCl byClM ?_
  rw [Tryz.results109]
  obtain ⟨R, hRd⟩ : ∃ R, R = val ((rs.drop i).take (k + 2)) := ⟨_, rfl⟩
  rw [← hRd] at hR ⊢
  have hy0 : 0 < y := by omega
  have hyl := lt_words y
  rw [hy] at hyl
  have hyt : 0 < (words y).getD k 0 := by
    rcases words_trimmed y with h | h
    · rw [h] at hy; simp at hy
    · rw [hy, Nat.add_sub_cancel] at h; omega
  have hytw := (Wd.words y).get k
  have hYs : y = (words y).getD k 0 * 4294967296 ^ k + val ((words y).take k) := by
    have h1 := val_take_succ (ws := words y) (k := k) (by omega)
    rw [List.take_of_length_le (by omega), val_words] at h1
    rw [Nat.mul_comm]; omega
  have hylo := val_lt ((Wd.words y).take k)
  rw [List.length_take, Nat.min_eq_left (by omega)] at hylo
  have hRs : R = (rs.getD (i + k + 1) 0 * 4294967296 + rs.getD (i + k) 0) * 4294967296 ^ k + val ((rs.drop i).take k) := by
    have e1 : ∀ j, (rs.drop i).getD j 0 = rs.getD (i + j) 0 := fun j => by simp [List.getD]
    have h1 := val_take_succ (ws := rs.drop i) (k := k + 1) (by simp; omega)
    have h2 := val_take_succ (ws := rs.drop i) (k := k) (by simp; omega)
    rw [e1] at h1 h2
    rw [hRd, h1, h2, Nat.pow_succ, ← Nat.add_assoc]
    generalize rs.getD (i + k + 1) 0 = t
    generalize rs.getD (i + k) 0 = u
    generalize 4294967296 ^ k = P
    grind
  have hrlo := val_lt ((hW.drop i).take k)
  rw [List.length_take, List.length_drop, Nat.min_eq_left (by omega)] at hrlo
  have hqe := digit_est (Nat.pow_pos (n := k) (by omega : 0 < 4294967296)) hRs hrlo hYs hyt
  have hqB : R / y < 4294967296 := by rw [Nat.div_lt_iff_lt_mul hy0, Nat.mul_comm]; exact hR
  have rt := u32s_getD (ws := rs) (i := i + k + 1) (by omega)
  have rc := u32s_getD (ws := rs) (i := i + k) (by omega)
  have ry := u32s_getD (ws := words y) (i := k) (by omega)
  have htw := hW.get (i + k + 1)
  have hsw := hW.get (i + k)
  have e1 : ((k + 1 : Nat) : Int) - 1 = (k : Int) := by omega
  have e2 : i + (k + 1) = i + k + 1 := rfl
  have dv := fun h => bits_Div32 (rs.getD (i + k + 1) 0) (rs.getD (i + k) 0) ((words y).getD k 0) h hsw hytw
  clear hRs hYs hylo hrlo
  generalize rs.getD (i + k + 1) 0 = top at *
  generalize rs.getD (i + k) 0 = sec at *
  generalize (words y).getD k 0 = yt at *
  have hqle : ∀ d, y * d ≤ R → d ≤ R / y := fun d h => by rw [Nat.le_div_iff_mul_le hy0, Nat.mul_comm]; exact h
  have hqlt : ∀ d, R < y * d → R / y < d := fun d h => by rw [Nat.div_lt_iff_lt_mul hy0, Nat.mul_comm]; exact h
  have hqm := Nat.div_add_mod R y
  clear dv
  clear hqe
  generalize R / y = q at *
  generalize R % y = rem at *
  obtain ⟨d0, hd0, hq0, e0⟩ : ∃ d0 : Nat, d0 < 4294967296 ∧ q ≤ d0 ∧ (4294967295 : Int) = (d0 : Int) := ⟨4294967295, by omega, by omega, rfl⟩
  repeat' (first | (simp only [go_sem, seval, IntKind.bits.eq_def, ti, tin, u32s_length, hy, e1, e2, rt, rc, ry, e0]) | (simp (disch := omega) only [wA]) | refine aL ti_ok ?_ | refine dL ti_ok ?_ | refine dG ?_ | ((first | refine cC ?_ ?_ | refine gS ?_ ?_ | refine dS ?_ ?_) <;> intro hc <;> first | (exfalso; simp only [dcA] at hc; omega) | (simp only [hc]; try simp only [dcA] at hc)) | refine aO ?_ | refine dO ?_)
  refine l_loop (α := Nat × List Nat × Nat × Nat) (fun x => ⟨[(0, .ps 0 1 i (k + 2)), (1, .sl 1 (u32s (words y))), (4, .v (.int .u32 (0))), (5, .v (.int .i64 ((k + 1 : Nat)))), (6, .v (.int .u32 (d0))), (7, .v (.int .u64 (x.2.2.1))), (8, .v (.int .u32 (x.2.2.2))), (45, .sl 1 (u32s (words y))), (46, .v (.int .i64 ((k + 1 : Nat)))), (47, .v (.int .i64 x.1))], [(0, ⟨1, u32s x.2.1⟩)], 1⟩) (fun x => x.1 ≤ k + 1 ∧ Same i (k + 2) rs x.2.1 ∧ x.2.2.1 < 4294967296 ∧ x.2.2.2 ≤ 1 ∧ val x.2.1 + 4294967296 ^ i * (y % 4294967296 ^ x.1 * d0) = val rs + 4294967296 ^ (i + x.1) * (x.2.2.1 + x.2.2.2)) (fun x => k + 1 - x.1) ((0, rs, 0, 0)) _ byFresh (fun _ h => by first | (cases h; done) | exact Nat.le_of_ble_eq_true rfl) ?_ ?_ ?_
  · exact ⟨Nat.zero_le _, ⟨rfl, hW, rfl, rfl⟩, by simp, by simp, by simp [Nat.mod_one]⟩
  · exact byWeak
  rintro ⟨j, ws, ca, bo⟩ ⟨hj, hS, hca, hbo, hv⟩
  simp only at hj hS hca hbo hv
  have hwl := hS.1
  by_cases hjk : j < k + 1
  ·
    have hx := (Wd.words y).get j
    have ryj := u32s_getD (ws := words y) (i := j) (by omega)
    have ro := u32s_getD (ws := ws) (i := i + j) (by omega)
    have ho := hS.2.1.get (i + j)
    have hms := mod_succ y j
    have hset := fun r' => val_set (ws := ws) (k := i + j) (by omega) r'
    generalize (words y).getD j 0 = w at *
    generalize ws.getD (i + j) 0 = o at *
    have hp := mul_word hx hd0
    have f1 : (w : Int) * (d0 : Int) = ((w * d0 : Nat) : Int) := by simp
    have f2 : ((w * d0 : Nat) : Int) + (ca : Int) = ((w * d0 + ca : Nat) : Int) := by omega
    have htd := Nat.div_add_mod (w * d0 + ca) 4294967296
    have htl : w * d0 + ca < 18446744073709551616 := by omega
    have hq : (w * d0 + ca) / 4294967296 < 4294967296 := by omega
    have hr : (w * d0 + ca) % 4294967296 < 4294967296 := Nat.mod_lt _ (by omega)
    have f3 : ((w * d0 + ca : Nat) : Int) / 4294967296 = (((w * d0 + ca) / 4294967296 : Nat) : Int) := rfl
    have f4 := wrap_u32 (w * d0 + ca)
    have hdv : w * d0 + ca = (w * d0 + ca) % 4294967296 + 4294967296 * ((w * d0 + ca) / 4294967296) := by omega
    generalize (w * d0 + ca) % 4294967296 = tl at *
    generalize (w * d0 + ca) / 4294967296 = ca2 at *
    have sb := bits_Sub32 o tl bo ho hr hbo
    obtain ⟨s1, s2, s3⟩ := sub_word (x := o) (y := tl) (c := bo) hbo ho hr rfl rfl
    generalize (o + 8589934592 - tl - bo) % 4294967296 = r2 at *
    generalize (if o < tl + bo then 1 else 0) = bo2 at *
    have hst := dig_sub (Nat.pow_add 4294967296 i j) (hset r2) s1 hdv hv
    rw [← hms] at hst
    generalize w * d0 = wd at *
    repeat' (first | (simp only [go_sem, seval, IntKind.bits.eq_def, ti, tin, u32s_length, hy, ryj, ro, f1, f2, f3, f4, u32s_set]) | (simp (disch := omega) only [wA]) | (with_reducible first | refine cF sb ?_ | refine dF sb ?_) | refine aL ti_ok ?_ | refine dL ti_ok ?_ | refine dG ?_ | ((first | refine cC ?_ ?_ | refine gS ?_ ?_ | refine dS ?_ ?_) <;> intro hc <;> first | (exfalso; simp only [dcA] at hc; omega) | (simp only [hc]; try simp only [dcA] at hc)) | refine aO ?_ | refine dO ?_)
    refine roundEnd_of (α := Nat × List Nat × Nat × Nat) (j + 1, ws.set (i + j) r2, ca2, bo2) ?_ ?_ ?_
    · refine ⟨by omega, hS.set (by omega) (by omega) s2, hq, s3, ?_⟩
      show val (ws.set (i + j) r2) + _ = val rs + 4294967296 ^ (i + j + 1) * (ca2 + bo2)
      rw [Nat.pow_succ]; exact hst
    · show k + 1 - (j + 1) < k + 1 - j
      omega
    · exact byWeak
  ·
    have hj1 : j = k + 1 := by omega
    subst hj1
    rw [Nat.mod_eq_of_lt hyl] at hv
    have ro := u32s_getD (ws := ws) (i := i + (k + 1)) (by omega)
    have ho := hS.2.1.get (i + (k + 1))
    have hset := fun r' => val_set (ws := ws) (k := i + (k + 1)) (by omega) r'
    have f4 := wrap_u32 ca
    rw [Nat.mod_eq_of_lt hca] at f4
    generalize ws.getD (i + (k + 1)) 0 = o at *
    have sb := bits_Sub32 o ca bo ho hca hbo
    obtain ⟨s1, s2, s3⟩ := sub_word (x := o) (y := ca) (c := bo) hbo ho hca rfl rfl
    generalize (o + 8589934592 - ca - bo) % 4294967296 = r2 at *
    generalize (if o < ca + bo then 1 else 0) = bo2 at *
    have hst := dig_top (hset r2) s1 hv
    rw [← Nat.pow_succ] at hst
    have hS2 := hS.set (p := i + (k + 1)) (x := r2) (by omega) (by omega) s2
    clear hset hv
    repeat' (first | (simp only [go_sem, seval, IntKind.bits.eq_def, ti, tin, u32s_length, hy, ro, f4, u32s_set]) | (simp (disch := omega) only [wA]) | (with_reducible first | refine cF sb ?_ | refine dF sb ?_) | refine aL ti_ok ?_ | refine dL ti_ok ?_ | refine dG ?_ | ((first | refine cC ?_ ?_ | refine gS ?_ ?_ | refine dS ?_ ?_) <;> intro hc <;> first | (exfalso; simp only [dcA] at hc; omega) | (simp only [hc]; try simp only [dcA] at hc)) | refine aO ?_ | refine dO ?_)
    generalize hws2 : ws.set (i + (k + 1)) r2 = ws2 at *
    refine l_loop (α := Nat × List Nat × Nat) (fun x => ⟨[(0, .ps 0 1 i (k + 2)), (1, .sl 1 (u32s (words y))), (4, .v (.int .u32 (0))), (5, .v (.int .i64 ((k + 1 : Nat)))), (6, .v (.int .u32 (x.1))), (8, .v (.int .u32 (x.2.2)))], [(0, ⟨1, u32s x.2.1⟩)], 1⟩) (fun x => x.1 < 4294967296 ∧ q ≤ x.1 ∧ Same i (k + 2) rs x.2.1 ∧ x.2.2 ≤ 1 ∧ val x.2.1 + 4294967296 ^ i * (y * x.1) = val rs + 4294967296 ^ (i + (k + 2)) * x.2.2) (fun x => x.1) ((d0, ws2, bo2)) _ byFresh (fun _ h => by first | (cases h; done) | exact Nat.le_of_ble_eq_true rfl) ?_ ?_ ?_
    · exact ⟨hd0, hq0, hS2, s3, hst⟩
    · exact byWeak
    clear hst hS2 hS s1 s2 s3 ro ho hws2 sb
    rintro ⟨d, ws, bo⟩ ⟨hd, hqd, hS, hbo, hv⟩
    simp only at hd hqd hS hbo hv
    have hwl := hS.1
    have hwin := hS.eq hl hv
    rw [← hRd] at hwin
    by_cases hb0 : bo = 0
    ·
      subst hb0
      have hwin := hwin.trans (show _ = R by rw [Nat.mul_zero]; rfl)
      have hdq2 : d = q := Nat.le_antisymm (hqle d (Nat.le_trans (Nat.le_add_left _ _) (Nat.le_of_eq hwin))) hqd
      have hmod : val ((ws.drop i).take (k + 2)) = rem := by
        rw [hdq2] at hwin
        exact Nat.add_right_cancel (hwin.trans (hqm.symm.trans (Nat.add_comm _ _)))
      have hww := window_words ws hS.2.1 (by rw [hwl]; exact hl) hmod
      rw [hS.2.2.1, hS.2.2.2] at hww
      rw [← hww, ← hdq2]
      clear hwin hmod hww hdq2 hqm hqle hqlt hqd hv hyl hR
      repeat' (first | (simp only [go_sem, seval, IntKind.bits.eq_def, ti, tin, u32s_length]) | (simp (disch := omega) only [wA]) | refine aL ti_ok ?_ | refine dL ti_ok ?_ | refine dG ?_ | ((first | refine cC ?_ ?_ | refine gS ?_ ?_ | refine dS ?_ ?_) <;> intro hc <;> first | (exfalso; simp only [dcA] at hc; omega) | (simp only [hc]; try simp only [dcA] at hc)) | refine aO ?_ | refine dO ?_)
      exact finW_same trivial rfl (MLe.refl _)
    ·
      have hb1 : bo = 1 := by omega
      subst hb1
      have hlt : val ((ws.drop i).take (k + 2)) < 4294967296 ^ (k + 2) := by
        have := val_lt ((hS.2.1.drop i).take (k + 2))
        rwa [List.length_take, List.length_drop, Nat.min_eq_left (by omega)] at this
      have hgt : R < y * d := win_gt hlt hwin
      have hqlt := hqlt d hgt
      obtain ⟨d', rfl⟩ : ∃ d', d = d' + 1 := Nat.exists_eq_succ_of_ne_zero (Nat.ne_of_gt (Nat.lt_of_le_of_lt (Nat.zero_le _) hqlt))
      have hqd' : q ≤ d' := Nat.le_of_lt_succ hqlt
      have e3 : ((d' + 1 : Nat) : Int) - 1 = (d' : Int) := by omega
      clear hlt hgt hwin hqlt hqle hqm hqd
      repeat' (first | (simp only [go_sem, seval, IntKind.bits.eq_def, ti, tin, u32s_length, hy, e3]) | (simp (disch := omega) only [wA]) | refine aL ti_ok ?_ | refine dL ti_ok ?_ | refine dG ?_ | ((first | refine cC ?_ ?_ | refine gS ?_ ?_ | refine dS ?_ ?_) <;> intro hc <;> first | (exfalso; simp only [dcA] at hc; omega) | (simp only [hc]; try simp only [dcA] at hc)) | refine aO ?_ | refine dO ?_)
      refine l_loop (α := Nat × List Nat × Nat) (fun x => ⟨[(0, .ps 0 1 i (k + 2)), (1, .sl 1 (u32s (words y))), (4, .v (.int .u32 (0))), (5, .v (.int .i64 ((k + 1 : Nat)))), (6, .v (.int .u32 (d'))), (8, .v (.int .u32 (1))), (12, .v (.int .u32 (x.2.2))), (94, .sl 1 (u32s (words y))), (95, .v (.int .i64 ((k + 1 : Nat)))), (96, .v (.int .i64 x.1))], [(0, ⟨1, u32s x.2.1⟩)], 1⟩) (fun x => x.1 ≤ k + 1 ∧ Same i (k + 2) rs x.2.1 ∧ x.2.2 ≤ 1 ∧ val x.2.1 + 4294967296 ^ (i + x.1) * x.2.2 = val ws + 4294967296 ^ i * (y % 4294967296 ^ x.1)) (fun x => k + 1 - x.1) ((0, ws, 0)) _ byFresh (fun _ h => by first | (cases h; done) | exact Nat.le_of_ble_eq_true rfl) ?_ ?_ ?_
      · exact ⟨Nat.zero_le _, hS, by simp, by simp [Nat.mod_one]⟩
      · exact byWeak
      rintro ⟨j, us, c⟩ ⟨hj, hS2, hc0, hu⟩
      simp only at hj hS2 hc0 hu
      have hul := hS2.1
      by_cases hjk : j < k + 1
      ·
        have hx := (Wd.words y).get j
        have ryj := u32s_getD (ws := words y) (i := j) (by omega)
        have ro := u32s_getD (ws := us) (i := i + j) (by omega)
        have ho := hS2.2.1.get (i + j)
        have hms := mod_succ y j
        have hset := fun r' => val_set (ws := us) (k := i + j) (by omega) r'
        generalize (words y).getD j 0 = w at *
        generalize us.getD (i + j) 0 = o at *
        have ad := bits_Add32 o w c ho hx hc0
        have hq : (o + w + c) / 4294967296 ≤ 1 := by omega
        have hr : (o + w + c) % 4294967296 < 4294967296 := Nat.mod_lt _ (by omega)
        have hdv := Nat.div_add_mod (o + w + c) 4294967296
        generalize (o + w + c) % 4294967296 = r2 at *
        generalize (o + w + c) / 4294967296 = c2 at *
        have hst := dig_add (Nat.pow_add 4294967296 i j) (hset r2) hdv hu
        rw [← hms] at hst
        repeat' (first | (simp only [go_sem, seval, IntKind.bits.eq_def, ti, tin, u32s_length, hy, ryj, ro, u32s_set]) | (simp (disch := omega) only [wA]) | (with_reducible first | refine cF ad ?_ | refine dF ad ?_) | refine aL ti_ok ?_ | refine dL ti_ok ?_ | refine dG ?_ | ((first | refine cC ?_ ?_ | refine gS ?_ ?_ | refine dS ?_ ?_) <;> intro hc <;> first | (exfalso; simp only [dcA] at hc; omega) | (simp only [hc]; try simp only [dcA] at hc)) | refine aO ?_ | refine dO ?_)
        refine roundEnd_of (α := Nat × List Nat × Nat) (j + 1, us.set (i + j) r2, c2) ?_ ?_ ?_
        · refine ⟨by omega, hS2.set (by omega) (by omega) hr, hq, ?_⟩
          show val (us.set (i + j) r2) + 4294967296 ^ (i + j + 1) * c2 = _
          rw [Nat.pow_succ]; exact hst
        · show k + 1 - (j + 1) < k + 1 - j
          omega
        · exact byWeak
      ·
        have hj1 : j = k + 1 := by omega
        subst hj1
        rw [Nat.mod_eq_of_lt hyl] at hu
        have ro := u32s_getD (ws := us) (i := i + (k + 1)) (by omega)
        have ho := hS2.2.1.get (i + (k + 1))
        have hset := fun r' => val_set (ws := us) (k := i + (k + 1)) (by omega) r'
        generalize us.getD (i + (k + 1)) 0 = o at *
        have ad := bits_Add32 o 0 c ho (by omega) hc0
        rw [Nat.add_zero] at ad
        have ad : CallOK _ _ _ [.v (.int .u32 o), .v (.int .u32 0), .v (.int .u32 c)] _ := ad
        have hq : (o + c) / 4294967296 ≤ 1 := by omega
        have hr : (o + c) % 4294967296 < 4294967296 := Nat.mod_lt _ (by omega)
        have hdv := Nat.div_add_mod (o + c) 4294967296
        generalize (o + c) % 4294967296 = r2 at *
        generalize (o + c) / 4294967296 = c2 at *
        have hv2 : val ws + 4294967296 ^ i * (y * (d' + 1)) = val rs + 4294967296 ^ (i + (k + 1)) * 4294967296 * 1 := by rw [← Nat.pow_succ]; exact hv
        have hst := dig_top2 (hset r2) hdv hu hv2 hq
        rw [← Nat.pow_succ] at hst
        have e4 : (1 : Int) - (c2 : Int) = ((1 - c2 : Nat) : Int) := by omega
        have hc2 : 1 - c2 ≤ 1 := by omega
        have hS3 := hS2.set (p := i + (k + 1)) (x := r2) (by omega) (by omega) hr
        generalize 1 - c2 = bo3 at *
        repeat' (first | (simp only [go_sem, seval, IntKind.bits.eq_def, ti, tin, u32s_length, hy, ro, e4, u32s_set]) | (simp (disch := omega) only [wA]) | (with_reducible first | refine cF ad ?_ | refine dF ad ?_) | refine aL ti_ok ?_ | refine dL ti_ok ?_ | refine dG ?_ | ((first | refine cC ?_ ?_ | refine gS ?_ ?_ | refine dS ?_ ?_) <;> intro hc <;> first | (exfalso; simp only [dcA] at hc; omega) | (simp only [hc]; try simp only [dcA] at hc)) | refine aO ?_ | refine dO ?_)
        refine roundEnd_of (α := Nat × List Nat × Nat) (d', us.set (i + (k + 1)) r2, bo3) ?_ ?_ ?_
        · exact ⟨by omega, hqd', hS3, hc2, hst⟩
        · show d' < d' + 1
          omega
        · exact byWeak
end Go.Proofs.YtfmgfjmfogmeeaaGreatDoor
