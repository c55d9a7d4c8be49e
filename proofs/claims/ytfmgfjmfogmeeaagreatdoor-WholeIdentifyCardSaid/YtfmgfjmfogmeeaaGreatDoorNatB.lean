/- Natural numbers as words (nat.go of layer 2), part 8: a digit of a quotient, the first case. -/
import Derived.Test.YtfmgfjmfogmeeaaGreatDoorNat7
import Derived.Test.YtfmgfjmfogmeeaaGreatDoorNatA
set_option linter.unusedSimpArgs false
set_option linter.unusedVariables false
set_option linter.deprecated false
namespace Go.Proofs.YtfmgfjmfogmeeaaGreatDoor
open Go Go.Ax
set_option maxRecDepth 100000
set_option maxHeartbeats 4000000
theorem digit_a (rs : List Nat) (i k y : Nat) (hW : Wd rs) (hy : (words y).length = k + 1) (hl : i + (k + 2) ≤ rs.length) (hlen : rs.length ≤ 4398046511104) (hR : val ((rs.drop i).take (k + 2)) < y * 4294967296) (ht : rs.getD (i + k + 1) 0 < (words y).getD k 0) : CallW Tryz.prog gl 109 [.ps 0 1 i (k + 2), .sl 1 (u32s (words y))] ⟨1, u32s rs⟩ (.v (.int .u32 ((val ((rs.drop i).take (k + 2)) / y : Nat)))) ⟨1, u32s (rs.take i ++ fixw (k + 2) (val ((rs.drop i).take (k + 2)) % y) ++ rs.drop (i + (k + 2)))⟩ := by
  refine call_w (C := ⟨Tryz.prog, gl, ti, 131, true⟩) ti_ok mixed rfl 3000 Tryz.call109 Tryz.func109 rfl Tryz.ntmps109 (by simp) byCl byClM ?_
  rw [Tryz.results109]
  obtain ⟨R, hRd⟩ : ∃ R, R = val ((rs.drop i).take (k + 2)) := ⟨_, rfl⟩
  rw [← hRd] at hR ⊢
  have hy0 : 0 < y := by omega
  have hyl := lt_words y
  rw [hy] at hyl
  have hyt : 0 < (words y).getD k 0 := by
    rcases words_trimmed y with h | h
    · rw [h] at hy; simp at hy
    · rw [hy, Nat.add_sub_cancel] at h; omega
  have hytw := (Wd.words y).get k
  have hYs : y = (words y).getD k 0 * 4294967296 ^ k + val ((words y).take k) := by
    have h1 := val_take_succ (ws := words y) (k := k) (by omega)
    rw [List.take_of_length_le (by omega), val_words] at h1
    rw [Nat.mul_comm]; omega
  have hylo := val_lt ((Wd.words y).take k)
  rw [List.length_take, Nat.min_eq_left (by omega)] at hylo
  have hRs : R = (rs.getD (i + k + 1) 0 * 4294967296 + rs.getD (i + k) 0) * 4294967296 ^ k + val ((rs.drop i).take k) := by
    have e1 : ∀ j, (rs.drop i).getD j 0 = rs.getD (i + j) 0 := fun j => by simp [List.getD]
    have h1 := val_take_succ (ws := rs.drop i) (k := k + 1) (by simp; omega)
    have h2 := val_take_succ (ws := rs.drop i) (k := k) (by simp; omega)
    rw [e1] at h1 h2
    rw [hRd, h1, h2, Nat.pow_succ, ← Nat.add_assoc]
    generalize rs.getD (i + k + 1) 0 = t
    generalize rs.getD (i + k) 0 = u
    generalize 4294967296 ^ k = P
    grind
  have hrlo := val_lt ((hW.drop i).take k)
  rw [List.length_take, List.length_drop, Nat.min_eq_left (by omega)] at hrlo
  have hqe := digit_est (Nat.pow_pos (n := k) (by omega : 0 < 4294967296)) hRs hrlo hYs hyt
  have hqB : R / y < 4294967296 := by rw [Nat.div_lt_iff_lt_mul hy0, Nat.mul_comm]; exact hR
  have rt := u32s_getD (ws := rs) (i := i + k + 1) (by omega)
  have rc := u32s_getD (ws := rs) (i := i + k) (by omega)
  have ry := u32s_getD (ws := words y) (i := k) (by omega)
  have htw := hW.get (i + k + 1)
  have hsw := hW.get (i + k)
  have e1 : ((k + 1 : Nat) : Int) - 1 = (k : Int) := by omega
  have e2 : i + (k + 1) = i + k + 1 := rfl
  have dv := fun h => bits_Div32 (rs.getD (i + k + 1) 0) (rs.getD (i + k) 0) ((words y).getD k 0) h hsw hytw
  clear hRs hYs hylo hrlo
  generalize rs.getD (i + k + 1) 0 = top at *
  generalize rs.getD (i + k) 0 = sec at *
  generalize (words y).getD k 0 = yt at *
  have hqle : ∀ d, y * d ≤ R → d ≤ R / y := fun d h => by rw [Nat.le_div_iff_mul_le hy0, Nat.mul_comm]; exact h
  have hqlt : ∀ d, R < y * d → R / y < d := fun d h => by rw [Nat.div_lt_iff_lt_mul hy0, Nat.mul_comm]; exact h
  have hqm := Nat.div_add_mod R y
  clear dv
  obtain ⟨d0, he, hd0⟩ : ∃ d0, (top * 4294967296 + sec) / yt = d0 ∧ d0 < 4294967296 := ⟨_, rfl, by
    rw [Nat.div_lt_iff_lt_mul hyt]
    have := Nat.mul_le_mul_left 4294967296 (show top + 1 ≤ yt by omega)
    omega⟩
  rw [he] at hqe
  have hq0 := hqe
  generalize R / y = q at *
  generalize R % y = rem at *
  have dv := bits_Div32 top sec yt ht hsw hytw
  rw [he] at dv
  clear hqe
  repeat' (first | (simp only [go_sem, seval, IntKind.bits.eq_def, ti, tin, u32s_length, hy, e1, e2, rt, rc, ry]) | (simp (disch := omega) only [wA]) | (with_reducible first | refine cF dv ?_ | refine dF dv ?_) | refine aL ti_ok ?_ | refine dL ti_ok ?_ | refine dG ?_ | ((first | refine cC ?_ ?_ | refine gS ?_ ?_ | refine dS ?_ ?_) <;> intro hc <;> first | (exfalso; simp only [dcA] at hc; omega) | (simp only [hc]; try simp only [dcA] at hc)) | refine aO ?_ | refine dO ?_)
  refine l_loop (α := Nat × List Nat × Nat × Nat) (fun x => ⟨[(0, .ps 0 1 i (k + 2)), (1, .sl 1 (u32s (words y))), (4, .v (.int .u32 (0))), (5, .v (.int .i64 ((k + 1 : Nat)))), (6, .v (.int .u32 (d0))), (7, .v (.int .u64 (x.2.2.1))), (8, .v (.int .u32 (x.2.2.2))), (45, .sl 1 (u32s (words y))), (46, .v (.int .i64 ((k + 1 : Nat)))), (47, .v (.int .i64 x.1))], [(0, ⟨1, u32s x.2.1⟩)], 1⟩) (fun x => x.1 ≤ k + 1 ∧ Same i (k + 2) rs x.2.1 ∧ x.2.2.1 < 4294967296 ∧ x.2.2.2 ≤ 1 ∧ val x.2.1 + 4294967296 ^ i * (y % 4294967296 ^ x.1 * d0) = val rs + 4294967296 ^ (i + x.1) * (x.2.2.1 + x.2.2.2)) (fun x => k + 1 - x.1) ((0, rs, 0, 0)) _ byFresh (fun _ h => by first | (cases h; done) | exact Nat.le_of_ble_eq_true rfl) ?_ ?_ ?_
  · exact ⟨Nat.zero_le _, ⟨rfl, hW, rfl, rfl⟩, by simp, by simp, by simp [Nat.mod_one]⟩
  · exact byWeak
  rintro ⟨j, ws, ca, bo⟩ ⟨hj, hS, hca, hbo, hv⟩
  simp only at hj hS hca hbo hv
  have hwl := hS.1
  by_cases hjk : j < k + 1
  ·
    have hx := (Wd.words y).get j
    have ryj := u32s_getD (ws := words y) (i := j) (by omega)
    have ro := u32s_getD (ws := ws) (i := i + j) (by omega)
    have ho := hS.2.1.get (i + j)
    have hms := mod_succ y j
    have hset := fun r' => val_set (ws := ws) (k := i + j) (by omega) r'
    generalize (words y).getD j 0 = w at *
    generalize ws.getD (i + j) 0 = o at *
    have hp := mul_word hx hd0
    have f1 : (w : Int) * (d0 : Int) = ((w * d0 : Nat) : Int) := by simp
    have f2 : ((w * d0 : Nat) : Int) + (ca : Int) = ((w * d0 + ca : Nat) : Int) := by omega
    have htd := Nat.div_add_mod (w * d0 + ca) 4294967296
    have htl : w * d0 + ca < 18446744073709551616 := by omega
    have hq : (w * d0 + ca) / 4294967296 < 4294967296 := by omega
    have hr : (w * d0 + ca) % 4294967296 < 4294967296 := Nat.mod_lt _ (by omega)
    have f3 : ((w * d0 + ca : Nat) : Int) / 4294967296 = (((w * d0 + ca) / 4294967296 : Nat) : Int) := rfl
    have f4 := wrap_u32 (w * d0 + ca)
    have hdv : w * d0 + ca = (w * d0 + ca) % 4294967296 + 4294967296 * ((w * d0 + ca) / 4294967296) := by omega
    generalize (w * d0 + ca) % 4294967296 = tl at *
    generalize (w * d0 + ca) / 4294967296 = ca2 at *
    have sb := bits_Sub32 o tl bo ho hr hbo
    obtain ⟨s1, s2, s3⟩ := sub_word (x := o) (y := tl) (c := bo) hbo ho hr rfl rfl
    generalize (o + 8589934592 - tl - bo) % 4294967296 = r2 at *
    generalize (if o < tl + bo then 1 else 0) = bo2 at *
    have hst := dig_sub (Nat.pow_add 4294967296 i j) (hset r2) s1 hdv hv
    rw [← hms] at hst
    generalize w * d0 = wd at *
    repeat' (first | (simp only [go_sem, seval, IntKind.bits.eq_def, ti, tin, u32s_length, hy, ryj, ro, f1, f2, f3, f4, u32s_set]) | (simp (disch := omega) only [wA]) | (with_reducible first | refine cF sb ?_ | refine dF sb ?_) | refine aL ti_ok ?_ | refine dL ti_ok ?_ | refine dG ?_ | ((first | refine cC ?_ ?_ | refine gS ?_ ?_ | refine dS ?_ ?_) <;> intro hc <;> first | (exfalso; simp only [dcA] at hc; omega) | (simp only [hc]; try simp only [dcA] at hc)) | refine aO ?_ | refine dO ?_)
    refine roundEnd_of (α := Nat × List Nat × Nat × Nat) (j + 1, ws.set (i + j) r2, ca2, bo2) ?_ ?_ ?_
    · refine ⟨by omega, hS.set (by omega) (by omega) s2, hq, s3, ?_⟩
      show val (ws.set (i + j) r2) + _ = val rs + 4294967296 ^ (i + j + 1) * (ca2 + bo2)
      rw [Nat.pow_succ]; exact hst
    · show k + 1 - (j + 1) < k + 1 - j
      omega
    · exact byWeak
  ·
    have hj1 : j = k + 1 := by omega
    subst hj1
    rw [Nat.mod_eq_of_lt hyl] at hv
    have ro := u32s_getD (ws := ws) (i := i + (k + 1)) (by omega)
    have ho := hS.2.1.get (i + (k + 1))
    have hset := fun r' => val_set (ws := ws) (k := i + (k + 1)) (by omega) r'
    have f4 := wrap_u32 ca
    rw [Nat.mod_eq_of_lt hca] at f4
    generalize ws.getD (i + (k + 1)) 0 = o at *
    have sb := bits_Sub32 o ca bo ho hca hbo
    obtain ⟨s1, s2, s3⟩ := sub_word (x := o) (y := ca) (c := bo) hbo ho hca rfl rfl
    generalize (o + 8589934592 - ca - bo) % 4294967296 = r2 at *
    generalize (if o < ca + bo then 1 else 0) = bo2 at *
    have hst := dig_top (hset r2) s1 hv
    rw [← Nat.pow_succ] at hst
    have hS2 := hS.set (p := i + (k + 1)) (x := r2) (by omega) (by omega) s2
    clear hset hv
    repeat' (first | (simp only [go_sem, seval, IntKind.bits.eq_def, ti, tin, u32s_length, hy, ro, f4, u32s_set]) | (simp (disch := omega) only [wA]) | (with_reducible first | refine cF sb ?_ | refine dF sb ?_) | refine aL ti_ok ?_ | refine dL ti_ok ?_ | refine dG ?_ | ((first | refine cC ?_ ?_ | refine gS ?_ ?_ | refine dS ?_ ?_) <;> intro hc <;> first | (exfalso; simp only [dcA] at hc; omega) | (simp only [hc]; try simp only [dcA] at hc)) | refine aO ?_ | refine dO ?_)
    generalize hws2 : ws.set (i + (k + 1)) r2 = ws2 at *
    refine l_loop (α := Nat × List Nat × Nat) (fun x => ⟨[(0, .ps 0 1 i (k + 2)), (1, .sl 1 (u32s (words y))), (4, .v (.int .u32 (0))), (5, .v (.int .i64 ((k + 1 : Nat)))), (6, .v (.int .u32 (x.1))), (8, .v (.int .u32 (x.2.2)))], [(0, ⟨1, u32s x.2.1⟩)], 1⟩) (fun x => x.1 < 4294967296 ∧ q ≤ x.1 ∧ Same i (k + 2) rs x.2.1 ∧ x.2.2 ≤ 1 ∧ val x.2.1 + 4294967296 ^ i * (y * x.1) = val rs + 4294967296 ^ (i + (k + 2)) * x.2.2) (fun x => x.1) ((d0, ws2, bo2)) _ byFresh (fun _ h => by first | (cases h; done) | exact Nat.le_of_ble_eq_true rfl) ?_ ?_ ?_
    · exact ⟨hd0, hq0, hS2, s3, hst⟩
    · exact byWeak
    clear hst hS2 hS s1 s2 s3 ro ho hws2 sb
    rintro ⟨d, ws, bo⟩ ⟨hd, hqd, hS, hbo, hv⟩
    simp only at hd hqd hS hbo hv
    have hwl := hS.1
    have hwin := hS.eq hl hv
    rw [← hRd] at hwin
    by_cases hb0 : bo = 0
    ·
      subst hb0
      have hwin := hwin.trans (show _ = R by rw [Nat.mul_zero]; rfl)
      have hdq2 : d = q := Nat.le_antisymm (hqle d (Nat.le_trans (Nat.le_add_left _ _) (Nat.le_of_eq hwin))) hqd
      have hmod : val ((ws.drop i).take (k + 2)) = rem := by
        rw [hdq2] at hwin
        exact Nat.add_right_cancel (hwin.trans (hqm.symm.trans (Nat.add_comm _ _)))
      have hww := window_words ws hS.2.1 (by rw [hwl]; exact hl) hmod
      rw [hS.2.2.1, hS.2.2.2] at hww
      rw [← hww, ← hdq2]
      clear hwin hmod hww hdq2 hqm hqle hqlt hqd hv hyl hR
      repeat' (first | (simp only [go_sem, seval, IntKind.bits.eq_def, ti, tin, u32s_length]) | (simp (disch := omega) only [wA]) | refine aL ti_ok ?_ | refine dL ti_ok ?_ | refine dG ?_ | ((first | refine cC ?_ ?_ | refine gS ?_ ?_ | refine dS ?_ ?_) <;> intro hc <;> first | (exfalso; simp only [dcA] at hc; omega) | (simp only [hc]; try simp only [dcA] at hc)) | refine aO ?_ | refine dO ?_)
      exact finW_same trivial rfl (MLe.refl _)
    ·
      have hb1 : bo = 1 := by omega
      subst hb1
      have hlt : val ((ws.drop i).take (k + 2)) < 4294967296 ^ (k + 2) := by
        have := val_lt ((hS.2.1.drop i).take (k + 2))
        rwa [List.length_take, List.length_drop, Nat.min_eq_left (by omega)] at this
      have hgt : R < y * d := win_gt hlt hwin
      have hqlt := hqlt d hgt
      obtain ⟨d', rfl⟩ : ∃ d', d = d' + 1 := Nat.exists_eq_succ_of_ne_zero (Nat.ne_of_gt (Nat.lt_of_le_of_lt (Nat.zero_le _) hqlt))
      have hqd' : q ≤ d' := Nat.le_of_lt_succ hqlt
      have e3 : ((d' + 1 : Nat) : Int) - 1 = (d' : Int) := by omega
      clear hlt hgt hwin hqlt hqle hqm hqd
      repeat' (first | (simp only [go_sem, seval, IntKind.bits.eq_def, ti, tin, u32s_length, hy, e3]) | (simp (disch := omega) only [wA]) | refine aL ti_ok ?_ | refine dL ti_ok ?_ | refine dG ?_ | ((first | refine cC ?_ ?_ | refine gS ?_ ?_ | refine dS ?_ ?_) <;> intro hc <;> first | (exfalso; simp only [dcA] at hc; omega) | (simp only [hc]; try simp only [dcA] at hc)) | refine aO ?_ | refine dO ?_)
      refine l_loop (α := Nat × List Nat × Nat) (fun x => ⟨[(0, .ps 0 1 i (k + 2)), (1, .sl 1 (u32s (words y))), (4, .v (.int .u32 (0))), (5, .v (.int .i64 ((k + 1 : Nat)))), (6, .v (.int .u32 (d'))), (8, .v (.int .u32 (1))), (12, .v (.int .u32 (x.2.2))), (94, .sl 1 (u32s (words y))), (95, .v (.int .i64 ((k + 1 : Nat)))), (96, .v (.int .i64 x.1))], [(0, ⟨1, u32s x.2.1⟩)], 1⟩) (fun x => x.1 ≤ k + 1 ∧ Same i (k + 2) rs x.2.1 ∧ x.2.2 ≤ 1 ∧ val x.2.1 + 4294967296 ^ (i + x.1) * x.2.2 = val ws + 4294967296 ^ i * (y % 4294967296 ^ x.1)) (fun x => k + 1 - x.1) ((0, ws, 0)) _ byFresh (fun _ h => by first | (cases h; done) | exact Nat.le_of_ble_eq_true rfl) ?_ ?_ ?_
      · exact ⟨Nat.zero_le _, hS, by simp, by simp [Nat.mod_one]⟩
      · exact byWeak
      rintro ⟨j, us, c⟩ ⟨hj, hS2, hc0, hu⟩
      simp only at hj hS2 hc0 hu
      have hul := hS2.1
      by_cases hjk : j < k + 1
      ·
        have hx := (Wd.words y).get j
        have ryj := u32s_getD (ws := words y) (i := j) (by omega)
        have ro := u32s_getD (ws := us) (i := i + j) (by omega)
        have ho := hS2.2.1.get (i + j)
        have hms := mod_succ y j
        have hset := fun r' => val_set (ws := us) (k := i + j) (by omega) r'
        generalize (words y).getD j 0 = w at *
        generalize us.getD (i + j) 0 = o at *
        have ad := bits_Add32 o w c ho hx hc0
        have hq : (o + w + c) / 4294967296 ≤ 1 := by omega
        have hr : (o + w + c) % 4294967296 < 4294967296 := Nat.mod_lt _ (by omega)
        have hdv := Nat.div_add_mod (o + w + c) 4294967296
        generalize (o + w + c) % 4294967296 = r2 at *
        generalize (o + w + c) / 4294967296 = c2 at *
        have hst := dig_add (Nat.pow_add 4294967296 i j) (hset r2) hdv hu
        rw [← hms] at hst
        repeat' (first | (simp only [go_sem, seval, IntKind.bits.eq_def, ti, tin, u32s_length, hy, ryj, ro, u32s_set]) | (simp (disch := omega) only [wA]) | (with_reducible first | refine cF ad ?_ | refine dF ad ?_) | refine aL ti_ok ?_ | refine dL ti_ok ?_ | refine dG ?_ | ((first | refine cC ?_ ?_ | refine gS ?_ ?_ | refine dS ?_ ?_) <;> intro hc <;> first | (exfalso; simp only [dcA] at hc; omega) | (simp only [hc]; try simp only [dcA] at hc)) | refine aO ?_ | refine dO ?_)
        refine roundEnd_of (α := Nat × List Nat × Nat) (j + 1, us.set (i + j) r2, c2) ?_ ?_ ?_
        · refine ⟨by omega, hS2.set (by omega) (by omega) hr, hq, ?_⟩
          show val (us.set (i + j) r2) + 4294967296 ^ (i + j + 1) * c2 = _
          rw [Nat.pow_succ]; exact hst
        · show k + 1 - (j + 1) < k + 1 - j
          omega
        · exact byWeak
      ·
        have hj1 : j = k + 1 := by omega
        subst hj1
        rw [Nat.mod_eq_of_lt hyl] at hu
        have ro := u32s_getD (ws := us) (i := i + (k + 1)) (by omega)
        have ho := hS2.2.1.get (i + (k + 1))
        have hset := fun r' => val_set (ws := us) (k := i + (k + 1)) (by omega) r'
        generalize us.getD (i + (k + 1)) 0 = o at *
        have ad := bits_Add32 o 0 c ho (by omega) hc0
        rw [Nat.add_zero] at ad
        have ad : CallOK _ _ _ [.v (.int .u32 o), .v (.int .u32 0), .v (.int .u32 c)] _ := ad
        have hq : (o + c) / 4294967296 ≤ 1 := by omega
        have hr : (o + c) % 4294967296 < 4294967296 := Nat.mod_lt _ (by omega)
        have hdv := Nat.div_add_mod (o + c) 4294967296
        generalize (o + c) % 4294967296 = r2 at *
        generalize (o + c) / 4294967296 = c2 at *
        have hv2 : val ws + 4294967296 ^ i * (y * (d' + 1)) = val rs + 4294967296 ^ (i + (k + 1)) * 4294967296 * 1 := by rw [← Nat.pow_succ]; exact hv
        have hst := dig_top2 (hset r2) hdv hu hv2 hq
        rw [← Nat.pow_succ] at hst
        have e4 : (1 : Int) - (c2 : Int) = ((1 - c2 : Nat) : Int) := by omega
        have hc2 : 1 - c2 ≤ 1 := by omega
        have hS3 := hS2.set (p := i + (k + 1)) (x := r2) (by omega) (by omega) hr
        generalize 1 - c2 = bo3 at *
        repeat' (first | (simp only [go_sem, seval, IntKind.bits.eq_def, ti, tin, u32s_length, hy, ro, e4, u32s_set]) | (simp (disch := omega) only [wA]) | (with_reducible first | refine cF ad ?_ | refine dF ad ?_) | refine aL ti_ok ?_ | refine dL ti_ok ?_ | refine dG ?_ | ((first | refine cC ?_ ?_ | refine gS ?_ ?_ | refine dS ?_ ?_) <;> intro hc <;> first | (exfalso; simp only [dcA] at hc; omega) | (simp only [hc]; try simp only [dcA] at hc)) | refine aO ?_ | refine dO ?_)
        refine roundEnd_of (α := Nat × List Nat × Nat) (d', us.set (i + (k + 1)) r2, bo3) ?_ ?_ ?_
        · exact ⟨by omega, hqd', hS3, hc2, hst⟩
        · show d' < d' + 1
          omega
        · exact byWeak
end Go.Proofs.YtfmgfjmfogmeeaaGreatDoor
/- Natural numbers as words (nat.go of layer 2), part 11: what a round of the long division does. -/
set_option linter.unusedSimpArgs false
set_option linter.unusedVariables false
set_option linter.deprecated false
namespace Go.Proofs.YtfmgfjmfogmeeaaGreatDoor
open Go Go.Ax
set_option maxRecDepth 100000
set_option maxHeartbeats 4000000
theorem digit_ok (rs : List Nat) (i k y : Nat) (hW : Wd rs) (hy : (words y).length = k + 1) (hl : i + (k + 2) ≤ rs.length) (hlen : rs.length ≤ 4398046511104) (hR : val ((rs.drop i).take (k + 2)) < y * 4294967296) :
    CallW Tryz.prog gl 109 [.ps 0 1 i (k + 2), .sl 1 (u32s (words y))] ⟨1, u32s rs⟩ (.v (.int .u32 (val ((rs.drop i).take (k + 2)) / y : Nat))) ⟨1, u32s (rs.take i ++ fixw (k + 2) (val ((rs.drop i).take (k + 2)) % y) ++ rs.drop (i + (k + 2)))⟩ := by
  by_cases ht : rs.getD (i + k + 1) 0 < (words y).getD k 0
  · exact digit_a rs i k y hW hy hl hlen hR ht
  · exact digit_b rs i k y hW hy hl hlen hR ht
theorem words_len_mono {a b : Nat} (h : a ≤ b) : (words a).length ≤ (words b).length := words_length_le (Nat.lt_of_le_of_lt h (lt_words b))
theorem norm_len {b n : Nat} (hb : 0 < b) (hn : (words b).length = n + 1) : (words (b * 2 ^ (32 - blen ((words b).getD n 0)))).length = n + 1 := by
  have hw := (Wd.words b).get n
  have h1 := blen_word hw
  have h2 := (blen_le (w := (words b).getD n 0) (l := blen ((words b).getD n 0))).1 (Nat.le_refl _)
  have hv : b = val ((words b).take n) + 4294967296 ^ n * (words b).getD n 0 := by
    have := val_take_drop (words b) (k := n) (by omega)
    rw [val_words, drop_getD (by omega), show (words b).drop (n + 1) = [] from List.drop_eq_nil_of_le (by omega)] at this
    simpa [val] using this
  have hlt : val ((words b).take n) < 4294967296 ^ n := by
    have := val_lt ((Wd.words b).take n)
    rwa [List.length_take, Nat.min_eq_left (by omega)] at this
  have hup : b < 4294967296 ^ n * 2 ^ blen ((words b).getD n 0) := by
    have : 4294967296 ^ n * ((words b).getD n 0 + 1) ≤ 4294967296 ^ n * 2 ^ blen ((words b).getD n 0) := Nat.mul_le_mul_left _ h2
    rw [Nat.mul_add, Nat.mul_one] at this
    omega
  generalize blen ((words b).getD n 0) = l at *
  have hp : b * 2 ^ (32 - l) < 4294967296 ^ (n + 1) := by
    have e : 4294967296 ^ (n + 1) = 4294967296 ^ n * 2 ^ l * 2 ^ (32 - l) := by
      rw [Nat.mul_assoc, ← Nat.pow_add, Nat.add_sub_cancel' h1]; rw [Nat.pow_succ, show (2 : Nat) ^ 32 = 4294967296 by decide]
    rw [e]
    exact Nat.mul_lt_mul_of_pos_right hup (Nat.pow_pos (by omega))
  have := words_length_le hp
  have := words_len_mono (Nat.le_mul_of_pos_right b (Nat.pow_pos (n := 32 - l) (by omega : 0 < 2)))
  omega
theorem round_win {rest : List Nat} {j n Y : Nat} (hl : j + (n + 1) ≤ rest.length) (hY : Y < 4294967296 ^ n) (hlt : val (rest.drop (j + 1)) < Y) (hW : Wd rest) :
    val ((rest.drop j).take (n + 1)) = val (rest.drop j) ∧ val (rest.drop j) < Y * 4294967296 ∧ val (rest.drop (j + (n + 1))) = 0 := by
  have h1 := val_take_drop (rest.drop (j + 1)) (k := n) (by simp; omega)
  rw [List.drop_drop, show j + 1 + n = j + (n + 1) by omega] at h1
  have hz : val (rest.drop (j + (n + 1))) = 0 := by
    rcases Nat.eq_zero_or_pos (val (rest.drop (j + (n + 1)))) with h | h
    · exact h
    · have := Nat.mul_le_mul_left (4294967296 ^ n) h
      rw [Nat.mul_one] at this
      omega
  have h2 := val_take_drop (rest.drop j) (k := n + 1) (by simp; omega)
  rw [List.drop_drop, hz, Nat.mul_zero, Nat.add_zero] at h2
  refine ⟨h2.symm, ?_, hz⟩
  rw [val_drop_getD (by omega)]
  have := hW.get j
  have := Nat.mul_le_mul_right 4294967296 hlt
  omega
theorem round_div {rest : List Nat} {j n Y R : Nat} (hl : j + (n + 1) ≤ rest.length) (hW : Wd rest) (hz : val (rest.drop (j + (n + 1))) = 0) (hR : R = val (rest.drop j)) (hY0 : 0 < Y) (hY : Y < 4294967296 ^ n) :
    let rest' := rest.take j ++ fixw (n + 1) (R % Y) ++ rest.drop (j + (n + 1))
    rest'.length = rest.length ∧ Wd rest' ∧ val (rest'.drop j) < Y ∧ val rest' + 4294967296 ^ j * (Y * (R / Y)) = val rest := by
  intro rest'
  have hm := Nat.mod_lt R hY0
  have hfl : (words (R % Y)).length ≤ n + 1 := words_length_le (Nat.lt_trans (Nat.lt_trans hm hY) (Nat.pow_lt_pow_right (by omega) (by omega)))
  have hf := fixw_len hfl
  have htl : (rest.take j).length = j := by simp; omega
  have hd : rest'.drop j = fixw (n + 1) (R % Y) ++ rest.drop (j + (n + 1)) := by
    show (rest.take j ++ fixw (n + 1) (R % Y) ++ rest.drop (j + (n + 1))).drop j = _
    rw [List.append_assoc, List.drop_append, htl, Nat.sub_self, List.drop_zero, List.drop_eq_nil_of_le (by omega), List.nil_append]
  have hvd : val (rest'.drop j) = R % Y := by rw [hd, val_append, fixw_val, hz, Nat.mul_zero, Nat.add_zero]
  have hlen : rest'.length = rest.length := by
    show (rest.take j ++ fixw (n + 1) (R % Y) ++ rest.drop (j + (n + 1))).length = _
    simp only [List.length_append, htl, hf, List.length_drop]; omega
  refine ⟨hlen, ((hW.take j).append (fixw_wd _ _)).append (hW.drop _), by rw [hvd]; exact hm, ?_⟩
  rw [val_take_drop rest' (k := j) (by omega), val_take_drop rest (k := j) (by omega), hvd, ← hR]
  have : rest'.take j = rest.take j := by
    show (rest.take j ++ fixw (n + 1) (R % Y) ++ rest.drop (j + (n + 1))).take j = _
    rw [List.append_assoc, List.take_append, htl, Nat.sub_self, List.take_zero, List.append_nil, List.take_take, Nat.min_self]
  rw [this, Nat.add_assoc, ← Nat.mul_add, Nat.mod_add_div]
theorem fix_lt {a s n : Nat} (h : a < 4294967296 ^ n) (hs : s ≤ 32) : a * 2 ^ s < 4294967296 ^ (n + 1) := by
  have h2 : 2 ^ s ≤ 4294967296 := Nat.pow_le_pow_right (n := 2) (by omega) hs
  have h3 : a * 2 ^ s ≤ a * 4294967296 := Nat.mul_le_mul_left _ h2
  have h4 : a * 4294967296 < 4294967296 ^ n * 4294967296 := Nat.mul_lt_mul_of_pos_right h (by omega)
  rw [Nat.pow_succ]; omega
theorem round_top {a b n la s : Nat} (hn : (words b).length = n + 1) (hb : 0 < b) (hla : a < 4294967296 ^ la) (hnl : n ≤ la) : val ((fixw (la + 1) (a * 2 ^ s)).drop (la - n)) < b * 2 ^ s := by
  rw [val_drop (fixw_wd _ _), fixw_val]
  refine Nat.div_lt_of_lt_mul ?_
  have h1 := words_ge (n := b) (by omega)
  rw [hn, Nat.add_sub_cancel] at h1
  have h2 : 4294967296 ^ la ≤ 4294967296 ^ (la - n) * b := by
    have := Nat.mul_le_mul_left (4294967296 ^ (la - n)) h1
    rwa [← Nat.pow_add, Nat.sub_add_cancel hnl] at this
  rw [← Nat.mul_assoc]
  exact Nat.mul_lt_mul_of_pos_right (Nat.lt_of_lt_of_le hla h2) (Nat.pow_pos (by omega))
end Go.Proofs.YtfmgfjmfogmeeaaGreatDoor
