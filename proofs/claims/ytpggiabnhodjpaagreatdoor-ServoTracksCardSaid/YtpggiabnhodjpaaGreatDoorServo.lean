/- Layer 38 (servo) and its reference. -/
import Derived.Test.YtpggiabnhodjpaaGreatDoorPi
import Derived.Test.YtpggiabnhodjpaaGreatDoorNum
set_option linter.unusedSimpArgs false
set_option linter.unusedVariables false
set_option linter.deprecated false
namespace Go.Proofs.YtpggiabnhodjpaaGreatDoor
open Go Go.Ax
set_option maxRecDepth 100000
set_option maxHeartbeats 2000000
def svBad (kv sh kp ki lo hi : Int) : Prop := piBad kp ki lo hi ∨ kv < 0 ∨ 4096 < kv ∨ sh < 0 ∨ 30 < sh
def sp (x : Int) : Int := clip x (-1073741824) 1073741824
theorem sp_bd (x : Int) : -1073741824 ≤ sp x ∧ sp x ≤ 1073741824 := clip_bd (by omega) x
def svD (rp p : Int) : Int := clip rp (-1152921504606846976) 1152921504606846976 - clip p (-1152921504606846976) 1152921504606846976
def svW (kv rp rv p : Int) : Int := sp (sp rv + kv * clip (svD rp p) (-562949953421312) 562949953421312 / 4096)
def svE (kv sh rp rv p v : Int) : Int := (svW kv rp rv p - sp v) / 2 ^ sh.toNat
def svM (l : Int) : Int := clip l 0 16777216
def svT (kv sh kp ki lo hi s rp rv p v l : Int) : Int := clip (piO kp ki lo hi s (svE kv sh rp rv p v)) (-svM l) (svM l)
def svS (kv sh kp ki lo hi s rp rv p v l : Int) : Int :=
  if (svM l < piO kp ki lo hi s (svE kv sh rp rv p v) ∧ 0 < svE kv sh rp rv p v) ∨ (piO kp ki lo hi s (svE kv sh rp rv p v) < -svM l ∧ svE kv sh rp rv p v < 0) then clip s (lo * 4096) (hi * 4096) else piS kp ki lo hi s (svE kv sh rp rv p v)
theorem svD_bd (rp p : Int) : -2305843009213693952 ≤ svD rp p ∧ svD rp p ≤ 2305843009213693952 := by
  have b1 := clip_bd (lo := -1152921504606846976) (hi := 1152921504606846976) (by omega) rp
  have b2 := clip_bd (lo := -1152921504606846976) (hi := 1152921504606846976) (by omega) p
  unfold svD; omega
theorem svW_bd (kv rp rv p : Int) : -1073741824 ≤ svW kv rp rv p ∧ svW kv rp rv p ≤ 1073741824 := sp_bd _
theorem servo_speed (x : Int) : CallOK Tryz.prog gl 110 [.v (.int .i64 x)] (.v (.int .i64 (sp x))) := by
  refine call_ok (C := ⟨Tryz.prog, gl, ti, 5, false⟩) ti_ok mixed 3000 Tryz.call110 Tryz.func110 rfl Tryz.ntmps110 (by simp) byClL byCl ?_
  rw [Tryz.results110]
  repeat' (first | (simp only [go_sem, seval, IntKind.bits.eq_def, ti, tin]) | (simp (disch := omega) only [wA]) | (with_reducible first | refine cF (servo_clip _ _ _) ?_ | refine dF (servo_clip _ _ _) ?_) | refine aL ti_ok ?_ | refine dL ti_ok ?_ | refine dG ?_ | ((first | refine cC ?_ ?_ | refine gS ?_ ?_ | refine dS ?_ ?_) <;> intro hc <;> first | (exfalso; simp only [dcA] at hc; omega) | (simp only [hc]; try simp only [dcA] at hc)) | refine aO ?_ | refine dO ?_)
  exact fin_same trivial rfl
theorem ref38_speed (x : Int) : CallOK Tryz.prog gl 104 [.v (.int .i64 x)] (.v (.int .i64 (sp x))) := by
  refine call_ok (C := ⟨Tryz.prog, gl, ti, 5, false⟩) ti_ok mixed 3000 Tryz.call104 Tryz.func104 rfl Tryz.ntmps104 (by simp) byClL byCl ?_
  rw [Tryz.results104]
  repeat' (first | (simp only [go_sem, seval, IntKind.bits.eq_def, ti, tin]) | (simp (disch := omega) only [wA]) | (with_reducible first | refine cF (base_Clip _ _ _) ?_ | refine dF (base_Clip _ _ _) ?_) | refine aL ti_ok ?_ | refine dL ti_ok ?_ | refine dG ?_ | ((first | refine cC ?_ ?_ | refine gS ?_ ?_ | refine dS ?_ ?_) <;> intro hc <;> first | (exfalso; simp only [dcA] at hc; omega) | (simp only [hc]; try simp only [dcA] at hc)) | refine aO ?_ | refine dO ?_)
  exact fin_same trivial rfl
theorem ref38_far (rp rv p v l : Int) : CallOK Tryz.prog gl 102 [.agg [.v (.int .i64 rp), .v (.int .i64 rv), .v (.int .i64 p), .v (.int .i64 v), .v (.int .i64 l)]] (.v (.int .i64 (svD rp p))) := by
  refine call_ok (C := ⟨Tryz.prog, gl, ti, 10, false⟩) ti_ok mixed 3000 Tryz.call102 Tryz.func102 rfl Tryz.ntmps102 (by simp) byClL byCl ?_
  rw [Tryz.results102]
  have b1 := clip_bd (lo := -1152921504606846976) (hi := 1152921504606846976) (by omega) rp
  have b2 := clip_bd (lo := -1152921504606846976) (hi := 1152921504606846976) (by omega) p
  repeat' (first | (simp only [go_sem, seval, IntKind.bits.eq_def, ti, tin]) | (simp (disch := omega) only [wA]) | (with_reducible first | refine cF (base_Clip _ _ _) ?_ | refine dF (base_Clip _ _ _) ?_) | refine aL ti_ok ?_ | refine dL ti_ok ?_ | refine dG ?_ | ((first | refine cC ?_ ?_ | refine gS ?_ ?_ | refine dS ?_ ?_) <;> intro hc <;> first | (exfalso; simp only [dcA] at hc; omega) | (simp only [hc]; try simp only [dcA] at hc)) | refine aO ?_ | refine dO ?_)
  exact fin_same trivial rfl
theorem servo_wanted (kv sh kp ki lo hi rp rv p v l : Int) (h1 : 0 ≤ kv ∧ kv ≤ 4096) : CallOK Tryz.prog gl 109 [.agg [.v (.int .i64 kv), .v (.int .i64 sh), .v (.int .i64 kp), .v (.int .i64 ki), .v (.int .i64 lo), .v (.int .i64 hi)], .agg [.v (.int .i64 rp), .v (.int .i64 rv), .v (.int .i64 p), .v (.int .i64 v), .v (.int .i64 l)]] (.v (.int .i64 (svW kv rp rv p))) := by
  refine call_ok (C := ⟨Tryz.prog, gl, ti, 24, false⟩) ti_ok mixed 3000 Tryz.call109 Tryz.func109 rfl Tryz.ntmps109 (by simp) byClL byCl ?_
  rw [Tryz.results109]
  have b1 := clip_bd (lo := -1152921504606846976) (hi := 1152921504606846976) (by omega) rp
  have b2 := clip_bd (lo := -1152921504606846976) (hi := 1152921504606846976) (by omega) p
  have b3 := sp_bd rv
  have b4 := clip_bd (lo := -562949953421312) (hi := 562949953421312) (by omega) (clip rp (-1152921504606846976) 1152921504606846976 - clip p (-1152921504606846976) 1152921504606846976)
  have b5 := mul_bd (a := kv) (A := 4096) (by omega) b4
  repeat' (first | (simp only [go_sem, seval, IntKind.bits.eq_def, ti, tin]) | (simp (disch := omega) only [wA]) | (with_reducible first | refine cF (servo_clip _ _ _) ?_ | refine dF (servo_clip _ _ _) ?_ | refine cF (servo_speed _) ?_ | refine dF (servo_speed _) ?_) | refine aL ti_ok ?_ | refine dL ti_ok ?_ | refine dG ?_ | ((first | refine cC ?_ ?_ | refine gS ?_ ?_ | refine dS ?_ ?_) <;> intro hc <;> first | (exfalso; simp only [dcA] at hc; omega) | (simp only [hc]; try simp only [dcA] at hc)) | refine aO ?_ | refine dO ?_)
  exact fin_same trivial rfl
theorem servo_Check (kv sh kp ki lo hi : Int) (h : ¬ svBad kv sh kp ki lo hi) : CallOK Tryz.prog gl 95 [.agg [.v (.int .i64 kv), .v (.int .i64 sh), .v (.int .i64 kp), .v (.int .i64 ki), .v (.int .i64 lo), .v (.int .i64 hi)]] (.v .nilIface) := by
  refine call_ok (C := ⟨Tryz.prog, gl, ti, 29, false⟩) ti_ok mixed 3000 Tryz.call95 Tryz.func95 rfl Tryz.ntmps95 (by simp) byClL byCl ?_
  rw [Tryz.results95]
  have h2 : ¬ piBad kp ki lo hi := fun q => h (.inl q)
  unfold svBad at h
  repeat' (first | (simp only [go_sem, seval, IntKind.bits.eq_def, ti, tin]) | (simp (disch := omega) only [wA]) | (with_reducible first | refine cF (pi_Check_ok _ _ _ _ h2) ?_ | refine dF (pi_Check_ok _ _ _ _ h2) ?_) | refine aL ti_ok ?_ | refine dL ti_ok ?_ | refine dG ?_ | ((first | refine cC ?_ ?_ | refine gS ?_ ?_ | refine dS ?_ ?_) <;> intro hc <;> first | (exfalso; simp only [dcA] at hc; omega) | (simp only [hc]; try simp only [dcA] at hc)) | refine aO ?_ | refine dO ?_)
  exact fin_same trivial rfl
theorem ref38_Check (kv sh kp ki lo hi : Int) (h : ¬ svBad kv sh kp ki lo hi) : CallOK Tryz.prog gl 35 [.agg [.v (.int .i64 kv), .v (.int .i64 sh), .v (.int .i64 kp), .v (.int .i64 ki), .v (.int .i64 lo), .v (.int .i64 hi)]] (.v (.int .i64 0)) := by
  refine call_ok (C := ⟨Tryz.prog, gl, ti, 28, false⟩) ti_ok mixed 3000 Tryz.call35 Tryz.func35 rfl Tryz.ntmps35 (by simp) byClL byCl ?_
  rw [Tryz.results35]
  have h2 : ¬ piBad kp ki lo hi := fun q => h (.inl q)
  unfold svBad at h
  repeat' (first | (simp only [go_sem, seval, IntKind.bits.eq_def, ti, tin]) | (simp (disch := omega) only [wA]) | (with_reducible first | refine cF (ref34_Check_ok _ _ _ _ h2) ?_ | refine dF (ref34_Check_ok _ _ _ _ h2) ?_) | refine aL ti_ok ?_ | refine dL ti_ok ?_ | refine dG ?_ | ((first | refine cC ?_ ?_ | refine gS ?_ ?_ | refine dS ?_ ?_) <;> intro hc <;> first | (exfalso; simp only [dcA] at hc; omega) | (simp only [hc]; try simp only [dcA] at hc)) | refine aO ?_ | refine dO ?_)
  exact fin_same trivial rfl
theorem ref38_Check_bad (kv sh kp ki lo hi : Int) (h : svBad kv sh kp ki lo hi) : CallOK Tryz.prog gl 35 [.agg [.v (.int .i64 kv), .v (.int .i64 sh), .v (.int .i64 kp), .v (.int .i64 ki), .v (.int .i64 lo), .v (.int .i64 hi)]] (.v (.int .i64 3)) := by
  refine call_ok (C := ⟨Tryz.prog, gl, ti, 28, false⟩) ti_ok mixed 3000 Tryz.call35 Tryz.func35 rfl Tryz.ntmps35 (by simp) byClL byCl ?_
  rw [Tryz.results35]
  by_cases h' : piBad kp ki lo hi
  ·
    repeat' (first | (simp only [go_sem, seval, IntKind.bits.eq_def, ti, tin]) | (simp (disch := omega) only [wA]) | (with_reducible first | refine cF (ref34_Check_bad _ _ _ _ h') ?_ | refine dF (ref34_Check_bad _ _ _ _ h') ?_) | refine aL ti_ok ?_ | refine dL ti_ok ?_ | refine dG ?_ | ((first | refine cC ?_ ?_ | refine gS ?_ ?_ | refine dS ?_ ?_) <;> intro hc <;> first | (exfalso; simp only [dcA] at hc; omega) | (simp only [hc]; try simp only [dcA] at hc)) | refine aO ?_ | refine dO ?_)
    exact fin_same trivial rfl
  · have h : kv < 0 ∨ 4096 < kv ∨ sh < 0 ∨ 30 < sh := by rcases h with h | h; exact absurd h h'; exact h
    repeat' (first | (simp only [go_sem, seval, IntKind.bits.eq_def, ti, tin]) | (simp (disch := omega) only [wA]) | (with_reducible first | refine cF (ref34_Check_ok _ _ _ _ h') ?_ | refine dF (ref34_Check_ok _ _ _ _ h') ?_) | refine aL ti_ok ?_ | refine dL ti_ok ?_ | refine dG ?_ | ((first | refine cC ?_ ?_ | refine gS ?_ ?_ | refine dS ?_ ?_) <;> intro hc <;> first | (exfalso; simp only [dcA] at hc; omega) | (simp only [hc]; try simp only [dcA] at hc)) | refine aO ?_ | refine dO ?_)
    all_goals exact fin_same trivial rfl
theorem servo_Speed (kv sh kp ki lo hi rp rv p v l : Int) (h : ¬ svBad kv sh kp ki lo hi) : CallOK Tryz.prog gl 94 [.agg [.v (.int .i64 kv), .v (.int .i64 sh), .v (.int .i64 kp), .v (.int .i64 ki), .v (.int .i64 lo), .v (.int .i64 hi)], .agg [.v (.int .i64 rp), .v (.int .i64 rv), .v (.int .i64 p), .v (.int .i64 v), .v (.int .i64 l)]] (.tup [.v (.int .i64 (svW kv rp rv p)), .v .nilIface]) := by
  refine call_ok (C := ⟨Tryz.prog, gl, ti, 15, false⟩) ti_ok mixed 3000 Tryz.call94 Tryz.func94 rfl Tryz.ntmps94 (by simp) byClL byCl ?_
  rw [Tryz.results94]
  have h' := h
  unfold svBad at h'
  repeat' (first | (simp only [go_sem, seval, IntKind.bits.eq_def, ti, tin]) | (simp (disch := omega) only [wA]) | (with_reducible first | refine cF (servo_Check _ _ _ _ _ _ h) ?_ | refine dF (servo_Check _ _ _ _ _ _ h) ?_ | refine cF (servo_wanted _ _ _ _ _ _ _ _ _ _ _ (by omega)) ?_ | refine dF (servo_wanted _ _ _ _ _ _ _ _ _ _ _ (by omega)) ?_) | refine aL ti_ok ?_ | refine dL ti_ok ?_ | refine dG ?_ | ((first | refine cC ?_ ?_ | refine gS ?_ ?_ | refine dS ?_ ?_) <;> intro hc <;> first | (exfalso; simp only [dcA] at hc; omega) | (simp only [hc]; try simp only [dcA] at hc)) | refine aO ?_ | refine dO ?_)
  exact fin_same trivial rfl
theorem ref38_Speed (kv sh kp ki lo hi rp rv p v l : Int) (h : ¬ svBad kv sh kp ki lo hi) : CallOK Tryz.prog gl 152 [.agg [.v (.int .i64 kv), .v (.int .i64 sh), .v (.int .i64 kp), .v (.int .i64 ki), .v (.int .i64 lo), .v (.int .i64 hi)], .agg [.v (.int .i64 rp), .v (.int .i64 rv), .v (.int .i64 p), .v (.int .i64 v), .v (.int .i64 l)]] (.tup [.v (.int .i64 (svW kv rp rv p)), .v (.int .i64 0)]) := by
  refine call_ok (C := ⟨Tryz.prog, gl, ti, 26, false⟩) ti_ok mixed 3000 Tryz.call152 Tryz.func152 rfl Tryz.ntmps152 (by simp) byClL byCl ?_
  rw [Tryz.results152]
  have h' := h
  unfold svBad at h'
  have b3 := sp_bd rv
  have b4 := clip_bd (lo := -562949953421312) (hi := 562949953421312) (by omega) (svD rp p)
  have b5 := mul_bd (a := kv) (A := 4096) (by omega) b4
  repeat' (first | (simp only [go_sem, seval, IntKind.bits.eq_def, ti, tin]) | (simp (disch := omega) only [wA]) | (with_reducible first | refine cF (base_Clip _ _ _) ?_ | refine dF (base_Clip _ _ _) ?_ | refine cF (ref38_Check _ _ _ _ _ _ h) ?_ | refine dF (ref38_Check _ _ _ _ _ _ h) ?_ | refine cF (ref38_far _ _ _ _ _) ?_ | refine dF (ref38_far _ _ _ _ _) ?_ | refine cF (ref38_speed _) ?_ | refine dF (ref38_speed _) ?_ | refine cF (base_Div _ _ (by omega) (by omega)) ?_ | refine dF (base_Div _ _ (by omega) (by omega)) ?_) | refine aL ti_ok ?_ | refine dL ti_ok ?_ | refine dG ?_ | ((first | refine cC ?_ ?_ | refine gS ?_ ?_ | refine dS ?_ ?_) <;> intro hc <;> first | (exfalso; simp only [dcA] at hc; omega) | (simp only [hc]; try simp only [dcA] at hc)) | refine aO ?_ | refine dO ?_)
  exact fin_same trivial rfl
theorem ref38_Error (kv sh kp ki lo hi rp rv p v l : Int) (h : ¬ svBad kv sh kp ki lo hi) : CallOK Tryz.prog gl 107 [.agg [.v (.int .i64 kv), .v (.int .i64 sh), .v (.int .i64 kp), .v (.int .i64 ki), .v (.int .i64 lo), .v (.int .i64 hi)], .agg [.v (.int .i64 rp), .v (.int .i64 rv), .v (.int .i64 p), .v (.int .i64 v), .v (.int .i64 l)]] (.v (.int .i64 (svE kv sh rp rv p v))) := by
  refine call_ok (C := ⟨Tryz.prog, gl, ti, 22, false⟩) ti_ok mixed 3000 Tryz.call107 Tryz.func107 rfl Tryz.ntmps107 (by simp) byClL byCl ?_
  rw [Tryz.results107]
  have h' := h
  unfold svBad at h'
  have b1 := svW_bd kv rp rv p
  have b2 := sp_bd v
  have b3 := pow_bd (n := sh.toNat) (m := 30) (by omega)
  repeat' (first | (simp only [go_sem, seval, IntKind.bits.eq_def, ti, tin]) | (simp (disch := omega) only [wA]) | (with_reducible first | refine cF (ref38_Speed _ _ _ _ _ _ _ _ _ _ _ h) ?_ | refine dF (ref38_Speed _ _ _ _ _ _ _ _ _ _ _ h) ?_ | refine cF (ref38_speed _) ?_ | refine dF (ref38_speed _) ?_ | refine cF (base_Div _ _ (by omega) (by omega)) ?_ | refine dF (base_Div _ _ (by omega) (by omega)) ?_) | refine aL ti_ok ?_ | refine dL ti_ok ?_ | refine dG ?_ | ((first | refine cC ?_ ?_ | refine gS ?_ ?_ | refine dS ?_ ?_) <;> intro hc <;> first | (exfalso; simp only [dcA] at hc; omega) | (simp only [hc]; try simp only [dcA] at hc)) | refine aO ?_ | refine dO ?_)
  exact fin_same trivial rfl
theorem svS_pos {kv sh kp ki lo hi s rp rv p v l : Int} (h : (svM l < piO kp ki lo hi s (svE kv sh rp rv p v) ∧ 0 < svE kv sh rp rv p v) ∨ (piO kp ki lo hi s (svE kv sh rp rv p v) < -svM l ∧ svE kv sh rp rv p v < 0)) : svS kv sh kp ki lo hi s rp rv p v l = clip s (lo * 4096) (hi * 4096) := if_pos h
theorem svS_neg {kv sh kp ki lo hi s rp rv p v l : Int} (h : ¬ ((svM l < piO kp ki lo hi s (svE kv sh rp rv p v) ∧ 0 < svE kv sh rp rv p v) ∨ (piO kp ki lo hi s (svE kv sh rp rv p v) < -svM l ∧ svE kv sh rp rv p v < 0))) : svS kv sh kp ki lo hi s rp rv p v l = piS kp ki lo hi s (svE kv sh rp rv p v) := if_neg h
theorem svE_eq {kv sh rp rv p v : Int} : (svW kv rp rv p - sp v) / 2 ^ sh.toNat = svE kv sh rp rv p v := rfl
theorem svM_eq {l : Int} : clip l 0 16777216 = svM l := rfl
theorem servo_Step (kv sh kp ki lo hi s rp rv p v l : Int) (h : ¬ svBad kv sh kp ki lo hi) : CallOK Tryz.prog gl 41 [.agg [.v (.int .i64 kv), .v (.int .i64 sh), .v (.int .i64 kp), .v (.int .i64 ki), .v (.int .i64 lo), .v (.int .i64 hi)], .agg [.v (.int .i64 s)], .agg [.v (.int .i64 rp), .v (.int .i64 rv), .v (.int .i64 p), .v (.int .i64 v), .v (.int .i64 l)]] (.tup [.agg [.v (.int .i64 (svS kv sh kp ki lo hi s rp rv p v l))], .v (.int .i64 (svT kv sh kp ki lo hi s rp rv p v l)), .v .nilIface]) := by
  refine call_ok (C := ⟨Tryz.prog, gl, ti, 85, false⟩) ti_ok mixed 3000 Tryz.call41 Tryz.func41 rfl Tryz.ntmps41 (by simp) byClL byCl ?_
  rw [Tryz.results41]
  have h' := h
  unfold svBad at h'
  have h2 : ¬ piBad kp ki lo hi := fun q => h (.inl q)
  have h3 := h2
  unfold piBad at h3
  have b1 := svW_bd kv rp rv p
  have b2 := sp_bd v
  have b4 := clip_bd (lo := 0) (hi := 16777216) (by omega) l
  repeat' (first | (simp only [go_sem, seval, IntKind.bits.eq_def, ti, tin]) | (simp (disch := omega) only [wA]) | (with_reducible first | refine cF (servo_clip _ _ _) ?_ | refine dF (servo_clip _ _ _) ?_ | refine cF (servo_speed _) ?_ | refine dF (servo_speed _) ?_ | refine cF (servo_Check _ _ _ _ _ _ h) ?_ | refine dF (servo_Check _ _ _ _ _ _ h) ?_ | refine cF (servo_wanted _ _ _ _ _ _ _ _ _ _ _ (by omega)) ?_ | refine dF (servo_wanted _ _ _ _ _ _ _ _ _ _ _ (by omega)) ?_ | refine cF (pi_Step _ _ _ _ _ _ h2) ?_ | refine dF (pi_Step _ _ _ _ _ _ h2) ?_) | refine aL ti_ok ?_ | refine dL ti_ok ?_ | refine dG ?_ | ((first | refine cC ?_ ?_ | refine gS ?_ ?_ | refine dS ?_ ?_) <;> intro hc <;> first | (exfalso; simp only [dcA] at hc; omega) | (simp only [hc]; try simp only [dcA] at hc)) | refine aO ?_ | refine dO ?_)
  all_goals
    refine fin_same trivial ?_
    simp only [svE_eq, svM_eq] at *
    simp only [one, svT, Int.zero_sub]
    first | rw [svS_pos (by omega)] | rw [svS_neg (by omega)]
theorem ref38_Step (kv sh kp ki lo hi s rp rv p v l : Int) (h : ¬ svBad kv sh kp ki lo hi) : CallOK Tryz.prog gl 105 [.agg [.v (.int .i64 kv), .v (.int .i64 sh), .v (.int .i64 kp), .v (.int .i64 ki), .v (.int .i64 lo), .v (.int .i64 hi)], .agg [.v (.int .i64 s)], .agg [.v (.int .i64 rp), .v (.int .i64 rv), .v (.int .i64 p), .v (.int .i64 v), .v (.int .i64 l)]] (.tup [.agg [.v (.int .i64 (svS kv sh kp ki lo hi s rp rv p v l))], .v (.int .i64 (svT kv sh kp ki lo hi s rp rv p v l)), .v (.int .i64 0)]) := by
  refine call_ok (C := ⟨Tryz.prog, gl, ti, 74, false⟩) ti_ok mixed 3000 Tryz.call105 Tryz.func105 rfl Tryz.ntmps105 (by simp) byClL byCl ?_
  rw [Tryz.results105]
  have h' := h
  unfold svBad at h'
  have h2 : ¬ piBad kp ki lo hi := fun q => h (.inl q)
  have h3 := h2
  unfold piBad at h3
  have b4 := clip_bd (lo := 0) (hi := 16777216) (by omega) l
  repeat' (first | (simp only [go_sem, seval, IntKind.bits.eq_def, ti, tin]) | (simp (disch := omega) only [wA]) | (with_reducible first | refine cF (base_Clip _ _ _) ?_ | refine dF (base_Clip _ _ _) ?_ | refine cF (ref38_Check _ _ _ _ _ _ h) ?_ | refine dF (ref38_Check _ _ _ _ _ _ h) ?_ | refine cF (ref38_Error _ _ _ _ _ _ _ _ _ _ _ h) ?_ | refine dF (ref38_Error _ _ _ _ _ _ _ _ _ _ _ h) ?_ | refine cF (ref34_Step _ _ _ _ _ _ h2) ?_ | refine dF (ref34_Step _ _ _ _ _ _ h2) ?_) | refine aL ti_ok ?_ | refine dL ti_ok ?_ | refine dG ?_ | ((first | refine cC ?_ ?_ | refine gS ?_ ?_ | refine dS ?_ ?_) <;> intro hc <;> first | (exfalso; simp only [dcA] at hc; omega) | (simp only [hc]; try simp only [dcA] at hc)) | refine aO ?_ | refine dO ?_)
  all_goals
    refine fin_same trivial ?_
    simp only [svM_eq] at *
    simp only [one, svT, Int.zero_sub]
    first | rw [svS_pos (by omega)] | rw [svS_neg (by omega)]
end Go.Proofs.YtpggiabnhodjpaaGreatDoor
