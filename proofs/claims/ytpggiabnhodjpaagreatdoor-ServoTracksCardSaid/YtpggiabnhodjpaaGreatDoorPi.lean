/- The functions of the layers 34 and 38 (pi, servo) and of their references do what plain functions say. -/
import Derived.Test.YtpggiabnhodjpaaGreatDoorTy
import Derived.Test.YtpggiabnhodjpaaGreatDoorU2
set_option linter.unusedSimpArgs false
set_option linter.unusedVariables false
set_option linter.deprecated false
namespace Go.Proofs.YtpggiabnhodjpaaGreatDoor
open Go Go.Ax
set_option maxRecDepth 100000
set_option maxHeartbeats 2000000
theorem servo_clip (x lo hi : Int) : CallOK Tryz.prog gl 112 [.v (.int .i64 x), .v (.int .i64 lo), .v (.int .i64 hi)] (.v (.int .i64 (clip x lo hi))) := by
  refine call_ok (C := ⟨Tryz.prog, gl, ti, 12, false⟩) ti_ok mixed 3000 Tryz.call112 Tryz.func112 rfl Tryz.ntmps112 (by simp) byClL byCl ?_
  rw [Tryz.results112]
  repeat' (first | (simp only [go_sem, seval, IntKind.bits.eq_def, ti, tin]) | (simp (disch := omega) only [wA]) | refine aL ti_ok ?_ | refine dL ti_ok ?_ | refine dG ?_ | ((first | refine cC ?_ ?_ | refine gS ?_ ?_ | refine dS ?_ ?_) <;> intro hc <;> first | (exfalso; simp only [dcA] at hc; omega) | (simp only [hc]; try simp only [dcA] at hc)) | refine aO ?_ | refine dO ?_)
  exact fin_same trivial rfl
theorem pi_clip (x lo hi : Int) : CallOK Tryz.prog gl 153 [.v (.int .i64 x), .v (.int .i64 lo), .v (.int .i64 hi)] (.v (.int .i64 (clip x lo hi))) := by
  refine call_ok (C := ⟨Tryz.prog, gl, ti, 12, false⟩) ti_ok mixed 3000 Tryz.call153 Tryz.func153 rfl Tryz.ntmps153 (by simp) byClL byCl ?_
  rw [Tryz.results153]
  repeat' (first | (simp only [go_sem, seval, IntKind.bits.eq_def, ti, tin]) | (simp (disch := omega) only [wA]) | refine aL ti_ok ?_ | refine dL ti_ok ?_ | refine dG ?_ | ((first | refine cC ?_ ?_ | refine gS ?_ ?_ | refine dS ?_ ?_) <;> intro hc <;> first | (exfalso; simp only [dcA] at hc; omega) | (simp only [hc]; try simp only [dcA] at hc)) | refine aO ?_ | refine dO ?_)
  exact fin_same trivial rfl
theorem base_Clip (x lo hi : Int) : CallOK Tryz.prog gl 38 [.v (.int .i64 x), .v (.int .i64 lo), .v (.int .i64 hi)] (.v (.int .i64 (clip x lo hi))) := by
  refine call_ok (C := ⟨Tryz.prog, gl, ti, 12, false⟩) ti_ok mixed 3000 Tryz.call38 Tryz.func38 rfl Tryz.ntmps38 (by simp) byClL byCl ?_
  rw [Tryz.results38]
  repeat' (first | (simp only [go_sem, seval, IntKind.bits.eq_def, ti, tin]) | (simp (disch := omega) only [wA]) | refine aL ti_ok ?_ | refine dL ti_ok ?_ | refine dG ?_ | ((first | refine cC ?_ ?_ | refine gS ?_ ?_ | refine dS ?_ ?_) <;> intro hc <;> first | (exfalso; simp only [dcA] at hc; omega) | (simp only [hc]; try simp only [dcA] at hc)) | refine aO ?_ | refine dO ?_)
  exact fin_same trivial rfl
theorem base_Div (a b : Int) (ha : -9223372036854775808 ≤ a ∧ a ≤ 9223372036854775807) (hb : 0 < b) : CallOK Tryz.prog gl 46 [.v (.int .i64 a), .v (.int .i64 b)] (.v (.int .i64 (a / b))) := by
  refine call_ok (C := ⟨Tryz.prog, gl, ti, 16, false⟩) ti_ok mixed 3000 Tryz.call46 Tryz.func46 rfl Tryz.ntmps46 (by simp) byClL byCl ?_
  rw [Tryz.results46]
  have hd := div_floor (a := a) hb
  have hq := tdiv_bd hb ha
  have hq2 := ediv_bd hb ha
  repeat' (first | (simp only [go_sem, seval, IntKind.bits.eq_def, ti, tin]) | (simp (disch := omega) only [wA]) | refine aL ti_ok ?_ | refine dL ti_ok ?_ | refine dG ?_ | ((first | refine cC ?_ ?_ | refine gS ?_ ?_ | refine dS ?_ ?_) <;> intro hc <;> first | (exfalso; simp only [dcA] at hc; omega) | (simp only [hc]; try simp only [dcA] at hc)) | refine aO ?_ | refine dO ?_)
  · rw [if_pos (by simpa using hc)] at hd
    refine fin_same trivial ?_
    simp (disch := omega) only [one, w64, hd]
  · rw [if_neg (by simpa using hc)] at hd
    refine fin_same trivial ?_
    simp (disch := omega) only [one, w64, hd]
def piBad (kp ki lo hi : Int) : Prop := kp < 0 ∨ 1048576 < kp ∨ ki < 0 ∨ 1048576 < ki ∨ lo < -16777216 ∨ 0 < lo ∨ hi < 0 ∨ 16777216 < hi
theorem pi_Check_ok (kp ki lo hi : Int) (h : ¬ piBad kp ki lo hi) : CallOK Tryz.prog gl 150 [.agg [.v (.int .i64 kp), .v (.int .i64 ki), .v (.int .i64 lo), .v (.int .i64 hi)]] (.v .nilIface) := by
  refine call_ok (C := ⟨Tryz.prog, gl, ti, 35, false⟩) ti_ok mixed 3000 Tryz.call150 Tryz.func150 rfl Tryz.ntmps150 (by simp) byClL byCl ?_
  rw [Tryz.results150]
  unfold piBad at h
  repeat' (first | (simp only [go_sem, seval, IntKind.bits.eq_def, ti, tin]) | (simp (disch := omega) only [wA]) | (refine l_unroll 5 _ rfl ?_) | refine aL ti_ok ?_ | refine dL ti_ok ?_ | refine dG ?_ | ((first | refine cC ?_ ?_ | refine gS ?_ ?_ | refine dS ?_ ?_) <;> intro hc <;> first | (exfalso; simp only [dcA] at hc; omega) | (simp only [hc]; try simp only [dcA] at hc)) | refine aO ?_ | refine dO ?_)
  all_goals exact fin_same trivial rfl
theorem ref34_Check_ok (kp ki lo hi : Int) (h : ¬ piBad kp ki lo hi) : CallOK Tryz.prog gl 93 [.agg [.v (.int .i64 kp), .v (.int .i64 ki), .v (.int .i64 lo), .v (.int .i64 hi)]] (.v (.int .i64 0)) := by
  refine call_ok (C := ⟨Tryz.prog, gl, ti, 41, false⟩) ti_ok mixed 3000 Tryz.call93 Tryz.func93 rfl Tryz.ntmps93 (by simp) byClL byCl ?_
  rw [Tryz.results93]
  unfold piBad at h
  repeat' (first | (simp only [go_sem, seval, IntKind.bits.eq_def, ti, tin]) | (simp (disch := omega) only [wA]) | refine aL ti_ok ?_ | refine dL ti_ok ?_ | refine dG ?_ | ((first | refine cC ?_ ?_ | refine gS ?_ ?_ | refine dS ?_ ?_) <;> intro hc <;> first | (exfalso; simp only [dcA] at hc; omega) | (simp only [hc]; try simp only [dcA] at hc)) | refine aO ?_ | refine dO ?_)
  all_goals exact fin_same trivial rfl
theorem ref34_Check_bad (kp ki lo hi : Int) (h : piBad kp ki lo hi) : CallOK Tryz.prog gl 93 [.agg [.v (.int .i64 kp), .v (.int .i64 ki), .v (.int .i64 lo), .v (.int .i64 hi)]] (.v (.int .i64 3)) := by
  refine call_ok (C := ⟨Tryz.prog, gl, ti, 41, false⟩) ti_ok mixed 3000 Tryz.call93 Tryz.func93 rfl Tryz.ntmps93 (by simp) byClL byCl ?_
  rw [Tryz.results93]
  unfold piBad at h
  repeat' (first | (simp only [go_sem, seval, IntKind.bits.eq_def, ti, tin]) | (simp (disch := omega) only [wA]) | refine aL ti_ok ?_ | refine dL ti_ok ?_ | refine dG ?_ | ((first | refine cC ?_ ?_ | refine gS ?_ ?_ | refine dS ?_ ?_) <;> intro hc <;> first | (exfalso; simp only [dcA] at hc; omega) | (simp only [hc]; try simp only [dcA] at hc)) | refine aO ?_ | refine dO ?_)
  all_goals exact fin_same trivial rfl
def piU (kp ki lo hi s e : Int) : Int := clip s (lo * 4096) (hi * 4096) + ki * clip e (-16777216) 16777216 + kp * clip e (-16777216) 16777216
def piV (kp ki lo hi s e : Int) : Int :=
  if (hi * 4096 < piU kp ki lo hi s e ∧ 0 < clip e (-16777216) 16777216) ∨ (piU kp ki lo hi s e < lo * 4096 ∧ clip e (-16777216) 16777216 < 0) then clip s (lo * 4096) (hi * 4096) else clip s (lo * 4096) (hi * 4096) + ki * clip e (-16777216) 16777216
theorem piV_pos {kp ki lo hi s e : Int} (h : (hi * 4096 < clip s (lo * 4096) (hi * 4096) + ki * clip e (-16777216) 16777216 + kp * clip e (-16777216) 16777216 ∧ 0 < clip e (-16777216) 16777216) ∨ (clip s (lo * 4096) (hi * 4096) + ki * clip e (-16777216) 16777216 + kp * clip e (-16777216) 16777216 < lo * 4096 ∧ clip e (-16777216) 16777216 < 0)) : piV kp ki lo hi s e = clip s (lo * 4096) (hi * 4096) := if_pos h
theorem piV_neg {kp ki lo hi s e : Int} (h : ¬ ((hi * 4096 < clip s (lo * 4096) (hi * 4096) + ki * clip e (-16777216) 16777216 + kp * clip e (-16777216) 16777216 ∧ 0 < clip e (-16777216) 16777216) ∨ (clip s (lo * 4096) (hi * 4096) + ki * clip e (-16777216) 16777216 + kp * clip e (-16777216) 16777216 < lo * 4096 ∧ clip e (-16777216) 16777216 < 0))) : piV kp ki lo hi s e = clip s (lo * 4096) (hi * 4096) + ki * clip e (-16777216) 16777216 := if_neg h
def piS (kp ki lo hi s e : Int) : Int := clip (piV kp ki lo hi s e) (lo * 4096) (hi * 4096)
def piO (kp ki lo hi s e : Int) : Int := clip (piU kp ki lo hi s e / 4096) lo hi
theorem ref34_sum (kp ki lo hi n : Int) (h : ¬ piBad kp ki lo hi) : CallOK Tryz.prog gl 151 [.agg [.v (.int .i64 kp), .v (.int .i64 ki), .v (.int .i64 lo), .v (.int .i64 hi)], .v (.int .i64 n)] (.v (.int .i64 (clip n (lo * 4096) (hi * 4096)))) := by
  refine call_ok (C := ⟨Tryz.prog, gl, ti, 13, false⟩) ti_ok mixed 3000 Tryz.call151 Tryz.func151 rfl Tryz.ntmps151 (by simp) byClL byCl ?_
  rw [Tryz.results151]
  unfold piBad at h
  repeat' (first | (simp only [go_sem, seval, IntKind.bits.eq_def, ti, tin]) | (simp (disch := omega) only [wA]) | (with_reducible first | refine cF (base_Clip _ _ _) ?_ | refine dF (base_Clip _ _ _) ?_) | refine aL ti_ok ?_ | refine dL ti_ok ?_ | refine dG ?_ | ((first | refine cC ?_ ?_ | refine gS ?_ ?_ | refine dS ?_ ?_) <;> intro hc <;> first | (exfalso; simp only [dcA] at hc; omega) | (simp only [hc]; try simp only [dcA] at hc)) | refine aO ?_ | refine dO ?_)
  exact fin_same trivial rfl
theorem pi_Step (kp ki lo hi s e : Int) (h : ¬ piBad kp ki lo hi) : CallOK Tryz.prog gl 111 [.agg [.v (.int .i64 kp), .v (.int .i64 ki), .v (.int .i64 lo), .v (.int .i64 hi)], .agg [.v (.int .i64 s)], .v (.int .i64 e)] (.tup [.agg [.v (.int .i64 (piS kp ki lo hi s e))], .v (.int .i64 (piO kp ki lo hi s e)), .v .nilIface]) := by
  refine call_ok (C := ⟨Tryz.prog, gl, ti, 75, false⟩) ti_ok mixed 3000 Tryz.call111 Tryz.func111 rfl Tryz.ntmps111 (by simp) byClL byCl ?_
  rw [Tryz.results111]
  have h' := h
  unfold piBad at h'
  have b1 := clip_bd (lo := -16777216) (hi := 16777216) (by omega) e
  have b2 := clip_bd (lo := lo * 4096) (hi := hi * 4096) (by omega) s
  have b3 := mul_bd (a := ki) (A := 1048576) (by omega) b1
  have b4 := mul_bd (a := kp) (A := 1048576) (by omega) b1
  repeat' (first | (simp only [go_sem, seval, IntKind.bits.eq_def, ti, tin]) | (simp (disch := omega) only [wA]) | (with_reducible first | refine cF (pi_clip _ _ _) ?_ | refine dF (pi_clip _ _ _) ?_ | refine cF (pi_Check_ok _ _ _ _ h) ?_ | refine dF (pi_Check_ok _ _ _ _ h) ?_) | refine aL ti_ok ?_ | refine dL ti_ok ?_ | refine dG ?_ | ((first | refine cC ?_ ?_ | refine gS ?_ ?_ | refine dS ?_ ?_) <;> intro hc <;> first | (exfalso; simp only [dcA] at hc; omega) | (simp only [hc]; try simp only [dcA] at hc)) | refine aO ?_ | refine dO ?_)
  all_goals
    refine fin_same trivial ?_
    simp only [one, piS, piO, piU]
    first | rw [piV_pos (by omega)] | rw [piV_neg (by omega)]
theorem ref34_Step (kp ki lo hi s e : Int) (h : ¬ piBad kp ki lo hi) : CallOK Tryz.prog gl 106 [.agg [.v (.int .i64 kp), .v (.int .i64 ki), .v (.int .i64 lo), .v (.int .i64 hi)], .agg [.v (.int .i64 s)], .v (.int .i64 e)] (.tup [.agg [.v (.int .i64 (piS kp ki lo hi s e))], .v (.int .i64 (piO kp ki lo hi s e)), .v (.int .i64 0)]) := by
  refine call_ok (C := ⟨Tryz.prog, gl, ti, 71, false⟩) ti_ok mixed 3000 Tryz.call106 Tryz.func106 rfl Tryz.ntmps106 (by simp) byClL byCl ?_
  rw [Tryz.results106]
  have h' := h
  unfold piBad at h'
  have b1 := clip_bd (lo := -16777216) (hi := 16777216) (by omega) e
  have b2 := clip_bd (lo := lo * 4096) (hi := hi * 4096) (by omega) s
  have b3 := mul_bd (a := ki) (A := 1048576) (by omega) b1
  have b4 := mul_bd (a := kp) (A := 1048576) (by omega) b1
  repeat' (first | (simp only [go_sem, seval, IntKind.bits.eq_def, ti, tin]) | (simp (disch := omega) only [wA]) | (with_reducible first | refine cF (base_Clip _ _ _) ?_ | refine dF (base_Clip _ _ _) ?_ | refine cF (ref34_Check_ok _ _ _ _ h) ?_ | refine dF (ref34_Check_ok _ _ _ _ h) ?_ | refine cF (ref34_sum _ _ _ _ _ h) ?_ | refine dF (ref34_sum _ _ _ _ _ h) ?_ | refine cF (base_Div _ _ (by omega) (by omega)) ?_ | refine dF (base_Div _ _ (by omega) (by omega)) ?_) | refine aL ti_ok ?_ | refine dL ti_ok ?_ | refine dG ?_ | ((first | refine cC ?_ ?_ | refine gS ?_ ?_ | refine dS ?_ ?_) <;> intro hc <;> first | (exfalso; simp only [dcA] at hc; omega) | (simp only [hc]; try simp only [dcA] at hc)) | refine aO ?_ | refine dO ?_)
  all_goals
    refine fin_same trivial ?_
    simp only [one, piS, piO, piU]
    first | rw [piV_pos (by omega)] | rw [piV_neg (by omega)]
end Go.Proofs.YtpggiabnhodjpaaGreatDoor
