/- The functions of the layers 34 and 38 (pi, servo) and of their references do what plain functions say. -/
import Derived.Test.YtfoadddlmehpnaaDoorTy
import Derived.Test.YtfoadddlmehpnaaDoorU2
set_option linter.unusedSimpArgs false
set_option linter.unusedVariables false
set_option linter.deprecated false
namespace Go.Proofs.YtfoadddlmehpnaaDoor
open Go Go.Ax
set_option maxRecDepth 100000
set_option maxHeartbeats 2000000

theorem servo_clip (x lo hi : Int) : CallOK Tryd.prog gl 99 [.v (.int .i64 x), .v (.int .i64 lo), .v (.int .i64 hi)] (.v (.int .i64 (clip x lo hi))) := by
  refine call_ok (C := ⟨Tryd.prog, gl, ti, 12, false⟩) ti_ok mixed 3000 Tryd.call99 Tryd.func99 rfl Tryd.ntmps99 (by simp) byClL byCl ?_
  rw [Tryd.results99]
  repeat' (first
    | (simp only [go_sem, Int.reduceAdd, Int.reduceEq, Int.reduceLE, Int.reduceLT, Int.reduceMul, Int.reduceNeg, Int.reducePow, Int.reduceSub, Int.reduceToNat, Nat.reduceAdd, Nat.reduceBEq, Nat.reduceEqDiff, Nat.reduceLT, Nat.reduceLeDiff, Nat.reduceMul, Nat.reducePow, Nat.reduceSub, reduceCtorEq, reduceIte, IntKind.bits.eq_def, ti, tin])
    | (simp (disch := omega) only [w64, wu64, wu32, Nat.min_eq_left])
    | (refine after_lit ti_ok ?_)
    | (refine drawAfter_lit ti_ok ?_)
    | (refine drawEnd_of (by kernel_rfl) ?_)
    | ((first | refine cond_cases (fun hc => ?_) (fun hc => ?_) | refine guard_split (fun hc => ?_) (fun hc => ?_) | refine drawGuard_split (fun hc => ?_) (fun hc => ?_)) <;> first | (exfalso; simp only [decide_eq_true_eq, decide_eq_false_iff_not, Bool.not_eq_true, Bool.not_eq_false, Bool.not_eq_true', Bool.not_eq_false'] at hc; omega) | (simp only [hc]; try simp only [decide_eq_true_eq, decide_eq_false_iff_not, Bool.not_eq_true, Bool.not_eq_false, Bool.not_eq_true', Bool.not_eq_false'] at hc))
    | (refine after_need (by omega) ?_)
    | (refine drawAfter_need (by omega) ?_))
  exact fin_same trivial rfl

theorem pi_clip (x lo hi : Int) : CallOK Tryd.prog gl 116 [.v (.int .i64 x), .v (.int .i64 lo), .v (.int .i64 hi)] (.v (.int .i64 (clip x lo hi))) := by
  refine call_ok (C := ⟨Tryd.prog, gl, ti, 12, false⟩) ti_ok mixed 3000 Tryd.call116 Tryd.func116 rfl Tryd.ntmps116 (by simp) byClL byCl ?_
  rw [Tryd.results116]
  repeat' (first
    | (simp only [go_sem, Int.reduceAdd, Int.reduceEq, Int.reduceLE, Int.reduceLT, Int.reduceMul, Int.reduceNeg, Int.reducePow, Int.reduceSub, Int.reduceToNat, Nat.reduceAdd, Nat.reduceBEq, Nat.reduceEqDiff, Nat.reduceLT, Nat.reduceLeDiff, Nat.reduceMul, Nat.reducePow, Nat.reduceSub, reduceCtorEq, reduceIte, IntKind.bits.eq_def, ti, tin])
    | (simp (disch := omega) only [w64, wu64, wu32, Nat.min_eq_left])
    | (refine after_lit ti_ok ?_)
    | (refine drawAfter_lit ti_ok ?_)
    | (refine drawEnd_of (by kernel_rfl) ?_)
    | ((first | refine cond_cases (fun hc => ?_) (fun hc => ?_) | refine guard_split (fun hc => ?_) (fun hc => ?_) | refine drawGuard_split (fun hc => ?_) (fun hc => ?_)) <;> first | (exfalso; simp only [decide_eq_true_eq, decide_eq_false_iff_not, Bool.not_eq_true, Bool.not_eq_false, Bool.not_eq_true', Bool.not_eq_false'] at hc; omega) | (simp only [hc]; try simp only [decide_eq_true_eq, decide_eq_false_iff_not, Bool.not_eq_true, Bool.not_eq_false, Bool.not_eq_true', Bool.not_eq_false'] at hc))
    | (refine after_need (by omega) ?_)
    | (refine drawAfter_need (by omega) ?_))
  exact fin_same trivial rfl

theorem base_Clip (x lo hi : Int) : CallOK Tryd.prog gl 18 [.v (.int .i64 x), .v (.int .i64 lo), .v (.int .i64 hi)] (.v (.int .i64 (clip x lo hi))) := by
  refine call_ok (C := ⟨Tryd.prog, gl, ti, 12, false⟩) ti_ok mixed 3000 Tryd.call18 Tryd.func18 rfl Tryd.ntmps18 (by simp) byClL byCl ?_
  rw [Tryd.results18]
  repeat' (first
    | (simp only [go_sem, Int.reduceAdd, Int.reduceEq, Int.reduceLE, Int.reduceLT, Int.reduceMul, Int.reduceNeg, Int.reducePow, Int.reduceSub, Int.reduceToNat, Nat.reduceAdd, Nat.reduceBEq, Nat.reduceEqDiff, Nat.reduceLT, Nat.reduceLeDiff, Nat.reduceMul, Nat.reducePow, Nat.reduceSub, reduceCtorEq, reduceIte, IntKind.bits.eq_def, ti, tin])
    | (simp (disch := omega) only [w64, wu64, wu32, Nat.min_eq_left])
    | (refine after_lit ti_ok ?_)
    | (refine drawAfter_lit ti_ok ?_)
    | (refine drawEnd_of (by kernel_rfl) ?_)
    | ((first | refine cond_cases (fun hc => ?_) (fun hc => ?_) | refine guard_split (fun hc => ?_) (fun hc => ?_) | refine drawGuard_split (fun hc => ?_) (fun hc => ?_)) <;> first | (exfalso; simp only [decide_eq_true_eq, decide_eq_false_iff_not, Bool.not_eq_true, Bool.not_eq_false, Bool.not_eq_true', Bool.not_eq_false'] at hc; omega) | (simp only [hc]; try simp only [decide_eq_true_eq, decide_eq_false_iff_not, Bool.not_eq_true, Bool.not_eq_false, Bool.not_eq_true', Bool.not_eq_false'] at hc))
    | (refine after_need (by omega) ?_)
    | (refine drawAfter_need (by omega) ?_))
  exact fin_same trivial rfl

theorem base_Div (a b : Int) (ha : -9223372036854775808 ≤ a ∧ a ≤ 9223372036854775807) (hb : 0 < b) : CallOK Tryd.prog gl 49 [.v (.int .i64 a), .v (.int .i64 b)] (.v (.int .i64 (a / b))) := by
  refine call_ok (C := ⟨Tryd.prog, gl, ti, 16, false⟩) ti_ok mixed 3000 Tryd.call49 Tryd.func49 rfl Tryd.ntmps49 (by simp) byClL byCl ?_
  rw [Tryd.results49]
  have hd := div_floor (a := a) hb
  have hq := tdiv_bd hb ha
  have hq2 := ediv_bd hb ha
  repeat' (first
    | (simp only [go_sem, Int.reduceAdd, Int.reduceEq, Int.reduceLE, Int.reduceLT, Int.reduceMul, Int.reduceNeg, Int.reducePow, Int.reduceSub, Int.reduceToNat, Nat.reduceAdd, Nat.reduceBEq, Nat.reduceEqDiff, Nat.reduceLT, Nat.reduceLeDiff, Nat.reduceMul, Nat.reducePow, Nat.reduceSub, reduceCtorEq, reduceIte, IntKind.bits.eq_def, ti, tin])
    | (simp (disch := omega) only [w64, wu64, wu32, Nat.min_eq_left])
    | (refine after_lit ti_ok ?_)
    | (refine drawAfter_lit ti_ok ?_)
    | (refine drawEnd_of (by kernel_rfl) ?_)
    | ((first | refine cond_cases (fun hc => ?_) (fun hc => ?_) | refine guard_split (fun hc => ?_) (fun hc => ?_) | refine drawGuard_split (fun hc => ?_) (fun hc => ?_)) <;> first | (exfalso; simp only [decide_eq_true_eq, decide_eq_false_iff_not, Bool.not_eq_true, Bool.not_eq_false, Bool.not_eq_true', Bool.not_eq_false'] at hc; omega) | (simp only [hc]; try simp only [decide_eq_true_eq, decide_eq_false_iff_not, Bool.not_eq_true, Bool.not_eq_false, Bool.not_eq_true', Bool.not_eq_false'] at hc))
    | (refine after_need (by omega) ?_)
    | (refine drawAfter_need (by omega) ?_))
  · rw [if_pos (by simpa using hc)] at hd
    refine fin_same trivial ?_
    simp (disch := omega) only [one, w64, hd]
  · rw [if_neg (by simpa using hc)] at hd
    refine fin_same trivial ?_
    simp (disch := omega) only [one, w64, hd]

def piBad (kp ki lo hi : Int) : Prop := kp < 0 ∨ 1048576 < kp ∨ ki < 0 ∨ 1048576 < ki ∨ lo < -16777216 ∨ 0 < lo ∨ hi < 0 ∨ 16777216 < hi

theorem pi_Check_ok (kp ki lo hi : Int) (h : ¬ piBad kp ki lo hi) : CallOK Tryd.prog gl 100 [.agg [.v (.int .i64 kp), .v (.int .i64 ki), .v (.int .i64 lo), .v (.int .i64 hi)]] (.v .nilIface) := by
  refine call_ok (C := ⟨Tryd.prog, gl, ti, 35, false⟩) ti_ok mixed 3000 Tryd.call100 Tryd.func100 rfl Tryd.ntmps100 (by simp) byClL byCl ?_
  rw [Tryd.results100]
  unfold piBad at h
  repeat' (first
    | (simp only [go_sem, Int.reduceAdd, Int.reduceEq, Int.reduceLE, Int.reduceLT, Int.reduceMul, Int.reduceNeg, Int.reducePow, Int.reduceSub, Int.reduceToNat, Nat.reduceAdd, Nat.reduceBEq, Nat.reduceEqDiff, Nat.reduceLT, Nat.reduceLeDiff, Nat.reduceMul, Nat.reducePow, Nat.reduceSub, reduceCtorEq, reduceIte, IntKind.bits.eq_def, ti, tin])
    | (simp (disch := omega) only [w64, wu64, wu32, Nat.min_eq_left])
    | (refine l_unroll 5 _ rfl ?_)
    | (refine after_lit ti_ok ?_)
    | (refine drawAfter_lit ti_ok ?_)
    | (refine drawEnd_of (by kernel_rfl) ?_)
    | ((first | refine cond_cases (fun hc => ?_) (fun hc => ?_) | refine guard_split (fun hc => ?_) (fun hc => ?_) | refine drawGuard_split (fun hc => ?_) (fun hc => ?_)) <;> first | (exfalso; simp only [decide_eq_true_eq, decide_eq_false_iff_not, Bool.not_eq_true, Bool.not_eq_false, Bool.not_eq_true', Bool.not_eq_false'] at hc; omega) | (simp only [hc]; try simp only [decide_eq_true_eq, decide_eq_false_iff_not, Bool.not_eq_true, Bool.not_eq_false, Bool.not_eq_true', Bool.not_eq_false'] at hc))
    | (refine after_need (by omega) ?_)
    | (refine drawAfter_need (by omega) ?_))
  all_goals exact fin_same trivial rfl
theorem pi_Check_bad (kp ki lo hi : Int) (h : piBad kp ki lo hi) : CallOK Tryd.prog gl 100 [.agg [.v (.int .i64 kp), .v (.int .i64 ki), .v (.int .i64 lo), .v (.int .i64 hi)]] (.v (.iface 71 (.int .i64 3))) := by
  refine call_ok (C := ⟨Tryd.prog, gl, ti, 35, false⟩) ti_ok mixed 3000 Tryd.call100 Tryd.func100 rfl Tryd.ntmps100 (by simp) byClL byCl ?_
  rw [Tryd.results100]
  unfold piBad at h
  repeat' (first
    | (simp only [go_sem, Int.reduceAdd, Int.reduceEq, Int.reduceLE, Int.reduceLT, Int.reduceMul, Int.reduceNeg, Int.reducePow, Int.reduceSub, Int.reduceToNat, Nat.reduceAdd, Nat.reduceBEq, Nat.reduceEqDiff, Nat.reduceLT, Nat.reduceLeDiff, Nat.reduceMul, Nat.reducePow, Nat.reduceSub, reduceCtorEq, reduceIte, IntKind.bits.eq_def, ti, tin])
    | (simp (disch := omega) only [w64, wu64, wu32, Nat.min_eq_left])
    | (refine l_unroll 5 _ rfl ?_)
    | (refine after_lit ti_ok ?_)
    | (refine drawAfter_lit ti_ok ?_)
    | (refine drawEnd_of (by kernel_rfl) ?_)
    | ((first | refine cond_cases (fun hc => ?_) (fun hc => ?_) | refine guard_split (fun hc => ?_) (fun hc => ?_) | refine drawGuard_split (fun hc => ?_) (fun hc => ?_)) <;> first | (exfalso; simp only [decide_eq_true_eq, decide_eq_false_iff_not, Bool.not_eq_true, Bool.not_eq_false, Bool.not_eq_true', Bool.not_eq_false'] at hc; omega) | (simp only [hc]; try simp only [decide_eq_true_eq, decide_eq_false_iff_not, Bool.not_eq_true, Bool.not_eq_false, Bool.not_eq_true', Bool.not_eq_false'] at hc))
    | (refine after_need (by omega) ?_)
    | (refine drawAfter_need (by omega) ?_))
  all_goals exact fin_same trivial rfl
theorem ref34_Check_ok (kp ki lo hi : Int) (h : ¬ piBad kp ki lo hi) : CallOK Tryd.prog gl 101 [.agg [.v (.int .i64 kp), .v (.int .i64 ki), .v (.int .i64 lo), .v (.int .i64 hi)]] (.v (.int .i64 0)) := by
  refine call_ok (C := ⟨Tryd.prog, gl, ti, 41, false⟩) ti_ok mixed 3000 Tryd.call101 Tryd.func101 rfl Tryd.ntmps101 (by simp) byClL byCl ?_
  rw [Tryd.results101]
  unfold piBad at h
  repeat' (first
    | (simp only [go_sem, Int.reduceAdd, Int.reduceEq, Int.reduceLE, Int.reduceLT, Int.reduceMul, Int.reduceNeg, Int.reducePow, Int.reduceSub, Int.reduceToNat, Nat.reduceAdd, Nat.reduceBEq, Nat.reduceEqDiff, Nat.reduceLT, Nat.reduceLeDiff, Nat.reduceMul, Nat.reducePow, Nat.reduceSub, reduceCtorEq, reduceIte, IntKind.bits.eq_def, ti, tin])
    | (simp (disch := omega) only [w64, wu64, wu32, Nat.min_eq_left])
    | (refine after_lit ti_ok ?_)
    | (refine drawAfter_lit ti_ok ?_)
    | (refine drawEnd_of (by kernel_rfl) ?_)
    | ((first | refine cond_cases (fun hc => ?_) (fun hc => ?_) | refine guard_split (fun hc => ?_) (fun hc => ?_) | refine drawGuard_split (fun hc => ?_) (fun hc => ?_)) <;> first | (exfalso; simp only [decide_eq_true_eq, decide_eq_false_iff_not, Bool.not_eq_true, Bool.not_eq_false, Bool.not_eq_true', Bool.not_eq_false'] at hc; omega) | (simp only [hc]; try simp only [decide_eq_true_eq, decide_eq_false_iff_not, Bool.not_eq_true, Bool.not_eq_false, Bool.not_eq_true', Bool.not_eq_false'] at hc))
    | (refine after_need (by omega) ?_)
    | (refine drawAfter_need (by omega) ?_))
  all_goals exact fin_same trivial rfl
theorem ref34_Check_bad (kp ki lo hi : Int) (h : piBad kp ki lo hi) : CallOK Tryd.prog gl 101 [.agg [.v (.int .i64 kp), .v (.int .i64 ki), .v (.int .i64 lo), .v (.int .i64 hi)]] (.v (.int .i64 3)) := by
  refine call_ok (C := ⟨Tryd.prog, gl, ti, 41, false⟩) ti_ok mixed 3000 Tryd.call101 Tryd.func101 rfl Tryd.ntmps101 (by simp) byClL byCl ?_
  rw [Tryd.results101]
  unfold piBad at h
  repeat' (first
    | (simp only [go_sem, Int.reduceAdd, Int.reduceEq, Int.reduceLE, Int.reduceLT, Int.reduceMul, Int.reduceNeg, Int.reducePow, Int.reduceSub, Int.reduceToNat, Nat.reduceAdd, Nat.reduceBEq, Nat.reduceEqDiff, Nat.reduceLT, Nat.reduceLeDiff, Nat.reduceMul, Nat.reducePow, Nat.reduceSub, reduceCtorEq, reduceIte, IntKind.bits.eq_def, ti, tin])
    | (simp (disch := omega) only [w64, wu64, wu32, Nat.min_eq_left])
    | (refine after_lit ti_ok ?_)
    | (refine drawAfter_lit ti_ok ?_)
    | (refine drawEnd_of (by kernel_rfl) ?_)
    | ((first | refine cond_cases (fun hc => ?_) (fun hc => ?_) | refine guard_split (fun hc => ?_) (fun hc => ?_) | refine drawGuard_split (fun hc => ?_) (fun hc => ?_)) <;> first | (exfalso; simp only [decide_eq_true_eq, decide_eq_false_iff_not, Bool.not_eq_true, Bool.not_eq_false, Bool.not_eq_true', Bool.not_eq_false'] at hc; omega) | (simp only [hc]; try simp only [decide_eq_true_eq, decide_eq_false_iff_not, Bool.not_eq_true, Bool.not_eq_false, Bool.not_eq_true', Bool.not_eq_false'] at hc))
    | (refine after_need (by omega) ?_)
    | (refine drawAfter_need (by omega) ?_))
  all_goals exact fin_same trivial rfl

def piU (kp ki lo hi s e : Int) : Int := clip s (lo * 4096) (hi * 4096) + ki * clip e (-16777216) 16777216 + kp * clip e (-16777216) 16777216
def piV (kp ki lo hi s e : Int) : Int :=
  if (hi * 4096 < piU kp ki lo hi s e ∧ 0 < clip e (-16777216) 16777216) ∨ (piU kp ki lo hi s e < lo * 4096 ∧ clip e (-16777216) 16777216 < 0) then clip s (lo * 4096) (hi * 4096) else clip s (lo * 4096) (hi * 4096) + ki * clip e (-16777216) 16777216
theorem piV_pos {kp ki lo hi s e : Int} (h : (hi * 4096 < clip s (lo * 4096) (hi * 4096) + ki * clip e (-16777216) 16777216 + kp * clip e (-16777216) 16777216 ∧ 0 < clip e (-16777216) 16777216) ∨ (clip s (lo * 4096) (hi * 4096) + ki * clip e (-16777216) 16777216 + kp * clip e (-16777216) 16777216 < lo * 4096 ∧ clip e (-16777216) 16777216 < 0)) : piV kp ki lo hi s e = clip s (lo * 4096) (hi * 4096) := if_pos h
theorem piV_neg {kp ki lo hi s e : Int} (h : ¬ ((hi * 4096 < clip s (lo * 4096) (hi * 4096) + ki * clip e (-16777216) 16777216 + kp * clip e (-16777216) 16777216 ∧ 0 < clip e (-16777216) 16777216) ∨ (clip s (lo * 4096) (hi * 4096) + ki * clip e (-16777216) 16777216 + kp * clip e (-16777216) 16777216 < lo * 4096 ∧ clip e (-16777216) 16777216 < 0))) : piV kp ki lo hi s e = clip s (lo * 4096) (hi * 4096) + ki * clip e (-16777216) 16777216 := if_neg h
def piS (kp ki lo hi s e : Int) : Int := clip (piV kp ki lo hi s e) (lo * 4096) (hi * 4096)
def piO (kp ki lo hi s e : Int) : Int := clip (piU kp ki lo hi s e / 4096) lo hi

theorem pi_Step (kp ki lo hi s e : Int) (h : ¬ piBad kp ki lo hi) : CallOK Tryd.prog gl 98 [.agg [.v (.int .i64 kp), .v (.int .i64 ki), .v (.int .i64 lo), .v (.int .i64 hi)], .agg [.v (.int .i64 s)], .v (.int .i64 e)] (.tup [.agg [.v (.int .i64 (piS kp ki lo hi s e))], .v (.int .i64 (piO kp ki lo hi s e)), .v .nilIface]) := by
  refine call_ok (C := ⟨Tryd.prog, gl, ti, 75, false⟩) ti_ok mixed 3000 Tryd.call98 Tryd.func98 rfl Tryd.ntmps98 (by simp) byClL byCl ?_
  rw [Tryd.results98]
  have h' := h
  unfold piBad at h'
  have b1 := clip_bd (lo := -16777216) (hi := 16777216) (by omega) e
  have b2 := clip_bd (lo := lo * 4096) (hi := hi * 4096) (by omega) s
  have b3 := mul_bd (a := ki) (A := 1048576) (by omega) b1
  have b4 := mul_bd (a := kp) (A := 1048576) (by omega) b1
  repeat' (first
    | (simp only [go_sem, Int.reduceAdd, Int.reduceEq, Int.reduceLE, Int.reduceLT, Int.reduceMul, Int.reduceNeg, Int.reducePow, Int.reduceSub, Int.reduceToNat, Nat.reduceAdd, Nat.reduceBEq, Nat.reduceEqDiff, Nat.reduceLT, Nat.reduceLeDiff, Nat.reduceMul, Nat.reducePow, Nat.reduceSub, reduceCtorEq, reduceIte, IntKind.bits.eq_def, ti, tin])
    | (simp (disch := omega) only [w64, wu64, wu32, Nat.min_eq_left])
    | (with_reducible refine callF_of (pi_clip _ _ _) ?_)
    | (with_reducible refine drawF_of (pi_clip _ _ _) ?_)
    | (with_reducible refine callF_of (pi_Check_ok _ _ _ _ h) ?_)
    | (with_reducible refine drawF_of (pi_Check_ok _ _ _ _ h) ?_)
    | (refine after_lit ti_ok ?_)
    | (refine drawAfter_lit ti_ok ?_)
    | (refine drawEnd_of (by kernel_rfl) ?_)
    | ((first | refine cond_cases (fun hc => ?_) (fun hc => ?_) | refine guard_split (fun hc => ?_) (fun hc => ?_) | refine drawGuard_split (fun hc => ?_) (fun hc => ?_)) <;> first | (exfalso; simp only [decide_eq_true_eq, decide_eq_false_iff_not, Bool.not_eq_true, Bool.not_eq_false, Bool.not_eq_true', Bool.not_eq_false'] at hc; omega) | (simp only [hc]; try simp only [decide_eq_true_eq, decide_eq_false_iff_not, Bool.not_eq_true, Bool.not_eq_false, Bool.not_eq_true', Bool.not_eq_false'] at hc))
    | (refine after_need (by omega) ?_)
    | (refine drawAfter_need (by omega) ?_))
  all_goals
    refine fin_same trivial ?_
    simp only [one, piS, piO, piU]
    first | rw [piV_pos (by omega)] | rw [piV_neg (by omega)]
theorem pi_Step_bad (kp ki lo hi s e : Int) (h : piBad kp ki lo hi) : CallOK Tryd.prog gl 98 [.agg [.v (.int .i64 kp), .v (.int .i64 ki), .v (.int .i64 lo), .v (.int .i64 hi)], .agg [.v (.int .i64 s)], .v (.int .i64 e)] (.tup [.agg [.v (.int .i64 0)], .v (.int .i64 0), .v (.iface 71 (.int .i64 3))]) := by
  refine call_ok (C := ⟨Tryd.prog, gl, ti, 75, false⟩) ti_ok mixed 3000 Tryd.call98 Tryd.func98 rfl Tryd.ntmps98 (by simp) byClL byCl ?_
  rw [Tryd.results98]
  repeat' (first
    | (simp only [go_sem, Int.reduceAdd, Int.reduceEq, Int.reduceLE, Int.reduceLT, Int.reduceMul, Int.reduceNeg, Int.reducePow, Int.reduceSub, Int.reduceToNat, Nat.reduceAdd, Nat.reduceBEq, Nat.reduceEqDiff, Nat.reduceLT, Nat.reduceLeDiff, Nat.reduceMul, Nat.reducePow, Nat.reduceSub, reduceCtorEq, reduceIte, IntKind.bits.eq_def, ti, tin])
    | (simp (disch := omega) only [w64, wu64, wu32, Nat.min_eq_left])
    | (with_reducible refine callF_of (pi_clip _ _ _) ?_)
    | (with_reducible refine drawF_of (pi_clip _ _ _) ?_)
    | (with_reducible refine callF_of (pi_Check_bad _ _ _ _ h) ?_)
    | (with_reducible refine drawF_of (pi_Check_bad _ _ _ _ h) ?_)
    | (refine after_lit ti_ok ?_)
    | (refine drawAfter_lit ti_ok ?_)
    | (refine drawEnd_of (by kernel_rfl) ?_)
    | ((first | refine cond_cases (fun hc => ?_) (fun hc => ?_) | refine guard_split (fun hc => ?_) (fun hc => ?_) | refine drawGuard_split (fun hc => ?_) (fun hc => ?_)) <;> first | (exfalso; simp only [decide_eq_true_eq, decide_eq_false_iff_not, Bool.not_eq_true, Bool.not_eq_false, Bool.not_eq_true', Bool.not_eq_false'] at hc; omega) | (simp only [hc]; try simp only [decide_eq_true_eq, decide_eq_false_iff_not, Bool.not_eq_true, Bool.not_eq_false, Bool.not_eq_true', Bool.not_eq_false'] at hc))
    | (refine after_need (by omega) ?_)
    | (refine drawAfter_need (by omega) ?_))
  exact fin_same trivial rfl
end Go.Proofs.YtfoadddlmehpnaaDoor
