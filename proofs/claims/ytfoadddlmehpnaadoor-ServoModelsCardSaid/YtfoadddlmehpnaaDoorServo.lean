/- Layer 38 (servo) and its reference. -/
import Derived.Test.YtfoadddlmehpnaaDoorPi
import Derived.Test.YtfoadddlmehpnaaDoorNum
set_option linter.unusedSimpArgs false
set_option linter.unusedVariables false
set_option linter.deprecated false
namespace Go.Proofs.YtfoadddlmehpnaaDoor
open Go Go.Ax
set_option maxRecDepth 100000
set_option maxHeartbeats 2000000

def svBad (kv sh kp ki lo hi : Int) : Prop := piBad kp ki lo hi ∨ kv < 0 ∨ 4096 < kv ∨ sh < 0 ∨ 30 < sh
def sp (x : Int) : Int := clip x (-1073741824) 1073741824
theorem sp_bd (x : Int) : -1073741824 ≤ sp x ∧ sp x ≤ 1073741824 := clip_bd (by omega) x
def svD (rp p : Int) : Int := clip rp (-1152921504606846976) 1152921504606846976 - clip p (-1152921504606846976) 1152921504606846976
def svW (kv rp rv p : Int) : Int := sp (sp rv + kv * clip (svD rp p) (-562949953421312) 562949953421312 / 4096)
def svE (kv sh rp rv p v : Int) : Int := (svW kv rp rv p - sp v) / 2 ^ sh.toNat
def svM (l : Int) : Int := clip l 0 16777216
def svT (kv sh kp ki lo hi s rp rv p v l : Int) : Int := clip (piO kp ki lo hi s (svE kv sh rp rv p v)) (-svM l) (svM l)
def svS (kv sh kp ki lo hi s rp rv p v l : Int) : Int :=
  if (svM l < piO kp ki lo hi s (svE kv sh rp rv p v) ∧ 0 < svE kv sh rp rv p v) ∨ (piO kp ki lo hi s (svE kv sh rp rv p v) < -svM l ∧ svE kv sh rp rv p v < 0) then clip s (lo * 4096) (hi * 4096) else piS kp ki lo hi s (svE kv sh rp rv p v)
theorem svD_bd (rp p : Int) : -2305843009213693952 ≤ svD rp p ∧ svD rp p ≤ 2305843009213693952 := by
  have b1 := clip_bd (lo := -1152921504606846976) (hi := 1152921504606846976) (by omega) rp
  have b2 := clip_bd (lo := -1152921504606846976) (hi := 1152921504606846976) (by omega) p
  unfold svD; omega
theorem svM_bd (l : Int) : 0 ≤ svM l ∧ svM l ≤ 16777216 := clip_bd (by omega) l
theorem svW_bd (kv rp rv p : Int) : -1073741824 ≤ svW kv rp rv p ∧ svW kv rp rv p ≤ 1073741824 := sp_bd _

theorem servo_speed (x : Int) : CallOK Tryd.prog gl 97 [.v (.int .i64 x)] (.v (.int .i64 (sp x))) := by
  refine call_ok (C := ⟨Tryd.prog, gl, ti, 5, false⟩) ti_ok mixed 3000 Tryd.call97 Tryd.func97 rfl Tryd.ntmps97 (by simp) byClL byCl ?_
  rw [Tryd.results97]
  repeat' (first
    | (simp only [go_sem, Int.reduceAdd, Int.reduceEq, Int.reduceLE, Int.reduceLT, Int.reduceMul, Int.reduceNeg, Int.reducePow, Int.reduceSub, Int.reduceToNat, Nat.reduceAdd, Nat.reduceBEq, Nat.reduceEqDiff, Nat.reduceLT, Nat.reduceLeDiff, Nat.reduceMul, Nat.reducePow, Nat.reduceSub, reduceCtorEq, reduceIte, IntKind.bits.eq_def, ti, tin])
    | (simp (disch := omega) only [w64, wu64, wu32, Nat.min_eq_left])
    | (with_reducible refine callF_of (servo_clip _ _ _) ?_)
    | (with_reducible refine drawF_of (servo_clip _ _ _) ?_)
    | (refine after_lit ti_ok ?_)
    | (refine drawAfter_lit ti_ok ?_)
    | (refine drawEnd_of (by kernel_rfl) ?_)
    | ((first | refine cond_cases (fun hc => ?_) (fun hc => ?_) | refine guard_split (fun hc => ?_) (fun hc => ?_) | refine drawGuard_split (fun hc => ?_) (fun hc => ?_)) <;> first | (exfalso; simp only [decide_eq_true_eq, decide_eq_false_iff_not, Bool.not_eq_true, Bool.not_eq_false, Bool.not_eq_true', Bool.not_eq_false'] at hc; omega) | (simp only [hc]; try simp only [decide_eq_true_eq, decide_eq_false_iff_not, Bool.not_eq_true, Bool.not_eq_false, Bool.not_eq_true', Bool.not_eq_false'] at hc))
    | (refine after_need (by omega) ?_)
    | (refine drawAfter_need (by omega) ?_))
  exact fin_same trivial rfl
theorem servo_wanted (kv sh kp ki lo hi rp rv p v l : Int) (h1 : 0 ≤ kv ∧ kv ≤ 4096) : CallOK Tryd.prog gl 96 [.agg [.v (.int .i64 kv), .v (.int .i64 sh), .v (.int .i64 kp), .v (.int .i64 ki), .v (.int .i64 lo), .v (.int .i64 hi)], .agg [.v (.int .i64 rp), .v (.int .i64 rv), .v (.int .i64 p), .v (.int .i64 v), .v (.int .i64 l)]] (.v (.int .i64 (svW kv rp rv p))) := by
  refine call_ok (C := ⟨Tryd.prog, gl, ti, 24, false⟩) ti_ok mixed 3000 Tryd.call96 Tryd.func96 rfl Tryd.ntmps96 (by simp) byClL byCl ?_
  rw [Tryd.results96]
  have b1 := clip_bd (lo := -1152921504606846976) (hi := 1152921504606846976) (by omega) rp
  have b2 := clip_bd (lo := -1152921504606846976) (hi := 1152921504606846976) (by omega) p
  have b3 := sp_bd rv
  have b4 := clip_bd (lo := -562949953421312) (hi := 562949953421312) (by omega) (clip rp (-1152921504606846976) 1152921504606846976 - clip p (-1152921504606846976) 1152921504606846976)
  have b5 := mul_bd (a := kv) (A := 4096) (by omega) b4
  repeat' (first
    | (simp only [go_sem, Int.reduceAdd, Int.reduceEq, Int.reduceLE, Int.reduceLT, Int.reduceMul, Int.reduceNeg, Int.reducePow, Int.reduceSub, Int.reduceToNat, Nat.reduceAdd, Nat.reduceBEq, Nat.reduceEqDiff, Nat.reduceLT, Nat.reduceLeDiff, Nat.reduceMul, Nat.reducePow, Nat.reduceSub, reduceCtorEq, reduceIte, IntKind.bits.eq_def, ti, tin])
    | (simp (disch := omega) only [w64, wu64, wu32, Nat.min_eq_left])
    | (with_reducible refine callF_of (servo_clip _ _ _) ?_)
    | (with_reducible refine drawF_of (servo_clip _ _ _) ?_)
    | (with_reducible refine callF_of (servo_speed _) ?_)
    | (with_reducible refine drawF_of (servo_speed _) ?_)
    | (refine after_lit ti_ok ?_)
    | (refine drawAfter_lit ti_ok ?_)
    | (refine drawEnd_of (by kernel_rfl) ?_)
    | ((first | refine cond_cases (fun hc => ?_) (fun hc => ?_) | refine guard_split (fun hc => ?_) (fun hc => ?_) | refine drawGuard_split (fun hc => ?_) (fun hc => ?_)) <;> first | (exfalso; simp only [decide_eq_true_eq, decide_eq_false_iff_not, Bool.not_eq_true, Bool.not_eq_false, Bool.not_eq_true', Bool.not_eq_false'] at hc; omega) | (simp only [hc]; try simp only [decide_eq_true_eq, decide_eq_false_iff_not, Bool.not_eq_true, Bool.not_eq_false, Bool.not_eq_true', Bool.not_eq_false'] at hc))
    | (refine after_need (by omega) ?_)
    | (refine drawAfter_need (by omega) ?_))
  exact fin_same trivial rfl
theorem servo_Check (kv sh kp ki lo hi : Int) (h : ¬ svBad kv sh kp ki lo hi) : CallOK Tryd.prog gl 63 [.agg [.v (.int .i64 kv), .v (.int .i64 sh), .v (.int .i64 kp), .v (.int .i64 ki), .v (.int .i64 lo), .v (.int .i64 hi)]] (.v .nilIface) := by
  refine call_ok (C := ⟨Tryd.prog, gl, ti, 29, false⟩) ti_ok mixed 3000 Tryd.call63 Tryd.func63 rfl Tryd.ntmps63 (by simp) byClL byCl ?_
  rw [Tryd.results63]
  have h2 : ¬ piBad kp ki lo hi := fun q => h (.inl q)
  unfold svBad at h
  repeat' (first
    | (simp only [go_sem, Int.reduceAdd, Int.reduceEq, Int.reduceLE, Int.reduceLT, Int.reduceMul, Int.reduceNeg, Int.reducePow, Int.reduceSub, Int.reduceToNat, Nat.reduceAdd, Nat.reduceBEq, Nat.reduceEqDiff, Nat.reduceLT, Nat.reduceLeDiff, Nat.reduceMul, Nat.reducePow, Nat.reduceSub, reduceCtorEq, reduceIte, IntKind.bits.eq_def, ti, tin])
    | (simp (disch := omega) only [w64, wu64, wu32, Nat.min_eq_left])
    | (with_reducible refine callF_of (pi_Check_ok _ _ _ _ h2) ?_)
    | (with_reducible refine drawF_of (pi_Check_ok _ _ _ _ h2) ?_)
    | (refine after_lit ti_ok ?_)
    | (refine drawAfter_lit ti_ok ?_)
    | (refine drawEnd_of (by kernel_rfl) ?_)
    | ((first | refine cond_cases (fun hc => ?_) (fun hc => ?_) | refine guard_split (fun hc => ?_) (fun hc => ?_) | refine drawGuard_split (fun hc => ?_) (fun hc => ?_)) <;> first | (exfalso; simp only [decide_eq_true_eq, decide_eq_false_iff_not, Bool.not_eq_true, Bool.not_eq_false, Bool.not_eq_true', Bool.not_eq_false'] at hc; omega) | (simp only [hc]; try simp only [decide_eq_true_eq, decide_eq_false_iff_not, Bool.not_eq_true, Bool.not_eq_false, Bool.not_eq_true', Bool.not_eq_false'] at hc))
    | (refine after_need (by omega) ?_)
    | (refine drawAfter_need (by omega) ?_))
  exact fin_same trivial rfl
theorem servo_Check_bad (kv sh kp ki lo hi : Int) (h : svBad kv sh kp ki lo hi) : CallOK Tryd.prog gl 63 [.agg [.v (.int .i64 kv), .v (.int .i64 sh), .v (.int .i64 kp), .v (.int .i64 ki), .v (.int .i64 lo), .v (.int .i64 hi)]] (.v (.iface 71 (.int .i64 3))) := by
  refine call_ok (C := ⟨Tryd.prog, gl, ti, 29, false⟩) ti_ok mixed 3000 Tryd.call63 Tryd.func63 rfl Tryd.ntmps63 (by simp) byClL byCl ?_
  rw [Tryd.results63]
  by_cases h' : piBad kp ki lo hi
  ·
    repeat' (first
      | (simp only [go_sem, Int.reduceAdd, Int.reduceEq, Int.reduceLE, Int.reduceLT, Int.reduceMul, Int.reduceNeg, Int.reducePow, Int.reduceSub, Int.reduceToNat, Nat.reduceAdd, Nat.reduceBEq, Nat.reduceEqDiff, Nat.reduceLT, Nat.reduceLeDiff, Nat.reduceMul, Nat.reducePow, Nat.reduceSub, reduceCtorEq, reduceIte, IntKind.bits.eq_def, ti, tin])
      | (simp (disch := omega) only [w64, wu64, wu32, Nat.min_eq_left])
      | (with_reducible refine callF_of (pi_Check_bad _ _ _ _ h') ?_)
      | (with_reducible refine drawF_of (pi_Check_bad _ _ _ _ h') ?_)
      | (refine after_lit ti_ok ?_)
      | (refine drawAfter_lit ti_ok ?_)
      | (refine drawEnd_of (by kernel_rfl) ?_)
      | ((first | refine cond_cases (fun hc => ?_) (fun hc => ?_) | refine guard_split (fun hc => ?_) (fun hc => ?_) | refine drawGuard_split (fun hc => ?_) (fun hc => ?_)) <;> first | (exfalso; simp only [decide_eq_true_eq, decide_eq_false_iff_not, Bool.not_eq_true, Bool.not_eq_false, Bool.not_eq_true', Bool.not_eq_false'] at hc; omega) | (simp only [hc]; try simp only [decide_eq_true_eq, decide_eq_false_iff_not, Bool.not_eq_true, Bool.not_eq_false, Bool.not_eq_true', Bool.not_eq_false'] at hc))
      | (refine after_need (by omega) ?_)
      | (refine drawAfter_need (by omega) ?_))
    exact fin_same trivial rfl
  · have h : kv < 0 ∨ 4096 < kv ∨ sh < 0 ∨ 30 < sh := by rcases h with h | h; exact absurd h h'; exact h
    repeat' (first
      | (simp only [go_sem, Int.reduceAdd, Int.reduceEq, Int.reduceLE, Int.reduceLT, Int.reduceMul, Int.reduceNeg, Int.reducePow, Int.reduceSub, Int.reduceToNat, Nat.reduceAdd, Nat.reduceBEq, Nat.reduceEqDiff, Nat.reduceLT, Nat.reduceLeDiff, Nat.reduceMul, Nat.reducePow, Nat.reduceSub, reduceCtorEq, reduceIte, IntKind.bits.eq_def, ti, tin])
      | (simp (disch := omega) only [w64, wu64, wu32, Nat.min_eq_left])
      | (with_reducible refine callF_of (pi_Check_ok _ _ _ _ h') ?_)
      | (with_reducible refine drawF_of (pi_Check_ok _ _ _ _ h') ?_)
      | (refine after_lit ti_ok ?_)
      | (refine drawAfter_lit ti_ok ?_)
      | (refine drawEnd_of (by kernel_rfl) ?_)
      | ((first | refine cond_cases (fun hc => ?_) (fun hc => ?_) | refine guard_split (fun hc => ?_) (fun hc => ?_) | refine drawGuard_split (fun hc => ?_) (fun hc => ?_)) <;> first | (exfalso; simp only [decide_eq_true_eq, decide_eq_false_iff_not, Bool.not_eq_true, Bool.not_eq_false, Bool.not_eq_true', Bool.not_eq_false'] at hc; omega) | (simp only [hc]; try simp only [decide_eq_true_eq, decide_eq_false_iff_not, Bool.not_eq_true, Bool.not_eq_false, Bool.not_eq_true', Bool.not_eq_false'] at hc))
      | (refine after_need (by omega) ?_)
      | (refine drawAfter_need (by omega) ?_))
    all_goals exact fin_same trivial rfl
theorem ref38_Check (kv sh kp ki lo hi : Int) (h : ¬ svBad kv sh kp ki lo hi) : CallOK Tryd.prog gl 69 [.agg [.v (.int .i64 kv), .v (.int .i64 sh), .v (.int .i64 kp), .v (.int .i64 ki), .v (.int .i64 lo), .v (.int .i64 hi)]] (.v (.int .i64 0)) := by
  refine call_ok (C := ⟨Tryd.prog, gl, ti, 28, false⟩) ti_ok mixed 3000 Tryd.call69 Tryd.func69 rfl Tryd.ntmps69 (by simp) byClL byCl ?_
  rw [Tryd.results69]
  have h2 : ¬ piBad kp ki lo hi := fun q => h (.inl q)
  unfold svBad at h
  repeat' (first
    | (simp only [go_sem, Int.reduceAdd, Int.reduceEq, Int.reduceLE, Int.reduceLT, Int.reduceMul, Int.reduceNeg, Int.reducePow, Int.reduceSub, Int.reduceToNat, Nat.reduceAdd, Nat.reduceBEq, Nat.reduceEqDiff, Nat.reduceLT, Nat.reduceLeDiff, Nat.reduceMul, Nat.reducePow, Nat.reduceSub, reduceCtorEq, reduceIte, IntKind.bits.eq_def, ti, tin])
    | (simp (disch := omega) only [w64, wu64, wu32, Nat.min_eq_left])
    | (with_reducible refine callF_of (ref34_Check_ok _ _ _ _ h2) ?_)
    | (with_reducible refine drawF_of (ref34_Check_ok _ _ _ _ h2) ?_)
    | (refine after_lit ti_ok ?_)
    | (refine drawAfter_lit ti_ok ?_)
    | (refine drawEnd_of (by kernel_rfl) ?_)
    | ((first | refine cond_cases (fun hc => ?_) (fun hc => ?_) | refine guard_split (fun hc => ?_) (fun hc => ?_) | refine drawGuard_split (fun hc => ?_) (fun hc => ?_)) <;> first | (exfalso; simp only [decide_eq_true_eq, decide_eq_false_iff_not, Bool.not_eq_true, Bool.not_eq_false, Bool.not_eq_true', Bool.not_eq_false'] at hc; omega) | (simp only [hc]; try simp only [decide_eq_true_eq, decide_eq_false_iff_not, Bool.not_eq_true, Bool.not_eq_false, Bool.not_eq_true', Bool.not_eq_false'] at hc))
    | (refine after_need (by omega) ?_)
    | (refine drawAfter_need (by omega) ?_))
  exact fin_same trivial rfl
theorem ref38_Check_bad (kv sh kp ki lo hi : Int) (h : svBad kv sh kp ki lo hi) : CallOK Tryd.prog gl 69 [.agg [.v (.int .i64 kv), .v (.int .i64 sh), .v (.int .i64 kp), .v (.int .i64 ki), .v (.int .i64 lo), .v (.int .i64 hi)]] (.v (.int .i64 3)) := by
  refine call_ok (C := ⟨Tryd.prog, gl, ti, 28, false⟩) ti_ok mixed 3000 Tryd.call69 Tryd.func69 rfl Tryd.ntmps69 (by simp) byClL byCl ?_
  rw [Tryd.results69]
  by_cases h' : piBad kp ki lo hi
  ·
    repeat' (first
      | (simp only [go_sem, Int.reduceAdd, Int.reduceEq, Int.reduceLE, Int.reduceLT, Int.reduceMul, Int.reduceNeg, Int.reducePow, Int.reduceSub, Int.reduceToNat, Nat.reduceAdd, Nat.reduceBEq, Nat.reduceEqDiff, Nat.reduceLT, Nat.reduceLeDiff, Nat.reduceMul, Nat.reducePow, Nat.reduceSub, reduceCtorEq, reduceIte, IntKind.bits.eq_def, ti, tin])
      | (simp (disch := omega) only [w64, wu64, wu32, Nat.min_eq_left])
      | (with_reducible refine callF_of (ref34_Check_bad _ _ _ _ h') ?_)
      | (with_reducible refine drawF_of (ref34_Check_bad _ _ _ _ h') ?_)
      | (refine after_lit ti_ok ?_)
      | (refine drawAfter_lit ti_ok ?_)
      | (refine drawEnd_of (by kernel_rfl) ?_)
      | ((first | refine cond_cases (fun hc => ?_) (fun hc => ?_) | refine guard_split (fun hc => ?_) (fun hc => ?_) | refine drawGuard_split (fun hc => ?_) (fun hc => ?_)) <;> first | (exfalso; simp only [decide_eq_true_eq, decide_eq_false_iff_not, Bool.not_eq_true, Bool.not_eq_false, Bool.not_eq_true', Bool.not_eq_false'] at hc; omega) | (simp only [hc]; try simp only [decide_eq_true_eq, decide_eq_false_iff_not, Bool.not_eq_true, Bool.not_eq_false, Bool.not_eq_true', Bool.not_eq_false'] at hc))
      | (refine after_need (by omega) ?_)
      | (refine drawAfter_need (by omega) ?_))
    exact fin_same trivial rfl
  · have h : kv < 0 ∨ 4096 < kv ∨ sh < 0 ∨ 30 < sh := by rcases h with h | h; exact absurd h h'; exact h
    repeat' (first
      | (simp only [go_sem, Int.reduceAdd, Int.reduceEq, Int.reduceLE, Int.reduceLT, Int.reduceMul, Int.reduceNeg, Int.reducePow, Int.reduceSub, Int.reduceToNat, Nat.reduceAdd, Nat.reduceBEq, Nat.reduceEqDiff, Nat.reduceLT, Nat.reduceLeDiff, Nat.reduceMul, Nat.reducePow, Nat.reduceSub, reduceCtorEq, reduceIte, IntKind.bits.eq_def, ti, tin])
      | (simp (disch := omega) only [w64, wu64, wu32, Nat.min_eq_left])
      | (with_reducible refine callF_of (ref34_Check_ok _ _ _ _ h') ?_)
      | (with_reducible refine drawF_of (ref34_Check_ok _ _ _ _ h') ?_)
      | (refine after_lit ti_ok ?_)
      | (refine drawAfter_lit ti_ok ?_)
      | (refine drawEnd_of (by kernel_rfl) ?_)
      | ((first | refine cond_cases (fun hc => ?_) (fun hc => ?_) | refine guard_split (fun hc => ?_) (fun hc => ?_) | refine drawGuard_split (fun hc => ?_) (fun hc => ?_)) <;> first | (exfalso; simp only [decide_eq_true_eq, decide_eq_false_iff_not, Bool.not_eq_true, Bool.not_eq_false, Bool.not_eq_true', Bool.not_eq_false'] at hc; omega) | (simp only [hc]; try simp only [decide_eq_true_eq, decide_eq_false_iff_not, Bool.not_eq_true, Bool.not_eq_false, Bool.not_eq_true', Bool.not_eq_false'] at hc))
      | (refine after_need (by omega) ?_)
      | (refine drawAfter_need (by omega) ?_))
    all_goals exact fin_same trivial rfl
theorem servo_Speed (kv sh kp ki lo hi rp rv p v l : Int) (h : ¬ svBad kv sh kp ki lo hi) : CallOK Tryd.prog gl 61 [.agg [.v (.int .i64 kv), .v (.int .i64 sh), .v (.int .i64 kp), .v (.int .i64 ki), .v (.int .i64 lo), .v (.int .i64 hi)], .agg [.v (.int .i64 rp), .v (.int .i64 rv), .v (.int .i64 p), .v (.int .i64 v), .v (.int .i64 l)]] (.tup [.v (.int .i64 (svW kv rp rv p)), .v .nilIface]) := by
  refine call_ok (C := ⟨Tryd.prog, gl, ti, 15, false⟩) ti_ok mixed 3000 Tryd.call61 Tryd.func61 rfl Tryd.ntmps61 (by simp) byClL byCl ?_
  rw [Tryd.results61]
  have h' := h
  unfold svBad at h'
  repeat' (first
    | (simp only [go_sem, Int.reduceAdd, Int.reduceEq, Int.reduceLE, Int.reduceLT, Int.reduceMul, Int.reduceNeg, Int.reducePow, Int.reduceSub, Int.reduceToNat, Nat.reduceAdd, Nat.reduceBEq, Nat.reduceEqDiff, Nat.reduceLT, Nat.reduceLeDiff, Nat.reduceMul, Nat.reducePow, Nat.reduceSub, reduceCtorEq, reduceIte, IntKind.bits.eq_def, ti, tin])
    | (simp (disch := omega) only [w64, wu64, wu32, Nat.min_eq_left])
    | (with_reducible refine callF_of (servo_Check _ _ _ _ _ _ h) ?_)
    | (with_reducible refine drawF_of (servo_Check _ _ _ _ _ _ h) ?_)
    | (with_reducible refine callF_of (servo_wanted _ _ _ _ _ _ _ _ _ _ _ (by omega)) ?_)
    | (with_reducible refine drawF_of (servo_wanted _ _ _ _ _ _ _ _ _ _ _ (by omega)) ?_)
    | (refine after_lit ti_ok ?_)
    | (refine drawAfter_lit ti_ok ?_)
    | (refine drawEnd_of (by kernel_rfl) ?_)
    | ((first | refine cond_cases (fun hc => ?_) (fun hc => ?_) | refine guard_split (fun hc => ?_) (fun hc => ?_) | refine drawGuard_split (fun hc => ?_) (fun hc => ?_)) <;> first | (exfalso; simp only [decide_eq_true_eq, decide_eq_false_iff_not, Bool.not_eq_true, Bool.not_eq_false, Bool.not_eq_true', Bool.not_eq_false'] at hc; omega) | (simp only [hc]; try simp only [decide_eq_true_eq, decide_eq_false_iff_not, Bool.not_eq_true, Bool.not_eq_false, Bool.not_eq_true', Bool.not_eq_false'] at hc))
    | (refine after_need (by omega) ?_)
    | (refine drawAfter_need (by omega) ?_))
  exact fin_same trivial rfl
theorem servo_Speed_bad (kv sh kp ki lo hi rp rv p v l : Int) (h : svBad kv sh kp ki lo hi) : CallOK Tryd.prog gl 61 [.agg [.v (.int .i64 kv), .v (.int .i64 sh), .v (.int .i64 kp), .v (.int .i64 ki), .v (.int .i64 lo), .v (.int .i64 hi)], .agg [.v (.int .i64 rp), .v (.int .i64 rv), .v (.int .i64 p), .v (.int .i64 v), .v (.int .i64 l)]] (.tup [.v (.int .i64 0), .v (.iface 71 (.int .i64 3))]) := by
  refine call_ok (C := ⟨Tryd.prog, gl, ti, 15, false⟩) ti_ok mixed 3000 Tryd.call61 Tryd.func61 rfl Tryd.ntmps61 (by simp) byClL byCl ?_
  rw [Tryd.results61]
  repeat' (first
    | (simp only [go_sem, Int.reduceAdd, Int.reduceEq, Int.reduceLE, Int.reduceLT, Int.reduceMul, Int.reduceNeg, Int.reducePow, Int.reduceSub, Int.reduceToNat, Nat.reduceAdd, Nat.reduceBEq, Nat.reduceEqDiff, Nat.reduceLT, Nat.reduceLeDiff, Nat.reduceMul, Nat.reducePow, Nat.reduceSub, reduceCtorEq, reduceIte, IntKind.bits.eq_def, ti, tin])
    | (simp (disch := omega) only [w64, wu64, wu32, Nat.min_eq_left])
    | (with_reducible refine callF_of (servo_Check_bad _ _ _ _ _ _ h) ?_)
    | (with_reducible refine drawF_of (servo_Check_bad _ _ _ _ _ _ h) ?_)
    | (refine after_lit ti_ok ?_)
    | (refine drawAfter_lit ti_ok ?_)
    | (refine drawEnd_of (by kernel_rfl) ?_)
    | ((first | refine cond_cases (fun hc => ?_) (fun hc => ?_) | refine guard_split (fun hc => ?_) (fun hc => ?_) | refine drawGuard_split (fun hc => ?_) (fun hc => ?_)) <;> first | (exfalso; simp only [decide_eq_true_eq, decide_eq_false_iff_not, Bool.not_eq_true, Bool.not_eq_false, Bool.not_eq_true', Bool.not_eq_false'] at hc; omega) | (simp only [hc]; try simp only [decide_eq_true_eq, decide_eq_false_iff_not, Bool.not_eq_true, Bool.not_eq_false, Bool.not_eq_true', Bool.not_eq_false'] at hc))
    | (refine after_need (by omega) ?_)
    | (refine drawAfter_need (by omega) ?_))
  exact fin_same trivial rfl
theorem svS_pos {kv sh kp ki lo hi s rp rv p v l : Int} (h : (svM l < piO kp ki lo hi s (svE kv sh rp rv p v) ∧ 0 < svE kv sh rp rv p v) ∨ (piO kp ki lo hi s (svE kv sh rp rv p v) < -svM l ∧ svE kv sh rp rv p v < 0)) : svS kv sh kp ki lo hi s rp rv p v l = clip s (lo * 4096) (hi * 4096) := if_pos h
theorem svS_neg {kv sh kp ki lo hi s rp rv p v l : Int} (h : ¬ ((svM l < piO kp ki lo hi s (svE kv sh rp rv p v) ∧ 0 < svE kv sh rp rv p v) ∨ (piO kp ki lo hi s (svE kv sh rp rv p v) < -svM l ∧ svE kv sh rp rv p v < 0))) : svS kv sh kp ki lo hi s rp rv p v l = piS kp ki lo hi s (svE kv sh rp rv p v) := if_neg h
theorem svE_eq {kv sh rp rv p v : Int} : (svW kv rp rv p - sp v) / 2 ^ sh.toNat = svE kv sh rp rv p v := rfl
theorem svM_eq {l : Int} : clip l 0 16777216 = svM l := rfl

theorem servo_Step (kv sh kp ki lo hi s rp rv p v l : Int) (h : ¬ svBad kv sh kp ki lo hi) : CallOK Tryd.prog gl 62 [.agg [.v (.int .i64 kv), .v (.int .i64 sh), .v (.int .i64 kp), .v (.int .i64 ki), .v (.int .i64 lo), .v (.int .i64 hi)], .agg [.v (.int .i64 s)], .agg [.v (.int .i64 rp), .v (.int .i64 rv), .v (.int .i64 p), .v (.int .i64 v), .v (.int .i64 l)]] (.tup [.agg [.v (.int .i64 (svS kv sh kp ki lo hi s rp rv p v l))], .v (.int .i64 (svT kv sh kp ki lo hi s rp rv p v l)), .v .nilIface]) := by
  refine call_ok (C := ⟨Tryd.prog, gl, ti, 85, false⟩) ti_ok mixed 3000 Tryd.call62 Tryd.func62 rfl Tryd.ntmps62 (by simp) byClL byCl ?_
  rw [Tryd.results62]
  have h' := h
  unfold svBad at h'
  have h2 : ¬ piBad kp ki lo hi := fun q => h (.inl q)
  have h3 := h2
  unfold piBad at h3
  have b1 := svW_bd kv rp rv p
  have b2 := sp_bd v
  have b4 := clip_bd (lo := 0) (hi := 16777216) (by omega) l
  repeat' (first
    | (simp only [go_sem, Int.reduceAdd, Int.reduceEq, Int.reduceLE, Int.reduceLT, Int.reduceMul, Int.reduceNeg, Int.reducePow, Int.reduceSub, Int.reduceToNat, Nat.reduceAdd, Nat.reduceBEq, Nat.reduceEqDiff, Nat.reduceLT, Nat.reduceLeDiff, Nat.reduceMul, Nat.reducePow, Nat.reduceSub, reduceCtorEq, reduceIte, IntKind.bits.eq_def, ti, tin])
    | (simp (disch := omega) only [w64, wu64, wu32, Nat.min_eq_left])
    | (with_reducible refine callF_of (servo_clip _ _ _) ?_)
    | (with_reducible refine drawF_of (servo_clip _ _ _) ?_)
    | (with_reducible refine callF_of (servo_speed _) ?_)
    | (with_reducible refine drawF_of (servo_speed _) ?_)
    | (with_reducible refine callF_of (servo_Check _ _ _ _ _ _ h) ?_)
    | (with_reducible refine drawF_of (servo_Check _ _ _ _ _ _ h) ?_)
    | (with_reducible refine callF_of (servo_wanted _ _ _ _ _ _ _ _ _ _ _ (by omega)) ?_)
    | (with_reducible refine drawF_of (servo_wanted _ _ _ _ _ _ _ _ _ _ _ (by omega)) ?_)
    | (with_reducible refine callF_of (pi_Step _ _ _ _ _ _ h2) ?_)
    | (with_reducible refine drawF_of (pi_Step _ _ _ _ _ _ h2) ?_)
    | (refine after_lit ti_ok ?_)
    | (refine drawAfter_lit ti_ok ?_)
    | (refine drawEnd_of (by kernel_rfl) ?_)
    | ((first | refine cond_cases (fun hc => ?_) (fun hc => ?_) | refine guard_split (fun hc => ?_) (fun hc => ?_) | refine drawGuard_split (fun hc => ?_) (fun hc => ?_)) <;> first | (exfalso; simp only [decide_eq_true_eq, decide_eq_false_iff_not, Bool.not_eq_true, Bool.not_eq_false, Bool.not_eq_true', Bool.not_eq_false'] at hc; omega) | (simp only [hc]; try simp only [decide_eq_true_eq, decide_eq_false_iff_not, Bool.not_eq_true, Bool.not_eq_false, Bool.not_eq_true', Bool.not_eq_false'] at hc))
    | (refine after_need (by omega) ?_)
    | (refine drawAfter_need (by omega) ?_))
  all_goals
    refine fin_same trivial ?_
    simp only [svE_eq, svM_eq] at *
    simp only [one, svT, Int.zero_sub]
    first | rw [svS_pos (by omega)] | rw [svS_neg (by omega)]
theorem servo_Step_bad (kv sh kp ki lo hi s rp rv p v l : Int) (h : svBad kv sh kp ki lo hi) : CallOK Tryd.prog gl 62 [.agg [.v (.int .i64 kv), .v (.int .i64 sh), .v (.int .i64 kp), .v (.int .i64 ki), .v (.int .i64 lo), .v (.int .i64 hi)], .agg [.v (.int .i64 s)], .agg [.v (.int .i64 rp), .v (.int .i64 rv), .v (.int .i64 p), .v (.int .i64 v), .v (.int .i64 l)]] (.tup [.agg [.v (.int .i64 0)], .v (.int .i64 0), .v (.iface 71 (.int .i64 3))]) := by
  refine call_ok (C := ⟨Tryd.prog, gl, ti, 85, false⟩) ti_ok mixed 3000 Tryd.call62 Tryd.func62 rfl Tryd.ntmps62 (by simp) byClL byCl ?_
  rw [Tryd.results62]
  repeat' (first
    | (simp only [go_sem, Int.reduceAdd, Int.reduceEq, Int.reduceLE, Int.reduceLT, Int.reduceMul, Int.reduceNeg, Int.reducePow, Int.reduceSub, Int.reduceToNat, Nat.reduceAdd, Nat.reduceBEq, Nat.reduceEqDiff, Nat.reduceLT, Nat.reduceLeDiff, Nat.reduceMul, Nat.reducePow, Nat.reduceSub, reduceCtorEq, reduceIte, IntKind.bits.eq_def, ti, tin])
    | (simp (disch := omega) only [w64, wu64, wu32, Nat.min_eq_left])
    | (with_reducible refine callF_of (servo_Check_bad _ _ _ _ _ _ h) ?_)
    | (with_reducible refine drawF_of (servo_Check_bad _ _ _ _ _ _ h) ?_)
    | (refine after_lit ti_ok ?_)
    | (refine drawAfter_lit ti_ok ?_)
    | (refine drawEnd_of (by kernel_rfl) ?_)
    | ((first | refine cond_cases (fun hc => ?_) (fun hc => ?_) | refine guard_split (fun hc => ?_) (fun hc => ?_) | refine drawGuard_split (fun hc => ?_) (fun hc => ?_)) <;> first | (exfalso; simp only [decide_eq_true_eq, decide_eq_false_iff_not, Bool.not_eq_true, Bool.not_eq_false, Bool.not_eq_true', Bool.not_eq_false'] at hc; omega) | (simp only [hc]; try simp only [decide_eq_true_eq, decide_eq_false_iff_not, Bool.not_eq_true, Bool.not_eq_false, Bool.not_eq_true', Bool.not_eq_false'] at hc))
    | (refine after_need (by omega) ?_)
    | (refine drawAfter_need (by omega) ?_))
  exact fin_same trivial rfl
end Go.Proofs.YtfoadddlmehpnaaDoor
