/- Layer 39 (observer) and its reference: the exported functions. -/
import Derived.Test.YtfoadddlmehpnaaDoorObs
set_option linter.unusedSimpArgs false
set_option linter.unusedVariables false
set_option linter.deprecated false
namespace Go.Proofs.YtfoadddlmehpnaaDoor
open Go Go.Ax
set_option maxRecDepth 100000
set_option maxHeartbeats 4000000
theorem eq_AB : EqTy Tryd.prog 25 [true, true] := ⟨⟨_, Tryd.underlying25⟩, by kernel_rfl, by kernel_rfl⟩
theorem eq_ObserverState : EqTy Tryd.prog 27 [true, true, true, true] := ⟨⟨_, Tryd.underlying27⟩, by kernel_rfl, by kernel_rfl⟩

theorem ob_Flux (R L lk kp ki fa fb an sp va vb ia ib : Int) (h : ¬ obBad R L lk kp ki) : CallOK Tryd.prog gl 31 [.agg [.v (.int .i64 R), .v (.int .i64 L), .v (.int .i64 lk), .v (.int .i64 kp), .v (.int .i64 ki)], .agg [.v (.int .i64 fa), .v (.int .i64 fb), .v (.int .i64 an), .v (.int .i64 sp)], .agg [.v (.int .i64 va), .v (.int .i64 vb)], .agg [.v (.int .i64 ia), .v (.int .i64 ib)]] (.tup [.agg [.v (.int .i64 (flx R lk fa va ia)), .v (.int .i64 (flx R lk fb vb ib))], .v .nilIface]) := by
  refine call_ok (C := ⟨Tryd.prog, gl, ti, 22, false⟩) ti_ok mixed 3000 Tryd.call31 Tryd.func31 rfl Tryd.ntmps31 (by simp) byClL byCl ?_
  rw [Tryd.results31]
  repeat' (first
    | (simp only [go_sem, Int.reduceAdd, Int.reduceEq, Int.reduceLE, Int.reduceLT, Int.reduceMul, Int.reduceNeg, Int.reducePow, Int.reduceSub, Int.reduceToNat, Nat.reduceAdd, Nat.reduceBEq, Nat.reduceEqDiff, Nat.reduceLT, Nat.reduceLeDiff, Nat.reduceMul, Nat.reducePow, Nat.reduceSub, reduceCtorEq, reduceIte, IntKind.bits.eq_def, ti, tin])
    | (simp (disch := omega) only [w64, wu64, wu32, Nat.min_eq_left])
    | (with_reducible refine callF_of (ob_Check _ _ _ _ _ h) ?_)
    | (with_reducible refine drawF_of (ob_Check _ _ _ _ _ h) ?_)
    | (with_reducible refine callF_of (ob_flux _ _ _ _ _ _ _ _ _ _ _ _ _ h) ?_)
    | (with_reducible refine drawF_of (ob_flux _ _ _ _ _ _ _ _ _ _ _ _ _ h) ?_)
    | (refine after_lit ti_ok ?_)
    | (refine drawAfter_lit ti_ok ?_)
    | (refine drawEnd_of (by kernel_rfl) ?_)
    | ((first | refine cond_cases (fun hc => ?_) (fun hc => ?_) | refine guard_split (fun hc => ?_) (fun hc => ?_) | refine drawGuard_split (fun hc => ?_) (fun hc => ?_)) <;> first | (exfalso; simp only [decide_eq_true_eq, decide_eq_false_iff_not, Bool.not_eq_true, Bool.not_eq_false, Bool.not_eq_true', Bool.not_eq_false'] at hc; omega) | (simp only [hc]; try simp only [decide_eq_true_eq, decide_eq_false_iff_not, Bool.not_eq_true, Bool.not_eq_false, Bool.not_eq_true', Bool.not_eq_false'] at hc))
    | (refine after_need (by omega) ?_)
    | (refine drawAfter_need (by omega) ?_))
  exact fin_same trivial rfl
theorem ob_Flux_bad (R L lk kp ki fa fb an sp va vb ia ib : Int) (h : obBad R L lk kp ki) : CallOK Tryd.prog gl 31 [.agg [.v (.int .i64 R), .v (.int .i64 L), .v (.int .i64 lk), .v (.int .i64 kp), .v (.int .i64 ki)], .agg [.v (.int .i64 fa), .v (.int .i64 fb), .v (.int .i64 an), .v (.int .i64 sp)], .agg [.v (.int .i64 va), .v (.int .i64 vb)], .agg [.v (.int .i64 ia), .v (.int .i64 ib)]] (.tup [.agg [.v (.int .i64 0), .v (.int .i64 0)], .v (.iface 71 (.int .i64 3))]) := by
  refine call_ok (C := ⟨Tryd.prog, gl, ti, 22, false⟩) ti_ok mixed 3000 Tryd.call31 Tryd.func31 rfl Tryd.ntmps31 (by simp) byClL byCl ?_
  rw [Tryd.results31]
  repeat' (first
    | (simp only [go_sem, Int.reduceAdd, Int.reduceEq, Int.reduceLE, Int.reduceLT, Int.reduceMul, Int.reduceNeg, Int.reducePow, Int.reduceSub, Int.reduceToNat, Nat.reduceAdd, Nat.reduceBEq, Nat.reduceEqDiff, Nat.reduceLT, Nat.reduceLeDiff, Nat.reduceMul, Nat.reducePow, Nat.reduceSub, reduceCtorEq, reduceIte, IntKind.bits.eq_def, ti, tin])
    | (simp (disch := omega) only [w64, wu64, wu32, Nat.min_eq_left])
    | (with_reducible refine callF_of (ob_Check_bad _ _ _ _ _ h) ?_)
    | (with_reducible refine drawF_of (ob_Check_bad _ _ _ _ _ h) ?_)
    | (refine after_lit ti_ok ?_)
    | (refine drawAfter_lit ti_ok ?_)
    | (refine drawEnd_of (by kernel_rfl) ?_)
    | ((first | refine cond_cases (fun hc => ?_) (fun hc => ?_) | refine guard_split (fun hc => ?_) (fun hc => ?_) | refine drawGuard_split (fun hc => ?_) (fun hc => ?_)) <;> first | (exfalso; simp only [decide_eq_true_eq, decide_eq_false_iff_not, Bool.not_eq_true, Bool.not_eq_false, Bool.not_eq_true', Bool.not_eq_false'] at hc; omega) | (simp only [hc]; try simp only [decide_eq_true_eq, decide_eq_false_iff_not, Bool.not_eq_true, Bool.not_eq_false, Bool.not_eq_true', Bool.not_eq_false'] at hc))
    | (refine after_need (by omega) ?_)
    | (refine drawAfter_need (by omega) ?_))
  exact fin_same trivial rfl
theorem ob_Track (R L lk kp ki fa fb an sp m : Int) (h : ¬ obBad R L lk kp ki) : CallOK Tryd.prog gl 7 [.agg [.v (.int .i64 R), .v (.int .i64 L), .v (.int .i64 lk), .v (.int .i64 kp), .v (.int .i64 ki)], .agg [.v (.int .i64 fa), .v (.int .i64 fb), .v (.int .i64 an), .v (.int .i64 sp)], .v (.int .i64 m)] (.tup [.agg [.v (.int .i64 (mf fa)), .v (.int .i64 (mf fb)), .v (.int .i64 (trA kp ki an sp m)), .v (.int .i64 (trS ki an sp m))], .v .nilIface]) := by
  refine call_ok (C := ⟨Tryd.prog, gl, ti, 19, false⟩) ti_ok mixed 3000 Tryd.call7 Tryd.func7 rfl Tryd.ntmps7 (by simp) byClL byCl ?_
  rw [Tryd.results7]
  repeat' (first
    | (simp only [go_sem, Int.reduceAdd, Int.reduceEq, Int.reduceLE, Int.reduceLT, Int.reduceMul, Int.reduceNeg, Int.reducePow, Int.reduceSub, Int.reduceToNat, Nat.reduceAdd, Nat.reduceBEq, Nat.reduceEqDiff, Nat.reduceLT, Nat.reduceLeDiff, Nat.reduceMul, Nat.reducePow, Nat.reduceSub, reduceCtorEq, reduceIte, IntKind.bits.eq_def, ti, tin])
    | (simp (disch := omega) only [w64, wu64, wu32, Nat.min_eq_left])
    | (with_reducible refine callF_of (ob_Check _ _ _ _ _ h) ?_)
    | (with_reducible refine drawF_of (ob_Check _ _ _ _ _ h) ?_)
    | (with_reducible refine callF_of (ob_track _ _ _ _ _ _ _ _ _ _ h) ?_)
    | (with_reducible refine drawF_of (ob_track _ _ _ _ _ _ _ _ _ _ h) ?_)
    | (refine after_lit ti_ok ?_)
    | (refine drawAfter_lit ti_ok ?_)
    | (refine drawEnd_of (by kernel_rfl) ?_)
    | ((first | refine cond_cases (fun hc => ?_) (fun hc => ?_) | refine guard_split (fun hc => ?_) (fun hc => ?_) | refine drawGuard_split (fun hc => ?_) (fun hc => ?_)) <;> first | (exfalso; simp only [decide_eq_true_eq, decide_eq_false_iff_not, Bool.not_eq_true, Bool.not_eq_false, Bool.not_eq_true', Bool.not_eq_false'] at hc; omega) | (simp only [hc]; try simp only [decide_eq_true_eq, decide_eq_false_iff_not, Bool.not_eq_true, Bool.not_eq_false, Bool.not_eq_true', Bool.not_eq_false'] at hc))
    | (refine after_need (by omega) ?_)
    | (refine drawAfter_need (by omega) ?_))
  exact fin_same trivial rfl
theorem ref39_Track (R L lk kp ki fa fb an sp m : Int) (h : ¬ obBad R L lk kp ki) : CallOK Tryd.prog gl 9 [.agg [.v (.int .i64 R), .v (.int .i64 L), .v (.int .i64 lk), .v (.int .i64 kp), .v (.int .i64 ki)], .agg [.v (.int .i64 fa), .v (.int .i64 fb), .v (.int .i64 an), .v (.int .i64 sp)], .v (.int .i64 m)] (.tup [.agg [.v (.int .i64 (mf fa)), .v (.int .i64 (mf fb)), .v (.int .i64 (trA kp ki an sp m)), .v (.int .i64 (trS ki an sp m))], .v (.int .i64 0)]) := by
  refine call_ok (C := ⟨Tryd.prog, gl, ti, 46, false⟩) ti_ok mixed 3000 Tryd.call9 Tryd.func9 rfl Tryd.ntmps9 (by simp) byClL byCl ?_
  rw [Tryd.results9]
  have h' := h
  unfold obBad at h'
  have e1 : dif m (an % 4294967296 / 65536) = trE an m := rfl
  have e2 : msp (msp sp + ki * trE an m) = trS ki an sp m := rfl
  have e3 : (an % 4294967296).tdiv 65536 = an % 4294967296 / 65536 := tdiv_nn (by omega)
  have e4 : mf (mf fa) = mf fa := mf_idem _
  have e5 : mf (mf fb) = mf fb := mf_idem _
  have e6 : an % 4294967296 % 4294967296 = an % 4294967296 := by omega
  have e7 : msp (trS ki an sp m) = trS ki an sp m := clip_id (ms_bd _)
  have e8 : (an % 4294967296 + (trS ki an sp m + kp * trE an m)) % 4294967296 = trA kp ki an sp m := by unfold trA; omega
  have hd : -32768 ≤ trE an m ∧ trE an m ≤ 32767 := dif_bd _ _
  have h1 := mul_bd (a := ki) (A := 65536) (B := 32768) (b := trE an m) (by omega) (by omega)
  have h2 := mul_bd (a := kp) (A := 65536) (B := 32768) (b := trE an m) (by omega) (by omega)
  have h3 := ms_bd sp
  have h4 : -1073741824 ≤ trS ki an sp m ∧ trS ki an sp m ≤ 1073741824 := ms_bd _
  repeat' (first
    | (simp only [go_sem, Int.reduceAdd, Int.reduceEq, Int.reduceLE, Int.reduceLT, Int.reduceMul, Int.reduceNeg, Int.reducePow, Int.reduceSub, Int.reduceToNat, Nat.reduceAdd, Nat.reduceBEq, Nat.reduceEqDiff, Nat.reduceLT, Nat.reduceLeDiff, Nat.reduceMul, Nat.reducePow, Nat.reduceSub, reduceCtorEq, reduceIte, IntKind.bits.eq_def, ti, tin, e3, e1, e2, e4, e5, e6, e7, e8])
    | (simp (disch := omega) only [w64, wu64, wu32, Nat.min_eq_left])
    | (with_reducible refine callF_of (ref39_Check _ _ _ _ _ h) ?_)
    | (with_reducible refine drawF_of (ref39_Check _ _ _ _ _ h) ?_)
    | (with_reducible refine callF_of (ref39_State _ _ _ _) ?_)
    | (with_reducible refine drawF_of (ref39_State _ _ _ _) ?_)
    | (with_reducible refine callF_of (ref05_Diff _ _) ?_)
    | (with_reducible refine drawF_of (ref05_Diff _ _) ?_)
    | (refine after_lit ti_ok ?_)
    | (refine drawAfter_lit ti_ok ?_)
    | (refine drawEnd_of (by kernel_rfl) ?_)
    | ((first | refine cond_cases (fun hc => ?_) (fun hc => ?_) | refine guard_split (fun hc => ?_) (fun hc => ?_) | refine drawGuard_split (fun hc => ?_) (fun hc => ?_)) <;> first | (exfalso; simp only [decide_eq_true_eq, decide_eq_false_iff_not, Bool.not_eq_true, Bool.not_eq_false, Bool.not_eq_true', Bool.not_eq_false'] at hc; omega) | (simp only [hc]; try simp only [decide_eq_true_eq, decide_eq_false_iff_not, Bool.not_eq_true, Bool.not_eq_false, Bool.not_eq_true', Bool.not_eq_false'] at hc))
    | (refine after_need (by omega) ?_)
    | (refine drawAfter_need (by omega) ?_))
  exact fin_same trivial rfl
/-- Both find one angle. -/
theorem aw39_a : trA 32768 0 0 0 100 = 3276800 := by decide
theorem aw39_b : flx 1000 4 160 5 2 = 153 := by decide
theorem aw39_c : flx 1000 4 0 0 0 = 0 := by decide
theorem aw39_t : ∃ s, CallOK Tryd.prog gl 7 [.agg [.v (.int .i64 0), .v (.int .i64 0), .v (.int .i64 4), .v (.int .i64 32768), .v (.int .i64 0)], .agg [.v (.int .i64 0), .v (.int .i64 0), .v (.int .i64 0), .v (.int .i64 0)], .v (.int .i64 100)] (.tup [.agg [.v (.int .i64 0), .v (.int .i64 0), .v (.int .i64 3276800), .v (.int .i64 s)], .v .nilIface]) := by
  have h := ob_Track 0 0 4 32768 0 0 0 0 0 100 (by unfold obBad; omega)
  rw [aw39_a, show mf 0 = 0 from rfl] at h
  exact ⟨_, h⟩
theorem aw39_f : CallOK Tryd.prog gl 31 [.agg [.v (.int .i64 1000), .v (.int .i64 0), .v (.int .i64 4), .v (.int .i64 0), .v (.int .i64 0)], .agg [.v (.int .i64 160), .v (.int .i64 0), .v (.int .i64 0), .v (.int .i64 0)], .agg [.v (.int .i64 5), .v (.int .i64 0)], .agg [.v (.int .i64 2), .v (.int .i64 0)]] (.tup [.agg [.v (.int .i64 153), .v (.int .i64 0)], .v .nilIface]) := by
  have h := ob_Flux 1000 0 4 0 0 160 0 0 0 5 0 2 0 (by unfold obBad; omega)
  rw [aw39_b, aw39_c] at h
  exact h
theorem awake39  : CallOK Tryd.prog gl 6 [] (.v (.bool (true))) := by
  refine call_ok (C := ⟨Tryd.prog, gl, ti, 41, false⟩) ti_ok mixed 3000 Tryd.call6 Tryd.func6 rfl Tryd.ntmps6 (by simp) byClL byCl ?_
  rw [Tryd.results6]
  obtain ⟨s, hs⟩ := aw39_t
  repeat' (first
    | (simp only [go_sem, Int.reduceAdd, Int.reduceEq, Int.reduceLE, Int.reduceLT, Int.reduceMul, Int.reduceNeg, Int.reducePow, Int.reduceSub, Int.reduceToNat, Nat.reduceAdd, Nat.reduceBEq, Nat.reduceEqDiff, Nat.reduceLT, Nat.reduceLeDiff, Nat.reduceMul, Nat.reducePow, Nat.reduceSub, reduceCtorEq, reduceIte, IntKind.bits.eq_def, ti, tin])
    | (simp (disch := omega) only [w64, wu64, wu32, Nat.min_eq_left])
    | (with_reducible refine callF_of (hs) ?_)
    | (with_reducible refine drawF_of (hs) ?_)
    | (with_reducible refine callF_of (aw39_f) ?_)
    | (with_reducible refine drawF_of (aw39_f) ?_)
    | (refine after_lit ti_ok ?_)
    | (refine drawAfter_lit ti_ok ?_)
    | (refine drawEnd_of (by kernel_rfl) ?_)
    | ((first | refine cond_cases (fun hc => ?_) (fun hc => ?_) | refine guard_split (fun hc => ?_) (fun hc => ?_) | refine drawGuard_split (fun hc => ?_) (fun hc => ?_)) <;> first | (exfalso; simp only [decide_eq_true_eq, decide_eq_false_iff_not, Bool.not_eq_true, Bool.not_eq_false, Bool.not_eq_true', Bool.not_eq_false'] at hc; omega) | (simp only [hc]; try simp only [decide_eq_true_eq, decide_eq_false_iff_not, Bool.not_eq_true, Bool.not_eq_false, Bool.not_eq_true', Bool.not_eq_false'] at hc))
    | (refine after_need (by omega) ?_)
    | (refine drawAfter_need (by omega) ?_))
  exact fin_same trivial rfl

end Go.Proofs.YtfoadddlmehpnaaDoor
