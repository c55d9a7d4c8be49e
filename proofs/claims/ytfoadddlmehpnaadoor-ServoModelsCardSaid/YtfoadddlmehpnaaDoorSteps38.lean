/- The statement ServoSteps: its code returns true. -/
import Derived.Test.YtfoadddlmehpnaaDoorServo
set_option linter.unusedSimpArgs false
set_option linter.unusedVariables false
set_option linter.deprecated false
namespace Go.Proofs.YtfoadddlmehpnaaDoor
open Go Go.Ax
set_option maxRecDepth 100000
set_option maxHeartbeats 2000000

theorem eq_ServoState : EqTy Tryd.prog 114 [true] := ⟨⟨_, Tryd.underlying114⟩, by kernel_rfl, by kernel_rfl⟩

theorem aw_c1 : CallOK Tryd.prog gl 61 [.agg [.v (.int .i64 2048), .v (.int .i64 0), .v (.int .i64 4096), .v (.int .i64 0), .v (.int .i64 (-1000)), .v (.int .i64 1000)], .agg [.v (.int .i64 100), .v (.int .i64 10), .v (.int .i64 0), .v (.int .i64 0), .v (.int .i64 900)]] (.tup [.v (.int .i64 60), .v .nilIface]) := servo_Speed 2048 0 4096 0 (-1000) 1000 100 10 0 0 900 (by unfold svBad piBad; omega)
theorem aw_c2 : CallOK Tryd.prog gl 62 [.agg [.v (.int .i64 2048), .v (.int .i64 0), .v (.int .i64 4096), .v (.int .i64 0), .v (.int .i64 (-1000)), .v (.int .i64 1000)], .agg [.v (.int .i64 0)], .agg [.v (.int .i64 100), .v (.int .i64 10), .v (.int .i64 0), .v (.int .i64 0), .v (.int .i64 900)]] (.tup [.agg [.v (.int .i64 0)], .v (.int .i64 60), .v .nilIface]) := servo_Step 2048 0 4096 0 (-1000) 1000 0 100 10 0 0 900 (by unfold svBad piBad; omega)
theorem aw_c3 : CallOK Tryd.prog gl 62 [.agg [.v (.int .i64 2048), .v (.int .i64 0), .v (.int .i64 4096), .v (.int .i64 0), .v (.int .i64 (-1000)), .v (.int .i64 1000)], .agg [.v (.int .i64 0)], .agg [.v (.int .i64 100), .v (.int .i64 10), .v (.int .i64 0), .v (.int .i64 0), .v (.int .i64 50)]] (.tup [.agg [.v (.int .i64 0)], .v (.int .i64 50), .v .nilIface]) := servo_Step 2048 0 4096 0 (-1000) 1000 0 100 10 0 0 50 (by unfold svBad piBad; omega)

theorem awake38  : CallOK Tryd.prog gl 27 [] (.v (.bool (true))) := by
  refine call_ok (C := ⟨Tryd.prog, gl, ti, 59, false⟩) ti_ok mixed 3000 Tryd.call27 Tryd.func27 rfl Tryd.ntmps27 (by simp) byClL byCl ?_
  rw [Tryd.results27]
  repeat' (first
    | (simp only [go_sem, Int.reduceAdd, Int.reduceEq, Int.reduceLE, Int.reduceLT, Int.reduceMul, Int.reduceNeg, Int.reducePow, Int.reduceSub, Int.reduceToNat, Nat.reduceAdd, Nat.reduceBEq, Nat.reduceEqDiff, Nat.reduceLT, Nat.reduceLeDiff, Nat.reduceMul, Nat.reducePow, Nat.reduceSub, reduceCtorEq, reduceIte, IntKind.bits.eq_def, ti, tin])
    | (simp (disch := omega) only [w64, wu64, wu32, Nat.min_eq_left])
    | (with_reducible refine callF_of (aw_c1) ?_)
    | (with_reducible refine drawF_of (aw_c1) ?_)
    | (with_reducible refine callF_of (aw_c2) ?_)
    | (with_reducible refine drawF_of (aw_c2) ?_)
    | (with_reducible refine callF_of (aw_c3) ?_)
    | (with_reducible refine drawF_of (aw_c3) ?_)
    | (refine after_lit ti_ok ?_)
    | (refine drawAfter_lit ti_ok ?_)
    | (refine drawEnd_of (by kernel_rfl) ?_)
    | ((first | refine cond_cases (fun hc => ?_) (fun hc => ?_) | refine guard_split (fun hc => ?_) (fun hc => ?_) | refine drawGuard_split (fun hc => ?_) (fun hc => ?_)) <;> first | (exfalso; simp only [decide_eq_true_eq, decide_eq_false_iff_not, Bool.not_eq_true, Bool.not_eq_false, Bool.not_eq_true', Bool.not_eq_false'] at hc; omega) | (simp only [hc]; try simp only [decide_eq_true_eq, decide_eq_false_iff_not, Bool.not_eq_true, Bool.not_eq_false, Bool.not_eq_true', Bool.not_eq_false'] at hc))
    | (refine after_need (by omega) ?_)
    | (refine drawAfter_need (by omega) ?_))
  exact fin_same trivial rfl

end Go.Proofs.YtfoadddlmehpnaaDoor
