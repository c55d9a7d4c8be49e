/- The statement CurrentSteps: its code returns true. -/
import Derived.Test.YtfoadddlmehpnaaDoorCurRef
import Derived.Test.YtfoadddlmehpnaaDoorNum
set_option linter.unusedSimpArgs false
set_option linter.unusedVariables false
set_option linter.deprecated false
namespace Go.Proofs.YtfoadddlmehpnaaDoor
open Go Go.Ax
set_option maxRecDepth 100000
set_option maxHeartbeats 4000000

theorem eq_CurrentState : EqTy Tryd.prog 88 [true, true] := ⟨⟨_, Tryd.underlying88⟩, by kernel_rfl, by kernel_rfl⟩
theorem eq_PIState : EqTy Tryd.prog 86 [true] := ⟨⟨_, Tryd.underlying86⟩, by kernel_rfl, by kernel_rfl⟩
theorem eq_DQ : EqTy Tryd.prog 90 [true, true] := ⟨⟨_, Tryd.underlying90⟩, by kernel_rfl, by kernel_rfl⟩

theorem aw35_a : axS (-1000) 1000 0 (piS 4096 0 (-1000) 1000 0 (cuC 300 - cuC 0)) (cuC 300 - cuC 0) (cuOD 4096 0 (-1000) 1000 0 300 0 0 0 0 false) (cuM 500) = 0 := by decide +kernel
theorem aw35_v : clip (cuOD 4096 0 (-1000) 1000 0 300 0 0 0 0 false) (-cuM 500) (cuM 500) = 300 := by decide +kernel
theorem aw35_r : cuR 500 300 = 400 := by decide +kernel
theorem aw35_q : clip (cuOQ 4096 0 (-1000) 1000 0 700 0 0 0 0 0 false) (-400) 400 = 400 := by decide +kernel
theorem aw35_e : emf 1000000 268435456 = 392699 := by decide +kernel
theorem aw35_c : ∃ y, CallOK Tryd.prog gl 47 [.agg [.v (.int .i64 4096), .v (.int .i64 0), .v (.int .i64 (-1000)), .v (.int .i64 1000), .v (.int .i64 4096), .v (.int .i64 0), .v (.int .i64 (-1000)), .v (.int .i64 1000), .v (.int .i64 0), .v (.int .i64 0), .v (.int .i64 0)], .agg [.v (.int .i64 0), .v (.int .i64 0)], .agg [.v (.int .i64 300), .v (.int .i64 700), .v (.int .i64 0), .v (.int .i64 0), .v (.int .i64 0), .v (.int .i64 500), .v (.bool false)]] (.tup [.agg [.v (.int .i64 0), .v (.int .i64 y)], .agg [.v (.int .i64 300), .v (.int .i64 400)], .v .nilIface]) := by
  have h := cur_Step0 4096 0 (-1000) 1000 4096 0 (-1000) 1000 0 0 0 0 0 300 700 0 0 0 500 false (by unfold cuBad piBad; omega)
  rw [aw35_a, aw35_v, aw35_r, aw35_q] at h
  exact ⟨_, h⟩
theorem aw35_f : CallOK Tryd.prog gl 16 [.v (.int .i64 1000000), .v (.int .i64 268435456)] (.v (.int .i64 392699)) := by
  have h := cur_Emf 1000000 268435456
  rw [aw35_e] at h
  exact h

theorem awake35  : CallOK Tryd.prog gl 15 [] (.v (.bool (true))) := by
  refine call_ok (C := ⟨Tryd.prog, gl, ti, 28, false⟩) ti_ok mixed 3000 Tryd.call15 Tryd.func15 rfl Tryd.ntmps15 (by simp) (by (try simp only [List.mem_cons, List.not_mem_nil, or_false, forall_eq_or_imp, forall_eq]); (repeat' (first | exact Cl.v _ | exact Cl.u32s | exact Cl.i64s | exact Cl.sl (by assumption) | refine And.intro ?_ ?_ | refine Cl.agg ?_ | refine Cl.rp ?_ | refine Cl.sl ?_ | refine Cl.tup ?_ | simp only [List.mem_cons, List.not_mem_nil, or_false, forall_eq_or_imp, forall_eq, false_imp_iff, implies_true]))) (by (try simp only [List.mem_cons, List.not_mem_nil, or_false, forall_eq_or_imp, forall_eq]); (repeat' (first | exact Cl.v _ | exact Cl.u32s | exact Cl.i64s | exact Cl.sl (by assumption) | refine And.intro ?_ ?_ | refine Cl.agg ?_ | refine Cl.rp ?_ | refine Cl.sl ?_ | refine Cl.tup ?_ | simp only [List.mem_cons, List.not_mem_nil, or_false, forall_eq_or_imp, forall_eq, false_imp_iff, implies_true]))) ?_
  rw [Tryd.results15]
  obtain ⟨y, hy⟩ := aw35_c
  repeat' (first
    | (simp only [go_sem, Int.reduceAdd, Int.reduceEq, Int.reduceLE, Int.reduceLT, Int.reduceMul, Int.reduceNeg, Int.reducePow, Int.reduceSub, Int.reduceToNat, Nat.reduceAdd, Nat.reduceBEq, Nat.reduceEqDiff, Nat.reduceLT, Nat.reduceLeDiff, Nat.reduceMul, Nat.reducePow, Nat.reduceSub, reduceCtorEq, reduceIte, IntKind.bits.eq_def, ti, tin])
    | (simp (disch := omega) only [w64, wu64, wu32, Nat.min_eq_left])
    | (with_reducible refine callF_of (hy) ?_)
    | (with_reducible refine drawF_of (hy) ?_)
    | (with_reducible refine callF_of (aw35_f) ?_)
    | (with_reducible refine drawF_of (aw35_f) ?_)
    | (refine after_sem (sem_eql eq_DQ rfl rfl rfl rfl rfl rfl) ?_)
    | (refine after_sem (sem_neq eq_DQ rfl rfl rfl rfl rfl rfl) ?_)
    | (refine drawAfter_sem (sem_eql eq_DQ rfl rfl rfl rfl rfl rfl) ?_)
    | (refine drawAfter_sem (sem_neq eq_DQ rfl rfl rfl rfl rfl rfl) ?_)
    | (refine after_lit ti_ok ?_)
    | (refine drawAfter_lit ti_ok ?_)
    | (refine drawEnd_of (by kernel_rfl) ?_)
    | (refine cond_cases (fun hc => ?_) (fun hc => ?_) <;> first | (exfalso; simp only [decide_eq_true_eq, decide_eq_false_iff_not, Bool.not_eq_true, Bool.not_eq_false, Bool.not_eq_true', Bool.not_eq_false'] at hc; omega) | (simp only [hc]; try simp only [decide_eq_true_eq, decide_eq_false_iff_not, Bool.not_eq_true, Bool.not_eq_false, Bool.not_eq_true', Bool.not_eq_false'] at hc))
    | (refine guard_split (fun hc => ?_) (fun hc => ?_) <;> first | (exfalso; simp only [decide_eq_true_eq, decide_eq_false_iff_not, Bool.not_eq_true, Bool.not_eq_false, Bool.not_eq_true', Bool.not_eq_false'] at hc; omega) | (simp only [hc]; try simp only [decide_eq_true_eq, decide_eq_false_iff_not, Bool.not_eq_true, Bool.not_eq_false, Bool.not_eq_true', Bool.not_eq_false'] at hc))
    | (refine drawGuard_split (fun hc => ?_) (fun hc => ?_) <;> first | (exfalso; simp only [decide_eq_true_eq, decide_eq_false_iff_not, Bool.not_eq_true, Bool.not_eq_false, Bool.not_eq_true', Bool.not_eq_false'] at hc; omega) | (simp only [hc]; try simp only [decide_eq_true_eq, decide_eq_false_iff_not, Bool.not_eq_true, Bool.not_eq_false, Bool.not_eq_true', Bool.not_eq_false'] at hc))
    | (refine after_need (by omega) ?_)
    | (refine drawAfter_need (by omega) ?_))
  exact fin_same trivial rfl

end Go.Proofs.YtfoadddlmehpnaaDoor
