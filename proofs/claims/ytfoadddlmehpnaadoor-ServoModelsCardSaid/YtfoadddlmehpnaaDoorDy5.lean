/- Layer 2 (dyadic.go), part 5: Make, Floor, Ceil, Int. -/
import Derived.Test.YtfoadddlmehpnaaDoorDy4
import Derived.Test.YtfoadddlmehpnaaDoorU2
set_option linter.unusedSimpArgs false
set_option linter.unusedVariables false
set_option linter.deprecated false
namespace Go.Proofs.YtfoadddlmehpnaaDoor
open Go Go.Ax
set_option maxRecDepth 100000
set_option maxHeartbeats 4000000

theorem Make_err (n den : Int) (hd : den < 0 ∨ 65536 < den) : CallOK Tryd.prog gl 35 [.v (.int .i64 n), .v (.int .i64 den)] (.tup [.agg [.v (.bool (sg (Dy.zero))), .sl 1 (u32s (ms (Dy.zero))), .v (.int .i64 (dn (Dy.zero)))], .v (.iface 71 (.int .i64 3))]) := by
  refine call_ok (C := ⟨Tryd.prog, gl, ti, 23, false⟩) ti_ok mixed 3000 Tryd.call35 Tryd.func35 rfl Tryd.ntmps35 (by simp) byClL byCl ?_
  rw [Tryd.results35]
  by_cases h0 : den < 0
  ·
    repeat' (first
      | (simp only [go_sem, Int.reduceAdd, Int.reduceEq, Int.reduceLE, Int.reduceLT, Int.reduceMul, Int.reduceNeg, Int.reducePow, Int.reduceSub, Int.reduceToNat, Nat.reduceAdd, Nat.reduceBEq, Nat.reduceEqDiff, Nat.reduceLT, Nat.reduceLeDiff, Nat.reduceMul, Nat.reducePow, Nat.reduceSub, reduceCtorEq, reduceIte, IntKind.bits.eq_def, ti, tin])
      | (simp (disch := omega) only [w64, wu64, wu32, Nat.min_eq_left])
      | (refine after_lit ti_ok ?_)
      | (refine drawAfter_lit ti_ok ?_)
      | (refine drawEnd_of (by kernel_rfl) ?_)
      | ((first | refine cond_cases (fun hc => ?_) (fun hc => ?_) | refine guard_split (fun hc => ?_) (fun hc => ?_) | refine drawGuard_split (fun hc => ?_) (fun hc => ?_)) <;> first | (exfalso; simp only [decide_eq_true_eq, decide_eq_false_iff_not, Bool.not_eq_true, Bool.not_eq_false, Bool.not_eq_true', Bool.not_eq_false'] at hc; omega) | (simp only [hc]; try simp only [decide_eq_true_eq, decide_eq_false_iff_not, Bool.not_eq_true, Bool.not_eq_false, Bool.not_eq_true', Bool.not_eq_false'] at hc))
      | (refine after_need (by omega) ?_)
      | (refine drawAfter_need (by omega) ?_))
    all_goals exact fin_le trivial (Le.tup (.cons Le.dy0 (.cons (.refl _) .nil)))
  ·
    have h1 : 65536 < den := by omega
    repeat' (first
      | (simp only [go_sem, Int.reduceAdd, Int.reduceEq, Int.reduceLE, Int.reduceLT, Int.reduceMul, Int.reduceNeg, Int.reducePow, Int.reduceSub, Int.reduceToNat, Nat.reduceAdd, Nat.reduceBEq, Nat.reduceEqDiff, Nat.reduceLT, Nat.reduceLeDiff, Nat.reduceMul, Nat.reducePow, Nat.reduceSub, reduceCtorEq, reduceIte, IntKind.bits.eq_def, ti, tin])
      | (simp (disch := omega) only [w64, wu64, wu32, Nat.min_eq_left])
      | (refine after_lit ti_ok ?_)
      | (refine drawAfter_lit ti_ok ?_)
      | (refine drawEnd_of (by kernel_rfl) ?_)
      | ((first | refine cond_cases (fun hc => ?_) (fun hc => ?_) | refine guard_split (fun hc => ?_) (fun hc => ?_) | refine drawGuard_split (fun hc => ?_) (fun hc => ?_)) <;> first | (exfalso; simp only [decide_eq_true_eq, decide_eq_false_iff_not, Bool.not_eq_true, Bool.not_eq_false, Bool.not_eq_true', Bool.not_eq_false'] at hc; omega) | (simp only [hc]; try simp only [decide_eq_true_eq, decide_eq_false_iff_not, Bool.not_eq_true, Bool.not_eq_false, Bool.not_eq_true', Bool.not_eq_false'] at hc))
      | (refine after_need (by omega) ?_)
      | (refine drawAfter_need (by omega) ?_))
    all_goals exact fin_le trivial (Le.tup (.cons Le.dy0 (.cons (.refl _) .nil)))
theorem Make_ok (n : Int) (den : Nat) (hn : -9223372036854775808 ≤ n ∧ n ≤ 9223372036854775807) (hd : den ≤ 65536) : CallOK Tryd.prog gl 35 [.v (.int .i64 n), .v (.int .i64 den)] (.tup [.agg [.v (.bool (sg (nrm n den))), .sl 1 (u32s (ms (nrm n den))), .v (.int .i64 (dn (nrm n den)))], .v .nilIface]) := by
  refine call_ok (C := ⟨Tryd.prog, gl, ti, 23, false⟩) ti_ok mixed 3000 Tryd.call35 Tryd.func35 rfl Tryd.ntmps35 (by simp) byClL byCl ?_
  rw [Tryd.results35]
  have oo := Of_ok n hn
  have hl : (ms (Dy.int n)).length ≤ 2 := words_length_le (by show n.natAbs < _; omega)
  have rs := result_ok (sg (Dy.int n)) (ms (Dy.int n)) den (ms_wd _) (by omega) (by omega) (by omega)
  rw [Int.toNat_natCast, res_make] at rs
  repeat' (first
    | (simp only [go_sem, Int.reduceAdd, Int.reduceEq, Int.reduceLE, Int.reduceLT, Int.reduceMul, Int.reduceNeg, Int.reducePow, Int.reduceSub, Int.reduceToNat, Nat.reduceAdd, Nat.reduceBEq, Nat.reduceEqDiff, Nat.reduceLT, Nat.reduceLeDiff, Nat.reduceMul, Nat.reducePow, Nat.reduceSub, reduceCtorEq, reduceIte, IntKind.bits.eq_def, ti, tin])
    | (simp (disch := omega) only [w64, wu64, wu32, Nat.min_eq_left])
    | (with_reducible refine callF_of (oo) ?_)
    | (with_reducible refine drawF_of (oo) ?_)
    | (with_reducible refine callF_of (rs) ?_)
    | (with_reducible refine drawF_of (rs) ?_)
    | (refine after_lit ti_ok ?_)
    | (refine drawAfter_lit ti_ok ?_)
    | (refine drawEnd_of (by kernel_rfl) ?_)
    | ((first | refine cond_cases (fun hc => ?_) (fun hc => ?_) | refine guard_split (fun hc => ?_) (fun hc => ?_) | refine drawGuard_split (fun hc => ?_) (fun hc => ?_)) <;> first | (exfalso; simp only [decide_eq_true_eq, decide_eq_false_iff_not, Bool.not_eq_true, Bool.not_eq_false, Bool.not_eq_true', Bool.not_eq_false'] at hc; omega) | (simp only [hc]; try simp only [decide_eq_true_eq, decide_eq_false_iff_not, Bool.not_eq_true, Bool.not_eq_false, Bool.not_eq_true', Bool.not_eq_false'] at hc))
    | (refine after_need (by omega) ?_)
    | (refine drawAfter_need (by omega) ?_))
  exact fin_same trivial rfl

end Go.Proofs.YtfoadddlmehpnaaDoor
