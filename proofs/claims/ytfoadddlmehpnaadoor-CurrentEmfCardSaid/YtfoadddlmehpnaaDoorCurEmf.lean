/- The statement CurrentEmf: its code returns true. -/
import Derived.Test.YtfoadddlmehpnaaDoorCurSteps
import Derived.Test.YtfoadddlmehpnaaDoorDy4
import Derived.Test.YtfoadddlmehpnaaDoorU2
set_option linter.unusedSimpArgs false
set_option linter.unusedVariables false
set_option linter.deprecated false
namespace Go.Proofs.YtfoadddlmehpnaaDoor
open Go Go.Ax
set_option maxRecDepth 100000
set_option maxHeartbeats 4000000

theorem emf_bounds {n p : Int} (h : n = p / 1048576 * 411775 / 268435456) : n * 281474976710656 ≤ p * 411775 ∧ p * 411775 < (n + 2) * 281474976710656 := by omega
theorem emf_v {n p : Int} (h : n = p / 1048576 * 411775 / 268435456) : (Dy.int n).v ≤ (nrm (p * 411775) 48).v ∧ (nrm (p * 411775) 48).v < (Dy.int n).v + 2 := by
  obtain ⟨h1, h2⟩ := emf_bounds h
  have e : (281474976710656 : Int) = 2 ^ 48 := by decide
  rw [e] at h1 h2
  have g1 := Rat.intCast_le_intCast.2 h1
  have g2 := Rat.intCast_lt_intCast.2 h2
  rw [Rat.intCast_mul, p2int] at g1
  rw [Rat.intCast_mul _ ((2 : Int) ^ 48), p2int, Rat.intCast_add] at g2
  rw [Dy.v_int]
  have h3 := v_nrm_mul (z := p * 411775) (d := 48) (by omega)
  rw [← h3] at g1 g2
  exact ⟨Rat.le_of_mul_le_mul_right g1 (p2pos 48), Rat.lt_of_mul_lt_mul_right g2 (Rat.le_of_lt (p2pos 48))⟩

theorem emf_ok (f s : Int) (hf : -9223372036854775808 ≤ f ∧ f ≤ 9223372036854775807) (hs : -9223372036854775808 ≤ s ∧ s ≤ 9223372036854775807) : CallOK Tryd.prog gl 4 [.v (.int .i64 f), .v (.int .i64 s)] (.v (.bool (true))) := by
  refine call_ok (C := ⟨Tryd.prog, gl, ti, 62, false⟩) ti_ok mixed 3000 Tryd.call4 Tryd.func4 rfl Tryd.ntmps4 (by simp) (by (try simp only [List.mem_cons, List.not_mem_nil, or_false, forall_eq_or_imp, forall_eq]); (repeat' (first | exact Cl.v _ | exact Cl.u32s | exact Cl.i64s | exact Cl.sl (by assumption) | refine And.intro ?_ ?_ | refine Cl.agg ?_ | refine Cl.rp ?_ | refine Cl.sl ?_ | refine Cl.tup ?_ | simp only [List.mem_cons, List.not_mem_nil, or_false, forall_eq_or_imp, forall_eq, false_imp_iff, implies_true]))) (by (try simp only [List.mem_cons, List.not_mem_nil, or_false, forall_eq_or_imp, forall_eq]); (repeat' (first | exact Cl.v _ | exact Cl.u32s | exact Cl.i64s | exact Cl.sl (by assumption) | refine And.intro ?_ ?_ | refine Cl.agg ?_ | refine Cl.rp ?_ | refine Cl.sl ?_ | refine Cl.tup ?_ | simp only [List.mem_cons, List.not_mem_nil, or_false, forall_eq_or_imp, forall_eq, false_imp_iff, implies_true]))) ?_
  rw [Tryd.results4]
  have hp := emf_pre f s
  have hn := emf_bd f s
  have hv := emf_v (n := emf f s) rfl
  have ef := cur_Emf f s
  have er := ref35_Emf f s
  have cf := base_Clip f (-1073741824) 1073741824
  have cs := base_Clip s (-1073741824) 1073741824
  have bf := clip_bd (lo := -1073741824) (hi := 1073741824) (by omega) f
  have bs := clip_bd (lo := -1073741824) (hi := 1073741824) (by omega) s
  generalize emf f s = n at *
  generalize clip f (-1073741824) 1073741824 = f' at *
  generalize clip s (-1073741824) 1073741824 = s' at *
  generalize hpp : f' * s' = p at *
  have o1 := Of_ok p (by omega)
  have o2 := Of_ok 411774 (by omega)
  have o3 := Of_ok 411775 (by omega)
  have o4 := Of_ok 3 (by omega)
  have o5 := Of_ok n (by omega)
  have gp : Mg 61 (Dy.int p) := Mg.int (by omega)
  have g2 : Mg 19 (Dy.int 411774) := Mg.int (by decide)
  have g3 : Mg 19 (Dy.int 411775) := Mg.int (by decide)
  have g4 : Mg 80 (Dy.int 3) := Mg.int (by decide)
  have g5 : Mg 40 (Dy.int n) := Mg.int (by omega)
  have m1 := Mul_ok _ _ _ _ _ _ _ _ (Arg.of gp (by omega)) (Arg.of g2 (by omega))
  have m2 := Mul_ok _ _ _ _ _ _ _ _ (Arg.of gp (by omega)) (Arg.of g3 (by omega))
  rw [v_int_mul] at m1 m2
  have q1 : Mg 80 (Dy.int (p * 411774)) := Mg.int (by omega)
  have q2 : Mg 80 (Dy.int (p * 411775)) := Mg.int (by omega)
  have s1 := Shift_ok _ _ _ (-48) _ (Arg.of q1 (by omega))
  have s2 := Shift_ok _ _ _ (-48) _ (Arg.of q2 (by omega))
  rw [show (Dy.int (p * 411774)).shift (-48) = nrm (p * 411774) 48 from shift_nrm _ 48 (by omega)] at s1
  rw [show (Dy.int (p * 411775)).shift (-48) = nrm (p * 411775) 48 from shift_nrm _ 48 (by omega)] at s2
  have r1 : Mg 80 (nrm (p * 411774) 48) := mg_nrm (by omega)
  have r2 : Mg 80 (nrm (p * 411775) 48) := mg_nrm (by omega)
  generalize nrm (p * 411774) 48 = L at *
  generalize nrm (p * 411775) 48 = H at *
  have t1 := Min_ok _ _ _ _ _ _ _ _ (Arg.of r1 (by omega)) (Arg.of r2 (by omega))
  have t2 := Max_ok _ _ _ _ _ _ _ _ (Arg.of r1 (by omega)) (Arg.of r2 (by omega))
  have u1 := Sub_ok _ _ _ _ _ _ _ _ (Arg.of (r1.min r2) (by omega)) (Arg.of g4 (by omega))
  have u2 := Add_ok _ _ _ _ _ _ _ _ (Arg.of (r1.max r2) (by omega)) (Arg.of g4 (by omega))
  have c1 := Cmp_ok _ _ _ _ _ _ _ _ (Arg.of ((r1.min r2).sub g4) (by omega)) (Arg.of g5 (by omega))
  have c2 := Cmp_ok _ _ _ _ _ _ _ _ (Arg.of g5 (by omega)) (Arg.of ((r1.max r2).add g4) (by omega))
  have e3 : (Dy.int 3).v = 3 := Dy.v_int 3
  rw [cmp_of_lt (by rw [Dy.v_sub, Dy.v_min, e3]; grind)] at c1
  rw [cmp_of_lt (by rw [Dy.v_add, Dy.v_max, e3]; grind)] at c2
  repeat' (first
    | (simp only [go_sem, Int.reduceAdd, Int.reduceEq, Int.reduceLE, Int.reduceLT, Int.reduceMul, Int.reduceNeg, Int.reducePow, Int.reduceSub, Int.reduceToNat, Nat.reduceAdd, Nat.reduceBEq, Nat.reduceEqDiff, Nat.reduceLT, Nat.reduceLeDiff, Nat.reduceMul, Nat.reducePow, Nat.reduceSub, reduceCtorEq, reduceIte, IntKind.bits.eq_def, ti, tin, hpp])
    | (simp (disch := omega) only [w64, wu64, wu32, Nat.min_eq_left])
    | (with_reducible refine callF_of (awake35) ?_)
    | (with_reducible refine drawF_of (awake35) ?_)
    | (with_reducible refine callF_of (ef) ?_)
    | (with_reducible refine drawF_of (ef) ?_)
    | (with_reducible refine callF_of (er) ?_)
    | (with_reducible refine drawF_of (er) ?_)
    | (with_reducible refine callF_of (cf) ?_)
    | (with_reducible refine drawF_of (cf) ?_)
    | (with_reducible refine callF_of (cs) ?_)
    | (with_reducible refine drawF_of (cs) ?_)
    | (with_reducible refine callF_of (o1) ?_)
    | (with_reducible refine drawF_of (o1) ?_)
    | (with_reducible refine callF_of (o2) ?_)
    | (with_reducible refine drawF_of (o2) ?_)
    | (with_reducible refine callF_of (o3) ?_)
    | (with_reducible refine drawF_of (o3) ?_)
    | (with_reducible refine callF_of (o4) ?_)
    | (with_reducible refine drawF_of (o4) ?_)
    | (with_reducible refine callF_of (o5) ?_)
    | (with_reducible refine drawF_of (o5) ?_)
    | (with_reducible refine callF_of (m1) ?_)
    | (with_reducible refine drawF_of (m1) ?_)
    | (with_reducible refine callF_of (m2) ?_)
    | (with_reducible refine drawF_of (m2) ?_)
    | (with_reducible refine callF_of (s1) ?_)
    | (with_reducible refine drawF_of (s1) ?_)
    | (with_reducible refine callF_of (s2) ?_)
    | (with_reducible refine drawF_of (s2) ?_)
    | (with_reducible refine callF_of (t1) ?_)
    | (with_reducible refine drawF_of (t1) ?_)
    | (with_reducible refine callF_of (t2) ?_)
    | (with_reducible refine drawF_of (t2) ?_)
    | (with_reducible refine callF_of (u1) ?_)
    | (with_reducible refine drawF_of (u1) ?_)
    | (with_reducible refine callF_of (u2) ?_)
    | (with_reducible refine drawF_of (u2) ?_)
    | (with_reducible refine callF_of (c1) ?_)
    | (with_reducible refine drawF_of (c1) ?_)
    | (with_reducible refine callF_of (c2) ?_)
    | (with_reducible refine drawF_of (c2) ?_)
    | (refine after_lit ti_ok ?_)
    | (refine drawAfter_lit ti_ok ?_)
    | (refine drawEnd_of (by kernel_rfl) ?_)
    | (refine cond_cases (fun hc => ?_) (fun hc => ?_) <;> first | (exfalso; simp only [decide_eq_true_eq, decide_eq_false_iff_not, Bool.not_eq_true, Bool.not_eq_false, Bool.not_eq_true', Bool.not_eq_false'] at hc; omega) | (simp only [hc]; try simp only [decide_eq_true_eq, decide_eq_false_iff_not, Bool.not_eq_true, Bool.not_eq_false, Bool.not_eq_true', Bool.not_eq_false'] at hc))
    | (refine guard_split (fun hc => ?_) (fun hc => ?_) <;> first | (exfalso; simp only [decide_eq_true_eq, decide_eq_false_iff_not, Bool.not_eq_true, Bool.not_eq_false, Bool.not_eq_true', Bool.not_eq_false'] at hc; omega) | (simp only [hc]; try simp only [decide_eq_true_eq, decide_eq_false_iff_not, Bool.not_eq_true, Bool.not_eq_false, Bool.not_eq_true', Bool.not_eq_false'] at hc))
    | (refine drawGuard_split (fun hc => ?_) (fun hc => ?_) <;> first | (exfalso; simp only [decide_eq_true_eq, decide_eq_false_iff_not, Bool.not_eq_true, Bool.not_eq_false, Bool.not_eq_true', Bool.not_eq_false'] at hc; omega) | (simp only [hc]; try simp only [decide_eq_true_eq, decide_eq_false_iff_not, Bool.not_eq_true, Bool.not_eq_false, Bool.not_eq_true', Bool.not_eq_false'] at hc))
    | (refine after_need (by omega) ?_)
    | (refine drawAfter_need (by omega) ?_))
  exact fin_same trivial rfl
theorem emf35 (f s : Int) (hf : -9223372036854775808 ≤ f ∧ f ≤ 9223372036854775807) (hs : -9223372036854775808 ≤ s ∧ s ≤ 9223372036854775807) : CallOK Tryd.prog gl 4 [.v (.int .i64 f), .v (.int .i64 s)] (.v (.bool true)) := emf_ok f s hf hs
end Go.Proofs.YtfoadddlmehpnaaDoor
