/- Layer 35 (current): a tick. -/
import Derived.Test.YtfoadddlmehpnaaDoorCur
set_option linter.unusedSimpArgs false
set_option linter.unusedVariables false
set_option linter.deprecated false
namespace Go.Proofs.YtfoadddlmehpnaaDoor
open Go Go.Ax
set_option maxRecDepth 100000
set_option maxHeartbeats 4000000

def cuM (l : Int) : Int := clip l 0 1048576
def cuOD (kp ki lo hi sd rd md mq lq sp : Int) (dec : Bool) : Int := if dec then piO kp ki lo hi sd (cuC rd - cuC md) - emf (lq * cuC mq / 1024) sp else piO kp ki lo hi sd (cuC rd - cuC md)
def cuOQ (kp ki lo hi sq rq mq md ld mg sp : Int) (dec : Bool) : Int := if dec then piO kp ki lo hi sq (cuC rq - cuC mq) + emf (ld * cuC md / 1024 + mg) sp else piO kp ki lo hi sq (cuC rq - cuC mq)
def cuR (l vd : Int) : Int := rt (cuM l * cuM l - vd * vd)
theorem cuM_bd (l : Int) : 0 ≤ cuM l ∧ cuM l ≤ 1048576 := clip_bd (by omega) l
theorem cuR_bd {l vd : Int} (h : -cuM l ≤ vd ∧ vd ≤ cuM l) : 0 ≤ cuR l vd ∧ cuR l vd ≤ 1048576 ∧ cuR l vd ≤ cuM l := by
  have hb := cuM_bd l
  have h1 := rest_bd (m := cuM l) (d := vd) (by omega) h
  obtain ⟨a1, a2, _⟩ := rt_spec h1.1 (by omega)
  refine ⟨a1, ?_⟩
  have key : rt (cuM l * cuM l - vd * vd) ≤ cuM l := by
    rcases Int.lt_or_le (cuM l) (rt (cuM l * cuM l - vd * vd)) with hlt | hle
    · have := sq_le (a := cuM l + 1) (b := rt (cuM l * cuM l - vd * vd)) (by omega) (by omega)
      simp only [Int.add_mul, Int.mul_add] at this
      omega
    · exact hle
  unfold cuR
  omega

theorem cur_Step0 (kp ki lo hi kp2 ki2 lo2 hi2 ld lq mg sd sq rd rq md mq sp l : Int) (dec : Bool) (h : ¬ cuBad kp ki lo hi kp2 ki2 lo2 hi2 ld lq mg) : CallOK Tryd.prog gl 47 [.agg [.v (.int .i64 kp), .v (.int .i64 ki), .v (.int .i64 lo), .v (.int .i64 hi), .v (.int .i64 kp2), .v (.int .i64 ki2), .v (.int .i64 lo2), .v (.int .i64 hi2), .v (.int .i64 ld), .v (.int .i64 lq), .v (.int .i64 mg)], .agg [.v (.int .i64 sd), .v (.int .i64 sq)], .agg [.v (.int .i64 rd), .v (.int .i64 rq), .v (.int .i64 md), .v (.int .i64 mq), .v (.int .i64 sp), .v (.int .i64 l), .v (.bool (dec))]] (.tup [.agg [.v (.int .i64 (axS lo hi sd (piS kp ki lo hi sd (cuC rd - cuC md)) (cuC rd - cuC md) (cuOD kp ki lo hi sd rd md mq lq sp dec) (cuM l))), .v (.int .i64 (axS lo2 hi2 sq (piS kp2 ki2 lo2 hi2 sq (cuC rq - cuC mq)) (cuC rq - cuC mq) (cuOQ kp2 ki2 lo2 hi2 sq rq mq md ld mg sp dec) (cuR l (clip (cuOD kp ki lo hi sd rd md mq lq sp dec) (-cuM l) (cuM l)))))], .agg [.v (.int .i64 (clip (cuOD kp ki lo hi sd rd md mq lq sp dec) (-cuM l) (cuM l))), .v (.int .i64 (clip (cuOQ kp2 ki2 lo2 hi2 sq rq mq md ld mg sp dec) (-cuR l (clip (cuOD kp ki lo hi sd rd md mq lq sp dec) (-cuM l) (cuM l))) (cuR l (clip (cuOD kp ki lo hi sd rd md mq lq sp dec) (-cuM l) (cuM l)))))], .v .nilIface]) := by
  refine call_ok (C := ⟨Tryd.prog, gl, ti, 130, false⟩) ti_ok mixed 3000 Tryd.call47 Tryd.func47 rfl Tryd.ntmps47 (by simp) (by (try simp only [List.mem_cons, List.not_mem_nil, or_false, forall_eq_or_imp, forall_eq]); (repeat' (first | exact Cl.v _ | exact Cl.u32s | exact Cl.i64s | exact Cl.sl (by assumption) | refine And.intro ?_ ?_ | refine Cl.agg ?_ | refine Cl.rp ?_ | refine Cl.sl ?_ | refine Cl.tup ?_ | simp only [List.mem_cons, List.not_mem_nil, or_false, forall_eq_or_imp, forall_eq, false_imp_iff, implies_true]))) (by (try simp only [List.mem_cons, List.not_mem_nil, or_false, forall_eq_or_imp, forall_eq]); (repeat' (first | exact Cl.v _ | exact Cl.u32s | exact Cl.i64s | exact Cl.sl (by assumption) | refine And.intro ?_ ?_ | refine Cl.agg ?_ | refine Cl.rp ?_ | refine Cl.sl ?_ | refine Cl.tup ?_ | simp only [List.mem_cons, List.not_mem_nil, or_false, forall_eq_or_imp, forall_eq, false_imp_iff, implies_true]))) ?_
  rw [Tryd.results47]
  have h1 : ¬ piBad kp ki lo hi := fun q => h (.inl q)
  have h2 : ¬ piBad kp2 ki2 lo2 hi2 := fun q => h (.inr (.inl q))
  have h3 := h1
  have h4 := h2
  have h5 := h
  unfold cuBad at h5
  unfold piBad at h3 h4
  have m1 := cuC_bd md
  have m2 := cuC_bd mq
  have m3 := cuC_bd rd
  have m4 := cuC_bd rq
  have b1 := mul_bd (a := lq) (A := 1048576) (by omega) m2
  have b2 := mul_bd (a := ld) (A := 1048576) (by omega) m1
  have b3 := emf_bd (lq * cuC mq / 1024) sp
  have b4 := emf_bd (ld * cuC md / 1024 + mg) sp
  have o1 : lo ≤ piO kp ki lo hi sd (cuC rd - cuC md) ∧ piO kp ki lo hi sd (cuC rd - cuC md) ≤ hi := clip_bd (by omega) _
  have o2 : lo2 ≤ piO kp2 ki2 lo2 hi2 sq (cuC rq - cuC mq) ∧ piO kp2 ki2 lo2 hi2 sq (cuC rq - cuC mq) ≤ hi2 := clip_bd (by omega) _
  have hm := cuM_bd l
  have e1 : clip l 0 1048576 = cuM l := rfl
  have hv := clip_bd (lo := -cuM l) (hi := cuM l) (by omega) (cuOD kp ki lo hi sd rd md mq lq sp dec)
  have hR := cuR_bd hv
  have e2 : ∀ v, rt (cuM l * cuM l - v * v) = cuR l v := fun v => rfl
  cases dec
  ·
    have e3 : cuOD kp ki lo hi sd rd md mq lq sp false = piO kp ki lo hi sd (cuC rd - cuC md) := rfl
    have e4 : cuOQ kp2 ki2 lo2 hi2 sq rq mq md ld mg sp false = piO kp2 ki2 lo2 hi2 sq (cuC rq - cuC mq) := rfl
    rw [e3] at hv hR
    repeat' (first
      | (simp only [go_sem, Int.reduceAdd, Int.reduceEq, Int.reduceLE, Int.reduceLT, Int.reduceMul, Int.reduceNeg, Int.reducePow, Int.reduceSub, Int.reduceToNat, Nat.reduceAdd, Nat.reduceBEq, Nat.reduceEqDiff, Nat.reduceLT, Nat.reduceLeDiff, Nat.reduceMul, Nat.reducePow, Nat.reduceSub, reduceCtorEq, reduceIte, IntKind.bits.eq_def, ti, tin, e1, e2])
      | (simp (disch := omega) only [w64, wu64, wu32, Nat.min_eq_left])
      | (with_reducible refine callF_of (cur_clip _ _ _) ?_)
      | (with_reducible refine drawF_of (cur_clip _ _ _) ?_)
      | (with_reducible refine callF_of (cur_both _ _) ?_)
      | (with_reducible refine drawF_of (cur_both _ _) ?_)
      | (with_reducible refine callF_of (cur_Check _ _ _ _ _ _ _ _ _ _ _ h) ?_)
      | (with_reducible refine drawF_of (cur_Check _ _ _ _ _ _ _ _ _ _ _ h) ?_)
      | (with_reducible refine callF_of (cur_newAxis _ _ _ _ _ _ _ h1 (by omega) (by omega)) ?_)
      | (with_reducible refine drawF_of (cur_newAxis _ _ _ _ _ _ _ h1 (by omega) (by omega)) ?_)
      | (with_reducible refine callF_of (cur_newAxis _ _ _ _ _ _ _ h2 (by omega) (by omega)) ?_)
      | (with_reducible refine drawF_of (cur_newAxis _ _ _ _ _ _ _ h2 (by omega) (by omega)) ?_)
      | (with_reducible refine callF_of (cur_limit _ _ _ _ _ _ _ _ _ h1 (by omega)) ?_)
      | (with_reducible refine drawF_of (cur_limit _ _ _ _ _ _ _ _ _ h1 (by omega)) ?_)
      | (with_reducible refine callF_of (cur_limit _ _ _ _ _ _ _ _ _ h2 (by omega)) ?_)
      | (with_reducible refine drawF_of (cur_limit _ _ _ _ _ _ _ _ _ h2 (by omega)) ?_)
      | (with_reducible refine callF_of (cur_Emf _ _) ?_)
      | (with_reducible refine drawF_of (cur_Emf _ _) ?_)
      | (with_reducible refine callF_of (root_Rest _ _ (by omega) (by omega)) ?_)
      | (with_reducible refine drawF_of (root_Rest _ _ (by omega) (by omega)) ?_)
      | (refine after_lit ti_ok ?_)
      | (refine drawAfter_lit ti_ok ?_)
      | (refine drawEnd_of (by kernel_rfl) ?_)
      | (refine cond_cases (fun hc => ?_) (fun hc => ?_) <;> first | (exfalso; simp only [decide_eq_true_eq, decide_eq_false_iff_not, Bool.not_eq_true, Bool.not_eq_false, Bool.not_eq_true', Bool.not_eq_false'] at hc; omega) | (simp only [hc]; try simp only [decide_eq_true_eq, decide_eq_false_iff_not, Bool.not_eq_true, Bool.not_eq_false, Bool.not_eq_true', Bool.not_eq_false'] at hc))
      | (refine guard_split (fun hc => ?_) (fun hc => ?_) <;> first | (exfalso; simp only [decide_eq_true_eq, decide_eq_false_iff_not, Bool.not_eq_true, Bool.not_eq_false, Bool.not_eq_true', Bool.not_eq_false'] at hc; omega) | (simp only [hc]; try simp only [decide_eq_true_eq, decide_eq_false_iff_not, Bool.not_eq_true, Bool.not_eq_false, Bool.not_eq_true', Bool.not_eq_false'] at hc))
      | (refine drawGuard_split (fun hc => ?_) (fun hc => ?_) <;> first | (exfalso; simp only [decide_eq_true_eq, decide_eq_false_iff_not, Bool.not_eq_true, Bool.not_eq_false, Bool.not_eq_true', Bool.not_eq_false'] at hc; omega) | (simp only [hc]; try simp only [decide_eq_true_eq, decide_eq_false_iff_not, Bool.not_eq_true, Bool.not_eq_false, Bool.not_eq_true', Bool.not_eq_false'] at hc))
      | (refine after_need (by omega) ?_)
      | (refine drawAfter_need (by omega) ?_))
    rw [e3, e4]
    exact fin_same trivial rfl
  ·
    have e3 : cuOD kp ki lo hi sd rd md mq lq sp true = piO kp ki lo hi sd (cuC rd - cuC md) - emf (lq * cuC mq / 1024) sp := rfl
    have e4 : cuOQ kp2 ki2 lo2 hi2 sq rq mq md ld mg sp true = piO kp2 ki2 lo2 hi2 sq (cuC rq - cuC mq) + emf (ld * cuC md / 1024 + mg) sp := rfl
    rw [e3] at hv hR
    repeat' (first
      | (simp only [go_sem, Int.reduceAdd, Int.reduceEq, Int.reduceLE, Int.reduceLT, Int.reduceMul, Int.reduceNeg, Int.reducePow, Int.reduceSub, Int.reduceToNat, Nat.reduceAdd, Nat.reduceBEq, Nat.reduceEqDiff, Nat.reduceLT, Nat.reduceLeDiff, Nat.reduceMul, Nat.reducePow, Nat.reduceSub, reduceCtorEq, reduceIte, IntKind.bits.eq_def, ti, tin, e1, e2])
      | (simp (disch := omega) only [w64, wu64, wu32, Nat.min_eq_left])
      | (with_reducible refine callF_of (cur_clip _ _ _) ?_)
      | (with_reducible refine drawF_of (cur_clip _ _ _) ?_)
      | (with_reducible refine callF_of (cur_both _ _) ?_)
      | (with_reducible refine drawF_of (cur_both _ _) ?_)
      | (with_reducible refine callF_of (cur_Check _ _ _ _ _ _ _ _ _ _ _ h) ?_)
      | (with_reducible refine drawF_of (cur_Check _ _ _ _ _ _ _ _ _ _ _ h) ?_)
      | (with_reducible refine callF_of (cur_newAxis _ _ _ _ _ _ _ h1 (by omega) (by omega)) ?_)
      | (with_reducible refine drawF_of (cur_newAxis _ _ _ _ _ _ _ h1 (by omega) (by omega)) ?_)
      | (with_reducible refine callF_of (cur_newAxis _ _ _ _ _ _ _ h2 (by omega) (by omega)) ?_)
      | (with_reducible refine drawF_of (cur_newAxis _ _ _ _ _ _ _ h2 (by omega) (by omega)) ?_)
      | (with_reducible refine callF_of (cur_limit _ _ _ _ _ _ _ _ _ h1 (by omega)) ?_)
      | (with_reducible refine drawF_of (cur_limit _ _ _ _ _ _ _ _ _ h1 (by omega)) ?_)
      | (with_reducible refine callF_of (cur_limit _ _ _ _ _ _ _ _ _ h2 (by omega)) ?_)
      | (with_reducible refine drawF_of (cur_limit _ _ _ _ _ _ _ _ _ h2 (by omega)) ?_)
      | (with_reducible refine callF_of (cur_Emf _ _) ?_)
      | (with_reducible refine drawF_of (cur_Emf _ _) ?_)
      | (with_reducible refine callF_of (root_Rest _ _ (by omega) (by omega)) ?_)
      | (with_reducible refine drawF_of (root_Rest _ _ (by omega) (by omega)) ?_)
      | (refine after_lit ti_ok ?_)
      | (refine drawAfter_lit ti_ok ?_)
      | (refine drawEnd_of (by kernel_rfl) ?_)
      | (refine cond_cases (fun hc => ?_) (fun hc => ?_) <;> first | (exfalso; simp only [decide_eq_true_eq, decide_eq_false_iff_not, Bool.not_eq_true, Bool.not_eq_false, Bool.not_eq_true', Bool.not_eq_false'] at hc; omega) | (simp only [hc]; try simp only [decide_eq_true_eq, decide_eq_false_iff_not, Bool.not_eq_true, Bool.not_eq_false, Bool.not_eq_true', Bool.not_eq_false'] at hc))
      | (refine guard_split (fun hc => ?_) (fun hc => ?_) <;> first | (exfalso; simp only [decide_eq_true_eq, decide_eq_false_iff_not, Bool.not_eq_true, Bool.not_eq_false, Bool.not_eq_true', Bool.not_eq_false'] at hc; omega) | (simp only [hc]; try simp only [decide_eq_true_eq, decide_eq_false_iff_not, Bool.not_eq_true, Bool.not_eq_false, Bool.not_eq_true', Bool.not_eq_false'] at hc))
      | (refine drawGuard_split (fun hc => ?_) (fun hc => ?_) <;> first | (exfalso; simp only [decide_eq_true_eq, decide_eq_false_iff_not, Bool.not_eq_true, Bool.not_eq_false, Bool.not_eq_true', Bool.not_eq_false'] at hc; omega) | (simp only [hc]; try simp only [decide_eq_true_eq, decide_eq_false_iff_not, Bool.not_eq_true, Bool.not_eq_false, Bool.not_eq_true', Bool.not_eq_false'] at hc))
      | (refine after_need (by omega) ?_)
      | (refine drawAfter_need (by omega) ?_))
    rw [e3, e4]
    exact fin_same trivial rfl
end Go.Proofs.YtfoadddlmehpnaaDoor
