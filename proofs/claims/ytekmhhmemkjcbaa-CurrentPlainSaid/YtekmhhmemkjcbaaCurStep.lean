/- Layer 35 (current): a tick. -/
import Derived.Test.YtekmhhmemkjcbaaCur
set_option linter.unusedSimpArgs false
set_option linter.unusedVariables false
set_option linter.deprecated false
namespace Go.Proofs.Ytekmhhmemkjcbaa
open Go Go.Ax
set_option maxRecDepth 100000
set_option maxHeartbeats 4000000

def cuM (l : Int) : Int := clip l 0 1048576
def cuOD (kp ki lo hi sd rd md mq lq sp : Int) (dec : Bool) : Int := if dec then piO kp ki lo hi sd (cuC rd - cuC md) - emf (lq * cuC mq / 1024) sp else piO kp ki lo hi sd (cuC rd - cuC md)
def cuOQ (kp ki lo hi sq rq mq md ld mg sp : Int) (dec : Bool) : Int := if dec then piO kp ki lo hi sq (cuC rq - cuC mq) + emf (ld * cuC md / 1024 + mg) sp else piO kp ki lo hi sq (cuC rq - cuC mq)
def cuR (l vd : Int) : Int := rt (cuM l * cuM l - vd * vd)
theorem cuM_bd (l : Int) : 0 ≤ cuM l ∧ cuM l ≤ 1048576 := clip_bd (by omega) l
theorem cuR_bd {l vd : Int} (h : -cuM l ≤ vd ∧ vd ≤ cuM l) : 0 ≤ cuR l vd ∧ cuR l vd ≤ 1048576 ∧ cuR l vd ≤ cuM l := by
  have hb := cuM_bd l
  have h1 := rest_bd (m := cuM l) (d := vd) (by omega) h
  obtain ⟨a1, a2, _⟩ := rt_spec h1.1 (by omega)
  refine ⟨a1, ?_⟩
  have key : rt (cuM l * cuM l - vd * vd) ≤ cuM l := by
    rcases Int.lt_or_le (cuM l) (rt (cuM l * cuM l - vd * vd)) with hlt | hle
    · have := sq_le (a := cuM l + 1) (b := rt (cuM l * cuM l - vd * vd)) (by omega) (by omega)
      simp only [Int.add_mul, Int.mul_add] at this
      omega
    · exact hle
  unfold cuR
  omega

theorem cur_Step0 (kp ki lo hi kp2 ki2 lo2 hi2 ld lq mg sd sq rd rq md mq sp l : Int) (dec : Bool) (h : ¬ cuBad kp ki lo hi kp2 ki2 lo2 hi2 ld lq mg) : CallOK Try.prog gl 28 [.agg [.v (.int .i64 kp), .v (.int .i64 ki), .v (.int .i64 lo), .v (.int .i64 hi), .v (.int .i64 kp2), .v (.int .i64 ki2), .v (.int .i64 lo2), .v (.int .i64 hi2), .v (.int .i64 ld), .v (.int .i64 lq), .v (.int .i64 mg)], .agg [.v (.int .i64 sd), .v (.int .i64 sq)], .agg [.v (.int .i64 rd), .v (.int .i64 rq), .v (.int .i64 md), .v (.int .i64 mq), .v (.int .i64 sp), .v (.int .i64 l), .v (.bool (dec))]] (.tup [.agg [.v (.int .i64 (axS lo hi sd (piS kp ki lo hi sd (cuC rd - cuC md)) (cuC rd - cuC md) (cuOD kp ki lo hi sd rd md mq lq sp dec) (cuM l))), .v (.int .i64 (axS lo2 hi2 sq (piS kp2 ki2 lo2 hi2 sq (cuC rq - cuC mq)) (cuC rq - cuC mq) (cuOQ kp2 ki2 lo2 hi2 sq rq mq md ld mg sp dec) (cuR l (clip (cuOD kp ki lo hi sd rd md mq lq sp dec) (-cuM l) (cuM l)))))], .agg [.v (.int .i64 (clip (cuOD kp ki lo hi sd rd md mq lq sp dec) (-cuM l) (cuM l))), .v (.int .i64 (clip (cuOQ kp2 ki2 lo2 hi2 sq rq mq md ld mg sp dec) (-cuR l (clip (cuOD kp ki lo hi sd rd md mq lq sp dec) (-cuM l) (cuM l))) (cuR l (clip (cuOD kp ki lo hi sd rd md mq lq sp dec) (-cuM l) (cuM l)))))], .v .nilIface]) := by
  refine call_ok (C := ⟨Try.prog, gl, ti, 130⟩) ti_ok mixed 3000 Try.call28 Try.func28 rfl Try.ntmps28 (by simp) (by (try simp only [List.mem_cons, List.not_mem_nil, or_false, forall_eq_or_imp, forall_eq]); (repeat' (first | exact Cl.v _ | exact Cl.u32s | exact Cl.i64s | exact Cl.sl (by assumption) | refine And.intro ?_ ?_ | refine Cl.agg ?_ | refine Cl.sl ?_ | refine Cl.tup ?_ | simp only [List.mem_cons, List.not_mem_nil, or_false, forall_eq_or_imp, forall_eq, false_imp_iff, implies_true]))) (by (try simp only [List.mem_cons, List.not_mem_nil, or_false, forall_eq_or_imp, forall_eq]); (repeat' (first | exact Cl.v _ | exact Cl.u32s | exact Cl.i64s | exact Cl.sl (by assumption) | refine And.intro ?_ ?_ | refine Cl.agg ?_ | refine Cl.sl ?_ | refine Cl.tup ?_ | simp only [List.mem_cons, List.not_mem_nil, or_false, forall_eq_or_imp, forall_eq, false_imp_iff, implies_true]))) ?_
  rw [Try.results28]
  have h1 : ¬ piBad kp ki lo hi := fun q => h (.inl q)
  have h2 : ¬ piBad kp2 ki2 lo2 hi2 := fun q => h (.inr (.inl q))
  have h3 := h1
  have h4 := h2
  have h5 := h
  unfold cuBad at h5
  unfold piBad at h3 h4
  have m1 := cuC_bd md
  have m2 := cuC_bd mq
  have m3 := cuC_bd rd
  have m4 := cuC_bd rq
  have b1 := mul_bd (a := lq) (A := 1048576) (by omega) m2
  have b2 := mul_bd (a := ld) (A := 1048576) (by omega) m1
  have b3 := emf_bd (lq * cuC mq / 1024) sp
  have b4 := emf_bd (ld * cuC md / 1024 + mg) sp
  have o1 : lo ≤ piO kp ki lo hi sd (cuC rd - cuC md) ∧ piO kp ki lo hi sd (cuC rd - cuC md) ≤ hi := clip_bd (by omega) _
  have o2 : lo2 ≤ piO kp2 ki2 lo2 hi2 sq (cuC rq - cuC mq) ∧ piO kp2 ki2 lo2 hi2 sq (cuC rq - cuC mq) ≤ hi2 := clip_bd (by omega) _
  have hm := cuM_bd l
  have e1 : clip l 0 1048576 = cuM l := rfl
  have hv := clip_bd (lo := -cuM l) (hi := cuM l) (by omega) (cuOD kp ki lo hi sd rd md mq lq sp dec)
  have hR := cuR_bd hv
  have e2 : ∀ v, rt (cuM l * cuM l - v * v) = cuR l v := fun v => rfl
  cases dec
  ·
    have e3 : cuOD kp ki lo hi sd rd md mq lq sp false = piO kp ki lo hi sd (cuC rd - cuC md) := rfl
    have e4 : cuOQ kp2 ki2 lo2 hi2 sq rq mq md ld mg sp false = piO kp2 ki2 lo2 hi2 sq (cuC rq - cuC mq) := rfl
    rw [e3] at hv hR
    repeat' (first
      | (simp only [Ax.ex_nil, Ax.ex_blk, Ax.ex_lp, Ax.ex_skip, Ax.ex_seq, Ax.ex_block, Ax.ex_ret, Ax.l_region, Ax.lap_cons, Ax.lap_nil, Ax.la_nil, Ax.la_assoc, Ax.la_op, Ax.la_call, Ax.la_guard, Ax.lda_nil, Ax.lda_assoc, Ax.lda_op, Ax.lda_call, Ax.lda_guard, Ax.gdA_zero, Ax.gdA_succ, Ax.gdA_nil, Ax.gdA_assoc, Ax.l_nil, Ax.l_op, Ax.l_call, Ax.l_guard, Ax.l_exit, Ax.exit_hit, Ax.exit_blk, Ax.exit_lp, Ax.exit_code, Ax.ex_cond, Ax.condT, Ax.condF, Ax.ex_loop, Ax.ex_op_plain, Ax.ex_call, Ax.call_fn, Ax.after_true, Ax.guard_tt, Ax.guard_ff, Ax.guard_tf, Ax.guard_ft, Ax.guard_undef, Ax.drawGuard_undef, Ax.gdVal, Ax.l_draw, Ax.ld_nil, Ax.ld_op, Ax.ld_call, Ax.ld_guard, Ax.draw_plain, Ax.draw_callo, Ax.drawCall_fn, Ax.drawAfter_true, Ax.drawGuard_tt, Ax.drawGuard_ff, Ax.drawGuard_tf, Ax.drawGuard_ft, Ax.l_unroll_succ, Ax.unrollQ_end, Ax.unrollQ_ret, Ax.unrollQ_normal, Ax.round_end, Ax.round_ret, Ax.round_normal, Ax.ends_ret, Ax.ends_normal, Nat.max_def, Ax.isCall.eq_def, Ax.dstOK.eq_def, Ax.look_hit, Ax.look_miss, Ax.look.eq_1, Nat.reduceBEq, Ax.ev_tmp, Ax.ev_const, Ax.ev_func, Ax.evL, Ax.entry, Ax.entryEnv, Ax.AS.put.eq_def, Ax.AS.upd.eq_def, Ax.bump, Ax.AV.cells.eq_def, Ax.AV.one.eq_def, Value.oneCell'.eq_def, Ax.blockOf.eq_def, Ax.rdOf.eq_def, Ax.wrOf.eq_def, Ax.aop_move, Ax.aop_assign, Ax.aMove_some, Ax.aop_pick, Ax.aop_alloc, Ax.aop_box, Ax.aop_build, Ax.aop_load, Ax.aop_store, Ax.aop_nil, Ax.aop_bin, Ax.aop_un, Ax.aop_convert, Ax.aop_iface, Ax.aop_fieldAddr, Ax.aop_field, Ax.aop_indexAddr, Ax.aop_index, Ax.aop_extract, Ax.aop, Ax.aBin.eq_def, Ax.aUn.eq_def, Ax.aPick.eq_def, Ax.aAlloc.eq_def, Ax.aBox.eq_def, Ax.aLoad.eq_def, Ax.aStore.eq_def, Ax.aNilCheck.eq_def, Ax.aFieldAddr.eq_def, Ax.aField.eq_def, Ax.aIndexAddr.eq_def, Ax.aIndex.eq_def, Ax.aBuild.eq_def, Ax.aConvert.eq_def, Ax.aMakeInterface.eq_def, Ax.aAssert.eq_def, Ax.aExtract.eq_def, Ax.aMakeFunc.eq_def, Ax.aLen.eq_def, Ax.aMin.eq_def, Ax.aMax.eq_def, Ax.aLenT.eq_def, Ax.aBuiltin.eq_def, Ax.headT, Ax.ibin.eq_def, Ax.ishift.eq_def, Ax.isShift.eq_def, Ax.eqNil.eq_def, Ax.eqBool.eq_def, Ax.toEff.eq_def, Ax.isNilConst.eq_def, Ax.isBoolT.eq_def, Ax.isIfaceT.eq_def, Ax.isSlcT.eq_def, Ax.isStrT.eq_def, Ax.strBin.eq_def, Ax.aop_makeSlice, Ax.aop_slice, Ax.aMakeSlice.eq_def, Ax.aSlice.eq_def, Ax.bndOf.eq_def, Option.isSome_none, Option.map_none, Ax.pk_bool, Ax.pk.eq_def, Ax.behind.eq_def, Ax.shiftPtr.eq_def, Ax.partOf.eq_def, Ax.fillA, Ax.placed, Ax.stPlace.eq_def, Ax.TK.agg.eq_def, Ax.Z.val.eq_def, Ax.resL, Ax.resOne.eq_def, List.cons_append, List.nil_append, List.append_nil, List.getElem?_cons_zero, List.getElem?_cons_succ, List.length_cons, List.length_nil, List.take_succ_cons, List.take_zero, List.drop_succ_cons, List.drop_zero, List.map_cons, List.map_nil, List.all_cons, List.all_nil, List.head?_cons, List.set_cons_zero, List.set_cons_succ, List.getD_cons_zero, List.getD_cons_succ, List.toList_toArray, Option.bind_some, Option.bind_none, Option.isSome_some, Option.map_some, Option.getD_some, Nat.reduceAdd, Nat.reduceEqDiff, Nat.reduceLT, Nat.reduceLeDiff, Nat.reduceSub, Nat.reduceMul, Nat.zero_add, Nat.add_zero, Nat.zero_mul, Nat.mul_zero, Nat.one_mul, Nat.mul_one, Int.reduceToNat, IntKind.bits.eq_def, Int.reducePow, Nat.min_eq_left, Int.one_mul, Int.mul_one, Nat.reducePow, Nat.one_ne_zero, Nat.zero_ne_one, Bool.or_self, Bool.or_false, Bool.or_true, Bool.false_or, Bool.true_or, Bool.and_true, Bool.and_false, Bool.true_and, Bool.false_and, Bool.not_true, Bool.not_false, Bool.false_eq_true, Bool.true_eq_false, Bool.and_self, Bool.decide_eq_true, true_and, and_true, false_and, and_false, and_self, if_true, if_false, ite_true, ite_false, reduceCtorEq, reduceIte, eq_self, true_implies, imp_self, implies_true, not_true_eq_false, not_false_eq_true, ne_eq, decide_true, decide_false, Ax.w64l, Int.reduceAdd, Int.reduceSub, Int.reduceMul, Int.reduceNeg, Int.reduceLE, Int.reduceLT, Int.zero_add, Int.toNat_zero, Int.reduceEq, Option.bind_eq_bind, Ax.veqs, Ax.veq, Ax.vals, eq_self, Int.toNat_natCast, Ax.thawS, Ax.thawE, Ax.thaw.eq_def, Ax.dropM, Ax.killT, Ax.isB.eq_def, Ax.AV.priv.eq_def, List.any_cons, List.any_nil, List.contains_cons, List.contains_nil, List.elem_nil, Bool.cond_true, Bool.cond_false, cond_true, cond_false, Ax.litThen_some, Ax.drawLitThen_some, Ax.aLit.eq_def, Ax.aRows, List.getD_cons_zero, List.getD_cons_succ, ti, tin, e1, e2])
      | (simp (disch := omega) only [w64, wu64, wu32, Nat.min_eq_left])
      | (with_reducible refine callF_of (cur_clip _ _ _) ?_)
      | (with_reducible refine drawF_of (cur_clip _ _ _) ?_)
      | (with_reducible refine callF_of (cur_both _ _) ?_)
      | (with_reducible refine drawF_of (cur_both _ _) ?_)
      | (with_reducible refine callF_of (cur_Check _ _ _ _ _ _ _ _ _ _ _ h) ?_)
      | (with_reducible refine drawF_of (cur_Check _ _ _ _ _ _ _ _ _ _ _ h) ?_)
      | (with_reducible refine callF_of (cur_newAxis _ _ _ _ _ _ _ h1 (by omega) (by omega)) ?_)
      | (with_reducible refine drawF_of (cur_newAxis _ _ _ _ _ _ _ h1 (by omega) (by omega)) ?_)
      | (with_reducible refine callF_of (cur_newAxis _ _ _ _ _ _ _ h2 (by omega) (by omega)) ?_)
      | (with_reducible refine drawF_of (cur_newAxis _ _ _ _ _ _ _ h2 (by omega) (by omega)) ?_)
      | (with_reducible refine callF_of (cur_limit _ _ _ _ _ _ _ _ _ h1 (by omega)) ?_)
      | (with_reducible refine drawF_of (cur_limit _ _ _ _ _ _ _ _ _ h1 (by omega)) ?_)
      | (with_reducible refine callF_of (cur_limit _ _ _ _ _ _ _ _ _ h2 (by omega)) ?_)
      | (with_reducible refine drawF_of (cur_limit _ _ _ _ _ _ _ _ _ h2 (by omega)) ?_)
      | (with_reducible refine callF_of (cur_Emf _ _) ?_)
      | (with_reducible refine drawF_of (cur_Emf _ _) ?_)
      | (with_reducible refine callF_of (root_Rest _ _ (by omega) (by omega)) ?_)
      | (with_reducible refine drawF_of (root_Rest _ _ (by omega) (by omega)) ?_)
      | (refine after_lit ti_ok ?_)
      | (refine drawAfter_lit ti_ok ?_)
      | (refine drawEnd_of (by kernel_rfl) ?_)
      | (refine cond_cases (fun hc => ?_) (fun hc => ?_) <;> first | (exfalso; simp only [decide_eq_true_eq, decide_eq_false_iff_not, Bool.not_eq_true, Bool.not_eq_false, Bool.not_eq_true', Bool.not_eq_false'] at hc; omega) | (simp only [hc]; try simp only [decide_eq_true_eq, decide_eq_false_iff_not, Bool.not_eq_true, Bool.not_eq_false, Bool.not_eq_true', Bool.not_eq_false'] at hc))
      | (refine guard_split (fun hc => ?_) (fun hc => ?_) <;> first | (exfalso; simp only [decide_eq_true_eq, decide_eq_false_iff_not, Bool.not_eq_true, Bool.not_eq_false, Bool.not_eq_true', Bool.not_eq_false'] at hc; omega) | (simp only [hc]; try simp only [decide_eq_true_eq, decide_eq_false_iff_not, Bool.not_eq_true, Bool.not_eq_false, Bool.not_eq_true', Bool.not_eq_false'] at hc))
      | (refine drawGuard_split (fun hc => ?_) (fun hc => ?_) <;> first | (exfalso; simp only [decide_eq_true_eq, decide_eq_false_iff_not, Bool.not_eq_true, Bool.not_eq_false, Bool.not_eq_true', Bool.not_eq_false'] at hc; omega) | (simp only [hc]; try simp only [decide_eq_true_eq, decide_eq_false_iff_not, Bool.not_eq_true, Bool.not_eq_false, Bool.not_eq_true', Bool.not_eq_false'] at hc))
      | (refine after_need (by omega) ?_)
      | (refine drawAfter_need (by omega) ?_))
    rw [e3, e4]
    exact fin_same trivial rfl
  ·
    have e3 : cuOD kp ki lo hi sd rd md mq lq sp true = piO kp ki lo hi sd (cuC rd - cuC md) - emf (lq * cuC mq / 1024) sp := rfl
    have e4 : cuOQ kp2 ki2 lo2 hi2 sq rq mq md ld mg sp true = piO kp2 ki2 lo2 hi2 sq (cuC rq - cuC mq) + emf (ld * cuC md / 1024 + mg) sp := rfl
    rw [e3] at hv hR
    repeat' (first
      | (simp only [Ax.ex_nil, Ax.ex_blk, Ax.ex_lp, Ax.ex_skip, Ax.ex_seq, Ax.ex_block, Ax.ex_ret, Ax.l_region, Ax.lap_cons, Ax.lap_nil, Ax.la_nil, Ax.la_assoc, Ax.la_op, Ax.la_call, Ax.la_guard, Ax.lda_nil, Ax.lda_assoc, Ax.lda_op, Ax.lda_call, Ax.lda_guard, Ax.gdA_zero, Ax.gdA_succ, Ax.gdA_nil, Ax.gdA_assoc, Ax.l_nil, Ax.l_op, Ax.l_call, Ax.l_guard, Ax.l_exit, Ax.exit_hit, Ax.exit_blk, Ax.exit_lp, Ax.exit_code, Ax.ex_cond, Ax.condT, Ax.condF, Ax.ex_loop, Ax.ex_op_plain, Ax.ex_call, Ax.call_fn, Ax.after_true, Ax.guard_tt, Ax.guard_ff, Ax.guard_tf, Ax.guard_ft, Ax.guard_undef, Ax.drawGuard_undef, Ax.gdVal, Ax.l_draw, Ax.ld_nil, Ax.ld_op, Ax.ld_call, Ax.ld_guard, Ax.draw_plain, Ax.draw_callo, Ax.drawCall_fn, Ax.drawAfter_true, Ax.drawGuard_tt, Ax.drawGuard_ff, Ax.drawGuard_tf, Ax.drawGuard_ft, Ax.l_unroll_succ, Ax.unrollQ_end, Ax.unrollQ_ret, Ax.unrollQ_normal, Ax.round_end, Ax.round_ret, Ax.round_normal, Ax.ends_ret, Ax.ends_normal, Nat.max_def, Ax.isCall.eq_def, Ax.dstOK.eq_def, Ax.look_hit, Ax.look_miss, Ax.look.eq_1, Nat.reduceBEq, Ax.ev_tmp, Ax.ev_const, Ax.ev_func, Ax.evL, Ax.entry, Ax.entryEnv, Ax.AS.put.eq_def, Ax.AS.upd.eq_def, Ax.bump, Ax.AV.cells.eq_def, Ax.AV.one.eq_def, Value.oneCell'.eq_def, Ax.blockOf.eq_def, Ax.rdOf.eq_def, Ax.wrOf.eq_def, Ax.aop_move, Ax.aop_assign, Ax.aMove_some, Ax.aop_pick, Ax.aop_alloc, Ax.aop_box, Ax.aop_build, Ax.aop_load, Ax.aop_store, Ax.aop_nil, Ax.aop_bin, Ax.aop_un, Ax.aop_convert, Ax.aop_iface, Ax.aop_fieldAddr, Ax.aop_field, Ax.aop_indexAddr, Ax.aop_index, Ax.aop_extract, Ax.aop, Ax.aBin.eq_def, Ax.aUn.eq_def, Ax.aPick.eq_def, Ax.aAlloc.eq_def, Ax.aBox.eq_def, Ax.aLoad.eq_def, Ax.aStore.eq_def, Ax.aNilCheck.eq_def, Ax.aFieldAddr.eq_def, Ax.aField.eq_def, Ax.aIndexAddr.eq_def, Ax.aIndex.eq_def, Ax.aBuild.eq_def, Ax.aConvert.eq_def, Ax.aMakeInterface.eq_def, Ax.aAssert.eq_def, Ax.aExtract.eq_def, Ax.aMakeFunc.eq_def, Ax.aLen.eq_def, Ax.aMin.eq_def, Ax.aMax.eq_def, Ax.aLenT.eq_def, Ax.aBuiltin.eq_def, Ax.headT, Ax.ibin.eq_def, Ax.ishift.eq_def, Ax.isShift.eq_def, Ax.eqNil.eq_def, Ax.eqBool.eq_def, Ax.toEff.eq_def, Ax.isNilConst.eq_def, Ax.isBoolT.eq_def, Ax.isIfaceT.eq_def, Ax.isSlcT.eq_def, Ax.isStrT.eq_def, Ax.strBin.eq_def, Ax.aop_makeSlice, Ax.aop_slice, Ax.aMakeSlice.eq_def, Ax.aSlice.eq_def, Ax.bndOf.eq_def, Option.isSome_none, Option.map_none, Ax.pk_bool, Ax.pk.eq_def, Ax.behind.eq_def, Ax.shiftPtr.eq_def, Ax.partOf.eq_def, Ax.fillA, Ax.placed, Ax.stPlace.eq_def, Ax.TK.agg.eq_def, Ax.Z.val.eq_def, Ax.resL, Ax.resOne.eq_def, List.cons_append, List.nil_append, List.append_nil, List.getElem?_cons_zero, List.getElem?_cons_succ, List.length_cons, List.length_nil, List.take_succ_cons, List.take_zero, List.drop_succ_cons, List.drop_zero, List.map_cons, List.map_nil, List.all_cons, List.all_nil, List.head?_cons, List.set_cons_zero, List.set_cons_succ, List.getD_cons_zero, List.getD_cons_succ, List.toList_toArray, Option.bind_some, Option.bind_none, Option.isSome_some, Option.map_some, Option.getD_some, Nat.reduceAdd, Nat.reduceEqDiff, Nat.reduceLT, Nat.reduceLeDiff, Nat.reduceSub, Nat.reduceMul, Nat.zero_add, Nat.add_zero, Nat.zero_mul, Nat.mul_zero, Nat.one_mul, Nat.mul_one, Int.reduceToNat, IntKind.bits.eq_def, Int.reducePow, Nat.min_eq_left, Int.one_mul, Int.mul_one, Nat.reducePow, Nat.one_ne_zero, Nat.zero_ne_one, Bool.or_self, Bool.or_false, Bool.or_true, Bool.false_or, Bool.true_or, Bool.and_true, Bool.and_false, Bool.true_and, Bool.false_and, Bool.not_true, Bool.not_false, Bool.false_eq_true, Bool.true_eq_false, Bool.and_self, Bool.decide_eq_true, true_and, and_true, false_and, and_false, and_self, if_true, if_false, ite_true, ite_false, reduceCtorEq, reduceIte, eq_self, true_implies, imp_self, implies_true, not_true_eq_false, not_false_eq_true, ne_eq, decide_true, decide_false, Ax.w64l, Int.reduceAdd, Int.reduceSub, Int.reduceMul, Int.reduceNeg, Int.reduceLE, Int.reduceLT, Int.zero_add, Int.toNat_zero, Int.reduceEq, Option.bind_eq_bind, Ax.veqs, Ax.veq, Ax.vals, eq_self, Int.toNat_natCast, Ax.thawS, Ax.thawE, Ax.thaw.eq_def, Ax.dropM, Ax.killT, Ax.isB.eq_def, Ax.AV.priv.eq_def, List.any_cons, List.any_nil, List.contains_cons, List.contains_nil, List.elem_nil, Bool.cond_true, Bool.cond_false, cond_true, cond_false, Ax.litThen_some, Ax.drawLitThen_some, Ax.aLit.eq_def, Ax.aRows, List.getD_cons_zero, List.getD_cons_succ, ti, tin, e1, e2])
      | (simp (disch := omega) only [w64, wu64, wu32, Nat.min_eq_left])
      | (with_reducible refine callF_of (cur_clip _ _ _) ?_)
      | (with_reducible refine drawF_of (cur_clip _ _ _) ?_)
      | (with_reducible refine callF_of (cur_both _ _) ?_)
      | (with_reducible refine drawF_of (cur_both _ _) ?_)
      | (with_reducible refine callF_of (cur_Check _ _ _ _ _ _ _ _ _ _ _ h) ?_)
      | (with_reducible refine drawF_of (cur_Check _ _ _ _ _ _ _ _ _ _ _ h) ?_)
      | (with_reducible refine callF_of (cur_newAxis _ _ _ _ _ _ _ h1 (by omega) (by omega)) ?_)
      | (with_reducible refine drawF_of (cur_newAxis _ _ _ _ _ _ _ h1 (by omega) (by omega)) ?_)
      | (with_reducible refine callF_of (cur_newAxis _ _ _ _ _ _ _ h2 (by omega) (by omega)) ?_)
      | (with_reducible refine drawF_of (cur_newAxis _ _ _ _ _ _ _ h2 (by omega) (by omega)) ?_)
      | (with_reducible refine callF_of (cur_limit _ _ _ _ _ _ _ _ _ h1 (by omega)) ?_)
      | (with_reducible refine drawF_of (cur_limit _ _ _ _ _ _ _ _ _ h1 (by omega)) ?_)
      | (with_reducible refine callF_of (cur_limit _ _ _ _ _ _ _ _ _ h2 (by omega)) ?_)
      | (with_reducible refine drawF_of (cur_limit _ _ _ _ _ _ _ _ _ h2 (by omega)) ?_)
      | (with_reducible refine callF_of (cur_Emf _ _) ?_)
      | (with_reducible refine drawF_of (cur_Emf _ _) ?_)
      | (with_reducible refine callF_of (root_Rest _ _ (by omega) (by omega)) ?_)
      | (with_reducible refine drawF_of (root_Rest _ _ (by omega) (by omega)) ?_)
      | (refine after_lit ti_ok ?_)
      | (refine drawAfter_lit ti_ok ?_)
      | (refine drawEnd_of (by kernel_rfl) ?_)
      | (refine cond_cases (fun hc => ?_) (fun hc => ?_) <;> first | (exfalso; simp only [decide_eq_true_eq, decide_eq_false_iff_not, Bool.not_eq_true, Bool.not_eq_false, Bool.not_eq_true', Bool.not_eq_false'] at hc; omega) | (simp only [hc]; try simp only [decide_eq_true_eq, decide_eq_false_iff_not, Bool.not_eq_true, Bool.not_eq_false, Bool.not_eq_true', Bool.not_eq_false'] at hc))
      | (refine guard_split (fun hc => ?_) (fun hc => ?_) <;> first | (exfalso; simp only [decide_eq_true_eq, decide_eq_false_iff_not, Bool.not_eq_true, Bool.not_eq_false, Bool.not_eq_true', Bool.not_eq_false'] at hc; omega) | (simp only [hc]; try simp only [decide_eq_true_eq, decide_eq_false_iff_not, Bool.not_eq_true, Bool.not_eq_false, Bool.not_eq_true', Bool.not_eq_false'] at hc))
      | (refine drawGuard_split (fun hc => ?_) (fun hc => ?_) <;> first | (exfalso; simp only [decide_eq_true_eq, decide_eq_false_iff_not, Bool.not_eq_true, Bool.not_eq_false, Bool.not_eq_true', Bool.not_eq_false'] at hc; omega) | (simp only [hc]; try simp only [decide_eq_true_eq, decide_eq_false_iff_not, Bool.not_eq_true, Bool.not_eq_false, Bool.not_eq_true', Bool.not_eq_false'] at hc))
      | (refine after_need (by omega) ?_)
      | (refine drawAfter_need (by omega) ?_))
    rw [e3, e4]
    exact fin_same trivial rfl
end Go.Proofs.Ytekmhhmemkjcbaa
