/- The statement ObserverTurns: its code returns true. -/
import Derived.Test.YtekmhhmemkjcbaaObs2
set_option linter.unusedSimpArgs false
set_option linter.unusedVariables false
set_option linter.deprecated false
namespace Go.Proofs.Ytekmhhmemkjcbaa
open Go Go.Ax
set_option maxRecDepth 100000
set_option maxHeartbeats 4000000

theorem clip_odd (x B : Int) (h : 0 ≤ B) : clip (0 - x) (-B) B = 0 - clip x (-B) B := by unfold clip; omega
theorem tdiv_odd (a b : Int) : (0 - a).tdiv b = 0 - a.tdiv b := by rw [Int.zero_sub, Int.zero_sub, Int.neg_tdiv]
theorem one1_odd (R lk f v i : Int) : one1 R lk (0 - f) (0 - v) (0 - i) = 0 - one1 R lk f v i := by
  unfold one1
  rw [tdiv_odd, show R * (0 - i) = 0 - R * i by rw [Int.mul_sub, Int.mul_zero], tdiv_odd]; omega
theorem flx_odd (R lk f v i : Int) : flx R lk (0 - f) (0 - v) (0 - i) = 0 - flx R lk f v i := by
  unfold flx mf mv
  rw [clip_odd _ _ (by omega), clip_odd _ _ (by omega), clip_odd _ _ (by omega), one1_odd, clip_odd _ _ (by omega)]
theorem mag_odd (L f i : Int) : mag L (0 - f) (0 - i) = 0 - mag L f i := by
  unfold mag mf mv
  rw [clip_odd _ _ (by omega), clip_odd _ _ (by omega), show ∀ z, L * (0 - z) = 0 - L * z by intro z; rw [Int.mul_sub, Int.mul_zero], tdiv_odd]; omega
theorem far_neg (x : Int) : farP (0 - x) ↔ farP x := by unfold farP; omega
theorem hv_turn : ∀ (n : Nat) (u v : Int), hv n (0 - v) u = (0 - (hv n u v).2, (hv n u v).1)
  | 0, u, v => rfl
  | n + 1, u, v => by
    by_cases h : farP u ∨ farP v
    · rw [hv_far h, hv_far (x := 0 - v) (y := u) (by rw [far_neg]; exact h.symm), tdiv_odd, hv_turn n]
    · rw [hv_near h, hv_near (x := 0 - v) (y := u) (fun q => h (by rw [far_neg] at q; exact q.symm))]
theorem hv_nz : ∀ (n : Nat) (u v : Int), ¬ (u = 0 ∧ v = 0) → ¬ ((hv n u v).1 = 0 ∧ (hv n u v).2 = 0)
  | 0, u, v, h => h
  | n + 1, u, v, h => by
    by_cases hf : farP u ∨ farP v
    · rw [hv_far hf]
      refine hv_nz n _ _ (fun q => ?_)
      have t1 := Int.mul_tdiv_add_tmod u 2
      have t2 := Int.mul_tdiv_add_tmod v 2
      have t3 := tmod_bd u (b := 2) (by omega)
      have t4 := tmod_bd v (b := 2) (by omega)
      unfold farP at hf
      omega
    · rw [hv_near hf]; exact h

theorem angle_turn (u v : Int) (hx : -4611686018427387904 ≤ u ∧ u ≤ 4611686018427387904) (hy : -4611686018427387904 ≤ v ∧ v ≤ 4611686018427387904) (h0 : ¬ (u = 0 ∧ v = 0)) :
    ∃ m m' : Int, CallOK Try.prog gl 56 [.v (.int .i64 u), .v (.int .i64 v)] (.v (.int .i64 m)) ∧ CallOK Try.prog gl 56 [.v (.int .i64 (0 - v)), .v (.int .i64 u)] (.v (.int .i64 m')) ∧ (m' = m + 16384 ∨ m' = m - 49152) := by
  obtain ⟨x, y, q, hr⟩ := rot_ex (hv 24 u v).1 (hv 24 u v).2
  have hnz := hv_nz 24 u v h0
  have hr2 : ∃ q', Rot (hv 24 (0 - v) u).1 (hv 24 (0 - v) u).2 x y q' ∧ (q' = q + 1 ∨ q' = q - 3) := by
    rw [hv_turn]
    simp only
    generalize (hv 24 u v).1 = a at *
    generalize (hv 24 u v).2 = b at *
    rcases hr with ⟨c1, c2, _⟩ | ⟨c1, c2, rfl, rfl, rfl⟩ | ⟨c1, c2, rfl, rfl, rfl⟩ | ⟨c1, c2, rfl, rfl, rfl⟩ | ⟨c1, c2, rfl, rfl, rfl⟩
    · exact absurd ⟨c1, c2⟩ hnz
    · exact ⟨1, .inr (.inr (.inl ⟨by omega, by omega, rfl, by omega, rfl⟩)), by omega⟩
    · exact ⟨2, .inr (.inr (.inr (.inl ⟨by omega, by omega, by omega, rfl, rfl⟩))), by omega⟩
    · exact ⟨3, .inr (.inr (.inr (.inr ⟨by omega, by omega, rfl, rfl, rfl⟩))), by omega⟩
    · exact ⟨0, .inr (.inl ⟨by omega, by omega, rfl, rfl, rfl⟩), by omega⟩
  obtain ⟨q', hr', hq⟩ := hr2
  exact ⟨_, _, ar_Angle u v x y q (by omega) (by omega) hr, ar_Angle (0 - v) u x y q' (by omega) (by omega) hr', by omega⟩

theorem trE_turn {an m m' : Int} (h0 : 0 ≤ an ∧ an < 4294967296) (h : m' = m + 16384 ∨ m' = m - 49152) : trE (an + 1073741824) m' = trE an m := by
  unfold trE dif; omega
theorem tr_turn {kp ki an sp m m' : Int} (h0 : 0 ≤ an ∧ an < 4294967296) (h : m' = m + 16384 ∨ m' = m - 49152) : trS ki (an + 1073741824) sp m' = trS ki an sp m ∧ trA kp ki (an + 1073741824) sp m' = (trA kp ki an sp m + 1073741824) % 4294967296 := by
  have e := trE_turn h0 h
  have e2 : trS ki (an + 1073741824) sp m' = trS ki an sp m := by unfold trS; rw [e]
  refine ⟨e2, ?_⟩
  unfold trA
  rw [e, e2]; omega

theorem law39_quarter (a b : Int) (hb : -4611686018427387904 ≤ b ∧ b ≤ 4611686018427387904) : CallOK Try.prog gl 42 [.agg [.v (.int .i64 a), .v (.int .i64 b)]] (.agg [.v (.int .i64 (0 - b)), .v (.int .i64 a)]) := by
  refine call_ok (C := ⟨Try.prog, gl, ti, 9⟩) ti_ok mixed 3000 Try.call42 Try.func42 rfl Try.ntmps42 (by simp) (by (try simp only [List.mem_cons, List.not_mem_nil, or_false, forall_eq_or_imp, forall_eq]); (repeat' (first | exact Cl.v _ | exact Cl.u32s | exact Cl.i64s | exact Cl.sl (by assumption) | refine And.intro ?_ ?_ | refine Cl.agg ?_ | refine Cl.rp ?_ | refine Cl.sl ?_ | refine Cl.tup ?_ | simp only [List.mem_cons, List.not_mem_nil, or_false, forall_eq_or_imp, forall_eq, false_imp_iff, implies_true]))) (by (try simp only [List.mem_cons, List.not_mem_nil, or_false, forall_eq_or_imp, forall_eq]); (repeat' (first | exact Cl.v _ | exact Cl.u32s | exact Cl.i64s | exact Cl.sl (by assumption) | refine And.intro ?_ ?_ | refine Cl.agg ?_ | refine Cl.rp ?_ | refine Cl.sl ?_ | refine Cl.tup ?_ | simp only [List.mem_cons, List.not_mem_nil, or_false, forall_eq_or_imp, forall_eq, false_imp_iff, implies_true]))) ?_
  rw [Try.results42]
  repeat' (first
    | (simp only [Ax.ex_nil, Ax.ex_blk, Ax.ex_lp, Ax.ex_skip, Ax.ex_seq, Ax.ex_block, Ax.ex_ret, Ax.l_region, Ax.lap_cons, Ax.lap_nil, Ax.la_nil, Ax.la_assoc, Ax.la_op, Ax.la_call, Ax.la_guard, Ax.lda_nil, Ax.lda_assoc, Ax.lda_op, Ax.lda_call, Ax.lda_guard, Ax.gdA_zero, Ax.gdA_succ, Ax.gdA_nil, Ax.gdA_assoc, Ax.l_nil, Ax.l_op, Ax.l_call, Ax.l_guard, Ax.l_exit, Ax.exit_hit, Ax.exit_blk, Ax.exit_lp, Ax.exit_code, Ax.ex_cond, Ax.condT, Ax.condF, Ax.ex_loop, Ax.ex_op_plain, Ax.ex_call, Ax.call_fn, Ax.after_true, Ax.guard_tt, Ax.guard_ff, Ax.guard_tf, Ax.guard_ft, Ax.guard_undef, Ax.drawGuard_undef, Ax.gdVal, Ax.l_draw, Ax.ld_nil, Ax.ld_op, Ax.ld_call, Ax.ld_guard, Ax.draw_plain, Ax.draw_callo, Ax.drawCall_fn, Ax.drawAfter_true, Ax.drawGuard_tt, Ax.drawGuard_ff, Ax.drawGuard_tf, Ax.drawGuard_ft, Ax.l_unroll_succ, Ax.unrollQ_end, Ax.unrollQ_ret, Ax.unrollQ_normal, Ax.round_end, Ax.round_ret, Ax.round_normal, Ax.ends_ret, Ax.ends_normal, Nat.max_def, Ax.isCall.eq_def, Ax.dstOK.eq_def, Ax.look_hit, Ax.look_miss, Ax.look.eq_1, Nat.reduceBEq, Ax.ev_tmp, Ax.ev_const, Ax.ev_func, Ax.evL, Ax.entry, Ax.entryEnv, Ax.AS.put.eq_def, Ax.AS.upd.eq_def, Ax.bump, Ax.AV.cells.eq_def, Ax.AV.one.eq_def, Value.oneCell'.eq_def, Ax.blockOf.eq_def, Ax.rdOf.eq_def, Ax.wrOf.eq_def, Ax.aop_move, Ax.aop_assign, Ax.aMove_some, Ax.aop_pick, Ax.aop_alloc, Ax.aop_box, Ax.aop_build, Ax.aop_load, Ax.aop_store, Ax.aop_nil, Ax.aop_bin, Ax.aop_un, Ax.aop_convert, Ax.aop_iface, Ax.aop_fieldAddr, Ax.aop_field, Ax.aop_indexAddr, Ax.aop_index, Ax.aop_extract, Ax.aop, Ax.aBin.eq_def, Ax.aUn.eq_def, Ax.aPick.eq_def, Ax.aAlloc.eq_def, Ax.aBox.eq_def, Ax.aLoad.eq_def, Ax.aStore.eq_def, Ax.aNilCheck.eq_def, Ax.aFieldAddr.eq_def, Ax.aField.eq_def, Ax.aIndexAddr.eq_def, Ax.aIndex.eq_def, Ax.aBuild.eq_def, Ax.aConvert.eq_def, Ax.aMakeInterface.eq_def, Ax.aAssert.eq_def, Ax.aExtract.eq_def, Ax.aMakeFunc.eq_def, Ax.aLen.eq_def, Ax.aMin.eq_def, Ax.aMax.eq_def, Ax.aLenT.eq_def, Ax.aBuiltin.eq_def, Ax.headT, Ax.ibin.eq_def, Ax.ishift.eq_def, Ax.isShift.eq_def, Ax.eqNil.eq_def, Ax.eqBool.eq_def, Ax.toEff.eq_def, Ax.isNilConst.eq_def, Ax.isBoolT.eq_def, Ax.isIfaceT.eq_def, Ax.isSlcT.eq_def, Ax.isStrT.eq_def, Ax.strBin.eq_def, Ax.aop_makeSlice, Ax.aop_slice, Ax.aMakeSlice.eq_def, Ax.aSlice.eq_def, Ax.bndOf.eq_def, Option.isSome_none, Option.map_none, Ax.pk_bool, Ax.pk.eq_def, Ax.behind.eq_def, Ax.shiftPtr.eq_def, Ax.partOf.eq_def, Ax.fillA, Ax.placed, Ax.stPlace.eq_def, Ax.TK.agg.eq_def, Ax.Z.val.eq_def, Ax.resL, Ax.resOne.eq_def, List.cons_append, List.nil_append, List.append_nil, List.getElem?_cons_zero, List.getElem?_cons_succ, List.length_cons, List.length_nil, List.take_succ_cons, List.take_zero, List.drop_succ_cons, List.drop_zero, List.map_cons, List.map_nil, List.all_cons, List.all_nil, List.head?_cons, List.set_cons_zero, List.set_cons_succ, List.getD_cons_zero, List.getD_cons_succ, List.toList_toArray, Option.bind_some, Option.bind_none, Option.isSome_some, Option.map_some, Option.getD_some, Nat.reduceAdd, Nat.reduceEqDiff, Nat.reduceLT, Nat.reduceLeDiff, Nat.reduceSub, Nat.reduceMul, Nat.zero_add, Nat.add_zero, Nat.zero_mul, Nat.mul_zero, Nat.one_mul, Nat.mul_one, Int.reduceToNat, IntKind.bits.eq_def, Int.reducePow, Nat.min_eq_left, Int.one_mul, Int.mul_one, Nat.reducePow, Nat.one_ne_zero, Nat.zero_ne_one, Bool.or_self, Bool.or_false, Bool.or_true, Bool.false_or, Bool.true_or, Bool.and_true, Bool.and_false, Bool.true_and, Bool.false_and, Bool.not_true, Bool.not_false, Bool.false_eq_true, Bool.true_eq_false, Bool.and_self, Bool.decide_eq_true, true_and, and_true, false_and, and_false, and_self, if_true, if_false, ite_true, ite_false, reduceCtorEq, reduceIte, eq_self, true_implies, imp_self, implies_true, not_true_eq_false, not_false_eq_true, ne_eq, decide_true, decide_false, Ax.w64l, Int.reduceAdd, Int.reduceSub, Int.reduceMul, Int.reduceNeg, Int.reduceLE, Int.reduceLT, Int.zero_add, Int.toNat_zero, Int.reduceEq, Option.bind_eq_bind, Ax.veqs, Ax.veq, Ax.vals, eq_self, Int.toNat_natCast, Ax.thawS, Ax.thawE, Ax.thaw.eq_def, Ax.dropM, Ax.killT, Ax.isB.eq_def, Ax.AV.priv.eq_def, List.any_cons, List.any_nil, List.contains_cons, List.contains_nil, List.elem_nil, Bool.cond_true, Bool.cond_false, cond_true, cond_false, Ax.litThen_some, Ax.drawLitThen_some, Ax.aLit.eq_def, Ax.aRows, List.getD_cons_zero, List.getD_cons_succ, ti, tin])
    | (simp (disch := omega) only [w64, wu64, wu32, Nat.min_eq_left])
    | (refine after_lit ti_ok ?_)
    | (refine drawAfter_lit ti_ok ?_)
    | (refine drawEnd_of (by kernel_rfl) ?_)
    | (refine cond_cases (fun hc => ?_) (fun hc => ?_) <;> first | (exfalso; simp only [decide_eq_true_eq, decide_eq_false_iff_not, Bool.not_eq_true, Bool.not_eq_false, Bool.not_eq_true', Bool.not_eq_false'] at hc; omega) | (simp only [hc]; try simp only [decide_eq_true_eq, decide_eq_false_iff_not, Bool.not_eq_true, Bool.not_eq_false, Bool.not_eq_true', Bool.not_eq_false'] at hc))
    | (refine guard_split (fun hc => ?_) (fun hc => ?_) <;> first | (exfalso; simp only [decide_eq_true_eq, decide_eq_false_iff_not, Bool.not_eq_true, Bool.not_eq_false, Bool.not_eq_true', Bool.not_eq_false'] at hc; omega) | (simp only [hc]; try simp only [decide_eq_true_eq, decide_eq_false_iff_not, Bool.not_eq_true, Bool.not_eq_false, Bool.not_eq_true', Bool.not_eq_false'] at hc))
    | (refine drawGuard_split (fun hc => ?_) (fun hc => ?_) <;> first | (exfalso; simp only [decide_eq_true_eq, decide_eq_false_iff_not, Bool.not_eq_true, Bool.not_eq_false, Bool.not_eq_true', Bool.not_eq_false'] at hc; omega) | (simp only [hc]; try simp only [decide_eq_true_eq, decide_eq_false_iff_not, Bool.not_eq_true, Bool.not_eq_false, Bool.not_eq_true', Bool.not_eq_false'] at hc))
    | (refine after_need (by omega) ?_)
    | (refine drawAfter_need (by omega) ?_))
  exact fin_same trivial rfl
def pl (x : Int) : Int := clip x (-1125899906842624) 1125899906842624
theorem pl_bd (x : Int) : -1125899906842624 ≤ pl x ∧ pl x ≤ 1125899906842624 := clip_bd (by omega) x
theorem law39_plain (a b : Int) : CallOK Try.prog gl 41 [.agg [.v (.int .i64 a), .v (.int .i64 b)]] (.agg [.v (.int .i64 (pl a)), .v (.int .i64 (pl b))]) := by
  refine call_ok (C := ⟨Try.prog, gl, ti, 10⟩) ti_ok mixed 3000 Try.call41 Try.func41 rfl Try.ntmps41 (by simp) (by (try simp only [List.mem_cons, List.not_mem_nil, or_false, forall_eq_or_imp, forall_eq]); (repeat' (first | exact Cl.v _ | exact Cl.u32s | exact Cl.i64s | exact Cl.sl (by assumption) | refine And.intro ?_ ?_ | refine Cl.agg ?_ | refine Cl.rp ?_ | refine Cl.sl ?_ | refine Cl.tup ?_ | simp only [List.mem_cons, List.not_mem_nil, or_false, forall_eq_or_imp, forall_eq, false_imp_iff, implies_true]))) (by (try simp only [List.mem_cons, List.not_mem_nil, or_false, forall_eq_or_imp, forall_eq]); (repeat' (first | exact Cl.v _ | exact Cl.u32s | exact Cl.i64s | exact Cl.sl (by assumption) | refine And.intro ?_ ?_ | refine Cl.agg ?_ | refine Cl.rp ?_ | refine Cl.sl ?_ | refine Cl.tup ?_ | simp only [List.mem_cons, List.not_mem_nil, or_false, forall_eq_or_imp, forall_eq, false_imp_iff, implies_true]))) ?_
  rw [Try.results41]
  repeat' (first
    | (simp only [Ax.ex_nil, Ax.ex_blk, Ax.ex_lp, Ax.ex_skip, Ax.ex_seq, Ax.ex_block, Ax.ex_ret, Ax.l_region, Ax.lap_cons, Ax.lap_nil, Ax.la_nil, Ax.la_assoc, Ax.la_op, Ax.la_call, Ax.la_guard, Ax.lda_nil, Ax.lda_assoc, Ax.lda_op, Ax.lda_call, Ax.lda_guard, Ax.gdA_zero, Ax.gdA_succ, Ax.gdA_nil, Ax.gdA_assoc, Ax.l_nil, Ax.l_op, Ax.l_call, Ax.l_guard, Ax.l_exit, Ax.exit_hit, Ax.exit_blk, Ax.exit_lp, Ax.exit_code, Ax.ex_cond, Ax.condT, Ax.condF, Ax.ex_loop, Ax.ex_op_plain, Ax.ex_call, Ax.call_fn, Ax.after_true, Ax.guard_tt, Ax.guard_ff, Ax.guard_tf, Ax.guard_ft, Ax.guard_undef, Ax.drawGuard_undef, Ax.gdVal, Ax.l_draw, Ax.ld_nil, Ax.ld_op, Ax.ld_call, Ax.ld_guard, Ax.draw_plain, Ax.draw_callo, Ax.drawCall_fn, Ax.drawAfter_true, Ax.drawGuard_tt, Ax.drawGuard_ff, Ax.drawGuard_tf, Ax.drawGuard_ft, Ax.l_unroll_succ, Ax.unrollQ_end, Ax.unrollQ_ret, Ax.unrollQ_normal, Ax.round_end, Ax.round_ret, Ax.round_normal, Ax.ends_ret, Ax.ends_normal, Nat.max_def, Ax.isCall.eq_def, Ax.dstOK.eq_def, Ax.look_hit, Ax.look_miss, Ax.look.eq_1, Nat.reduceBEq, Ax.ev_tmp, Ax.ev_const, Ax.ev_func, Ax.evL, Ax.entry, Ax.entryEnv, Ax.AS.put.eq_def, Ax.AS.upd.eq_def, Ax.bump, Ax.AV.cells.eq_def, Ax.AV.one.eq_def, Value.oneCell'.eq_def, Ax.blockOf.eq_def, Ax.rdOf.eq_def, Ax.wrOf.eq_def, Ax.aop_move, Ax.aop_assign, Ax.aMove_some, Ax.aop_pick, Ax.aop_alloc, Ax.aop_box, Ax.aop_build, Ax.aop_load, Ax.aop_store, Ax.aop_nil, Ax.aop_bin, Ax.aop_un, Ax.aop_convert, Ax.aop_iface, Ax.aop_fieldAddr, Ax.aop_field, Ax.aop_indexAddr, Ax.aop_index, Ax.aop_extract, Ax.aop, Ax.aBin.eq_def, Ax.aUn.eq_def, Ax.aPick.eq_def, Ax.aAlloc.eq_def, Ax.aBox.eq_def, Ax.aLoad.eq_def, Ax.aStore.eq_def, Ax.aNilCheck.eq_def, Ax.aFieldAddr.eq_def, Ax.aField.eq_def, Ax.aIndexAddr.eq_def, Ax.aIndex.eq_def, Ax.aBuild.eq_def, Ax.aConvert.eq_def, Ax.aMakeInterface.eq_def, Ax.aAssert.eq_def, Ax.aExtract.eq_def, Ax.aMakeFunc.eq_def, Ax.aLen.eq_def, Ax.aMin.eq_def, Ax.aMax.eq_def, Ax.aLenT.eq_def, Ax.aBuiltin.eq_def, Ax.headT, Ax.ibin.eq_def, Ax.ishift.eq_def, Ax.isShift.eq_def, Ax.eqNil.eq_def, Ax.eqBool.eq_def, Ax.toEff.eq_def, Ax.isNilConst.eq_def, Ax.isBoolT.eq_def, Ax.isIfaceT.eq_def, Ax.isSlcT.eq_def, Ax.isStrT.eq_def, Ax.strBin.eq_def, Ax.aop_makeSlice, Ax.aop_slice, Ax.aMakeSlice.eq_def, Ax.aSlice.eq_def, Ax.bndOf.eq_def, Option.isSome_none, Option.map_none, Ax.pk_bool, Ax.pk.eq_def, Ax.behind.eq_def, Ax.shiftPtr.eq_def, Ax.partOf.eq_def, Ax.fillA, Ax.placed, Ax.stPlace.eq_def, Ax.TK.agg.eq_def, Ax.Z.val.eq_def, Ax.resL, Ax.resOne.eq_def, List.cons_append, List.nil_append, List.append_nil, List.getElem?_cons_zero, List.getElem?_cons_succ, List.length_cons, List.length_nil, List.take_succ_cons, List.take_zero, List.drop_succ_cons, List.drop_zero, List.map_cons, List.map_nil, List.all_cons, List.all_nil, List.head?_cons, List.set_cons_zero, List.set_cons_succ, List.getD_cons_zero, List.getD_cons_succ, List.toList_toArray, Option.bind_some, Option.bind_none, Option.isSome_some, Option.map_some, Option.getD_some, Nat.reduceAdd, Nat.reduceEqDiff, Nat.reduceLT, Nat.reduceLeDiff, Nat.reduceSub, Nat.reduceMul, Nat.zero_add, Nat.add_zero, Nat.zero_mul, Nat.mul_zero, Nat.one_mul, Nat.mul_one, Int.reduceToNat, IntKind.bits.eq_def, Int.reducePow, Nat.min_eq_left, Int.one_mul, Int.mul_one, Nat.reducePow, Nat.one_ne_zero, Nat.zero_ne_one, Bool.or_self, Bool.or_false, Bool.or_true, Bool.false_or, Bool.true_or, Bool.and_true, Bool.and_false, Bool.true_and, Bool.false_and, Bool.not_true, Bool.not_false, Bool.false_eq_true, Bool.true_eq_false, Bool.and_self, Bool.decide_eq_true, true_and, and_true, false_and, and_false, and_self, if_true, if_false, ite_true, ite_false, reduceCtorEq, reduceIte, eq_self, true_implies, imp_self, implies_true, not_true_eq_false, not_false_eq_true, ne_eq, decide_true, decide_false, Ax.w64l, Int.reduceAdd, Int.reduceSub, Int.reduceMul, Int.reduceNeg, Int.reduceLE, Int.reduceLT, Int.zero_add, Int.toNat_zero, Int.reduceEq, Option.bind_eq_bind, Ax.veqs, Ax.veq, Ax.vals, eq_self, Int.toNat_natCast, Ax.thawS, Ax.thawE, Ax.thaw.eq_def, Ax.dropM, Ax.killT, Ax.isB.eq_def, Ax.AV.priv.eq_def, List.any_cons, List.any_nil, List.contains_cons, List.contains_nil, List.elem_nil, Bool.cond_true, Bool.cond_false, cond_true, cond_false, Ax.litThen_some, Ax.drawLitThen_some, Ax.aLit.eq_def, Ax.aRows, List.getD_cons_zero, List.getD_cons_succ, ti, tin])
    | (simp (disch := omega) only [w64, wu64, wu32, Nat.min_eq_left])
    | (with_reducible refine callF_of (base_Clip _ _ _) ?_)
    | (with_reducible refine drawF_of (base_Clip _ _ _) ?_)
    | (refine after_lit ti_ok ?_)
    | (refine drawAfter_lit ti_ok ?_)
    | (refine drawEnd_of (by kernel_rfl) ?_)
    | (refine cond_cases (fun hc => ?_) (fun hc => ?_) <;> first | (exfalso; simp only [decide_eq_true_eq, decide_eq_false_iff_not, Bool.not_eq_true, Bool.not_eq_false, Bool.not_eq_true', Bool.not_eq_false'] at hc; omega) | (simp only [hc]; try simp only [decide_eq_true_eq, decide_eq_false_iff_not, Bool.not_eq_true, Bool.not_eq_false, Bool.not_eq_true', Bool.not_eq_false'] at hc))
    | (refine guard_split (fun hc => ?_) (fun hc => ?_) <;> first | (exfalso; simp only [decide_eq_true_eq, decide_eq_false_iff_not, Bool.not_eq_true, Bool.not_eq_false, Bool.not_eq_true', Bool.not_eq_false'] at hc; omega) | (simp only [hc]; try simp only [decide_eq_true_eq, decide_eq_false_iff_not, Bool.not_eq_true, Bool.not_eq_false, Bool.not_eq_true', Bool.not_eq_false'] at hc))
    | (refine drawGuard_split (fun hc => ?_) (fun hc => ?_) <;> first | (exfalso; simp only [decide_eq_true_eq, decide_eq_false_iff_not, Bool.not_eq_true, Bool.not_eq_false, Bool.not_eq_true', Bool.not_eq_false'] at hc; omega) | (simp only [hc]; try simp only [decide_eq_true_eq, decide_eq_false_iff_not, Bool.not_eq_true, Bool.not_eq_false, Bool.not_eq_true', Bool.not_eq_false'] at hc))
    | (refine after_need (by omega) ?_)
    | (refine drawAfter_need (by omega) ?_))
  exact fin_same trivial rfl

theorem turn39_ok (R L lk kp ki fa fb an sp va vb ia ib : Int) (h : ¬ obBad R L lk kp ki) : CallOK Try.prog gl 13 [.agg [.v (.int .i64 R), .v (.int .i64 L), .v (.int .i64 lk), .v (.int .i64 kp), .v (.int .i64 ki)], .agg [.v (.int .i64 fa), .v (.int .i64 fb), .v (.int .i64 an), .v (.int .i64 sp)], .agg [.v (.int .i64 va), .v (.int .i64 vb), .v (.int .i64 ia), .v (.int .i64 ib)]] (.v (.bool (true))) := by
  refine call_ok (C := ⟨Try.prog, gl, ti, 119⟩) ti_ok mixed 3000 Try.call13 Try.func13 rfl Try.ntmps13 (by simp) (by (try simp only [List.mem_cons, List.not_mem_nil, or_false, forall_eq_or_imp, forall_eq]); (repeat' (first | exact Cl.v _ | exact Cl.u32s | exact Cl.i64s | exact Cl.sl (by assumption) | refine And.intro ?_ ?_ | refine Cl.agg ?_ | refine Cl.rp ?_ | refine Cl.sl ?_ | refine Cl.tup ?_ | simp only [List.mem_cons, List.not_mem_nil, or_false, forall_eq_or_imp, forall_eq, false_imp_iff, implies_true]))) (by (try simp only [List.mem_cons, List.not_mem_nil, or_false, forall_eq_or_imp, forall_eq]); (repeat' (first | exact Cl.v _ | exact Cl.u32s | exact Cl.i64s | exact Cl.sl (by assumption) | refine And.intro ?_ ?_ | refine Cl.agg ?_ | refine Cl.rp ?_ | refine Cl.sl ?_ | refine Cl.tup ?_ | simp only [List.mem_cons, List.not_mem_nil, or_false, forall_eq_or_imp, forall_eq, false_imp_iff, implies_true]))) ?_
  rw [Try.results13]
  have h' := h
  unfold obBad at h'
  have p1 := pl_bd fa
  have p2 := pl_bd fb
  have p3 := pl_bd va
  have p4 := pl_bd vb
  have p5 := pl_bd ia
  have p6 := pl_bd ib
  have g1 := mag_bd (L := L) (f := flx R lk (pl fa) (pl va) (pl ia)) (i := pl ia) (by omega)
  have g2 := mag_bd (L := L) (f := flx R lk (pl fb) (pl vb) (pl ib)) (i := pl ib) (by omega)
  have x1 := flx_bd R lk (pl fa) (pl va) (pl ia)
  have x2 := flx_bd R lk (pl fb) (pl vb) (pl ib)
  have ht := tmod_bd an (b := 4294967296) (by omega)
  have mm := ob_Magnet R L lk kp ki (flx R lk (pl fa) (pl va) (pl ia)) (flx R lk (pl fb) (pl vb) (pl ib))
  by_cases h0 : mag L (flx R lk (pl fa) (pl va) (pl ia)) (pl ia) = 0 ∧ mag L (flx R lk (pl fb) (pl vb) (pl ib)) (pl ib) = 0
  ·
    obtain ⟨m, m1, _⟩ := angle_ex (mag L (flx R lk (pl fa) (pl va) (pl ia)) (pl ia)) (mag L (flx R lk (pl fb) (pl vb) (pl ib)) (pl ib)) (by omega) (by omega)
    obtain ⟨m', m2, _⟩ := angle_ex (mag L (flx R lk (0 - pl fb) (0 - pl vb) (0 - pl ib)) (0 - pl ib)) (mag L (flx R lk (pl fa) (pl va) (pl ia)) (pl ia)) (by rw [flx_odd, mag_odd]; omega) (by omega)
    have s1 := ob_Step R L lk kp ki (pl fa) (pl fb) (an % 4294967296) sp (pl va) (pl vb) (pl ia) (pl ib) m h m1
    have s2 := ob_Step R L lk kp ki (0 - pl fb) (pl fa) (an % 4294967296 + 1073741824) sp (0 - pl vb) (pl va) (0 - pl ib) (pl ia) m' h m2
    have s3 := mm (trA kp ki (an % 4294967296) sp m) (trS ki (an % 4294967296) sp m) (pl ia) (pl ib) h
    rw [h0.1, h0.2] at s3
    repeat' (first
      | (simp only [Ax.ex_nil, Ax.ex_blk, Ax.ex_lp, Ax.ex_skip, Ax.ex_seq, Ax.ex_block, Ax.ex_ret, Ax.l_region, Ax.lap_cons, Ax.lap_nil, Ax.la_nil, Ax.la_assoc, Ax.la_op, Ax.la_call, Ax.la_guard, Ax.lda_nil, Ax.lda_assoc, Ax.lda_op, Ax.lda_call, Ax.lda_guard, Ax.gdA_zero, Ax.gdA_succ, Ax.gdA_nil, Ax.gdA_assoc, Ax.l_nil, Ax.l_op, Ax.l_call, Ax.l_guard, Ax.l_exit, Ax.exit_hit, Ax.exit_blk, Ax.exit_lp, Ax.exit_code, Ax.ex_cond, Ax.condT, Ax.condF, Ax.ex_loop, Ax.ex_op_plain, Ax.ex_call, Ax.call_fn, Ax.after_true, Ax.guard_tt, Ax.guard_ff, Ax.guard_tf, Ax.guard_ft, Ax.guard_undef, Ax.drawGuard_undef, Ax.gdVal, Ax.l_draw, Ax.ld_nil, Ax.ld_op, Ax.ld_call, Ax.ld_guard, Ax.draw_plain, Ax.draw_callo, Ax.drawCall_fn, Ax.drawAfter_true, Ax.drawGuard_tt, Ax.drawGuard_ff, Ax.drawGuard_tf, Ax.drawGuard_ft, Ax.l_unroll_succ, Ax.unrollQ_end, Ax.unrollQ_ret, Ax.unrollQ_normal, Ax.round_end, Ax.round_ret, Ax.round_normal, Ax.ends_ret, Ax.ends_normal, Nat.max_def, Ax.isCall.eq_def, Ax.dstOK.eq_def, Ax.look_hit, Ax.look_miss, Ax.look.eq_1, Nat.reduceBEq, Ax.ev_tmp, Ax.ev_const, Ax.ev_func, Ax.evL, Ax.entry, Ax.entryEnv, Ax.AS.put.eq_def, Ax.AS.upd.eq_def, Ax.bump, Ax.AV.cells.eq_def, Ax.AV.one.eq_def, Value.oneCell'.eq_def, Ax.blockOf.eq_def, Ax.rdOf.eq_def, Ax.wrOf.eq_def, Ax.aop_move, Ax.aop_assign, Ax.aMove_some, Ax.aop_pick, Ax.aop_alloc, Ax.aop_box, Ax.aop_build, Ax.aop_load, Ax.aop_store, Ax.aop_nil, Ax.aop_bin, Ax.aop_un, Ax.aop_convert, Ax.aop_iface, Ax.aop_fieldAddr, Ax.aop_field, Ax.aop_indexAddr, Ax.aop_index, Ax.aop_extract, Ax.aop, Ax.aBin.eq_def, Ax.aUn.eq_def, Ax.aPick.eq_def, Ax.aAlloc.eq_def, Ax.aBox.eq_def, Ax.aLoad.eq_def, Ax.aStore.eq_def, Ax.aNilCheck.eq_def, Ax.aFieldAddr.eq_def, Ax.aField.eq_def, Ax.aIndexAddr.eq_def, Ax.aIndex.eq_def, Ax.aBuild.eq_def, Ax.aConvert.eq_def, Ax.aMakeInterface.eq_def, Ax.aAssert.eq_def, Ax.aExtract.eq_def, Ax.aMakeFunc.eq_def, Ax.aLen.eq_def, Ax.aMin.eq_def, Ax.aMax.eq_def, Ax.aLenT.eq_def, Ax.aBuiltin.eq_def, Ax.headT, Ax.ibin.eq_def, Ax.ishift.eq_def, Ax.isShift.eq_def, Ax.eqNil.eq_def, Ax.eqBool.eq_def, Ax.toEff.eq_def, Ax.isNilConst.eq_def, Ax.isBoolT.eq_def, Ax.isIfaceT.eq_def, Ax.isSlcT.eq_def, Ax.isStrT.eq_def, Ax.strBin.eq_def, Ax.aop_makeSlice, Ax.aop_slice, Ax.aMakeSlice.eq_def, Ax.aSlice.eq_def, Ax.bndOf.eq_def, Option.isSome_none, Option.map_none, Ax.pk_bool, Ax.pk.eq_def, Ax.behind.eq_def, Ax.shiftPtr.eq_def, Ax.partOf.eq_def, Ax.fillA, Ax.placed, Ax.stPlace.eq_def, Ax.TK.agg.eq_def, Ax.Z.val.eq_def, Ax.resL, Ax.resOne.eq_def, List.cons_append, List.nil_append, List.append_nil, List.getElem?_cons_zero, List.getElem?_cons_succ, List.length_cons, List.length_nil, List.take_succ_cons, List.take_zero, List.drop_succ_cons, List.drop_zero, List.map_cons, List.map_nil, List.all_cons, List.all_nil, List.head?_cons, List.set_cons_zero, List.set_cons_succ, List.getD_cons_zero, List.getD_cons_succ, List.toList_toArray, Option.bind_some, Option.bind_none, Option.isSome_some, Option.map_some, Option.getD_some, Nat.reduceAdd, Nat.reduceEqDiff, Nat.reduceLT, Nat.reduceLeDiff, Nat.reduceSub, Nat.reduceMul, Nat.zero_add, Nat.add_zero, Nat.zero_mul, Nat.mul_zero, Nat.one_mul, Nat.mul_one, Int.reduceToNat, IntKind.bits.eq_def, Int.reducePow, Nat.min_eq_left, Int.one_mul, Int.mul_one, Nat.reducePow, Nat.one_ne_zero, Nat.zero_ne_one, Bool.or_self, Bool.or_false, Bool.or_true, Bool.false_or, Bool.true_or, Bool.and_true, Bool.and_false, Bool.true_and, Bool.false_and, Bool.not_true, Bool.not_false, Bool.false_eq_true, Bool.true_eq_false, Bool.and_self, Bool.decide_eq_true, true_and, and_true, false_and, and_false, and_self, if_true, if_false, ite_true, ite_false, reduceCtorEq, reduceIte, eq_self, true_implies, imp_self, implies_true, not_true_eq_false, not_false_eq_true, ne_eq, decide_true, decide_false, Ax.w64l, Int.reduceAdd, Int.reduceSub, Int.reduceMul, Int.reduceNeg, Int.reduceLE, Int.reduceLT, Int.zero_add, Int.toNat_zero, Int.reduceEq, Option.bind_eq_bind, Ax.veqs, Ax.veq, Ax.vals, eq_self, Int.toNat_natCast, Ax.thawS, Ax.thawE, Ax.thaw.eq_def, Ax.dropM, Ax.killT, Ax.isB.eq_def, Ax.AV.priv.eq_def, List.any_cons, List.any_nil, List.contains_cons, List.contains_nil, List.elem_nil, Bool.cond_true, Bool.cond_false, cond_true, cond_false, Ax.litThen_some, Ax.drawLitThen_some, Ax.aLit.eq_def, Ax.aRows, List.getD_cons_zero, List.getD_cons_succ, ti, tin, tmod_32])
      | (simp (disch := omega) only [w64, wu64, wu32, Nat.min_eq_left])
      | (with_reducible refine callF_of (awake39) ?_)
      | (with_reducible refine drawF_of (awake39) ?_)
      | (with_reducible refine callF_of (ref39_Check _ _ _ _ _ h) ?_)
      | (with_reducible refine drawF_of (ref39_Check _ _ _ _ _ h) ?_)
      | (with_reducible refine callF_of (law39_quarter _ _ (by omega)) ?_)
      | (with_reducible refine drawF_of (law39_quarter _ _ (by omega)) ?_)
      | (with_reducible refine callF_of (law39_plain _ _) ?_)
      | (with_reducible refine drawF_of (law39_plain _ _) ?_)
      | (with_reducible refine callF_of (s1) ?_)
      | (with_reducible refine drawF_of (s1) ?_)
      | (with_reducible refine callF_of (s2) ?_)
      | (with_reducible refine drawF_of (s2) ?_)
      | (with_reducible refine callF_of (s3) ?_)
      | (with_reducible refine drawF_of (s3) ?_)
      | (refine after_sem (sem_eql eq_AB rfl rfl rfl rfl rfl rfl) ?_)
      | (refine after_sem (sem_neq eq_AB rfl rfl rfl rfl rfl rfl) ?_)
      | (refine drawAfter_sem (sem_eql eq_AB rfl rfl rfl rfl rfl rfl) ?_)
      | (refine drawAfter_sem (sem_neq eq_AB rfl rfl rfl rfl rfl rfl) ?_)
      | (refine after_lit ti_ok ?_)
      | (refine drawAfter_lit ti_ok ?_)
      | (refine drawEnd_of (by kernel_rfl) ?_)
      | (refine cond_cases (fun hc => ?_) (fun hc => ?_) <;> first | (exfalso; simp only [decide_eq_true_eq, decide_eq_false_iff_not, Bool.not_eq_true, Bool.not_eq_false, Bool.not_eq_true', Bool.not_eq_false'] at hc; omega) | (simp only [hc]; try simp only [decide_eq_true_eq, decide_eq_false_iff_not, Bool.not_eq_true, Bool.not_eq_false, Bool.not_eq_true', Bool.not_eq_false'] at hc))
      | (refine guard_split (fun hc => ?_) (fun hc => ?_) <;> first | (exfalso; simp only [decide_eq_true_eq, decide_eq_false_iff_not, Bool.not_eq_true, Bool.not_eq_false, Bool.not_eq_true', Bool.not_eq_false'] at hc; omega) | (simp only [hc]; try simp only [decide_eq_true_eq, decide_eq_false_iff_not, Bool.not_eq_true, Bool.not_eq_false, Bool.not_eq_true', Bool.not_eq_false'] at hc))
      | (refine drawGuard_split (fun hc => ?_) (fun hc => ?_) <;> first | (exfalso; simp only [decide_eq_true_eq, decide_eq_false_iff_not, Bool.not_eq_true, Bool.not_eq_false, Bool.not_eq_true', Bool.not_eq_false'] at hc; omega) | (simp only [hc]; try simp only [decide_eq_true_eq, decide_eq_false_iff_not, Bool.not_eq_true, Bool.not_eq_false, Bool.not_eq_true', Bool.not_eq_false'] at hc))
      | (refine after_need (by omega) ?_)
      | (refine drawAfter_need (by omega) ?_))
    all_goals exact fin_same trivial rfl
  ·
    obtain ⟨m, m', m1, m2, hm⟩ := angle_turn (mag L (flx R lk (pl fa) (pl va) (pl ia)) (pl ia)) (mag L (flx R lk (pl fb) (pl vb) (pl ib)) (pl ib)) (by omega) (by omega) h0
    have s1 := ob_Step R L lk kp ki (pl fa) (pl fb) (an % 4294967296) sp (pl va) (pl vb) (pl ia) (pl ib) m h m1
    have s2 := ob_Step R L lk kp ki (0 - pl fb) (pl fa) (an % 4294967296 + 1073741824) sp (0 - pl vb) (pl va) (0 - pl ib) (pl ia) m' h (by rw [flx_odd, mag_odd]; exact m2)
    have s3 := mm (trA kp ki (an % 4294967296) sp m) (trS ki (an % 4294967296) sp m) (pl ia) (pl ib) h
    obtain ⟨t1, t2⟩ := tr_turn (kp := kp) (ki := ki) (sp := sp) (an := an % 4294967296) (by omega) hm
    rw [flx_odd, t1, t2] at s2
    have t3 : 0 ≤ trA kp ki (an % 4294967296) sp m ∧ trA kp ki (an % 4294967296) sp m < 4294967296 := by unfold trA; omega
    have t4 : (trA kp ki (an % 4294967296) sp m + 1073741824).tmod 4294967296 = (trA kp ki (an % 4294967296) sp m + 1073741824) % 4294967296 := tmod_nn (by omega)
    generalize mag L (flx R lk (pl fa) (pl va) (pl ia)) (pl ia) = ma at *
    generalize mag L (flx R lk (pl fb) (pl vb) (pl ib)) (pl ib) = mb at *
    generalize flx R lk (pl fa) (pl va) (pl ia) = ga at *
    generalize flx R lk (pl fb) (pl vb) (pl ib) = gb at *
    generalize trA kp ki (an % 4294967296) sp m = na at *
    generalize trS ki (an % 4294967296) sp m = ns at *
    repeat' (first
      | (simp only [Ax.ex_nil, Ax.ex_blk, Ax.ex_lp, Ax.ex_skip, Ax.ex_seq, Ax.ex_block, Ax.ex_ret, Ax.l_region, Ax.lap_cons, Ax.lap_nil, Ax.la_nil, Ax.la_assoc, Ax.la_op, Ax.la_call, Ax.la_guard, Ax.lda_nil, Ax.lda_assoc, Ax.lda_op, Ax.lda_call, Ax.lda_guard, Ax.gdA_zero, Ax.gdA_succ, Ax.gdA_nil, Ax.gdA_assoc, Ax.l_nil, Ax.l_op, Ax.l_call, Ax.l_guard, Ax.l_exit, Ax.exit_hit, Ax.exit_blk, Ax.exit_lp, Ax.exit_code, Ax.ex_cond, Ax.condT, Ax.condF, Ax.ex_loop, Ax.ex_op_plain, Ax.ex_call, Ax.call_fn, Ax.after_true, Ax.guard_tt, Ax.guard_ff, Ax.guard_tf, Ax.guard_ft, Ax.guard_undef, Ax.drawGuard_undef, Ax.gdVal, Ax.l_draw, Ax.ld_nil, Ax.ld_op, Ax.ld_call, Ax.ld_guard, Ax.draw_plain, Ax.draw_callo, Ax.drawCall_fn, Ax.drawAfter_true, Ax.drawGuard_tt, Ax.drawGuard_ff, Ax.drawGuard_tf, Ax.drawGuard_ft, Ax.l_unroll_succ, Ax.unrollQ_end, Ax.unrollQ_ret, Ax.unrollQ_normal, Ax.round_end, Ax.round_ret, Ax.round_normal, Ax.ends_ret, Ax.ends_normal, Nat.max_def, Ax.isCall.eq_def, Ax.dstOK.eq_def, Ax.look_hit, Ax.look_miss, Ax.look.eq_1, Nat.reduceBEq, Ax.ev_tmp, Ax.ev_const, Ax.ev_func, Ax.evL, Ax.entry, Ax.entryEnv, Ax.AS.put.eq_def, Ax.AS.upd.eq_def, Ax.bump, Ax.AV.cells.eq_def, Ax.AV.one.eq_def, Value.oneCell'.eq_def, Ax.blockOf.eq_def, Ax.rdOf.eq_def, Ax.wrOf.eq_def, Ax.aop_move, Ax.aop_assign, Ax.aMove_some, Ax.aop_pick, Ax.aop_alloc, Ax.aop_box, Ax.aop_build, Ax.aop_load, Ax.aop_store, Ax.aop_nil, Ax.aop_bin, Ax.aop_un, Ax.aop_convert, Ax.aop_iface, Ax.aop_fieldAddr, Ax.aop_field, Ax.aop_indexAddr, Ax.aop_index, Ax.aop_extract, Ax.aop, Ax.aBin.eq_def, Ax.aUn.eq_def, Ax.aPick.eq_def, Ax.aAlloc.eq_def, Ax.aBox.eq_def, Ax.aLoad.eq_def, Ax.aStore.eq_def, Ax.aNilCheck.eq_def, Ax.aFieldAddr.eq_def, Ax.aField.eq_def, Ax.aIndexAddr.eq_def, Ax.aIndex.eq_def, Ax.aBuild.eq_def, Ax.aConvert.eq_def, Ax.aMakeInterface.eq_def, Ax.aAssert.eq_def, Ax.aExtract.eq_def, Ax.aMakeFunc.eq_def, Ax.aLen.eq_def, Ax.aMin.eq_def, Ax.aMax.eq_def, Ax.aLenT.eq_def, Ax.aBuiltin.eq_def, Ax.headT, Ax.ibin.eq_def, Ax.ishift.eq_def, Ax.isShift.eq_def, Ax.eqNil.eq_def, Ax.eqBool.eq_def, Ax.toEff.eq_def, Ax.isNilConst.eq_def, Ax.isBoolT.eq_def, Ax.isIfaceT.eq_def, Ax.isSlcT.eq_def, Ax.isStrT.eq_def, Ax.strBin.eq_def, Ax.aop_makeSlice, Ax.aop_slice, Ax.aMakeSlice.eq_def, Ax.aSlice.eq_def, Ax.bndOf.eq_def, Option.isSome_none, Option.map_none, Ax.pk_bool, Ax.pk.eq_def, Ax.behind.eq_def, Ax.shiftPtr.eq_def, Ax.partOf.eq_def, Ax.fillA, Ax.placed, Ax.stPlace.eq_def, Ax.TK.agg.eq_def, Ax.Z.val.eq_def, Ax.resL, Ax.resOne.eq_def, List.cons_append, List.nil_append, List.append_nil, List.getElem?_cons_zero, List.getElem?_cons_succ, List.length_cons, List.length_nil, List.take_succ_cons, List.take_zero, List.drop_succ_cons, List.drop_zero, List.map_cons, List.map_nil, List.all_cons, List.all_nil, List.head?_cons, List.set_cons_zero, List.set_cons_succ, List.getD_cons_zero, List.getD_cons_succ, List.toList_toArray, Option.bind_some, Option.bind_none, Option.isSome_some, Option.map_some, Option.getD_some, Nat.reduceAdd, Nat.reduceEqDiff, Nat.reduceLT, Nat.reduceLeDiff, Nat.reduceSub, Nat.reduceMul, Nat.zero_add, Nat.add_zero, Nat.zero_mul, Nat.mul_zero, Nat.one_mul, Nat.mul_one, Int.reduceToNat, IntKind.bits.eq_def, Int.reducePow, Nat.min_eq_left, Int.one_mul, Int.mul_one, Nat.reducePow, Nat.one_ne_zero, Nat.zero_ne_one, Bool.or_self, Bool.or_false, Bool.or_true, Bool.false_or, Bool.true_or, Bool.and_true, Bool.and_false, Bool.true_and, Bool.false_and, Bool.not_true, Bool.not_false, Bool.false_eq_true, Bool.true_eq_false, Bool.and_self, Bool.decide_eq_true, true_and, and_true, false_and, and_false, and_self, if_true, if_false, ite_true, ite_false, reduceCtorEq, reduceIte, eq_self, true_implies, imp_self, implies_true, not_true_eq_false, not_false_eq_true, ne_eq, decide_true, decide_false, Ax.w64l, Int.reduceAdd, Int.reduceSub, Int.reduceMul, Int.reduceNeg, Int.reduceLE, Int.reduceLT, Int.zero_add, Int.toNat_zero, Int.reduceEq, Option.bind_eq_bind, Ax.veqs, Ax.veq, Ax.vals, eq_self, Int.toNat_natCast, Ax.thawS, Ax.thawE, Ax.thaw.eq_def, Ax.dropM, Ax.killT, Ax.isB.eq_def, Ax.AV.priv.eq_def, List.any_cons, List.any_nil, List.contains_cons, List.contains_nil, List.elem_nil, Bool.cond_true, Bool.cond_false, cond_true, cond_false, Ax.litThen_some, Ax.drawLitThen_some, Ax.aLit.eq_def, Ax.aRows, List.getD_cons_zero, List.getD_cons_succ, ti, tin, tmod_32, t4])
      | (simp (disch := omega) only [w64, wu64, wu32, Nat.min_eq_left])
      | (with_reducible refine callF_of (awake39) ?_)
      | (with_reducible refine drawF_of (awake39) ?_)
      | (with_reducible refine callF_of (ref39_Check _ _ _ _ _ h) ?_)
      | (with_reducible refine drawF_of (ref39_Check _ _ _ _ _ h) ?_)
      | (with_reducible refine callF_of (law39_quarter _ _ (by omega)) ?_)
      | (with_reducible refine drawF_of (law39_quarter _ _ (by omega)) ?_)
      | (with_reducible refine callF_of (law39_plain _ _) ?_)
      | (with_reducible refine drawF_of (law39_plain _ _) ?_)
      | (with_reducible refine callF_of (s1) ?_)
      | (with_reducible refine drawF_of (s1) ?_)
      | (with_reducible refine callF_of (s2) ?_)
      | (with_reducible refine drawF_of (s2) ?_)
      | (with_reducible refine callF_of (s3) ?_)
      | (with_reducible refine drawF_of (s3) ?_)
      | (refine after_sem (sem_eql eq_AB rfl rfl rfl rfl rfl rfl) ?_)
      | (refine after_sem (sem_neq eq_AB rfl rfl rfl rfl rfl rfl) ?_)
      | (refine drawAfter_sem (sem_eql eq_AB rfl rfl rfl rfl rfl rfl) ?_)
      | (refine drawAfter_sem (sem_neq eq_AB rfl rfl rfl rfl rfl rfl) ?_)
      | (refine after_lit ti_ok ?_)
      | (refine drawAfter_lit ti_ok ?_)
      | (refine drawEnd_of (by kernel_rfl) ?_)
      | (refine cond_cases (fun hc => ?_) (fun hc => ?_) <;> first | (exfalso; simp only [decide_eq_true_eq, decide_eq_false_iff_not, Bool.not_eq_true, Bool.not_eq_false, Bool.not_eq_true', Bool.not_eq_false'] at hc; omega) | (simp only [hc]; try simp only [decide_eq_true_eq, decide_eq_false_iff_not, Bool.not_eq_true, Bool.not_eq_false, Bool.not_eq_true', Bool.not_eq_false'] at hc))
      | (refine guard_split (fun hc => ?_) (fun hc => ?_) <;> first | (exfalso; simp only [decide_eq_true_eq, decide_eq_false_iff_not, Bool.not_eq_true, Bool.not_eq_false, Bool.not_eq_true', Bool.not_eq_false'] at hc; omega) | (simp only [hc]; try simp only [decide_eq_true_eq, decide_eq_false_iff_not, Bool.not_eq_true, Bool.not_eq_false, Bool.not_eq_true', Bool.not_eq_false'] at hc))
      | (refine drawGuard_split (fun hc => ?_) (fun hc => ?_) <;> first | (exfalso; simp only [decide_eq_true_eq, decide_eq_false_iff_not, Bool.not_eq_true, Bool.not_eq_false, Bool.not_eq_true', Bool.not_eq_false'] at hc; omega) | (simp only [hc]; try simp only [decide_eq_true_eq, decide_eq_false_iff_not, Bool.not_eq_true, Bool.not_eq_false, Bool.not_eq_true', Bool.not_eq_false'] at hc))
      | (refine after_need (by omega) ?_)
      | (refine drawAfter_need (by omega) ?_))
    all_goals first | exact fin_same trivial rfl | trace_state
theorem turn39_bad (R L lk kp ki fa fb an sp va vb ia ib : Int) (h : obBad R L lk kp ki) : CallOK Try.prog gl 13 [.agg [.v (.int .i64 R), .v (.int .i64 L), .v (.int .i64 lk), .v (.int .i64 kp), .v (.int .i64 ki)], .agg [.v (.int .i64 fa), .v (.int .i64 fb), .v (.int .i64 an), .v (.int .i64 sp)], .agg [.v (.int .i64 va), .v (.int .i64 vb), .v (.int .i64 ia), .v (.int .i64 ib)]] (.v (.bool (true))) := by
  refine call_ok (C := ⟨Try.prog, gl, ti, 119⟩) ti_ok mixed 3000 Try.call13 Try.func13 rfl Try.ntmps13 (by simp) (by (try simp only [List.mem_cons, List.not_mem_nil, or_false, forall_eq_or_imp, forall_eq]); (repeat' (first | exact Cl.v _ | exact Cl.u32s | exact Cl.i64s | exact Cl.sl (by assumption) | refine And.intro ?_ ?_ | refine Cl.agg ?_ | refine Cl.rp ?_ | refine Cl.sl ?_ | refine Cl.tup ?_ | simp only [List.mem_cons, List.not_mem_nil, or_false, forall_eq_or_imp, forall_eq, false_imp_iff, implies_true]))) (by (try simp only [List.mem_cons, List.not_mem_nil, or_false, forall_eq_or_imp, forall_eq]); (repeat' (first | exact Cl.v _ | exact Cl.u32s | exact Cl.i64s | exact Cl.sl (by assumption) | refine And.intro ?_ ?_ | refine Cl.agg ?_ | refine Cl.rp ?_ | refine Cl.sl ?_ | refine Cl.tup ?_ | simp only [List.mem_cons, List.not_mem_nil, or_false, forall_eq_or_imp, forall_eq, false_imp_iff, implies_true]))) ?_
  rw [Try.results13]
  repeat' (first
    | (simp only [Ax.ex_nil, Ax.ex_blk, Ax.ex_lp, Ax.ex_skip, Ax.ex_seq, Ax.ex_block, Ax.ex_ret, Ax.l_region, Ax.lap_cons, Ax.lap_nil, Ax.la_nil, Ax.la_assoc, Ax.la_op, Ax.la_call, Ax.la_guard, Ax.lda_nil, Ax.lda_assoc, Ax.lda_op, Ax.lda_call, Ax.lda_guard, Ax.gdA_zero, Ax.gdA_succ, Ax.gdA_nil, Ax.gdA_assoc, Ax.l_nil, Ax.l_op, Ax.l_call, Ax.l_guard, Ax.l_exit, Ax.exit_hit, Ax.exit_blk, Ax.exit_lp, Ax.exit_code, Ax.ex_cond, Ax.condT, Ax.condF, Ax.ex_loop, Ax.ex_op_plain, Ax.ex_call, Ax.call_fn, Ax.after_true, Ax.guard_tt, Ax.guard_ff, Ax.guard_tf, Ax.guard_ft, Ax.guard_undef, Ax.drawGuard_undef, Ax.gdVal, Ax.l_draw, Ax.ld_nil, Ax.ld_op, Ax.ld_call, Ax.ld_guard, Ax.draw_plain, Ax.draw_callo, Ax.drawCall_fn, Ax.drawAfter_true, Ax.drawGuard_tt, Ax.drawGuard_ff, Ax.drawGuard_tf, Ax.drawGuard_ft, Ax.l_unroll_succ, Ax.unrollQ_end, Ax.unrollQ_ret, Ax.unrollQ_normal, Ax.round_end, Ax.round_ret, Ax.round_normal, Ax.ends_ret, Ax.ends_normal, Nat.max_def, Ax.isCall.eq_def, Ax.dstOK.eq_def, Ax.look_hit, Ax.look_miss, Ax.look.eq_1, Nat.reduceBEq, Ax.ev_tmp, Ax.ev_const, Ax.ev_func, Ax.evL, Ax.entry, Ax.entryEnv, Ax.AS.put.eq_def, Ax.AS.upd.eq_def, Ax.bump, Ax.AV.cells.eq_def, Ax.AV.one.eq_def, Value.oneCell'.eq_def, Ax.blockOf.eq_def, Ax.rdOf.eq_def, Ax.wrOf.eq_def, Ax.aop_move, Ax.aop_assign, Ax.aMove_some, Ax.aop_pick, Ax.aop_alloc, Ax.aop_box, Ax.aop_build, Ax.aop_load, Ax.aop_store, Ax.aop_nil, Ax.aop_bin, Ax.aop_un, Ax.aop_convert, Ax.aop_iface, Ax.aop_fieldAddr, Ax.aop_field, Ax.aop_indexAddr, Ax.aop_index, Ax.aop_extract, Ax.aop, Ax.aBin.eq_def, Ax.aUn.eq_def, Ax.aPick.eq_def, Ax.aAlloc.eq_def, Ax.aBox.eq_def, Ax.aLoad.eq_def, Ax.aStore.eq_def, Ax.aNilCheck.eq_def, Ax.aFieldAddr.eq_def, Ax.aField.eq_def, Ax.aIndexAddr.eq_def, Ax.aIndex.eq_def, Ax.aBuild.eq_def, Ax.aConvert.eq_def, Ax.aMakeInterface.eq_def, Ax.aAssert.eq_def, Ax.aExtract.eq_def, Ax.aMakeFunc.eq_def, Ax.aLen.eq_def, Ax.aMin.eq_def, Ax.aMax.eq_def, Ax.aLenT.eq_def, Ax.aBuiltin.eq_def, Ax.headT, Ax.ibin.eq_def, Ax.ishift.eq_def, Ax.isShift.eq_def, Ax.eqNil.eq_def, Ax.eqBool.eq_def, Ax.toEff.eq_def, Ax.isNilConst.eq_def, Ax.isBoolT.eq_def, Ax.isIfaceT.eq_def, Ax.isSlcT.eq_def, Ax.isStrT.eq_def, Ax.strBin.eq_def, Ax.aop_makeSlice, Ax.aop_slice, Ax.aMakeSlice.eq_def, Ax.aSlice.eq_def, Ax.bndOf.eq_def, Option.isSome_none, Option.map_none, Ax.pk_bool, Ax.pk.eq_def, Ax.behind.eq_def, Ax.shiftPtr.eq_def, Ax.partOf.eq_def, Ax.fillA, Ax.placed, Ax.stPlace.eq_def, Ax.TK.agg.eq_def, Ax.Z.val.eq_def, Ax.resL, Ax.resOne.eq_def, List.cons_append, List.nil_append, List.append_nil, List.getElem?_cons_zero, List.getElem?_cons_succ, List.length_cons, List.length_nil, List.take_succ_cons, List.take_zero, List.drop_succ_cons, List.drop_zero, List.map_cons, List.map_nil, List.all_cons, List.all_nil, List.head?_cons, List.set_cons_zero, List.set_cons_succ, List.getD_cons_zero, List.getD_cons_succ, List.toList_toArray, Option.bind_some, Option.bind_none, Option.isSome_some, Option.map_some, Option.getD_some, Nat.reduceAdd, Nat.reduceEqDiff, Nat.reduceLT, Nat.reduceLeDiff, Nat.reduceSub, Nat.reduceMul, Nat.zero_add, Nat.add_zero, Nat.zero_mul, Nat.mul_zero, Nat.one_mul, Nat.mul_one, Int.reduceToNat, IntKind.bits.eq_def, Int.reducePow, Nat.min_eq_left, Int.one_mul, Int.mul_one, Nat.reducePow, Nat.one_ne_zero, Nat.zero_ne_one, Bool.or_self, Bool.or_false, Bool.or_true, Bool.false_or, Bool.true_or, Bool.and_true, Bool.and_false, Bool.true_and, Bool.false_and, Bool.not_true, Bool.not_false, Bool.false_eq_true, Bool.true_eq_false, Bool.and_self, Bool.decide_eq_true, true_and, and_true, false_and, and_false, and_self, if_true, if_false, ite_true, ite_false, reduceCtorEq, reduceIte, eq_self, true_implies, imp_self, implies_true, not_true_eq_false, not_false_eq_true, ne_eq, decide_true, decide_false, Ax.w64l, Int.reduceAdd, Int.reduceSub, Int.reduceMul, Int.reduceNeg, Int.reduceLE, Int.reduceLT, Int.zero_add, Int.toNat_zero, Int.reduceEq, Option.bind_eq_bind, Ax.veqs, Ax.veq, Ax.vals, eq_self, Int.toNat_natCast, Ax.thawS, Ax.thawE, Ax.thaw.eq_def, Ax.dropM, Ax.killT, Ax.isB.eq_def, Ax.AV.priv.eq_def, List.any_cons, List.any_nil, List.contains_cons, List.contains_nil, List.elem_nil, Bool.cond_true, Bool.cond_false, cond_true, cond_false, Ax.litThen_some, Ax.drawLitThen_some, Ax.aLit.eq_def, Ax.aRows, List.getD_cons_zero, List.getD_cons_succ, ti, tin])
    | (simp (disch := omega) only [w64, wu64, wu32, Nat.min_eq_left])
    | (with_reducible refine callF_of (awake39) ?_)
    | (with_reducible refine drawF_of (awake39) ?_)
    | (with_reducible refine callF_of (ref39_Check_bad _ _ _ _ _ h) ?_)
    | (with_reducible refine drawF_of (ref39_Check_bad _ _ _ _ _ h) ?_)
    | (refine after_lit ti_ok ?_)
    | (refine drawAfter_lit ti_ok ?_)
    | (refine drawEnd_of (by kernel_rfl) ?_)
    | (refine cond_cases (fun hc => ?_) (fun hc => ?_) <;> first | (exfalso; simp only [decide_eq_true_eq, decide_eq_false_iff_not, Bool.not_eq_true, Bool.not_eq_false, Bool.not_eq_true', Bool.not_eq_false'] at hc; omega) | (simp only [hc]; try simp only [decide_eq_true_eq, decide_eq_false_iff_not, Bool.not_eq_true, Bool.not_eq_false, Bool.not_eq_true', Bool.not_eq_false'] at hc))
    | (refine guard_split (fun hc => ?_) (fun hc => ?_) <;> first | (exfalso; simp only [decide_eq_true_eq, decide_eq_false_iff_not, Bool.not_eq_true, Bool.not_eq_false, Bool.not_eq_true', Bool.not_eq_false'] at hc; omega) | (simp only [hc]; try simp only [decide_eq_true_eq, decide_eq_false_iff_not, Bool.not_eq_true, Bool.not_eq_false, Bool.not_eq_true', Bool.not_eq_false'] at hc))
    | (refine drawGuard_split (fun hc => ?_) (fun hc => ?_) <;> first | (exfalso; simp only [decide_eq_true_eq, decide_eq_false_iff_not, Bool.not_eq_true, Bool.not_eq_false, Bool.not_eq_true', Bool.not_eq_false'] at hc; omega) | (simp only [hc]; try simp only [decide_eq_true_eq, decide_eq_false_iff_not, Bool.not_eq_true, Bool.not_eq_false, Bool.not_eq_true', Bool.not_eq_false'] at hc))
    | (refine after_need (by omega) ?_)
    | (refine drawAfter_need (by omega) ?_))
  all_goals exact fin_same trivial rfl
theorem turn39 (R L lk kp ki fa fb an sp va vb ia ib : Int) : CallOK Try.prog gl 13 [.agg [.v (.int .i64 R), .v (.int .i64 L), .v (.int .i64 lk), .v (.int .i64 kp), .v (.int .i64 ki)], .agg [.v (.int .i64 fa), .v (.int .i64 fb), .v (.int .i64 an), .v (.int .i64 sp)], .agg [.v (.int .i64 va), .v (.int .i64 vb), .v (.int .i64 ia), .v (.int .i64 ib)]] (.v (.bool true)) := by
  by_cases h : obBad R L lk kp ki
  · exact turn39_bad _ _ _ _ _ _ _ _ _ _ _ _ _ h
  · exact turn39_ok _ _ _ _ _ _ _ _ _ _ _ _ _ h
end Go.Proofs.Ytekmhhmemkjcbaa
