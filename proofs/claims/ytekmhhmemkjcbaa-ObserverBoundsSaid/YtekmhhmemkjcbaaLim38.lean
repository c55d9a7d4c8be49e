/- The statement ServoLimits: its code returns true. -/
import Derived.Test.YtekmhhmemkjcbaaSteps38
import Derived.Test.YtekmhhmemkjcbaaAxL
set_option linter.unusedSimpArgs false
set_option linter.unusedVariables false
set_option linter.deprecated false
namespace Go.Proofs.Ytekmhhmemkjcbaa
open Go Go.Ax
set_option maxRecDepth 100000
set_option maxHeartbeats 4000000

theorem svS_bd {kv sh kp ki lo hi s rp rv p v l : Int} (h : ¬ svBad kv sh kp ki lo hi) : lo * 4096 ≤ svS kv sh kp ki lo hi s rp rv p v l ∧ svS kv sh kp ki lo hi s rp rv p v l ≤ hi * 4096 := by
  unfold svBad piBad at h
  unfold svS
  split
  · exact clip_bd (by omega) _
  · exact clip_bd (by omega) _
theorem piO_bd {kp ki lo hi s e : Int} (h : ¬ piBad kp ki lo hi) : lo ≤ piO kp ki lo hi s e ∧ piO kp ki lo hi s e ≤ hi := by
  unfold piBad at h
  exact clip_bd (by omega) _
theorem piS_dir {kp ki lo hi s e : Int} (h : ¬ piBad kp ki lo hi) (hs : lo * 4096 ≤ s ∧ s ≤ hi * 4096) : (0 < e → s ≤ piS kp ki lo hi s e) ∧ (e < 0 → piS kp ki lo hi s e ≤ s) := by
  unfold piBad at h
  have hold : clip s (lo * 4096) (hi * 4096) = s := clip_id hs
  have key : ∀ x, (0 < e → s ≤ x) → s ≤ hi * 4096 → 0 < e → s ≤ clip x (lo * 4096) (hi * 4096) := fun x hx _ he => by have := hx he; unfold clip; omega
  have key2 : ∀ x, (e < 0 → x ≤ s) → lo * 4096 ≤ s → e < 0 → clip x (lo * 4096) (hi * 4096) ≤ s := fun x hx _ he => by have := hx he; unfold clip; omega
  have c1 : 0 < e → 0 ≤ ki * clip e (-16777216) 16777216 := fun he => Int.mul_nonneg (by omega) (by unfold clip; omega)
  have c2 : e < 0 → 0 ≤ ki * -clip e (-16777216) 16777216 := fun he => Int.mul_nonneg (by omega) (by unfold clip; omega)
  unfold piS piV
  rw [hold]
  split
  · exact ⟨key _ (fun _ => Int.le_refl _) hs.2, key2 _ (fun _ => Int.le_refl _) hs.1⟩
  · refine ⟨key _ (fun he => ?_) hs.2, key2 _ (fun he => ?_) hs.1⟩
    · have := c1 he; omega
    · have := c2 he; rw [Int.mul_neg] at this; omega

theorem lim_facts {kv sh kp ki lo hi s rp rv p v l : Int} (h : ¬ svBad kv sh kp ki lo hi) (hs : lo * 4096 ≤ s ∧ s ≤ hi * 4096) :
    ((0 - clip l 0 16777216 ≤ svT kv sh kp ki lo hi s rp rv p v l ∧ svT kv sh kp ki lo hi s rp rv p v l ≤ clip l 0 16777216) ∧ (lo ≤ svT kv sh kp ki lo hi s rp rv p v l ∧ svT kv sh kp ki lo hi s rp rv p v l ≤ hi)) ∧
    (0 < (svW kv rp rv p - clip v (-1073741824) 1073741824) / 2 ^ sh.toNat → s ≤ svS kv sh kp ki lo hi s rp rv p v l) ∧
    ((svW kv rp rv p - clip v (-1073741824) 1073741824) / 2 ^ sh.toNat < 0 → svS kv sh kp ki lo hi s rp rv p v l ≤ s) ∧
    svT kv sh kp ki lo hi s rp rv p v l = clip (svT kv sh kp ki lo hi s rp rv p v 16777216) (0 - clip l 0 16777216) (clip l 0 16777216) ∧
    ((clip l 0 16777216 < svT kv sh kp ki lo hi s rp rv p v 16777216 ∧ 0 < (svW kv rp rv p - clip v (-1073741824) 1073741824) / 2 ^ sh.toNat) ∨ (svT kv sh kp ki lo hi s rp rv p v 16777216 < 0 - clip l 0 16777216 ∧ (svW kv rp rv p - clip v (-1073741824) 1073741824) / 2 ^ sh.toNat < 0) → svS kv sh kp ki lo hi s rp rv p v l = s) := by
  have h2 : ¬ piBad kp ki lo hi := fun q => h (.inl q)
  have h3 := h2
  unfold piBad at h3
  have hold : clip s (lo * 4096) (hi * 4096) = s := clip_id hs
  have bo := piO_bd (s := s) (e := svE kv sh rp rv p v) h2
  have bm := svM_bd l
  have dir := piS_dir (e := svE kv sh rp rv p v) h2 hs
  have e1 : svT kv sh kp ki lo hi s rp rv p v 16777216 = piO kp ki lo hi s (svE kv sh rp rv p v) := by
    unfold svT
    have : svM 16777216 = 16777216 := rfl
    rw [this]
    exact clip_id (by omega)
  have e2 : svE kv sh rp rv p v = (svW kv rp rv p - clip v (-1073741824) 1073741824) / 2 ^ sh.toNat := rfl
  have e3 : svM l = clip l 0 16777216 := rfl
  rw [e1, ← e2, ← e3]
  have e4 : svT kv sh kp ki lo hi s rp rv p v l = clip (piO kp ki lo hi s (svE kv sh rp rv p v)) (-svM l) (svM l) := rfl
  generalize hE : svE kv sh rp rv p v = E at *
  generalize hO : piO kp ki lo hi s E = O at *
  generalize hM : svM l = M at *
  have e5 : svS kv sh kp ki lo hi s rp rv p v l = if (M < O ∧ 0 < E) ∨ (O < -M ∧ E < 0) then s else piS kp ki lo hi s E := by
    unfold svS
    rw [hE, hO, hM, hold]
  rw [e4, e5, Int.zero_sub]
  refine ⟨by unfold clip; omega, fun hp => ?_, fun hn => ?_, rfl, fun hq => ?_⟩
  · split
    · omega
    · exact dir.1 hp
  · split
    · omega
    · exact dir.2 hn
  · rw [if_pos hq]

abbrev inKs : List KD := [.int .i64, .int .i64, .int .i64, .int .i64, .int .i64]

theorem lim38_ok (kv sh kp ki lo hi s : Int) (rows : List (List AV)) (hrows : ∀ r ∈ rows, FitL inKs r) (hcl : ∀ r ∈ rows, ∀ a ∈ r, Cl a) (h : ¬ svBad kv sh kp ki lo hi) : CallOK Try.prog gl 4 [.agg [.v (.int .i64 kv), .v (.int .i64 sh), .v (.int .i64 kp), .v (.int .i64 ki), .v (.int .i64 lo), .v (.int .i64 hi)], .agg [.v (.int .i64 s)], .sl 5 rows] (.v (.bool (true))) := by
  refine call_ok (C := ⟨Try.prog, gl, ti, 201⟩) ti_ok mixed 3000 Try.call4 Try.func4 rfl Try.ntmps4 (by simp) (by (try simp only [List.mem_cons, List.not_mem_nil, or_false, forall_eq_or_imp, forall_eq]); (repeat' (first | exact Cl.v _ | exact Cl.u32s | exact Cl.i64s | exact Cl.sl (by assumption) | refine And.intro ?_ ?_ | refine Cl.agg ?_ | refine Cl.rp ?_ | refine Cl.sl ?_ | refine Cl.tup ?_ | simp only [List.mem_cons, List.not_mem_nil, or_false, forall_eq_or_imp, forall_eq, false_imp_iff, implies_true]))) (by (try simp only [List.mem_cons, List.not_mem_nil, or_false, forall_eq_or_imp, forall_eq]); (repeat' (first | exact Cl.v _ | exact Cl.u32s | exact Cl.i64s | exact Cl.sl (by assumption) | refine And.intro ?_ ?_ | refine Cl.agg ?_ | refine Cl.rp ?_ | refine Cl.sl ?_ | refine Cl.tup ?_ | simp only [List.mem_cons, List.not_mem_nil, or_false, forall_eq_or_imp, forall_eq, false_imp_iff, implies_true]))) ?_
  rw [Try.results4]
  have h' := h
  unfold svBad piBad at h'
  repeat' (first
    | (simp only [Ax.ex_nil, Ax.ex_blk, Ax.ex_lp, Ax.ex_skip, Ax.ex_seq, Ax.ex_block, Ax.ex_ret, Ax.l_region, Ax.lap_cons, Ax.lap_nil, Ax.la_nil, Ax.la_assoc, Ax.la_op, Ax.la_call, Ax.la_guard, Ax.lda_nil, Ax.lda_assoc, Ax.lda_op, Ax.lda_call, Ax.lda_guard, Ax.gdA_zero, Ax.gdA_succ, Ax.gdA_nil, Ax.gdA_assoc, Ax.l_nil, Ax.l_op, Ax.l_call, Ax.l_guard, Ax.l_exit, Ax.exit_hit, Ax.exit_blk, Ax.exit_lp, Ax.exit_code, Ax.ex_cond, Ax.condT, Ax.condF, Ax.ex_loop, Ax.ex_op_plain, Ax.ex_call, Ax.call_fn, Ax.after_true, Ax.guard_tt, Ax.guard_ff, Ax.guard_tf, Ax.guard_ft, Ax.guard_undef, Ax.drawGuard_undef, Ax.gdVal, Ax.l_draw, Ax.ld_nil, Ax.ld_op, Ax.ld_call, Ax.ld_guard, Ax.draw_plain, Ax.draw_callo, Ax.drawCall_fn, Ax.drawAfter_true, Ax.drawGuard_tt, Ax.drawGuard_ff, Ax.drawGuard_tf, Ax.drawGuard_ft, Ax.l_unroll_succ, Ax.unrollQ_end, Ax.unrollQ_ret, Ax.unrollQ_normal, Ax.round_end, Ax.round_ret, Ax.round_normal, Ax.ends_ret, Ax.ends_normal, Nat.max_def, Ax.isCall.eq_def, Ax.dstOK.eq_def, Ax.look_hit, Ax.look_miss, Ax.look.eq_1, Nat.reduceBEq, Ax.ev_tmp, Ax.ev_const, Ax.ev_func, Ax.evL, Ax.entry, Ax.entryEnv, Ax.AS.put.eq_def, Ax.AS.upd.eq_def, Ax.bump, Ax.AV.cells.eq_def, Ax.AV.one.eq_def, Value.oneCell'.eq_def, Ax.blockOf.eq_def, Ax.rdOf.eq_def, Ax.wrOf.eq_def, Ax.aop_move, Ax.aop_assign, Ax.aMove_some, Ax.aop_pick, Ax.aop_alloc, Ax.aop_box, Ax.aop_build, Ax.aop_load, Ax.aop_store, Ax.aop_nil, Ax.aop_bin, Ax.aop_un, Ax.aop_convert, Ax.aop_iface, Ax.aop_fieldAddr, Ax.aop_field, Ax.aop_indexAddr, Ax.aop_index, Ax.aop_extract, Ax.aop, Ax.aBin.eq_def, Ax.aUn.eq_def, Ax.aPick.eq_def, Ax.aAlloc.eq_def, Ax.aBox.eq_def, Ax.aLoad.eq_def, Ax.aStore.eq_def, Ax.aNilCheck.eq_def, Ax.aFieldAddr.eq_def, Ax.aField.eq_def, Ax.aIndexAddr.eq_def, Ax.aIndex.eq_def, Ax.aBuild.eq_def, Ax.aConvert.eq_def, Ax.aMakeInterface.eq_def, Ax.aAssert.eq_def, Ax.aExtract.eq_def, Ax.aMakeFunc.eq_def, Ax.aLen.eq_def, Ax.aMin.eq_def, Ax.aMax.eq_def, Ax.aLenT.eq_def, Ax.aBuiltin.eq_def, Ax.headT, Ax.ibin.eq_def, Ax.ishift.eq_def, Ax.isShift.eq_def, Ax.eqNil.eq_def, Ax.eqBool.eq_def, Ax.toEff.eq_def, Ax.isNilConst.eq_def, Ax.isBoolT.eq_def, Ax.isIfaceT.eq_def, Ax.isSlcT.eq_def, Ax.isStrT.eq_def, Ax.strBin.eq_def, Ax.aop_makeSlice, Ax.aop_slice, Ax.aMakeSlice.eq_def, Ax.aSlice.eq_def, Ax.bndOf.eq_def, Option.isSome_none, Option.map_none, Ax.pk_bool, Ax.pk.eq_def, Ax.behind.eq_def, Ax.shiftPtr.eq_def, Ax.partOf.eq_def, Ax.fillA, Ax.placed, Ax.stPlace.eq_def, Ax.TK.agg.eq_def, Ax.Z.val.eq_def, Ax.resL, Ax.resOne.eq_def, List.cons_append, List.nil_append, List.append_nil, List.getElem?_cons_zero, List.getElem?_cons_succ, List.length_cons, List.length_nil, List.take_succ_cons, List.take_zero, List.drop_succ_cons, List.drop_zero, List.map_cons, List.map_nil, List.all_cons, List.all_nil, List.head?_cons, List.set_cons_zero, List.set_cons_succ, List.getD_cons_zero, List.getD_cons_succ, List.toList_toArray, Option.bind_some, Option.bind_none, Option.isSome_some, Option.map_some, Option.getD_some, Nat.reduceAdd, Nat.reduceEqDiff, Nat.reduceLT, Nat.reduceLeDiff, Nat.reduceSub, Nat.reduceMul, Nat.zero_add, Nat.add_zero, Nat.zero_mul, Nat.mul_zero, Nat.one_mul, Nat.mul_one, Int.reduceToNat, IntKind.bits.eq_def, Int.reducePow, Nat.min_eq_left, Int.one_mul, Int.mul_one, Nat.reducePow, Nat.one_ne_zero, Nat.zero_ne_one, Bool.or_self, Bool.or_false, Bool.or_true, Bool.false_or, Bool.true_or, Bool.and_true, Bool.and_false, Bool.true_and, Bool.false_and, Bool.not_true, Bool.not_false, Bool.false_eq_true, Bool.true_eq_false, Bool.and_self, Bool.decide_eq_true, true_and, and_true, false_and, and_false, and_self, if_true, if_false, ite_true, ite_false, reduceCtorEq, reduceIte, eq_self, true_implies, imp_self, implies_true, not_true_eq_false, not_false_eq_true, ne_eq, decide_true, decide_false, Ax.w64l, Int.reduceAdd, Int.reduceSub, Int.reduceMul, Int.reduceNeg, Int.reduceLE, Int.reduceLT, Int.zero_add, Int.toNat_zero, Int.reduceEq, Option.bind_eq_bind, Ax.veqs, Ax.veq, Ax.vals, eq_self, Int.toNat_natCast, Ax.thawS, Ax.thawE, Ax.thaw.eq_def, Ax.dropM, Ax.killT, Ax.isB.eq_def, Ax.AV.priv.eq_def, List.any_cons, List.any_nil, List.contains_cons, List.contains_nil, List.elem_nil, Bool.cond_true, Bool.cond_false, cond_true, cond_false, Ax.litThen_some, Ax.drawLitThen_some, Ax.aLit.eq_def, Ax.aRows, List.getD_cons_zero, List.getD_cons_succ, ti, tin])
    | (simp (disch := omega) only [w64, wu64, wu32, Nat.min_eq_left])
    | (with_reducible refine callF_of (awake38) ?_)
    | (with_reducible refine drawF_of (awake38) ?_)
    | (with_reducible refine callF_of (base_Clip _ _ _) ?_)
    | (with_reducible refine drawF_of (base_Clip _ _ _) ?_)
    | (with_reducible refine callF_of (ref38_Check _ _ _ _ _ _ h) ?_)
    | (with_reducible refine drawF_of (ref38_Check _ _ _ _ _ _ h) ?_)
    | (refine after_lit ti_ok ?_)
    | (refine drawAfter_lit ti_ok ?_)
    | (refine drawEnd_of (by kernel_rfl) ?_)
    | (refine cond_cases (fun hc => ?_) (fun hc => ?_) <;> first | (exfalso; simp only [decide_eq_true_eq, decide_eq_false_iff_not, Bool.not_eq_true, Bool.not_eq_false, Bool.not_eq_true', Bool.not_eq_false'] at hc; omega) | (simp only [hc]; try simp only [decide_eq_true_eq, decide_eq_false_iff_not, Bool.not_eq_true, Bool.not_eq_false, Bool.not_eq_true', Bool.not_eq_false'] at hc))
    | (refine guard_split (fun hc => ?_) (fun hc => ?_) <;> first | (exfalso; simp only [decide_eq_true_eq, decide_eq_false_iff_not, Bool.not_eq_true, Bool.not_eq_false, Bool.not_eq_true', Bool.not_eq_false'] at hc; omega) | (simp only [hc]; try simp only [decide_eq_true_eq, decide_eq_false_iff_not, Bool.not_eq_true, Bool.not_eq_false, Bool.not_eq_true', Bool.not_eq_false'] at hc))
    | (refine drawGuard_split (fun hc => ?_) (fun hc => ?_) <;> first | (exfalso; simp only [decide_eq_true_eq, decide_eq_false_iff_not, Bool.not_eq_true, Bool.not_eq_false, Bool.not_eq_true', Bool.not_eq_false'] at hc; omega) | (simp only [hc]; try simp only [decide_eq_true_eq, decide_eq_false_iff_not, Bool.not_eq_true, Bool.not_eq_false, Bool.not_eq_true', Bool.not_eq_false'] at hc))
    | (refine after_need (by omega) ?_)
    | (refine drawAfter_need (by omega) ?_))
  · exact fin_same trivial rfl
  have hlen : rows.length ≤ 40 := by omega
  refine l_loop (α := Nat × Int) (fun x => ⟨[(49, .v (.int .i64 x.1)), (48, .v (.int .i64 rows.length)), (47, .sl 5 rows), (3, .p 0 6 0 0), (4, .p 1 1 0 0), (6, .v (.bool false))], [(1, ⟨1, [[.v (.int .i64 x.2)]]⟩), (0, ⟨6, [[.v (.int .i64 kv), .v (.int .i64 sh), .v (.int .i64 kp), .v (.int .i64 ki), .v (.int .i64 lo), .v (.int .i64 hi)]]⟩)], 2⟩)
    (fun x => x.1 ≤ rows.length ∧ lo * 4096 ≤ x.2 ∧ x.2 ≤ hi * 4096) (fun x => rows.length - x.1) (0, clip s (lo * 4096) (hi * 4096)) _ rfl ⟨Nat.zero_le _, clip_bd (by omega) s⟩
    (Weak.cut ⟨⟨_, rfl, .refl _⟩, ⟨_, rfl, .refl _⟩, ⟨_, rfl, .refl _⟩, ⟨_, rfl, .refl _⟩, ⟨_, rfl, .refl _⟩, ⟨_, rfl, .refl _⟩, trivial⟩ ⟨rfl, rfl, trivial⟩ ⟨.v, .v, .cl (.sl hcl), .p Nat.zero_lt_two, .p Nat.one_lt_two, .v, trivial⟩ ⟨⟨Nat.one_lt_two, ⟨.v, trivial⟩, trivial⟩, ⟨Nat.zero_lt_two, ⟨.v, .v, .v, .v, .v, .v, trivial⟩, trivial⟩, trivial⟩) ?_
  rintro ⟨i, z⟩ ⟨hii, hz1, hz2⟩
  simp only at hii hz1 hz2
  by_cases hlt : i < rows.length
  ·
    obtain ⟨rp, rv, p, v, l, hrow⟩ : ∃ rp rv p v l : Int, rows.getD i [] = [.v (.int .i64 rp), .v (.int .i64 rv), .v (.int .i64 p), .v (.int .i64 v), .v (.int .i64 l)] := by
      have hf := hrows (rows.getD i []) (List.mem_of_getElem? (getD_of_lt (d := ([] : List AV)) hlt))
      generalize rows.getD i [] = r at hf
      obtain ⟨rp, l0, rfl, _, hf⟩ := hf.i64
      obtain ⟨rv, l1, rfl, _, hf⟩ := hf.i64
      obtain ⟨p, l2, rfl, _, hf⟩ := hf.i64
      obtain ⟨v, l3, rfl, _, hf⟩ := hf.i64
      obtain ⟨l, l4, rfl, _, hf⟩ := hf.i64
      obtain rfl := hf.nil
      exact ⟨_, _, _, _, _, rfl⟩
    have f1 := lim_facts (rp := rp) (rv := rv) (p := p) (v := v) (l := l) h ⟨hz1, hz2⟩
    have f2 := svS_bd (s := z) (rp := rp) (rv := rv) (p := p) (v := v) (l := l) h
    have b1 := svW_bd kv rp rv p
    have b2 := clip_bd (lo := -1073741824) (hi := 1073741824) (by omega) v
    have b3 := clip_bd (lo := 0) (hi := 16777216) (by omega) l
    have b4 := pow_bd (n := sh.toNat) (m := 30) (by omega)
    repeat' (first
      | (simp only [Ax.ex_nil, Ax.ex_blk, Ax.ex_lp, Ax.ex_skip, Ax.ex_seq, Ax.ex_block, Ax.ex_ret, Ax.l_region, Ax.lap_cons, Ax.lap_nil, Ax.la_nil, Ax.la_assoc, Ax.la_op, Ax.la_call, Ax.la_guard, Ax.lda_nil, Ax.lda_assoc, Ax.lda_op, Ax.lda_call, Ax.lda_guard, Ax.gdA_zero, Ax.gdA_succ, Ax.gdA_nil, Ax.gdA_assoc, Ax.l_nil, Ax.l_op, Ax.l_call, Ax.l_guard, Ax.l_exit, Ax.exit_hit, Ax.exit_blk, Ax.exit_lp, Ax.exit_code, Ax.ex_cond, Ax.condT, Ax.condF, Ax.ex_loop, Ax.ex_op_plain, Ax.ex_call, Ax.call_fn, Ax.after_true, Ax.guard_tt, Ax.guard_ff, Ax.guard_tf, Ax.guard_ft, Ax.guard_undef, Ax.drawGuard_undef, Ax.gdVal, Ax.l_draw, Ax.ld_nil, Ax.ld_op, Ax.ld_call, Ax.ld_guard, Ax.draw_plain, Ax.draw_callo, Ax.drawCall_fn, Ax.drawAfter_true, Ax.drawGuard_tt, Ax.drawGuard_ff, Ax.drawGuard_tf, Ax.drawGuard_ft, Ax.l_unroll_succ, Ax.unrollQ_end, Ax.unrollQ_ret, Ax.unrollQ_normal, Ax.round_end, Ax.round_ret, Ax.round_normal, Ax.ends_ret, Ax.ends_normal, Nat.max_def, Ax.isCall.eq_def, Ax.dstOK.eq_def, Ax.look_hit, Ax.look_miss, Ax.look.eq_1, Nat.reduceBEq, Ax.ev_tmp, Ax.ev_const, Ax.ev_func, Ax.evL, Ax.entry, Ax.entryEnv, Ax.AS.put.eq_def, Ax.AS.upd.eq_def, Ax.bump, Ax.AV.cells.eq_def, Ax.AV.one.eq_def, Value.oneCell'.eq_def, Ax.blockOf.eq_def, Ax.rdOf.eq_def, Ax.wrOf.eq_def, Ax.aop_move, Ax.aop_assign, Ax.aMove_some, Ax.aop_pick, Ax.aop_alloc, Ax.aop_box, Ax.aop_build, Ax.aop_load, Ax.aop_store, Ax.aop_nil, Ax.aop_bin, Ax.aop_un, Ax.aop_convert, Ax.aop_iface, Ax.aop_fieldAddr, Ax.aop_field, Ax.aop_indexAddr, Ax.aop_index, Ax.aop_extract, Ax.aop, Ax.aBin.eq_def, Ax.aUn.eq_def, Ax.aPick.eq_def, Ax.aAlloc.eq_def, Ax.aBox.eq_def, Ax.aLoad.eq_def, Ax.aStore.eq_def, Ax.aNilCheck.eq_def, Ax.aFieldAddr.eq_def, Ax.aField.eq_def, Ax.aIndexAddr.eq_def, Ax.aIndex.eq_def, Ax.aBuild.eq_def, Ax.aConvert.eq_def, Ax.aMakeInterface.eq_def, Ax.aAssert.eq_def, Ax.aExtract.eq_def, Ax.aMakeFunc.eq_def, Ax.aLen.eq_def, Ax.aMin.eq_def, Ax.aMax.eq_def, Ax.aLenT.eq_def, Ax.aBuiltin.eq_def, Ax.headT, Ax.ibin.eq_def, Ax.ishift.eq_def, Ax.isShift.eq_def, Ax.eqNil.eq_def, Ax.eqBool.eq_def, Ax.toEff.eq_def, Ax.isNilConst.eq_def, Ax.isBoolT.eq_def, Ax.isIfaceT.eq_def, Ax.isSlcT.eq_def, Ax.isStrT.eq_def, Ax.strBin.eq_def, Ax.aop_makeSlice, Ax.aop_slice, Ax.aMakeSlice.eq_def, Ax.aSlice.eq_def, Ax.bndOf.eq_def, Option.isSome_none, Option.map_none, Ax.pk_bool, Ax.pk.eq_def, Ax.behind.eq_def, Ax.shiftPtr.eq_def, Ax.partOf.eq_def, Ax.fillA, Ax.placed, Ax.stPlace.eq_def, Ax.TK.agg.eq_def, Ax.Z.val.eq_def, Ax.resL, Ax.resOne.eq_def, List.cons_append, List.nil_append, List.append_nil, List.getElem?_cons_zero, List.getElem?_cons_succ, List.length_cons, List.length_nil, List.take_succ_cons, List.take_zero, List.drop_succ_cons, List.drop_zero, List.map_cons, List.map_nil, List.all_cons, List.all_nil, List.head?_cons, List.set_cons_zero, List.set_cons_succ, List.getD_cons_zero, List.getD_cons_succ, List.toList_toArray, Option.bind_some, Option.bind_none, Option.isSome_some, Option.map_some, Option.getD_some, Nat.reduceAdd, Nat.reduceEqDiff, Nat.reduceLT, Nat.reduceLeDiff, Nat.reduceSub, Nat.reduceMul, Nat.zero_add, Nat.add_zero, Nat.zero_mul, Nat.mul_zero, Nat.one_mul, Nat.mul_one, Int.reduceToNat, IntKind.bits.eq_def, Int.reducePow, Nat.min_eq_left, Int.one_mul, Int.mul_one, Nat.reducePow, Nat.one_ne_zero, Nat.zero_ne_one, Bool.or_self, Bool.or_false, Bool.or_true, Bool.false_or, Bool.true_or, Bool.and_true, Bool.and_false, Bool.true_and, Bool.false_and, Bool.not_true, Bool.not_false, Bool.false_eq_true, Bool.true_eq_false, Bool.and_self, Bool.decide_eq_true, true_and, and_true, false_and, and_false, and_self, if_true, if_false, ite_true, ite_false, reduceCtorEq, reduceIte, eq_self, true_implies, imp_self, implies_true, not_true_eq_false, not_false_eq_true, ne_eq, decide_true, decide_false, Ax.w64l, Int.reduceAdd, Int.reduceSub, Int.reduceMul, Int.reduceNeg, Int.reduceLE, Int.reduceLT, Int.zero_add, Int.toNat_zero, Int.reduceEq, Option.bind_eq_bind, Ax.veqs, Ax.veq, Ax.vals, eq_self, Int.toNat_natCast, Ax.thawS, Ax.thawE, Ax.thaw.eq_def, Ax.dropM, Ax.killT, Ax.isB.eq_def, Ax.AV.priv.eq_def, List.any_cons, List.any_nil, List.contains_cons, List.contains_nil, List.elem_nil, Bool.cond_true, Bool.cond_false, cond_true, cond_false, Ax.litThen_some, Ax.drawLitThen_some, Ax.aLit.eq_def, Ax.aRows, List.getD_cons_zero, List.getD_cons_succ, ti, tin, hrow])
      | (simp (disch := omega) only [w64, wu64, wu32, Nat.min_eq_left])
      | (with_reducible refine callF_of (base_Clip _ _ _) ?_)
      | (with_reducible refine drawF_of (base_Clip _ _ _) ?_)
      | (with_reducible refine callF_of (servo_Step _ _ _ _ _ _ _ _ _ _ _ _ h) ?_)
      | (with_reducible refine drawF_of (servo_Step _ _ _ _ _ _ _ _ _ _ _ _ h) ?_)
      | (with_reducible refine callF_of (servo_Speed _ _ _ _ _ _ _ _ _ _ _ h) ?_)
      | (with_reducible refine drawF_of (servo_Speed _ _ _ _ _ _ _ _ _ _ _ h) ?_)
      | (with_reducible refine callF_of (base_Div _ _ (by omega) (by omega)) ?_)
      | (with_reducible refine drawF_of (base_Div _ _ (by omega) (by omega)) ?_)
      | (refine after_sem (sem_eql eq_ServoState rfl rfl rfl rfl rfl rfl) ?_)
      | (refine after_sem (sem_neq eq_ServoState rfl rfl rfl rfl rfl rfl) ?_)
      | (refine drawAfter_sem (sem_eql eq_ServoState rfl rfl rfl rfl rfl rfl) ?_)
      | (refine drawAfter_sem (sem_neq eq_ServoState rfl rfl rfl rfl rfl rfl) ?_)
      | (refine after_lit ti_ok ?_)
      | (refine drawAfter_lit ti_ok ?_)
      | (refine drawEnd_of (by kernel_rfl) ?_)
      | (refine cond_cases (fun hc => ?_) (fun hc => ?_) <;> first | (exfalso; simp only [decide_eq_true_eq, decide_eq_false_iff_not, Bool.not_eq_true, Bool.not_eq_false, Bool.not_eq_true', Bool.not_eq_false'] at hc; omega) | (simp only [hc]; try simp only [decide_eq_true_eq, decide_eq_false_iff_not, Bool.not_eq_true, Bool.not_eq_false, Bool.not_eq_true', Bool.not_eq_false'] at hc))
      | (refine guard_split (fun hc => ?_) (fun hc => ?_) <;> first | (exfalso; simp only [decide_eq_true_eq, decide_eq_false_iff_not, Bool.not_eq_true, Bool.not_eq_false, Bool.not_eq_true', Bool.not_eq_false'] at hc; omega) | (simp only [hc]; try simp only [decide_eq_true_eq, decide_eq_false_iff_not, Bool.not_eq_true, Bool.not_eq_false, Bool.not_eq_true', Bool.not_eq_false'] at hc))
      | (refine drawGuard_split (fun hc => ?_) (fun hc => ?_) <;> first | (exfalso; simp only [decide_eq_true_eq, decide_eq_false_iff_not, Bool.not_eq_true, Bool.not_eq_false, Bool.not_eq_true', Bool.not_eq_false'] at hc; omega) | (simp only [hc]; try simp only [decide_eq_true_eq, decide_eq_false_iff_not, Bool.not_eq_true, Bool.not_eq_false, Bool.not_eq_true', Bool.not_eq_false'] at hc))
      | (refine after_need (by omega) ?_)
      | (refine drawAfter_need (by omega) ?_))
    all_goals
      refine roundEnd_of (α := Nat × Int) (i + 1, svS kv sh kp ki lo hi z rp rv p v l) ?_ ?_ ?_
      · exact ⟨hlt, f2⟩
      · show rows.length - (i + 1) < rows.length - i
        omega
      · exact (Weak.cut ⟨⟨_, rfl, .refl _⟩, ⟨_, rfl, .refl _⟩, ⟨_, rfl, .refl _⟩, ⟨_, rfl, .refl _⟩, ⟨_, rfl, .refl _⟩, ⟨_, rfl, .refl _⟩, trivial⟩ ⟨rfl, rfl, trivial⟩ ⟨.v, .v, .cl (.sl hcl), .p Nat.zero_lt_two, .p Nat.one_lt_two, .v, trivial⟩ ⟨⟨Nat.one_lt_two, ⟨.v, trivial⟩, trivial⟩, ⟨Nat.zero_lt_two, ⟨.v, .v, .v, .v, .v, .v, trivial⟩, trivial⟩, trivial⟩)
  ·
    repeat' (first
      | (simp only [Ax.ex_nil, Ax.ex_blk, Ax.ex_lp, Ax.ex_skip, Ax.ex_seq, Ax.ex_block, Ax.ex_ret, Ax.l_region, Ax.lap_cons, Ax.lap_nil, Ax.la_nil, Ax.la_assoc, Ax.la_op, Ax.la_call, Ax.la_guard, Ax.lda_nil, Ax.lda_assoc, Ax.lda_op, Ax.lda_call, Ax.lda_guard, Ax.gdA_zero, Ax.gdA_succ, Ax.gdA_nil, Ax.gdA_assoc, Ax.l_nil, Ax.l_op, Ax.l_call, Ax.l_guard, Ax.l_exit, Ax.exit_hit, Ax.exit_blk, Ax.exit_lp, Ax.exit_code, Ax.ex_cond, Ax.condT, Ax.condF, Ax.ex_loop, Ax.ex_op_plain, Ax.ex_call, Ax.call_fn, Ax.after_true, Ax.guard_tt, Ax.guard_ff, Ax.guard_tf, Ax.guard_ft, Ax.guard_undef, Ax.drawGuard_undef, Ax.gdVal, Ax.l_draw, Ax.ld_nil, Ax.ld_op, Ax.ld_call, Ax.ld_guard, Ax.draw_plain, Ax.draw_callo, Ax.drawCall_fn, Ax.drawAfter_true, Ax.drawGuard_tt, Ax.drawGuard_ff, Ax.drawGuard_tf, Ax.drawGuard_ft, Ax.l_unroll_succ, Ax.unrollQ_end, Ax.unrollQ_ret, Ax.unrollQ_normal, Ax.round_end, Ax.round_ret, Ax.round_normal, Ax.ends_ret, Ax.ends_normal, Nat.max_def, Ax.isCall.eq_def, Ax.dstOK.eq_def, Ax.look_hit, Ax.look_miss, Ax.look.eq_1, Nat.reduceBEq, Ax.ev_tmp, Ax.ev_const, Ax.ev_func, Ax.evL, Ax.entry, Ax.entryEnv, Ax.AS.put.eq_def, Ax.AS.upd.eq_def, Ax.bump, Ax.AV.cells.eq_def, Ax.AV.one.eq_def, Value.oneCell'.eq_def, Ax.blockOf.eq_def, Ax.rdOf.eq_def, Ax.wrOf.eq_def, Ax.aop_move, Ax.aop_assign, Ax.aMove_some, Ax.aop_pick, Ax.aop_alloc, Ax.aop_box, Ax.aop_build, Ax.aop_load, Ax.aop_store, Ax.aop_nil, Ax.aop_bin, Ax.aop_un, Ax.aop_convert, Ax.aop_iface, Ax.aop_fieldAddr, Ax.aop_field, Ax.aop_indexAddr, Ax.aop_index, Ax.aop_extract, Ax.aop, Ax.aBin.eq_def, Ax.aUn.eq_def, Ax.aPick.eq_def, Ax.aAlloc.eq_def, Ax.aBox.eq_def, Ax.aLoad.eq_def, Ax.aStore.eq_def, Ax.aNilCheck.eq_def, Ax.aFieldAddr.eq_def, Ax.aField.eq_def, Ax.aIndexAddr.eq_def, Ax.aIndex.eq_def, Ax.aBuild.eq_def, Ax.aConvert.eq_def, Ax.aMakeInterface.eq_def, Ax.aAssert.eq_def, Ax.aExtract.eq_def, Ax.aMakeFunc.eq_def, Ax.aLen.eq_def, Ax.aMin.eq_def, Ax.aMax.eq_def, Ax.aLenT.eq_def, Ax.aBuiltin.eq_def, Ax.headT, Ax.ibin.eq_def, Ax.ishift.eq_def, Ax.isShift.eq_def, Ax.eqNil.eq_def, Ax.eqBool.eq_def, Ax.toEff.eq_def, Ax.isNilConst.eq_def, Ax.isBoolT.eq_def, Ax.isIfaceT.eq_def, Ax.isSlcT.eq_def, Ax.isStrT.eq_def, Ax.strBin.eq_def, Ax.aop_makeSlice, Ax.aop_slice, Ax.aMakeSlice.eq_def, Ax.aSlice.eq_def, Ax.bndOf.eq_def, Option.isSome_none, Option.map_none, Ax.pk_bool, Ax.pk.eq_def, Ax.behind.eq_def, Ax.shiftPtr.eq_def, Ax.partOf.eq_def, Ax.fillA, Ax.placed, Ax.stPlace.eq_def, Ax.TK.agg.eq_def, Ax.Z.val.eq_def, Ax.resL, Ax.resOne.eq_def, List.cons_append, List.nil_append, List.append_nil, List.getElem?_cons_zero, List.getElem?_cons_succ, List.length_cons, List.length_nil, List.take_succ_cons, List.take_zero, List.drop_succ_cons, List.drop_zero, List.map_cons, List.map_nil, List.all_cons, List.all_nil, List.head?_cons, List.set_cons_zero, List.set_cons_succ, List.getD_cons_zero, List.getD_cons_succ, List.toList_toArray, Option.bind_some, Option.bind_none, Option.isSome_some, Option.map_some, Option.getD_some, Nat.reduceAdd, Nat.reduceEqDiff, Nat.reduceLT, Nat.reduceLeDiff, Nat.reduceSub, Nat.reduceMul, Nat.zero_add, Nat.add_zero, Nat.zero_mul, Nat.mul_zero, Nat.one_mul, Nat.mul_one, Int.reduceToNat, IntKind.bits.eq_def, Int.reducePow, Nat.min_eq_left, Int.one_mul, Int.mul_one, Nat.reducePow, Nat.one_ne_zero, Nat.zero_ne_one, Bool.or_self, Bool.or_false, Bool.or_true, Bool.false_or, Bool.true_or, Bool.and_true, Bool.and_false, Bool.true_and, Bool.false_and, Bool.not_true, Bool.not_false, Bool.false_eq_true, Bool.true_eq_false, Bool.and_self, Bool.decide_eq_true, true_and, and_true, false_and, and_false, and_self, if_true, if_false, ite_true, ite_false, reduceCtorEq, reduceIte, eq_self, true_implies, imp_self, implies_true, not_true_eq_false, not_false_eq_true, ne_eq, decide_true, decide_false, Ax.w64l, Int.reduceAdd, Int.reduceSub, Int.reduceMul, Int.reduceNeg, Int.reduceLE, Int.reduceLT, Int.zero_add, Int.toNat_zero, Int.reduceEq, Option.bind_eq_bind, Ax.veqs, Ax.veq, Ax.vals, eq_self, Int.toNat_natCast, Ax.thawS, Ax.thawE, Ax.thaw.eq_def, Ax.dropM, Ax.killT, Ax.isB.eq_def, Ax.AV.priv.eq_def, List.any_cons, List.any_nil, List.contains_cons, List.contains_nil, List.elem_nil, Bool.cond_true, Bool.cond_false, cond_true, cond_false, Ax.litThen_some, Ax.drawLitThen_some, Ax.aLit.eq_def, Ax.aRows, List.getD_cons_zero, List.getD_cons_succ, ti, tin])
      | (simp (disch := omega) only [w64, wu64, wu32, Nat.min_eq_left])
      | (refine after_lit ti_ok ?_)
      | (refine drawAfter_lit ti_ok ?_)
      | (refine drawEnd_of (by kernel_rfl) ?_)
      | (refine cond_cases (fun hc => ?_) (fun hc => ?_) <;> first | (exfalso; simp only [decide_eq_true_eq, decide_eq_false_iff_not, Bool.not_eq_true, Bool.not_eq_false, Bool.not_eq_true', Bool.not_eq_false'] at hc; omega) | (simp only [hc]; try simp only [decide_eq_true_eq, decide_eq_false_iff_not, Bool.not_eq_true, Bool.not_eq_false, Bool.not_eq_true', Bool.not_eq_false'] at hc))
      | (refine guard_split (fun hc => ?_) (fun hc => ?_) <;> first | (exfalso; simp only [decide_eq_true_eq, decide_eq_false_iff_not, Bool.not_eq_true, Bool.not_eq_false, Bool.not_eq_true', Bool.not_eq_false'] at hc; omega) | (simp only [hc]; try simp only [decide_eq_true_eq, decide_eq_false_iff_not, Bool.not_eq_true, Bool.not_eq_false, Bool.not_eq_true', Bool.not_eq_false'] at hc))
      | (refine drawGuard_split (fun hc => ?_) (fun hc => ?_) <;> first | (exfalso; simp only [decide_eq_true_eq, decide_eq_false_iff_not, Bool.not_eq_true, Bool.not_eq_false, Bool.not_eq_true', Bool.not_eq_false'] at hc; omega) | (simp only [hc]; try simp only [decide_eq_true_eq, decide_eq_false_iff_not, Bool.not_eq_true, Bool.not_eq_false, Bool.not_eq_true', Bool.not_eq_false'] at hc))
      | (refine after_need (by omega) ?_)
      | (refine drawAfter_need (by omega) ?_))
    exact fin_same trivial rfl
theorem lim38_bad (kv sh kp ki lo hi s : Int) (rows : List (List AV)) (hcl : ∀ r ∈ rows, ∀ a ∈ r, Cl a) (h : svBad kv sh kp ki lo hi) : CallOK Try.prog gl 4 [.agg [.v (.int .i64 kv), .v (.int .i64 sh), .v (.int .i64 kp), .v (.int .i64 ki), .v (.int .i64 lo), .v (.int .i64 hi)], .agg [.v (.int .i64 s)], .sl 5 rows] (.v (.bool (true))) := by
  refine call_ok (C := ⟨Try.prog, gl, ti, 201⟩) ti_ok mixed 3000 Try.call4 Try.func4 rfl Try.ntmps4 (by simp) (by (try simp only [List.mem_cons, List.not_mem_nil, or_false, forall_eq_or_imp, forall_eq]); (repeat' (first | exact Cl.v _ | exact Cl.u32s | exact Cl.i64s | exact Cl.sl (by assumption) | refine And.intro ?_ ?_ | refine Cl.agg ?_ | refine Cl.rp ?_ | refine Cl.sl ?_ | refine Cl.tup ?_ | simp only [List.mem_cons, List.not_mem_nil, or_false, forall_eq_or_imp, forall_eq, false_imp_iff, implies_true]))) (by (try simp only [List.mem_cons, List.not_mem_nil, or_false, forall_eq_or_imp, forall_eq]); (repeat' (first | exact Cl.v _ | exact Cl.u32s | exact Cl.i64s | exact Cl.sl (by assumption) | refine And.intro ?_ ?_ | refine Cl.agg ?_ | refine Cl.rp ?_ | refine Cl.sl ?_ | refine Cl.tup ?_ | simp only [List.mem_cons, List.not_mem_nil, or_false, forall_eq_or_imp, forall_eq, false_imp_iff, implies_true]))) ?_
  rw [Try.results4]
  repeat' (first
    | (simp only [Ax.ex_nil, Ax.ex_blk, Ax.ex_lp, Ax.ex_skip, Ax.ex_seq, Ax.ex_block, Ax.ex_ret, Ax.l_region, Ax.lap_cons, Ax.lap_nil, Ax.la_nil, Ax.la_assoc, Ax.la_op, Ax.la_call, Ax.la_guard, Ax.lda_nil, Ax.lda_assoc, Ax.lda_op, Ax.lda_call, Ax.lda_guard, Ax.gdA_zero, Ax.gdA_succ, Ax.gdA_nil, Ax.gdA_assoc, Ax.l_nil, Ax.l_op, Ax.l_call, Ax.l_guard, Ax.l_exit, Ax.exit_hit, Ax.exit_blk, Ax.exit_lp, Ax.exit_code, Ax.ex_cond, Ax.condT, Ax.condF, Ax.ex_loop, Ax.ex_op_plain, Ax.ex_call, Ax.call_fn, Ax.after_true, Ax.guard_tt, Ax.guard_ff, Ax.guard_tf, Ax.guard_ft, Ax.guard_undef, Ax.drawGuard_undef, Ax.gdVal, Ax.l_draw, Ax.ld_nil, Ax.ld_op, Ax.ld_call, Ax.ld_guard, Ax.draw_plain, Ax.draw_callo, Ax.drawCall_fn, Ax.drawAfter_true, Ax.drawGuard_tt, Ax.drawGuard_ff, Ax.drawGuard_tf, Ax.drawGuard_ft, Ax.l_unroll_succ, Ax.unrollQ_end, Ax.unrollQ_ret, Ax.unrollQ_normal, Ax.round_end, Ax.round_ret, Ax.round_normal, Ax.ends_ret, Ax.ends_normal, Nat.max_def, Ax.isCall.eq_def, Ax.dstOK.eq_def, Ax.look_hit, Ax.look_miss, Ax.look.eq_1, Nat.reduceBEq, Ax.ev_tmp, Ax.ev_const, Ax.ev_func, Ax.evL, Ax.entry, Ax.entryEnv, Ax.AS.put.eq_def, Ax.AS.upd.eq_def, Ax.bump, Ax.AV.cells.eq_def, Ax.AV.one.eq_def, Value.oneCell'.eq_def, Ax.blockOf.eq_def, Ax.rdOf.eq_def, Ax.wrOf.eq_def, Ax.aop_move, Ax.aop_assign, Ax.aMove_some, Ax.aop_pick, Ax.aop_alloc, Ax.aop_box, Ax.aop_build, Ax.aop_load, Ax.aop_store, Ax.aop_nil, Ax.aop_bin, Ax.aop_un, Ax.aop_convert, Ax.aop_iface, Ax.aop_fieldAddr, Ax.aop_field, Ax.aop_indexAddr, Ax.aop_index, Ax.aop_extract, Ax.aop, Ax.aBin.eq_def, Ax.aUn.eq_def, Ax.aPick.eq_def, Ax.aAlloc.eq_def, Ax.aBox.eq_def, Ax.aLoad.eq_def, Ax.aStore.eq_def, Ax.aNilCheck.eq_def, Ax.aFieldAddr.eq_def, Ax.aField.eq_def, Ax.aIndexAddr.eq_def, Ax.aIndex.eq_def, Ax.aBuild.eq_def, Ax.aConvert.eq_def, Ax.aMakeInterface.eq_def, Ax.aAssert.eq_def, Ax.aExtract.eq_def, Ax.aMakeFunc.eq_def, Ax.aLen.eq_def, Ax.aMin.eq_def, Ax.aMax.eq_def, Ax.aLenT.eq_def, Ax.aBuiltin.eq_def, Ax.headT, Ax.ibin.eq_def, Ax.ishift.eq_def, Ax.isShift.eq_def, Ax.eqNil.eq_def, Ax.eqBool.eq_def, Ax.toEff.eq_def, Ax.isNilConst.eq_def, Ax.isBoolT.eq_def, Ax.isIfaceT.eq_def, Ax.isSlcT.eq_def, Ax.isStrT.eq_def, Ax.strBin.eq_def, Ax.aop_makeSlice, Ax.aop_slice, Ax.aMakeSlice.eq_def, Ax.aSlice.eq_def, Ax.bndOf.eq_def, Option.isSome_none, Option.map_none, Ax.pk_bool, Ax.pk.eq_def, Ax.behind.eq_def, Ax.shiftPtr.eq_def, Ax.partOf.eq_def, Ax.fillA, Ax.placed, Ax.stPlace.eq_def, Ax.TK.agg.eq_def, Ax.Z.val.eq_def, Ax.resL, Ax.resOne.eq_def, List.cons_append, List.nil_append, List.append_nil, List.getElem?_cons_zero, List.getElem?_cons_succ, List.length_cons, List.length_nil, List.take_succ_cons, List.take_zero, List.drop_succ_cons, List.drop_zero, List.map_cons, List.map_nil, List.all_cons, List.all_nil, List.head?_cons, List.set_cons_zero, List.set_cons_succ, List.getD_cons_zero, List.getD_cons_succ, List.toList_toArray, Option.bind_some, Option.bind_none, Option.isSome_some, Option.map_some, Option.getD_some, Nat.reduceAdd, Nat.reduceEqDiff, Nat.reduceLT, Nat.reduceLeDiff, Nat.reduceSub, Nat.reduceMul, Nat.zero_add, Nat.add_zero, Nat.zero_mul, Nat.mul_zero, Nat.one_mul, Nat.mul_one, Int.reduceToNat, IntKind.bits.eq_def, Int.reducePow, Nat.min_eq_left, Int.one_mul, Int.mul_one, Nat.reducePow, Nat.one_ne_zero, Nat.zero_ne_one, Bool.or_self, Bool.or_false, Bool.or_true, Bool.false_or, Bool.true_or, Bool.and_true, Bool.and_false, Bool.true_and, Bool.false_and, Bool.not_true, Bool.not_false, Bool.false_eq_true, Bool.true_eq_false, Bool.and_self, Bool.decide_eq_true, true_and, and_true, false_and, and_false, and_self, if_true, if_false, ite_true, ite_false, reduceCtorEq, reduceIte, eq_self, true_implies, imp_self, implies_true, not_true_eq_false, not_false_eq_true, ne_eq, decide_true, decide_false, Ax.w64l, Int.reduceAdd, Int.reduceSub, Int.reduceMul, Int.reduceNeg, Int.reduceLE, Int.reduceLT, Int.zero_add, Int.toNat_zero, Int.reduceEq, Option.bind_eq_bind, Ax.veqs, Ax.veq, Ax.vals, eq_self, Int.toNat_natCast, Ax.thawS, Ax.thawE, Ax.thaw.eq_def, Ax.dropM, Ax.killT, Ax.isB.eq_def, Ax.AV.priv.eq_def, List.any_cons, List.any_nil, List.contains_cons, List.contains_nil, List.elem_nil, Bool.cond_true, Bool.cond_false, cond_true, cond_false, Ax.litThen_some, Ax.drawLitThen_some, Ax.aLit.eq_def, Ax.aRows, List.getD_cons_zero, List.getD_cons_succ, ti, tin])
    | (simp (disch := omega) only [w64, wu64, wu32, Nat.min_eq_left])
    | (with_reducible refine callF_of (awake38) ?_)
    | (with_reducible refine drawF_of (awake38) ?_)
    | (with_reducible refine callF_of (ref38_Check_bad _ _ _ _ _ _ h) ?_)
    | (with_reducible refine drawF_of (ref38_Check_bad _ _ _ _ _ _ h) ?_)
    | (refine after_lit ti_ok ?_)
    | (refine drawAfter_lit ti_ok ?_)
    | (refine drawEnd_of (by kernel_rfl) ?_)
    | (refine cond_cases (fun hc => ?_) (fun hc => ?_) <;> first | (exfalso; simp only [decide_eq_true_eq, decide_eq_false_iff_not, Bool.not_eq_true, Bool.not_eq_false, Bool.not_eq_true', Bool.not_eq_false'] at hc; omega) | (simp only [hc]; try simp only [decide_eq_true_eq, decide_eq_false_iff_not, Bool.not_eq_true, Bool.not_eq_false, Bool.not_eq_true', Bool.not_eq_false'] at hc))
    | (refine guard_split (fun hc => ?_) (fun hc => ?_) <;> first | (exfalso; simp only [decide_eq_true_eq, decide_eq_false_iff_not, Bool.not_eq_true, Bool.not_eq_false, Bool.not_eq_true', Bool.not_eq_false'] at hc; omega) | (simp only [hc]; try simp only [decide_eq_true_eq, decide_eq_false_iff_not, Bool.not_eq_true, Bool.not_eq_false, Bool.not_eq_true', Bool.not_eq_false'] at hc))
    | (refine drawGuard_split (fun hc => ?_) (fun hc => ?_) <;> first | (exfalso; simp only [decide_eq_true_eq, decide_eq_false_iff_not, Bool.not_eq_true, Bool.not_eq_false, Bool.not_eq_true', Bool.not_eq_false'] at hc; omega) | (simp only [hc]; try simp only [decide_eq_true_eq, decide_eq_false_iff_not, Bool.not_eq_true, Bool.not_eq_false, Bool.not_eq_true', Bool.not_eq_false'] at hc))
    | (refine after_need (by omega) ?_)
    | (refine drawAfter_need (by omega) ?_))
  all_goals exact fin_same trivial rfl
theorem lim38 (kv sh kp ki lo hi s : Int) (rows : List (List AV)) (hrows : ∀ r ∈ rows, FitL inKs r) : CallOK Try.prog gl 4 [.agg [.v (.int .i64 kv), .v (.int .i64 sh), .v (.int .i64 kp), .v (.int .i64 ki), .v (.int .i64 lo), .v (.int .i64 hi)], .agg [.v (.int .i64 s)], .sl 5 rows] (.v (.bool true)) := by
  have hcl : ∀ r ∈ rows, ∀ a ∈ r, Cl a := fun r hr => (hrows r hr).cl
  by_cases h : svBad kv sh kp ki lo hi
  · exact lim38_bad _ _ _ _ _ _ _ _ hcl h
  · exact lim38_ok _ _ _ _ _ _ _ _ hrows hcl h
end Go.Proofs.Ytekmhhmemkjcbaa
