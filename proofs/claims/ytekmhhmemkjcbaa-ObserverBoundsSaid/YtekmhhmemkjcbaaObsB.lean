/- The statement ObserverBounds: its code returns true. -/
import Derived.Test.YtekmhhmemkjcbaaObs2
import Derived.Test.YtekmhhmemkjcbaaLim38
set_option linter.unusedSimpArgs false
set_option linter.unusedVariables false
set_option linter.deprecated false
namespace Go.Proofs.Ytekmhhmemkjcbaa
open Go Go.Ax
set_option maxRecDepth 100000
set_option maxHeartbeats 4000000

theorem tdiv_le2 {a b A : Int} (hb : 0 < b) (hA : 0 ≤ A) (h : -A ≤ a ∧ a ≤ A) : -(A / b) ≤ a.tdiv b ∧ a.tdiv b ≤ A / b := by
  by_cases h0 : 0 ≤ a
  · rw [tdiv_nn h0]
    have h2 := Int.ediv_nonneg h0 (by omega : 0 ≤ b)
    have h3 : a / b ≤ A / b := Int.ediv_le_ediv hb h.2
    have h4 := Int.ediv_nonneg hA (by omega : 0 ≤ b)
    omega
  · have h4 : (-a).tdiv b = -(a.tdiv b) := Int.neg_tdiv ..
    have h2 := Int.ediv_nonneg (a := -a) (by omega) (by omega : 0 ≤ b)
    have h3 : -a / b ≤ A / b := Int.ediv_le_ediv hb (by omega)
    rw [← tdiv_nn (by omega), h4] at h2 h3
    omega
/-- What leaks of a flux is enough. -/
theorem leak_pos {g K p : Int} (hp : 1 ≤ p) (hK : 0 ≤ K) (h0 : 0 ≤ g) (h : g ≤ K * p) : 0 ≤ g - g / p ∧ g - g / p ≤ K * p - K := by
  have h1 := Int.mul_ediv_add_emod g p
  have h2 := Int.emod_nonneg g (by omega : p ≠ 0)
  have h3 := Int.emod_lt_of_pos g (by omega : 0 < p)
  have h4 := Int.ediv_nonneg h0 (by omega : 0 ≤ p)
  have h5 := Int.ediv_le_self p h0
  refine ⟨by omega, ?_⟩
  generalize g / p = q at *
  generalize g % p = r at *
  rcases Int.lt_or_le q K with hq | hq
  · have e1 : p * q - q = (p - 1) * q := by rw [Int.sub_mul]; omega
    have e2 : (p - 1) * q ≤ (p - 1) * (K - 1) := Int.mul_le_mul_of_nonneg_left (by omega) (by omega)
    have e3 : (p - 1) * (K - 1) = K * p - K - p + 1 := by rw [Int.sub_mul, Int.mul_sub, Int.mul_comm p K]; omega
    omega
  · have e1 : p * K ≤ p * q := Int.mul_le_mul_of_nonneg_left hq (by omega)
    have e2 : p * K = K * p := Int.mul_comm ..
    omega
theorem leak_any {g K p : Int} (hp : 1 ≤ p) (hK : 0 ≤ K) (h : -(K * p) ≤ g ∧ g ≤ K * p) : -(K * p - K) ≤ g - g.tdiv p ∧ g - g.tdiv p ≤ K * p - K := by
  by_cases h0 : 0 ≤ g
  · have := leak_pos hp hK h0 h.2
    rw [tdiv_nn h0]; omega
  · have := leak_pos (g := -g) hp hK (by omega) (by omega)
    have h4 : (-g).tdiv p = -(g.tdiv p) := Int.neg_tdiv ..
    rw [← tdiv_nn (by omega), h4] at this
    omega
theorem flx_in {R lk f v i u j : Int} (hR : 0 ≤ R) (hlk : 4 ≤ lk ∧ lk ≤ 16) (hu : u ≤ 1048576) (hj : j ≤ 1048576) (hv : -u ≤ v ∧ v ≤ u) (hi : -j ≤ i ∧ i ≤ j) (hf : -((u + R * j / 1000 + 1) * 2 ^ lk.toNat) ≤ f ∧ f ≤ (u + R * j / 1000 + 1) * 2 ^ lk.toNat) :
    -((u + R * j / 1000 + 1) * 2 ^ lk.toNat) ≤ flx R lk f v i ∧ flx R lk f v i ≤ (u + R * j / 1000 + 1) * 2 ^ lk.toNat := by
  have hp := shl_one hlk
  have hRj : 0 ≤ R * j := Int.mul_nonneg hR (by omega)
  have hd := Int.ediv_nonneg hRj (by omega : (0:Int) ≤ 1000)
  have e1 : mv v = v := clip_id (by omega)
  have e2 : mv i = i := clip_id (by omega)
  have hb := mul_bd (a := R) (b := i) (A := R) (B := j) (by omega) hi
  have hb2 := tdiv_le2 (a := R * i) (b := 1000) (A := R * j) (by omega) hRj hb
  have hM : 0 ≤ (u + R * j / 1000 + 1) * 2 ^ lk.toNat := Int.mul_nonneg (by omega) (by omega)
  have hg : -((u + R * j / 1000 + 1) * 2 ^ lk.toNat) ≤ mf f ∧ mf f ≤ (u + R * j / 1000 + 1) * 2 ^ lk.toNat := by unfold mf clip; omega
  have hl := leak_any (g := mf f) (K := u + R * j / 1000 + 1) (p := 2 ^ lk.toNat) (by omega) (by omega) hg
  unfold flx one1
  rw [e1, e2]
  generalize (u + R * j / 1000 + 1) * 2 ^ lk.toNat = M at *
  generalize mf f - (mf f).tdiv (2 ^ lk.toNat) = z at *
  unfold mf clip
  omega

theorem bnd39_ok (R L lk kp ki b0 b1 : Int) (rows : List (List AV)) (hrows : ∀ r ∈ rows, FitL [.int .i64, .int .i64, .int .i64, .int .i64] r) (hcl : ∀ r ∈ rows, ∀ a ∈ r, Cl a) (h : ¬ obBad R L lk kp ki) : CallOK Try.prog gl 6 [.agg [.v (.int .i64 R), .v (.int .i64 L), .v (.int .i64 lk), .v (.int .i64 kp), .v (.int .i64 ki)], .agg [.v (.int .i64 b0), .v (.int .i64 b1)], .sl 4 rows] (.v (.bool (true))) := by
  refine call_ok (C := ⟨Try.prog, gl, ti, 130⟩) ti_ok mixed 3000 Try.call6 Try.func6 rfl Try.ntmps6 (by simp) (by (try simp only [List.mem_cons, List.not_mem_nil, or_false, forall_eq_or_imp, forall_eq]); (repeat' (first | exact Cl.v _ | exact Cl.u32s | exact Cl.i64s | exact Cl.sl (by assumption) | refine And.intro ?_ ?_ | refine Cl.agg ?_ | refine Cl.rp ?_ | refine Cl.sl ?_ | refine Cl.tup ?_ | simp only [List.mem_cons, List.not_mem_nil, or_false, forall_eq_or_imp, forall_eq, false_imp_iff, implies_true]))) (by (try simp only [List.mem_cons, List.not_mem_nil, or_false, forall_eq_or_imp, forall_eq]); (repeat' (first | exact Cl.v _ | exact Cl.u32s | exact Cl.i64s | exact Cl.sl (by assumption) | refine And.intro ?_ ?_ | refine Cl.agg ?_ | refine Cl.rp ?_ | refine Cl.sl ?_ | refine Cl.tup ?_ | simp only [List.mem_cons, List.not_mem_nil, or_false, forall_eq_or_imp, forall_eq, false_imp_iff, implies_true]))) ?_
  rw [Try.results6]
  have h' := h
  unfold obBad at h'
  obtain ⟨u, hu⟩ : ∃ u, clip b0 0 1048576 = u := ⟨_, rfl⟩
  obtain ⟨j, hj⟩ : ∃ j, clip b1 0 1048576 = j := ⟨_, rfl⟩
  have u1 := clip_bd (lo := 0) (hi := 1048576) (by omega) b0
  have u2 := clip_bd (lo := 0) (hi := 1048576) (by omega) b1
  rw [hu] at u1
  rw [hj] at u2
  have hp := shl_one (lk := lk) (by omega)
  have m0 : 0 ≤ R * j := Int.mul_nonneg (by omega) (by omega)
  have m1 := mul_bd (a := R) (b := j) (A := 1048576) (B := 1048576) (by omega) (by omega)
  have e1 : (R * j).tdiv 1000 = R * j / 1000 := tdiv_nn m0
  have m2 := mul_bd (a := u + R * j / 1000 + 1) (b := 2 ^ lk.toNat) (A := 1100570000) (B := 65536) (by omega) (by omega)
  have m3 : 0 ≤ (u + R * j / 1000 + 1) * 2 ^ lk.toNat := Int.mul_nonneg (by omega) (by omega)
  have hstep : ∀ f v i : Int, (-u ≤ v ∧ v ≤ u) → (-j ≤ i ∧ i ≤ j) → (-((u + R * j / 1000 + 1) * 2 ^ lk.toNat) ≤ f ∧ f ≤ (u + R * j / 1000 + 1) * 2 ^ lk.toNat) → (-((u + R * j / 1000 + 1) * 2 ^ lk.toNat) ≤ flx R lk f v i ∧ flx R lk f v i ≤ (u + R * j / 1000 + 1) * 2 ^ lk.toNat) := fun f v i h1 h2 h3 => flx_in (by omega) (by omega) (by omega) (by omega) h1 h2 h3
  obtain ⟨M, hM⟩ : ∃ M, (u + R * j / 1000 + 1) * 2 ^ lk.toNat = M := ⟨_, rfl⟩
  rw [hM] at m2 m3 hstep
  repeat' (first
    | (simp only [Ax.ex_nil, Ax.ex_blk, Ax.ex_lp, Ax.ex_skip, Ax.ex_seq, Ax.ex_block, Ax.ex_ret, Ax.l_region, Ax.lap_cons, Ax.lap_nil, Ax.la_nil, Ax.la_assoc, Ax.la_op, Ax.la_call, Ax.la_guard, Ax.lda_nil, Ax.lda_assoc, Ax.lda_op, Ax.lda_call, Ax.lda_guard, Ax.gdA_zero, Ax.gdA_succ, Ax.gdA_nil, Ax.gdA_assoc, Ax.l_nil, Ax.l_op, Ax.l_call, Ax.l_guard, Ax.l_exit, Ax.exit_hit, Ax.exit_blk, Ax.exit_lp, Ax.exit_code, Ax.ex_cond, Ax.condT, Ax.condF, Ax.ex_loop, Ax.ex_op_plain, Ax.ex_call, Ax.call_fn, Ax.after_true, Ax.guard_tt, Ax.guard_ff, Ax.guard_tf, Ax.guard_ft, Ax.guard_undef, Ax.drawGuard_undef, Ax.gdVal, Ax.l_draw, Ax.ld_nil, Ax.ld_op, Ax.ld_call, Ax.ld_guard, Ax.draw_plain, Ax.draw_callo, Ax.drawCall_fn, Ax.drawAfter_true, Ax.drawGuard_tt, Ax.drawGuard_ff, Ax.drawGuard_tf, Ax.drawGuard_ft, Ax.l_unroll_succ, Ax.unrollQ_end, Ax.unrollQ_ret, Ax.unrollQ_normal, Ax.round_end, Ax.round_ret, Ax.round_normal, Ax.ends_ret, Ax.ends_normal, Nat.max_def, Ax.isCall.eq_def, Ax.dstOK.eq_def, Ax.look_hit, Ax.look_miss, Ax.look.eq_1, Nat.reduceBEq, Ax.ev_tmp, Ax.ev_const, Ax.ev_func, Ax.evL, Ax.entry, Ax.entryEnv, Ax.AS.put.eq_def, Ax.AS.upd.eq_def, Ax.bump, Ax.AV.cells.eq_def, Ax.AV.one.eq_def, Value.oneCell'.eq_def, Ax.blockOf.eq_def, Ax.rdOf.eq_def, Ax.wrOf.eq_def, Ax.aop_move, Ax.aop_assign, Ax.aMove_some, Ax.aop_pick, Ax.aop_alloc, Ax.aop_box, Ax.aop_build, Ax.aop_load, Ax.aop_store, Ax.aop_nil, Ax.aop_bin, Ax.aop_un, Ax.aop_convert, Ax.aop_iface, Ax.aop_fieldAddr, Ax.aop_field, Ax.aop_indexAddr, Ax.aop_index, Ax.aop_extract, Ax.aop, Ax.aBin.eq_def, Ax.aUn.eq_def, Ax.aPick.eq_def, Ax.aAlloc.eq_def, Ax.aBox.eq_def, Ax.aLoad.eq_def, Ax.aStore.eq_def, Ax.aNilCheck.eq_def, Ax.aFieldAddr.eq_def, Ax.aField.eq_def, Ax.aIndexAddr.eq_def, Ax.aIndex.eq_def, Ax.aBuild.eq_def, Ax.aConvert.eq_def, Ax.aMakeInterface.eq_def, Ax.aAssert.eq_def, Ax.aExtract.eq_def, Ax.aMakeFunc.eq_def, Ax.aLen.eq_def, Ax.aMin.eq_def, Ax.aMax.eq_def, Ax.aLenT.eq_def, Ax.aBuiltin.eq_def, Ax.headT, Ax.ibin.eq_def, Ax.ishift.eq_def, Ax.isShift.eq_def, Ax.eqNil.eq_def, Ax.eqBool.eq_def, Ax.toEff.eq_def, Ax.isNilConst.eq_def, Ax.isBoolT.eq_def, Ax.isIfaceT.eq_def, Ax.isSlcT.eq_def, Ax.isStrT.eq_def, Ax.strBin.eq_def, Ax.aop_makeSlice, Ax.aop_slice, Ax.aMakeSlice.eq_def, Ax.aSlice.eq_def, Ax.bndOf.eq_def, Option.isSome_none, Option.map_none, Ax.pk_bool, Ax.pk.eq_def, Ax.behind.eq_def, Ax.shiftPtr.eq_def, Ax.partOf.eq_def, Ax.fillA, Ax.placed, Ax.stPlace.eq_def, Ax.TK.agg.eq_def, Ax.Z.val.eq_def, Ax.resL, Ax.resOne.eq_def, List.cons_append, List.nil_append, List.append_nil, List.getElem?_cons_zero, List.getElem?_cons_succ, List.length_cons, List.length_nil, List.take_succ_cons, List.take_zero, List.drop_succ_cons, List.drop_zero, List.map_cons, List.map_nil, List.all_cons, List.all_nil, List.head?_cons, List.set_cons_zero, List.set_cons_succ, List.getD_cons_zero, List.getD_cons_succ, List.toList_toArray, Option.bind_some, Option.bind_none, Option.isSome_some, Option.map_some, Option.getD_some, Nat.reduceAdd, Nat.reduceEqDiff, Nat.reduceLT, Nat.reduceLeDiff, Nat.reduceSub, Nat.reduceMul, Nat.zero_add, Nat.add_zero, Nat.zero_mul, Nat.mul_zero, Nat.one_mul, Nat.mul_one, Int.reduceToNat, IntKind.bits.eq_def, Int.reducePow, Nat.min_eq_left, Int.one_mul, Int.mul_one, Nat.reducePow, Nat.one_ne_zero, Nat.zero_ne_one, Bool.or_self, Bool.or_false, Bool.or_true, Bool.false_or, Bool.true_or, Bool.and_true, Bool.and_false, Bool.true_and, Bool.false_and, Bool.not_true, Bool.not_false, Bool.false_eq_true, Bool.true_eq_false, Bool.and_self, Bool.decide_eq_true, true_and, and_true, false_and, and_false, and_self, if_true, if_false, ite_true, ite_false, reduceCtorEq, reduceIte, eq_self, true_implies, imp_self, implies_true, not_true_eq_false, not_false_eq_true, ne_eq, decide_true, decide_false, Ax.w64l, Int.reduceAdd, Int.reduceSub, Int.reduceMul, Int.reduceNeg, Int.reduceLE, Int.reduceLT, Int.zero_add, Int.toNat_zero, Int.reduceEq, Option.bind_eq_bind, Ax.veqs, Ax.veq, Ax.vals, eq_self, Int.toNat_natCast, Ax.thawS, Ax.thawE, Ax.thaw.eq_def, Ax.dropM, Ax.killT, Ax.isB.eq_def, Ax.AV.priv.eq_def, List.any_cons, List.any_nil, List.contains_cons, List.contains_nil, List.elem_nil, Bool.cond_true, Bool.cond_false, cond_true, cond_false, Ax.litThen_some, Ax.drawLitThen_some, Ax.aLit.eq_def, Ax.aRows, List.getD_cons_zero, List.getD_cons_succ, ti, tin, hu, hj, e1, hM])
    | (simp (disch := omega) only [w64, wu64, wu32, Nat.min_eq_left])
    | (with_reducible refine callF_of (awake39) ?_)
    | (with_reducible refine drawF_of (awake39) ?_)
    | (with_reducible refine callF_of (ref39_Check _ _ _ _ _ h) ?_)
    | (with_reducible refine drawF_of (ref39_Check _ _ _ _ _ h) ?_)
    | (with_reducible refine callF_of (base_Clip _ _ _) ?_)
    | (with_reducible refine drawF_of (base_Clip _ _ _) ?_)
    | (refine after_lit ti_ok ?_)
    | (refine drawAfter_lit ti_ok ?_)
    | (refine drawEnd_of (by kernel_rfl) ?_)
    | (refine cond_cases (fun hc => ?_) (fun hc => ?_) <;> first | (exfalso; simp only [decide_eq_true_eq, decide_eq_false_iff_not, Bool.not_eq_true, Bool.not_eq_false, Bool.not_eq_true', Bool.not_eq_false'] at hc; omega) | (simp only [hc]; try simp only [decide_eq_true_eq, decide_eq_false_iff_not, Bool.not_eq_true, Bool.not_eq_false, Bool.not_eq_true', Bool.not_eq_false'] at hc))
    | (refine guard_split (fun hc => ?_) (fun hc => ?_) <;> first | (exfalso; simp only [decide_eq_true_eq, decide_eq_false_iff_not, Bool.not_eq_true, Bool.not_eq_false, Bool.not_eq_true', Bool.not_eq_false'] at hc; omega) | (simp only [hc]; try simp only [decide_eq_true_eq, decide_eq_false_iff_not, Bool.not_eq_true, Bool.not_eq_false, Bool.not_eq_true', Bool.not_eq_false'] at hc))
    | (refine drawGuard_split (fun hc => ?_) (fun hc => ?_) <;> first | (exfalso; simp only [decide_eq_true_eq, decide_eq_false_iff_not, Bool.not_eq_true, Bool.not_eq_false, Bool.not_eq_true', Bool.not_eq_false'] at hc; omega) | (simp only [hc]; try simp only [decide_eq_true_eq, decide_eq_false_iff_not, Bool.not_eq_true, Bool.not_eq_false, Bool.not_eq_true', Bool.not_eq_false'] at hc))
    | (refine after_need (by omega) ?_)
    | (refine drawAfter_need (by omega) ?_))
  · exact fin_same trivial rfl
  have hlen : rows.length ≤ 60 := by omega
  refine l_loop (α := Nat × Int × Int × Int × Int) (fun x => ⟨[(54, .v (.int .i64 x.1)), (53, .v (.int .i64 rows.length)), (52, .sl 4 rows), (3, .p 0 5 0 0), (10, .p 10 4 0 0), (7, .v (.int .i64 u)), (8, .v (.int .i64 j)), (9, .v (.int .i64 M)), (6, .v (.bool (false)))], [(10, ⟨4, [[.v (.int .i64 x.2.1), .v (.int .i64 x.2.2.1), .v (.int .i64 x.2.2.2.1), .v (.int .i64 x.2.2.2.2)]]⟩), (0, ⟨5, [[.v (.int .i64 R), .v (.int .i64 L), .v (.int .i64 lk), .v (.int .i64 kp), .v (.int .i64 ki)]]⟩)], 11⟩) (fun x => x.1 ≤ rows.length ∧ (-M ≤ x.2.1 ∧ x.2.1 ≤ M) ∧ (-M ≤ x.2.2.1 ∧ x.2.2.1 ≤ M)) (fun x => rows.length - x.1) ((0, M, 0 - M, 0, 0)) _ rfl ?_ ?_ ?_
  · exact ⟨Nat.zero_le _, by simp only; omega, by simp only; omega⟩
  · (first | exact Weak.of (by (repeat' (first | exact trivial | exact ⟨_, rfl, .refl _⟩ | exact ⟨_, rfl, Le.nil _⟩ | exact ⟨_, rfl, Le.ps0 _ _ _⟩ | exact ⟨_, rfl, Le.top _⟩ | refine And.intro ?_ ?_))) (by (repeat' (first | exact trivial | exact rfl | refine And.intro ?_ ?_))) (by first | exact Nat.le_refl _ | exact Nat.le_of_ble_eq_true rfl) | exact Weak.cut (by (repeat' (first | exact trivial | exact ⟨_, rfl, .refl _⟩ | exact ⟨_, rfl, Le.nil _⟩ | exact ⟨_, rfl, Le.ps0 _ _ _⟩ | exact ⟨_, rfl, Le.top _⟩ | refine And.intro ?_ ?_))) (by (repeat' (first | exact trivial | exact rfl | refine And.intro ?_ ?_))) (by (repeat' (first | exact trivial | exact .v | exact .top | exact .p (Nat.le_of_ble_eq_true rfl) | exact .ps (Nat.le_of_ble_eq_true rfl) | exact nbRows_u32s | exact .cl (by (first | exact Cl.v _ | exact Cl.u32s | exact Cl.i64s | exact Cl.sl (by assumption) | assumption | (refine Cl.agg ?_; simp only [List.mem_cons, List.not_mem_nil, or_false, forall_eq_or_imp, forall_eq]; (repeat' (first | exact Cl.v _ | exact Cl.u32s | exact Cl.sl (by assumption) | assumption | refine And.intro ?_ ?_))))) | refine And.intro ?_ ?_))) (by (repeat' (first | exact trivial | exact Nat.le_of_ble_eq_true rfl | exact .v | exact .top | exact .p (Nat.le_of_ble_eq_true rfl) | exact .ps (Nat.le_of_ble_eq_true rfl) | exact nbRows_u32s | exact .cl (by (first | exact Cl.v _ | exact Cl.u32s | exact Cl.i64s | exact Cl.sl (by assumption) | assumption | (refine Cl.agg ?_; simp only [List.mem_cons, List.not_mem_nil, or_false, forall_eq_or_imp, forall_eq]; (repeat' (first | exact Cl.v _ | exact Cl.u32s | exact Cl.sl (by assumption) | assumption | refine And.intro ?_ ?_))))) | refine And.intro ?_ ?_))))
  rintro ⟨i, fa, fb, an, sp⟩ ⟨hii, ha, hb⟩
  simp only at hii ha hb
  by_cases hlt : i < rows.length
  ·
    obtain ⟨va, vb, ia, ib, hrow⟩ : ∃ (va vb ia ib : Int), rows.getD i [] = [.v (.int .i64 va), .v (.int .i64 vb), .v (.int .i64 ia), .v (.int .i64 ib)] := by
      have hf := hrows (rows.getD i []) (List.mem_of_getElem? (getD_of_lt (d := ([] : List AV)) hlt))
      generalize rows.getD i [] = r at hf
      obtain ⟨x0, l0, rfl, _, hf⟩ := hf.i64
      obtain ⟨x1, l1, rfl, _, hf⟩ := hf.i64
      obtain ⟨x2, l2, rfl, _, hf⟩ := hf.i64
      obtain ⟨x3, l3, rfl, _, hf⟩ := hf.i64
      obtain rfl := hf.nil
      exact ⟨_, _, _, _, rfl⟩
    have c1 := clip_bd (lo := -u) (hi := u) (by omega) va
    have c2 := clip_bd (lo := -u) (hi := u) (by omega) vb
    have c3 := clip_bd (lo := -j) (hi := j) (by omega) ia
    have c4 := clip_bd (lo := -j) (hi := j) (by omega) ib
    have s1 := hstep fa (clip va (-u) u) (clip ia (-j) j) c1 c3 ha
    have s2 := hstep fb (clip vb (-u) u) (clip ib (-j) j) c2 c4 hb
    have g1 := mag_bd (L := L) (f := flx R lk fa (clip va (-u) u) (clip ia (-j) j)) (i := clip ia (-j) j) (by omega)
    have g2 := mag_bd (L := L) (f := flx R lk fb (clip vb (-u) u) (clip ib (-j) j)) (i := clip ib (-j) j) (by omega)
    obtain ⟨m, m1, _⟩ := angle_ex (mag L (flx R lk fa (clip va (-u) u) (clip ia (-j) j)) (clip ia (-j) j)) (mag L (flx R lk fb (clip vb (-u) u) (clip ib (-j) j)) (clip ib (-j) j)) (by omega) (by omega)
    have hst := ob_Step R L lk kp ki fa fb an sp (clip va (-u) u) (clip vb (-u) u) (clip ia (-j) j) (clip ib (-j) j) m h m1
    clear hstep
    generalize flx R lk fa (clip va (-u) u) (clip ia (-j) j) = ga at *
    generalize flx R lk fb (clip vb (-u) u) (clip ib (-j) j) = gb at *
    generalize trA kp ki an sp m = na at *
    generalize trS ki an sp m = ns at *
    repeat' (first
      | (simp only [Ax.ex_nil, Ax.ex_blk, Ax.ex_lp, Ax.ex_skip, Ax.ex_seq, Ax.ex_block, Ax.ex_ret, Ax.l_region, Ax.lap_cons, Ax.lap_nil, Ax.la_nil, Ax.la_assoc, Ax.la_op, Ax.la_call, Ax.la_guard, Ax.lda_nil, Ax.lda_assoc, Ax.lda_op, Ax.lda_call, Ax.lda_guard, Ax.gdA_zero, Ax.gdA_succ, Ax.gdA_nil, Ax.gdA_assoc, Ax.l_nil, Ax.l_op, Ax.l_call, Ax.l_guard, Ax.l_exit, Ax.exit_hit, Ax.exit_blk, Ax.exit_lp, Ax.exit_code, Ax.ex_cond, Ax.condT, Ax.condF, Ax.ex_loop, Ax.ex_op_plain, Ax.ex_call, Ax.call_fn, Ax.after_true, Ax.guard_tt, Ax.guard_ff, Ax.guard_tf, Ax.guard_ft, Ax.guard_undef, Ax.drawGuard_undef, Ax.gdVal, Ax.l_draw, Ax.ld_nil, Ax.ld_op, Ax.ld_call, Ax.ld_guard, Ax.draw_plain, Ax.draw_callo, Ax.drawCall_fn, Ax.drawAfter_true, Ax.drawGuard_tt, Ax.drawGuard_ff, Ax.drawGuard_tf, Ax.drawGuard_ft, Ax.l_unroll_succ, Ax.unrollQ_end, Ax.unrollQ_ret, Ax.unrollQ_normal, Ax.round_end, Ax.round_ret, Ax.round_normal, Ax.ends_ret, Ax.ends_normal, Nat.max_def, Ax.isCall.eq_def, Ax.dstOK.eq_def, Ax.look_hit, Ax.look_miss, Ax.look.eq_1, Nat.reduceBEq, Ax.ev_tmp, Ax.ev_const, Ax.ev_func, Ax.evL, Ax.entry, Ax.entryEnv, Ax.AS.put.eq_def, Ax.AS.upd.eq_def, Ax.bump, Ax.AV.cells.eq_def, Ax.AV.one.eq_def, Value.oneCell'.eq_def, Ax.blockOf.eq_def, Ax.rdOf.eq_def, Ax.wrOf.eq_def, Ax.aop_move, Ax.aop_assign, Ax.aMove_some, Ax.aop_pick, Ax.aop_alloc, Ax.aop_box, Ax.aop_build, Ax.aop_load, Ax.aop_store, Ax.aop_nil, Ax.aop_bin, Ax.aop_un, Ax.aop_convert, Ax.aop_iface, Ax.aop_fieldAddr, Ax.aop_field, Ax.aop_indexAddr, Ax.aop_index, Ax.aop_extract, Ax.aop, Ax.aBin.eq_def, Ax.aUn.eq_def, Ax.aPick.eq_def, Ax.aAlloc.eq_def, Ax.aBox.eq_def, Ax.aLoad.eq_def, Ax.aStore.eq_def, Ax.aNilCheck.eq_def, Ax.aFieldAddr.eq_def, Ax.aField.eq_def, Ax.aIndexAddr.eq_def, Ax.aIndex.eq_def, Ax.aBuild.eq_def, Ax.aConvert.eq_def, Ax.aMakeInterface.eq_def, Ax.aAssert.eq_def, Ax.aExtract.eq_def, Ax.aMakeFunc.eq_def, Ax.aLen.eq_def, Ax.aMin.eq_def, Ax.aMax.eq_def, Ax.aLenT.eq_def, Ax.aBuiltin.eq_def, Ax.headT, Ax.ibin.eq_def, Ax.ishift.eq_def, Ax.isShift.eq_def, Ax.eqNil.eq_def, Ax.eqBool.eq_def, Ax.toEff.eq_def, Ax.isNilConst.eq_def, Ax.isBoolT.eq_def, Ax.isIfaceT.eq_def, Ax.isSlcT.eq_def, Ax.isStrT.eq_def, Ax.strBin.eq_def, Ax.aop_makeSlice, Ax.aop_slice, Ax.aMakeSlice.eq_def, Ax.aSlice.eq_def, Ax.bndOf.eq_def, Option.isSome_none, Option.map_none, Ax.pk_bool, Ax.pk.eq_def, Ax.behind.eq_def, Ax.shiftPtr.eq_def, Ax.partOf.eq_def, Ax.fillA, Ax.placed, Ax.stPlace.eq_def, Ax.TK.agg.eq_def, Ax.Z.val.eq_def, Ax.resL, Ax.resOne.eq_def, List.cons_append, List.nil_append, List.append_nil, List.getElem?_cons_zero, List.getElem?_cons_succ, List.length_cons, List.length_nil, List.take_succ_cons, List.take_zero, List.drop_succ_cons, List.drop_zero, List.map_cons, List.map_nil, List.all_cons, List.all_nil, List.head?_cons, List.set_cons_zero, List.set_cons_succ, List.getD_cons_zero, List.getD_cons_succ, List.toList_toArray, Option.bind_some, Option.bind_none, Option.isSome_some, Option.map_some, Option.getD_some, Nat.reduceAdd, Nat.reduceEqDiff, Nat.reduceLT, Nat.reduceLeDiff, Nat.reduceSub, Nat.reduceMul, Nat.zero_add, Nat.add_zero, Nat.zero_mul, Nat.mul_zero, Nat.one_mul, Nat.mul_one, Int.reduceToNat, IntKind.bits.eq_def, Int.reducePow, Nat.min_eq_left, Int.one_mul, Int.mul_one, Nat.reducePow, Nat.one_ne_zero, Nat.zero_ne_one, Bool.or_self, Bool.or_false, Bool.or_true, Bool.false_or, Bool.true_or, Bool.and_true, Bool.and_false, Bool.true_and, Bool.false_and, Bool.not_true, Bool.not_false, Bool.false_eq_true, Bool.true_eq_false, Bool.and_self, Bool.decide_eq_true, true_and, and_true, false_and, and_false, and_self, if_true, if_false, ite_true, ite_false, reduceCtorEq, reduceIte, eq_self, true_implies, imp_self, implies_true, not_true_eq_false, not_false_eq_true, ne_eq, decide_true, decide_false, Ax.w64l, Int.reduceAdd, Int.reduceSub, Int.reduceMul, Int.reduceNeg, Int.reduceLE, Int.reduceLT, Int.zero_add, Int.toNat_zero, Int.reduceEq, Option.bind_eq_bind, Ax.veqs, Ax.veq, Ax.vals, eq_self, Int.toNat_natCast, Ax.thawS, Ax.thawE, Ax.thaw.eq_def, Ax.dropM, Ax.killT, Ax.isB.eq_def, Ax.AV.priv.eq_def, List.any_cons, List.any_nil, List.contains_cons, List.contains_nil, List.elem_nil, Bool.cond_true, Bool.cond_false, cond_true, cond_false, Ax.litThen_some, Ax.drawLitThen_some, Ax.aLit.eq_def, Ax.aRows, List.getD_cons_zero, List.getD_cons_succ, ti, tin, hrow, Int.zero_sub])
      | (simp (disch := omega) only [w64, wu64, wu32, Nat.min_eq_left])
      | (with_reducible refine callF_of (base_Clip _ _ _) ?_)
      | (with_reducible refine drawF_of (base_Clip _ _ _) ?_)
      | (with_reducible refine callF_of (hst) ?_)
      | (with_reducible refine drawF_of (hst) ?_)
      | (refine after_lit ti_ok ?_)
      | (refine drawAfter_lit ti_ok ?_)
      | (refine drawEnd_of (by kernel_rfl) ?_)
      | (refine cond_cases (fun hc => ?_) (fun hc => ?_) <;> first | (exfalso; simp only [decide_eq_true_eq, decide_eq_false_iff_not, Bool.not_eq_true, Bool.not_eq_false, Bool.not_eq_true', Bool.not_eq_false'] at hc; omega) | (simp only [hc]; try simp only [decide_eq_true_eq, decide_eq_false_iff_not, Bool.not_eq_true, Bool.not_eq_false, Bool.not_eq_true', Bool.not_eq_false'] at hc))
      | (refine guard_split (fun hc => ?_) (fun hc => ?_) <;> first | (exfalso; simp only [decide_eq_true_eq, decide_eq_false_iff_not, Bool.not_eq_true, Bool.not_eq_false, Bool.not_eq_true', Bool.not_eq_false'] at hc; omega) | (simp only [hc]; try simp only [decide_eq_true_eq, decide_eq_false_iff_not, Bool.not_eq_true, Bool.not_eq_false, Bool.not_eq_true', Bool.not_eq_false'] at hc))
      | (refine drawGuard_split (fun hc => ?_) (fun hc => ?_) <;> first | (exfalso; simp only [decide_eq_true_eq, decide_eq_false_iff_not, Bool.not_eq_true, Bool.not_eq_false, Bool.not_eq_true', Bool.not_eq_false'] at hc; omega) | (simp only [hc]; try simp only [decide_eq_true_eq, decide_eq_false_iff_not, Bool.not_eq_true, Bool.not_eq_false, Bool.not_eq_true', Bool.not_eq_false'] at hc))
      | (refine after_need (by omega) ?_)
      | (refine drawAfter_need (by omega) ?_))
    all_goals
      refine roundEnd_of (α := Nat × Int × Int × Int × Int) (i + 1, ga, gb, na, ns) ?_ ?_ ?_
      · exact ⟨hlt, s1, s2⟩
      · show rows.length - (i + 1) < rows.length - i
        omega
      · (first | exact Weak.of (by (repeat' (first | exact trivial | exact ⟨_, rfl, .refl _⟩ | exact ⟨_, rfl, Le.nil _⟩ | exact ⟨_, rfl, Le.ps0 _ _ _⟩ | exact ⟨_, rfl, Le.top _⟩ | refine And.intro ?_ ?_))) (by (repeat' (first | exact trivial | exact rfl | refine And.intro ?_ ?_))) (by first | exact Nat.le_refl _ | exact Nat.le_of_ble_eq_true rfl) | exact Weak.cut (by (repeat' (first | exact trivial | exact ⟨_, rfl, .refl _⟩ | exact ⟨_, rfl, Le.nil _⟩ | exact ⟨_, rfl, Le.ps0 _ _ _⟩ | exact ⟨_, rfl, Le.top _⟩ | refine And.intro ?_ ?_))) (by (repeat' (first | exact trivial | exact rfl | refine And.intro ?_ ?_))) (by (repeat' (first | exact trivial | exact .v | exact .top | exact .p (Nat.le_of_ble_eq_true rfl) | exact .ps (Nat.le_of_ble_eq_true rfl) | exact nbRows_u32s | exact .cl (by (first | exact Cl.v _ | exact Cl.u32s | exact Cl.i64s | exact Cl.sl (by assumption) | assumption | (refine Cl.agg ?_; simp only [List.mem_cons, List.not_mem_nil, or_false, forall_eq_or_imp, forall_eq]; (repeat' (first | exact Cl.v _ | exact Cl.u32s | exact Cl.sl (by assumption) | assumption | refine And.intro ?_ ?_))))) | refine And.intro ?_ ?_))) (by (repeat' (first | exact trivial | exact Nat.le_of_ble_eq_true rfl | exact .v | exact .top | exact .p (Nat.le_of_ble_eq_true rfl) | exact .ps (Nat.le_of_ble_eq_true rfl) | exact nbRows_u32s | exact .cl (by (first | exact Cl.v _ | exact Cl.u32s | exact Cl.i64s | exact Cl.sl (by assumption) | assumption | (refine Cl.agg ?_; simp only [List.mem_cons, List.not_mem_nil, or_false, forall_eq_or_imp, forall_eq]; (repeat' (first | exact Cl.v _ | exact Cl.u32s | exact Cl.sl (by assumption) | assumption | refine And.intro ?_ ?_))))) | refine And.intro ?_ ?_))))
  ·
    repeat' (first
      | (simp only [Ax.ex_nil, Ax.ex_blk, Ax.ex_lp, Ax.ex_skip, Ax.ex_seq, Ax.ex_block, Ax.ex_ret, Ax.l_region, Ax.lap_cons, Ax.lap_nil, Ax.la_nil, Ax.la_assoc, Ax.la_op, Ax.la_call, Ax.la_guard, Ax.lda_nil, Ax.lda_assoc, Ax.lda_op, Ax.lda_call, Ax.lda_guard, Ax.gdA_zero, Ax.gdA_succ, Ax.gdA_nil, Ax.gdA_assoc, Ax.l_nil, Ax.l_op, Ax.l_call, Ax.l_guard, Ax.l_exit, Ax.exit_hit, Ax.exit_blk, Ax.exit_lp, Ax.exit_code, Ax.ex_cond, Ax.condT, Ax.condF, Ax.ex_loop, Ax.ex_op_plain, Ax.ex_call, Ax.call_fn, Ax.after_true, Ax.guard_tt, Ax.guard_ff, Ax.guard_tf, Ax.guard_ft, Ax.guard_undef, Ax.drawGuard_undef, Ax.gdVal, Ax.l_draw, Ax.ld_nil, Ax.ld_op, Ax.ld_call, Ax.ld_guard, Ax.draw_plain, Ax.draw_callo, Ax.drawCall_fn, Ax.drawAfter_true, Ax.drawGuard_tt, Ax.drawGuard_ff, Ax.drawGuard_tf, Ax.drawGuard_ft, Ax.l_unroll_succ, Ax.unrollQ_end, Ax.unrollQ_ret, Ax.unrollQ_normal, Ax.round_end, Ax.round_ret, Ax.round_normal, Ax.ends_ret, Ax.ends_normal, Nat.max_def, Ax.isCall.eq_def, Ax.dstOK.eq_def, Ax.look_hit, Ax.look_miss, Ax.look.eq_1, Nat.reduceBEq, Ax.ev_tmp, Ax.ev_const, Ax.ev_func, Ax.evL, Ax.entry, Ax.entryEnv, Ax.AS.put.eq_def, Ax.AS.upd.eq_def, Ax.bump, Ax.AV.cells.eq_def, Ax.AV.one.eq_def, Value.oneCell'.eq_def, Ax.blockOf.eq_def, Ax.rdOf.eq_def, Ax.wrOf.eq_def, Ax.aop_move, Ax.aop_assign, Ax.aMove_some, Ax.aop_pick, Ax.aop_alloc, Ax.aop_box, Ax.aop_build, Ax.aop_load, Ax.aop_store, Ax.aop_nil, Ax.aop_bin, Ax.aop_un, Ax.aop_convert, Ax.aop_iface, Ax.aop_fieldAddr, Ax.aop_field, Ax.aop_indexAddr, Ax.aop_index, Ax.aop_extract, Ax.aop, Ax.aBin.eq_def, Ax.aUn.eq_def, Ax.aPick.eq_def, Ax.aAlloc.eq_def, Ax.aBox.eq_def, Ax.aLoad.eq_def, Ax.aStore.eq_def, Ax.aNilCheck.eq_def, Ax.aFieldAddr.eq_def, Ax.aField.eq_def, Ax.aIndexAddr.eq_def, Ax.aIndex.eq_def, Ax.aBuild.eq_def, Ax.aConvert.eq_def, Ax.aMakeInterface.eq_def, Ax.aAssert.eq_def, Ax.aExtract.eq_def, Ax.aMakeFunc.eq_def, Ax.aLen.eq_def, Ax.aMin.eq_def, Ax.aMax.eq_def, Ax.aLenT.eq_def, Ax.aBuiltin.eq_def, Ax.headT, Ax.ibin.eq_def, Ax.ishift.eq_def, Ax.isShift.eq_def, Ax.eqNil.eq_def, Ax.eqBool.eq_def, Ax.toEff.eq_def, Ax.isNilConst.eq_def, Ax.isBoolT.eq_def, Ax.isIfaceT.eq_def, Ax.isSlcT.eq_def, Ax.isStrT.eq_def, Ax.strBin.eq_def, Ax.aop_makeSlice, Ax.aop_slice, Ax.aMakeSlice.eq_def, Ax.aSlice.eq_def, Ax.bndOf.eq_def, Option.isSome_none, Option.map_none, Ax.pk_bool, Ax.pk.eq_def, Ax.behind.eq_def, Ax.shiftPtr.eq_def, Ax.partOf.eq_def, Ax.fillA, Ax.placed, Ax.stPlace.eq_def, Ax.TK.agg.eq_def, Ax.Z.val.eq_def, Ax.resL, Ax.resOne.eq_def, List.cons_append, List.nil_append, List.append_nil, List.getElem?_cons_zero, List.getElem?_cons_succ, List.length_cons, List.length_nil, List.take_succ_cons, List.take_zero, List.drop_succ_cons, List.drop_zero, List.map_cons, List.map_nil, List.all_cons, List.all_nil, List.head?_cons, List.set_cons_zero, List.set_cons_succ, List.getD_cons_zero, List.getD_cons_succ, List.toList_toArray, Option.bind_some, Option.bind_none, Option.isSome_some, Option.map_some, Option.getD_some, Nat.reduceAdd, Nat.reduceEqDiff, Nat.reduceLT, Nat.reduceLeDiff, Nat.reduceSub, Nat.reduceMul, Nat.zero_add, Nat.add_zero, Nat.zero_mul, Nat.mul_zero, Nat.one_mul, Nat.mul_one, Int.reduceToNat, IntKind.bits.eq_def, Int.reducePow, Nat.min_eq_left, Int.one_mul, Int.mul_one, Nat.reducePow, Nat.one_ne_zero, Nat.zero_ne_one, Bool.or_self, Bool.or_false, Bool.or_true, Bool.false_or, Bool.true_or, Bool.and_true, Bool.and_false, Bool.true_and, Bool.false_and, Bool.not_true, Bool.not_false, Bool.false_eq_true, Bool.true_eq_false, Bool.and_self, Bool.decide_eq_true, true_and, and_true, false_and, and_false, and_self, if_true, if_false, ite_true, ite_false, reduceCtorEq, reduceIte, eq_self, true_implies, imp_self, implies_true, not_true_eq_false, not_false_eq_true, ne_eq, decide_true, decide_false, Ax.w64l, Int.reduceAdd, Int.reduceSub, Int.reduceMul, Int.reduceNeg, Int.reduceLE, Int.reduceLT, Int.zero_add, Int.toNat_zero, Int.reduceEq, Option.bind_eq_bind, Ax.veqs, Ax.veq, Ax.vals, eq_self, Int.toNat_natCast, Ax.thawS, Ax.thawE, Ax.thaw.eq_def, Ax.dropM, Ax.killT, Ax.isB.eq_def, Ax.AV.priv.eq_def, List.any_cons, List.any_nil, List.contains_cons, List.contains_nil, List.elem_nil, Bool.cond_true, Bool.cond_false, cond_true, cond_false, Ax.litThen_some, Ax.drawLitThen_some, Ax.aLit.eq_def, Ax.aRows, List.getD_cons_zero, List.getD_cons_succ, ti, tin])
      | (simp (disch := omega) only [w64, wu64, wu32, Nat.min_eq_left])
      | (refine after_lit ti_ok ?_)
      | (refine drawAfter_lit ti_ok ?_)
      | (refine drawEnd_of (by kernel_rfl) ?_)
      | (refine cond_cases (fun hc => ?_) (fun hc => ?_) <;> first | (exfalso; simp only [decide_eq_true_eq, decide_eq_false_iff_not, Bool.not_eq_true, Bool.not_eq_false, Bool.not_eq_true', Bool.not_eq_false'] at hc; omega) | (simp only [hc]; try simp only [decide_eq_true_eq, decide_eq_false_iff_not, Bool.not_eq_true, Bool.not_eq_false, Bool.not_eq_true', Bool.not_eq_false'] at hc))
      | (refine guard_split (fun hc => ?_) (fun hc => ?_) <;> first | (exfalso; simp only [decide_eq_true_eq, decide_eq_false_iff_not, Bool.not_eq_true, Bool.not_eq_false, Bool.not_eq_true', Bool.not_eq_false'] at hc; omega) | (simp only [hc]; try simp only [decide_eq_true_eq, decide_eq_false_iff_not, Bool.not_eq_true, Bool.not_eq_false, Bool.not_eq_true', Bool.not_eq_false'] at hc))
      | (refine drawGuard_split (fun hc => ?_) (fun hc => ?_) <;> first | (exfalso; simp only [decide_eq_true_eq, decide_eq_false_iff_not, Bool.not_eq_true, Bool.not_eq_false, Bool.not_eq_true', Bool.not_eq_false'] at hc; omega) | (simp only [hc]; try simp only [decide_eq_true_eq, decide_eq_false_iff_not, Bool.not_eq_true, Bool.not_eq_false, Bool.not_eq_true', Bool.not_eq_false'] at hc))
      | (refine after_need (by omega) ?_)
      | (refine drawAfter_need (by omega) ?_))
    exact fin_same trivial rfl
theorem bnd39_bad (R L lk kp ki b0 b1 : Int) (rows : List (List AV)) (hcl : ∀ r ∈ rows, ∀ a ∈ r, Cl a) (h : obBad R L lk kp ki) : CallOK Try.prog gl 6 [.agg [.v (.int .i64 R), .v (.int .i64 L), .v (.int .i64 lk), .v (.int .i64 kp), .v (.int .i64 ki)], .agg [.v (.int .i64 b0), .v (.int .i64 b1)], .sl 4 rows] (.v (.bool (true))) := by
  refine call_ok (C := ⟨Try.prog, gl, ti, 130⟩) ti_ok mixed 3000 Try.call6 Try.func6 rfl Try.ntmps6 (by simp) (by (try simp only [List.mem_cons, List.not_mem_nil, or_false, forall_eq_or_imp, forall_eq]); (repeat' (first | exact Cl.v _ | exact Cl.u32s | exact Cl.i64s | exact Cl.sl (by assumption) | refine And.intro ?_ ?_ | refine Cl.agg ?_ | refine Cl.rp ?_ | refine Cl.sl ?_ | refine Cl.tup ?_ | simp only [List.mem_cons, List.not_mem_nil, or_false, forall_eq_or_imp, forall_eq, false_imp_iff, implies_true]))) (by (try simp only [List.mem_cons, List.not_mem_nil, or_false, forall_eq_or_imp, forall_eq]); (repeat' (first | exact Cl.v _ | exact Cl.u32s | exact Cl.i64s | exact Cl.sl (by assumption) | refine And.intro ?_ ?_ | refine Cl.agg ?_ | refine Cl.rp ?_ | refine Cl.sl ?_ | refine Cl.tup ?_ | simp only [List.mem_cons, List.not_mem_nil, or_false, forall_eq_or_imp, forall_eq, false_imp_iff, implies_true]))) ?_
  rw [Try.results6]
  repeat' (first
    | (simp only [Ax.ex_nil, Ax.ex_blk, Ax.ex_lp, Ax.ex_skip, Ax.ex_seq, Ax.ex_block, Ax.ex_ret, Ax.l_region, Ax.lap_cons, Ax.lap_nil, Ax.la_nil, Ax.la_assoc, Ax.la_op, Ax.la_call, Ax.la_guard, Ax.lda_nil, Ax.lda_assoc, Ax.lda_op, Ax.lda_call, Ax.lda_guard, Ax.gdA_zero, Ax.gdA_succ, Ax.gdA_nil, Ax.gdA_assoc, Ax.l_nil, Ax.l_op, Ax.l_call, Ax.l_guard, Ax.l_exit, Ax.exit_hit, Ax.exit_blk, Ax.exit_lp, Ax.exit_code, Ax.ex_cond, Ax.condT, Ax.condF, Ax.ex_loop, Ax.ex_op_plain, Ax.ex_call, Ax.call_fn, Ax.after_true, Ax.guard_tt, Ax.guard_ff, Ax.guard_tf, Ax.guard_ft, Ax.guard_undef, Ax.drawGuard_undef, Ax.gdVal, Ax.l_draw, Ax.ld_nil, Ax.ld_op, Ax.ld_call, Ax.ld_guard, Ax.draw_plain, Ax.draw_callo, Ax.drawCall_fn, Ax.drawAfter_true, Ax.drawGuard_tt, Ax.drawGuard_ff, Ax.drawGuard_tf, Ax.drawGuard_ft, Ax.l_unroll_succ, Ax.unrollQ_end, Ax.unrollQ_ret, Ax.unrollQ_normal, Ax.round_end, Ax.round_ret, Ax.round_normal, Ax.ends_ret, Ax.ends_normal, Nat.max_def, Ax.isCall.eq_def, Ax.dstOK.eq_def, Ax.look_hit, Ax.look_miss, Ax.look.eq_1, Nat.reduceBEq, Ax.ev_tmp, Ax.ev_const, Ax.ev_func, Ax.evL, Ax.entry, Ax.entryEnv, Ax.AS.put.eq_def, Ax.AS.upd.eq_def, Ax.bump, Ax.AV.cells.eq_def, Ax.AV.one.eq_def, Value.oneCell'.eq_def, Ax.blockOf.eq_def, Ax.rdOf.eq_def, Ax.wrOf.eq_def, Ax.aop_move, Ax.aop_assign, Ax.aMove_some, Ax.aop_pick, Ax.aop_alloc, Ax.aop_box, Ax.aop_build, Ax.aop_load, Ax.aop_store, Ax.aop_nil, Ax.aop_bin, Ax.aop_un, Ax.aop_convert, Ax.aop_iface, Ax.aop_fieldAddr, Ax.aop_field, Ax.aop_indexAddr, Ax.aop_index, Ax.aop_extract, Ax.aop, Ax.aBin.eq_def, Ax.aUn.eq_def, Ax.aPick.eq_def, Ax.aAlloc.eq_def, Ax.aBox.eq_def, Ax.aLoad.eq_def, Ax.aStore.eq_def, Ax.aNilCheck.eq_def, Ax.aFieldAddr.eq_def, Ax.aField.eq_def, Ax.aIndexAddr.eq_def, Ax.aIndex.eq_def, Ax.aBuild.eq_def, Ax.aConvert.eq_def, Ax.aMakeInterface.eq_def, Ax.aAssert.eq_def, Ax.aExtract.eq_def, Ax.aMakeFunc.eq_def, Ax.aLen.eq_def, Ax.aMin.eq_def, Ax.aMax.eq_def, Ax.aLenT.eq_def, Ax.aBuiltin.eq_def, Ax.headT, Ax.ibin.eq_def, Ax.ishift.eq_def, Ax.isShift.eq_def, Ax.eqNil.eq_def, Ax.eqBool.eq_def, Ax.toEff.eq_def, Ax.isNilConst.eq_def, Ax.isBoolT.eq_def, Ax.isIfaceT.eq_def, Ax.isSlcT.eq_def, Ax.isStrT.eq_def, Ax.strBin.eq_def, Ax.aop_makeSlice, Ax.aop_slice, Ax.aMakeSlice.eq_def, Ax.aSlice.eq_def, Ax.bndOf.eq_def, Option.isSome_none, Option.map_none, Ax.pk_bool, Ax.pk.eq_def, Ax.behind.eq_def, Ax.shiftPtr.eq_def, Ax.partOf.eq_def, Ax.fillA, Ax.placed, Ax.stPlace.eq_def, Ax.TK.agg.eq_def, Ax.Z.val.eq_def, Ax.resL, Ax.resOne.eq_def, List.cons_append, List.nil_append, List.append_nil, List.getElem?_cons_zero, List.getElem?_cons_succ, List.length_cons, List.length_nil, List.take_succ_cons, List.take_zero, List.drop_succ_cons, List.drop_zero, List.map_cons, List.map_nil, List.all_cons, List.all_nil, List.head?_cons, List.set_cons_zero, List.set_cons_succ, List.getD_cons_zero, List.getD_cons_succ, List.toList_toArray, Option.bind_some, Option.bind_none, Option.isSome_some, Option.map_some, Option.getD_some, Nat.reduceAdd, Nat.reduceEqDiff, Nat.reduceLT, Nat.reduceLeDiff, Nat.reduceSub, Nat.reduceMul, Nat.zero_add, Nat.add_zero, Nat.zero_mul, Nat.mul_zero, Nat.one_mul, Nat.mul_one, Int.reduceToNat, IntKind.bits.eq_def, Int.reducePow, Nat.min_eq_left, Int.one_mul, Int.mul_one, Nat.reducePow, Nat.one_ne_zero, Nat.zero_ne_one, Bool.or_self, Bool.or_false, Bool.or_true, Bool.false_or, Bool.true_or, Bool.and_true, Bool.and_false, Bool.true_and, Bool.false_and, Bool.not_true, Bool.not_false, Bool.false_eq_true, Bool.true_eq_false, Bool.and_self, Bool.decide_eq_true, true_and, and_true, false_and, and_false, and_self, if_true, if_false, ite_true, ite_false, reduceCtorEq, reduceIte, eq_self, true_implies, imp_self, implies_true, not_true_eq_false, not_false_eq_true, ne_eq, decide_true, decide_false, Ax.w64l, Int.reduceAdd, Int.reduceSub, Int.reduceMul, Int.reduceNeg, Int.reduceLE, Int.reduceLT, Int.zero_add, Int.toNat_zero, Int.reduceEq, Option.bind_eq_bind, Ax.veqs, Ax.veq, Ax.vals, eq_self, Int.toNat_natCast, Ax.thawS, Ax.thawE, Ax.thaw.eq_def, Ax.dropM, Ax.killT, Ax.isB.eq_def, Ax.AV.priv.eq_def, List.any_cons, List.any_nil, List.contains_cons, List.contains_nil, List.elem_nil, Bool.cond_true, Bool.cond_false, cond_true, cond_false, Ax.litThen_some, Ax.drawLitThen_some, Ax.aLit.eq_def, Ax.aRows, List.getD_cons_zero, List.getD_cons_succ, ti, tin])
    | (simp (disch := omega) only [w64, wu64, wu32, Nat.min_eq_left])
    | (with_reducible refine callF_of (awake39) ?_)
    | (with_reducible refine drawF_of (awake39) ?_)
    | (with_reducible refine callF_of (ref39_Check_bad _ _ _ _ _ h) ?_)
    | (with_reducible refine drawF_of (ref39_Check_bad _ _ _ _ _ h) ?_)
    | (refine after_lit ti_ok ?_)
    | (refine drawAfter_lit ti_ok ?_)
    | (refine drawEnd_of (by kernel_rfl) ?_)
    | (refine cond_cases (fun hc => ?_) (fun hc => ?_) <;> first | (exfalso; simp only [decide_eq_true_eq, decide_eq_false_iff_not, Bool.not_eq_true, Bool.not_eq_false, Bool.not_eq_true', Bool.not_eq_false'] at hc; omega) | (simp only [hc]; try simp only [decide_eq_true_eq, decide_eq_false_iff_not, Bool.not_eq_true, Bool.not_eq_false, Bool.not_eq_true', Bool.not_eq_false'] at hc))
    | (refine guard_split (fun hc => ?_) (fun hc => ?_) <;> first | (exfalso; simp only [decide_eq_true_eq, decide_eq_false_iff_not, Bool.not_eq_true, Bool.not_eq_false, Bool.not_eq_true', Bool.not_eq_false'] at hc; omega) | (simp only [hc]; try simp only [decide_eq_true_eq, decide_eq_false_iff_not, Bool.not_eq_true, Bool.not_eq_false, Bool.not_eq_true', Bool.not_eq_false'] at hc))
    | (refine drawGuard_split (fun hc => ?_) (fun hc => ?_) <;> first | (exfalso; simp only [decide_eq_true_eq, decide_eq_false_iff_not, Bool.not_eq_true, Bool.not_eq_false, Bool.not_eq_true', Bool.not_eq_false'] at hc; omega) | (simp only [hc]; try simp only [decide_eq_true_eq, decide_eq_false_iff_not, Bool.not_eq_true, Bool.not_eq_false, Bool.not_eq_true', Bool.not_eq_false'] at hc))
    | (refine after_need (by omega) ?_)
    | (refine drawAfter_need (by omega) ?_))
  all_goals exact fin_same trivial rfl
theorem bnd39 (R L lk kp ki b0 b1 : Int) (rows : List (List AV)) (hrows : ∀ r ∈ rows, FitL [.int .i64, .int .i64, .int .i64, .int .i64] r) : CallOK Try.prog gl 6 [.agg [.v (.int .i64 R), .v (.int .i64 L), .v (.int .i64 lk), .v (.int .i64 kp), .v (.int .i64 ki)], .agg [.v (.int .i64 b0), .v (.int .i64 b1)], .sl 4 rows] (.v (.bool true)) := by
  have hcl : ∀ r ∈ rows, ∀ a ∈ r, Cl a := fun r hr => (hrows r hr).cl
  by_cases h : obBad R L lk kp ki
  · exact bnd39_bad _ _ _ _ _ _ _ _ hcl h
  · exact bnd39_ok _ _ _ _ _ _ _ _ hrows hcl h
end Go.Proofs.Ytekmhhmemkjcbaa
