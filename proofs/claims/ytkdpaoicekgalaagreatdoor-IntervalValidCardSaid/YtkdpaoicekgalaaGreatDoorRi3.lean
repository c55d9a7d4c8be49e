/- The reference of layer 3 (ref.go), part 3: limits. -/
import Derived.Test.YtkdpaoicekgalaaGreatDoorRi2
import Derived.Test.YtkdpaoicekgalaaGreatDoorRefD
set_option linter.unusedSimpArgs false
set_option linter.unusedVariables false
set_option linter.deprecated false
namespace Go.Proofs.YtkdpaoicekgalaaGreatDoor
open Go Go.Ax
set_option maxRecDepth 100000
set_option maxHeartbeats 4000000

theorem ri_Contains (s1 : Bool) (w1 : List Nat) (d1 : Int) (t1 : Bool) (u1 : List Nat) (e1 : Int) (x1 y1 : Dy) (a1 : Iv) (h1 : IArg s1 w1 d1 t1 u1 e1 x1 y1 a1) (s2 : Bool) (w2 : List Nat) (d2 : Int) (x2 : Dy) (h2 : Arg s2 w2 d2 x2) : CallOK Tryz.prog gl 25 [.agg [.v (.bool s1), .sl 1 (u32s w1), .v (.int .i64 d1), .v (.bool t1), .sl 1 (u32s u1), .v (.int .i64 e1)], .agg [.v (.bool s2), .sl 1 (u32s w2), .v (.int .i64 d2)]] (.v (.bool (a1.has x2))) := by
  refine call_ok (C := ⟨Tryz.prog, gl, ti, 19, false⟩) ti_ok mixed 3000 Tryz.call25 Tryz.func25 rfl Tryz.ntmps25 (by simp) byClL byCl ?_
  rw [Tryz.results25]
  have r1 := ri_Norm _ _ _ _ _ _ _ _ _ h1
  have p1 := ref_Cmp _ _ _ _ _ _ _ _ h1.lo h2
  have p2 := ref_Cmp _ _ _ _ _ _ _ _ h2 h1.hi
  have e1 := cmp_le a1.lo x2
  have e2 := cmp_le x2 a1.hi
  unfold Iv.has
  simp only [← e1, ← e2]
  clear e1 e2
  generalize a1.lo.cmp x2 = m at *
  generalize x2.cmp a1.hi = n at *
  repeat' (first | (simp only [go_sem, Int.reduceAdd, Int.reduceEq, Int.reduceLE, Int.reduceLT, Int.reduceMul, Int.reduceNeg, Int.reducePow, Int.reduceSub, Int.reduceToNat, Nat.reduceAdd, Nat.reduceBEq, Nat.reduceEqDiff, Nat.reduceLT, Nat.reduceLeDiff, Nat.reduceMul, Nat.reducePow, Nat.reduceSub, reduceCtorEq, reduceIte, IntKind.bits.eq_def, ti, tin]) | (simp (disch := omega) only [w64, wu64, wu32, Nat.min_eq_left]) | (with_reducible first | refine callF_of (r1) ?_ | refine drawF_of (r1) ?_) | (with_reducible first | refine callF_of (p1) ?_ | refine drawF_of (p1) ?_) | (with_reducible first | refine callF_of (p2) ?_ | refine drawF_of (p2) ?_) | (refine after_lit ti_ok ?_) | (refine drawAfter_lit ti_ok ?_) | (refine drawEnd_of (by kernel_rfl) ?_) | ((first | refine cond_cases (fun hc => ?_) (fun hc => ?_) | refine guard_split (fun hc => ?_) (fun hc => ?_) | refine drawGuard_split (fun hc => ?_) (fun hc => ?_)) <;> first | (exfalso; simp only [dcT, dcF, bnT, bnF, bnU, bnV] at hc; omega) | (simp only [hc]; try simp only [dcT, dcF, bnT, bnF, bnU, bnV] at hc)) | (refine after_need (by omega) ?_) | (refine drawAfter_need (by omega) ?_))
  all_goals (refine fin_same trivial ?_; simp [one, *])
theorem has_zero (a : Iv) : a.has Dy.zero = decide (a.lo.v ≤ 0 ∧ 0 ≤ a.hi.v) := by unfold Iv.has; rw [Dy.v_zero]
theorem CallOK.zlitI {P : Program} {G : GL} {f : FuncId} {a : AV} {res : AV} (h : CallOK P G f [a, .agg [.v (.bool (sg Dy.zero)), .sl 1 (u32s (ms Dy.zero)), .v (.int .i64 (dn Dy.zero))]] res) : CallOK P G f [a, zlit] res := h.zlit2
theorem ri_Abs (s1 : Bool) (w1 : List Nat) (d1 : Int) (t1 : Bool) (u1 : List Nat) (e1 : Int) (x1 y1 : Dy) (a1 : Iv) (h1 : IArg s1 w1 d1 t1 u1 e1 x1 y1 a1) : CallOK Tryz.prog gl 46 [.agg [.v (.bool s1), .sl 1 (u32s w1), .v (.int .i64 d1), .v (.bool t1), .sl 1 (u32s u1), .v (.int .i64 e1)]] (.agg [.v (.bool (sg (a1.abs).lo)), .sl 1 (u32s (ms (a1.abs).lo)), .v (.int .i64 (dn (a1.abs).lo)), .v (.bool (sg (a1.abs).hi)), .sl 1 (u32s (ms (a1.abs).hi)), .v (.int .i64 (dn (a1.abs).hi))]) := by
  refine call_ok (C := ⟨Tryz.prog, gl, ti, 20, false⟩) ti_ok mixed 3000 Tryz.call46 Tryz.func46 rfl Tryz.ntmps46 (by simp) byClL byCl ?_
  rw [Tryz.results46]
  have r1 := ri_Norm _ _ _ _ _ _ _ _ _ h1
  have p1 := ref_Abs _ _ _ _ h1.lo
  have p2 := ref_Abs _ _ _ _ h1.hi
  have p3 := ri_span2 _ _ _ _ h1.lo.cabs _ _ _ _ h1.hi.cabs
  have p4 := (ri_Contains _ _ _ _ _ _ _ _ _ h1.can _ _ _ Dy.zero (Arg.of (Mg.zero 1) (by omega))).zlit2
  rw [Iv.abs_ref]
  rw [has_zero] at p4
  unfold Iv.sp2 at p3 ⊢
  dsimp only at p3
  by_cases c1 : a1.lo.v ≤ 0 ∧ 0 ≤ a1.hi.v
  · rw [decide_eq_true c1] at p4
    rw [if_pos c1]
    dsimp only
    generalize a1.lo.abs.min a1.hi.abs = z1 at *
    generalize a1.lo.abs.max a1.hi.abs = z2 at *
    repeat' (first | (simp only [go_sem, Int.reduceAdd, Int.reduceEq, Int.reduceLE, Int.reduceLT, Int.reduceMul, Int.reduceNeg, Int.reducePow, Int.reduceSub, Int.reduceToNat, Nat.reduceAdd, Nat.reduceBEq, Nat.reduceEqDiff, Nat.reduceLT, Nat.reduceLeDiff, Nat.reduceMul, Nat.reducePow, Nat.reduceSub, reduceCtorEq, reduceIte, IntKind.bits.eq_def, ti, tin]) | (simp (disch := omega) only [w64, wu64, wu32, Nat.min_eq_left]) | (with_reducible first | refine callF_of (r1) ?_ | refine drawF_of (r1) ?_) | (with_reducible first | refine callF_of (p1) ?_ | refine drawF_of (p1) ?_) | (with_reducible first | refine callF_of (p2) ?_ | refine drawF_of (p2) ?_) | (with_reducible first | refine callF_of (p3) ?_ | refine drawF_of (p3) ?_) | (with_reducible first | refine callF_of (p4) ?_ | refine drawF_of (p4) ?_) | (refine after_lit ti_ok ?_) | (refine drawAfter_lit ti_ok ?_) | (refine drawEnd_of (by kernel_rfl) ?_) | ((first | refine cond_cases (fun hc => ?_) (fun hc => ?_) | refine guard_split (fun hc => ?_) (fun hc => ?_) | refine drawGuard_split (fun hc => ?_) (fun hc => ?_)) <;> first | (exfalso; simp only [dcT, dcF, bnT, bnF, bnU, bnV] at hc; omega) | (simp only [hc]; try simp only [dcT, dcF, bnT, bnF, bnU, bnV] at hc)) | (refine after_need (by omega) ?_) | (refine drawAfter_need (by omega) ?_))
    all_goals exact fin_le trivial Le.lo0
  · rw [decide_eq_false c1] at p4
    rw [if_neg c1]
    dsimp only
    generalize a1.lo.abs.min a1.hi.abs = z1 at *
    generalize a1.lo.abs.max a1.hi.abs = z2 at *
    repeat' (first | (simp only [go_sem, Int.reduceAdd, Int.reduceEq, Int.reduceLE, Int.reduceLT, Int.reduceMul, Int.reduceNeg, Int.reducePow, Int.reduceSub, Int.reduceToNat, Nat.reduceAdd, Nat.reduceBEq, Nat.reduceEqDiff, Nat.reduceLT, Nat.reduceLeDiff, Nat.reduceMul, Nat.reducePow, Nat.reduceSub, reduceCtorEq, reduceIte, IntKind.bits.eq_def, ti, tin]) | (simp (disch := omega) only [w64, wu64, wu32, Nat.min_eq_left]) | (with_reducible first | refine callF_of (r1) ?_ | refine drawF_of (r1) ?_) | (with_reducible first | refine callF_of (p1) ?_ | refine drawF_of (p1) ?_) | (with_reducible first | refine callF_of (p2) ?_ | refine drawF_of (p2) ?_) | (with_reducible first | refine callF_of (p3) ?_ | refine drawF_of (p3) ?_) | (with_reducible first | refine callF_of (p4) ?_ | refine drawF_of (p4) ?_) | (refine after_lit ti_ok ?_) | (refine drawAfter_lit ti_ok ?_) | (refine drawEnd_of (by kernel_rfl) ?_) | ((first | refine cond_cases (fun hc => ?_) (fun hc => ?_) | refine guard_split (fun hc => ?_) (fun hc => ?_) | refine drawGuard_split (fun hc => ?_) (fun hc => ?_)) <;> first | (exfalso; simp only [dcT, dcF, bnT, bnF, bnU, bnV] at hc; omega) | (simp only [hc]; try simp only [dcT, dcF, bnT, bnF, bnU, bnV] at hc)) | (refine after_need (by omega) ?_) | (refine drawAfter_need (by omega) ?_))
    all_goals exact fin_same trivial rfl
theorem ri_Make_err (s1 : Bool) (w1 : List Nat) (d1 : Int) (x1 : Dy) (h1 : Arg s1 w1 d1 x1) (s2 : Bool) (w2 : List Nat) (d2 : Int) (x2 : Dy) (h2 : Arg s2 w2 d2 x2) (hlt : x2.v < x1.v) : CallOK Tryz.prog gl 15 [.agg [.v (.bool s1), .sl 1 (u32s w1), .v (.int .i64 d1)], .agg [.v (.bool s2), .sl 1 (u32s w2), .v (.int .i64 d2)]] (.tup [.agg [.v (.bool (sg (Iv.zero).lo)), .sl 1 (u32s (ms (Iv.zero).lo)), .v (.int .i64 (dn (Iv.zero).lo)), .v (.bool (sg (Iv.zero).hi)), .sl 1 (u32s (ms (Iv.zero).hi)), .v (.int .i64 (dn (Iv.zero).hi))], .v (.int .i64 3)]) := by
  refine call_ok (C := ⟨Tryz.prog, gl, ti, 15, false⟩) ti_ok mixed 3000 Tryz.call15 Tryz.func15 rfl Tryz.ntmps15 (by simp) byClL byCl ?_
  rw [Tryz.results15]
  have c1 := ref_Cmp _ _ _ _ _ _ _ _ h1 h2
  have k := (cmp_gt x1 x2).2 hlt
  clear hlt
  generalize x1.cmp x2 = n at *
  repeat' (first | (simp only [go_sem, Int.reduceAdd, Int.reduceEq, Int.reduceLE, Int.reduceLT, Int.reduceMul, Int.reduceNeg, Int.reducePow, Int.reduceSub, Int.reduceToNat, Nat.reduceAdd, Nat.reduceBEq, Nat.reduceEqDiff, Nat.reduceLT, Nat.reduceLeDiff, Nat.reduceMul, Nat.reducePow, Nat.reduceSub, reduceCtorEq, reduceIte, IntKind.bits.eq_def, ti, tin]) | (simp (disch := omega) only [w64, wu64, wu32, Nat.min_eq_left]) | (with_reducible first | refine callF_of (c1) ?_ | refine drawF_of (c1) ?_) | (refine after_lit ti_ok ?_) | (refine drawAfter_lit ti_ok ?_) | (refine drawEnd_of (by kernel_rfl) ?_) | ((first | refine cond_cases (fun hc => ?_) (fun hc => ?_) | refine guard_split (fun hc => ?_) (fun hc => ?_) | refine drawGuard_split (fun hc => ?_) (fun hc => ?_)) <;> first | (exfalso; simp only [dcT, dcF, bnT, bnF, bnU, bnV] at hc; omega) | (simp only [hc]; try simp only [dcT, dcF, bnT, bnF, bnU, bnV] at hc)) | (refine after_need (by omega) ?_) | (refine drawAfter_need (by omega) ?_))
  all_goals exact fin_le trivial (Le.tup (.cons Le.iv0 (.cons (.refl _) .nil)))
theorem ri_Make (s1 : Bool) (w1 : List Nat) (d1 : Int) (x1 : Dy) (h1 : Arg s1 w1 d1 x1) (s2 : Bool) (w2 : List Nat) (d2 : Int) (x2 : Dy) (h2 : Arg s2 w2 d2 x2) (hle : x1.v ≤ x2.v) : CallOK Tryz.prog gl 15 [.agg [.v (.bool s1), .sl 1 (u32s w1), .v (.int .i64 d1)], .agg [.v (.bool s2), .sl 1 (u32s w2), .v (.int .i64 d2)]] (.tup [.agg [.v (.bool (sg (x1))), .sl 1 (u32s (ms (x1))), .v (.int .i64 (dn (x1))), .v (.bool (sg (x2))), .sl 1 (u32s (ms (x2))), .v (.int .i64 (dn (x2)))], .v (.int .i64 0)]) := by
  refine call_ok (C := ⟨Tryz.prog, gl, ti, 15, false⟩) ti_ok mixed 3000 Tryz.call15 Tryz.func15 rfl Tryz.ntmps15 (by simp) byClL byCl ?_
  rw [Tryz.results15]
  have c1 := ref_Cmp _ _ _ _ _ _ _ _ h1 h2
  have k := (cmp_le x1 x2).2 hle
  have p1 := ri_span2 _ _ _ _ h1 _ _ _ _ h2
  rw [sp2_of_le hle] at p1
  dsimp only at p1
  clear hle
  generalize x1.cmp x2 = n at *
  repeat' (first | (simp only [go_sem, Int.reduceAdd, Int.reduceEq, Int.reduceLE, Int.reduceLT, Int.reduceMul, Int.reduceNeg, Int.reducePow, Int.reduceSub, Int.reduceToNat, Nat.reduceAdd, Nat.reduceBEq, Nat.reduceEqDiff, Nat.reduceLT, Nat.reduceLeDiff, Nat.reduceMul, Nat.reducePow, Nat.reduceSub, reduceCtorEq, reduceIte, IntKind.bits.eq_def, ti, tin]) | (simp (disch := omega) only [w64, wu64, wu32, Nat.min_eq_left]) | (with_reducible first | refine callF_of (c1) ?_ | refine drawF_of (c1) ?_) | (with_reducible first | refine callF_of (p1) ?_ | refine drawF_of (p1) ?_) | (refine after_lit ti_ok ?_) | (refine drawAfter_lit ti_ok ?_) | (refine drawEnd_of (by kernel_rfl) ?_) | ((first | refine cond_cases (fun hc => ?_) (fun hc => ?_) | refine guard_split (fun hc => ?_) (fun hc => ?_) | refine drawGuard_split (fun hc => ?_) (fun hc => ?_)) <;> first | (exfalso; simp only [dcT, dcF, bnT, bnF, bnU, bnV] at hc; omega) | (simp only [hc]; try simp only [dcT, dcF, bnT, bnF, bnU, bnV] at hc)) | (refine after_need (by omega) ?_) | (refine drawAfter_need (by omega) ?_))
  all_goals exact fin_same trivial rfl
theorem ri_Ints (m n : Int) (hm : -9223372036854775808 ≤ m ∧ m ≤ 9223372036854775807) (hn : -9223372036854775808 ≤ n ∧ n ≤ 9223372036854775807) : CallOK Tryz.prog gl 21 [.v (.int .i64 m), .v (.int .i64 n)] (.agg [.v (.bool (sg (Iv.sp2 (Dy.int m) (Dy.int n)).lo)), .sl 1 (u32s (ms (Iv.sp2 (Dy.int m) (Dy.int n)).lo)), .v (.int .i64 (dn (Iv.sp2 (Dy.int m) (Dy.int n)).lo)), .v (.bool (sg (Iv.sp2 (Dy.int m) (Dy.int n)).hi)), .sl 1 (u32s (ms (Iv.sp2 (Dy.int m) (Dy.int n)).hi)), .v (.int .i64 (dn (Iv.sp2 (Dy.int m) (Dy.int n)).hi))]) := by
  refine call_ok (C := ⟨Tryz.prog, gl, ti, 11, false⟩) ti_ok mixed 3000 Tryz.call21 Tryz.func21 rfl Tryz.ntmps21 (by simp) byClL byCl ?_
  rw [Tryz.results21]
  have p1 := ref_Of m hm
  have p2 := ref_Of n hn
  have p3 := ri_span2 _ _ _ _ (Arg.of (mg_i64 hm) (by omega)) _ _ _ _ (Arg.of (mg_i64 hn) (by omega))
  generalize Iv.sp2 (Dy.int m) (Dy.int n) = z at *
  generalize Dy.int m = z1 at *
  generalize Dy.int n = z2 at *
  repeat' (first | (simp only [go_sem, Int.reduceAdd, Int.reduceEq, Int.reduceLE, Int.reduceLT, Int.reduceMul, Int.reduceNeg, Int.reducePow, Int.reduceSub, Int.reduceToNat, Nat.reduceAdd, Nat.reduceBEq, Nat.reduceEqDiff, Nat.reduceLT, Nat.reduceLeDiff, Nat.reduceMul, Nat.reducePow, Nat.reduceSub, reduceCtorEq, reduceIte, IntKind.bits.eq_def, ti, tin]) | (simp (disch := omega) only [w64, wu64, wu32, Nat.min_eq_left]) | (with_reducible first | refine callF_of (p1) ?_ | refine drawF_of (p1) ?_) | (with_reducible first | refine callF_of (p2) ?_ | refine drawF_of (p2) ?_) | (with_reducible first | refine callF_of (p3) ?_ | refine drawF_of (p3) ?_) | (refine after_lit ti_ok ?_) | (refine drawAfter_lit ti_ok ?_) | (refine drawEnd_of (by kernel_rfl) ?_) | ((first | refine cond_cases (fun hc => ?_) (fun hc => ?_) | refine guard_split (fun hc => ?_) (fun hc => ?_) | refine drawGuard_split (fun hc => ?_) (fun hc => ?_)) <;> first | (exfalso; simp only [dcT, dcF, bnT, bnF, bnU, bnV] at hc; omega) | (simp only [hc]; try simp only [dcT, dcF, bnT, bnF, bnU, bnV] at hc)) | (refine after_need (by omega) ?_) | (refine drawAfter_need (by omega) ?_))
  exact fin_same trivial rfl
theorem ri_Meet_err (s1 : Bool) (w1 : List Nat) (d1 : Int) (t1 : Bool) (u1 : List Nat) (e1 : Int) (x1 y1 : Dy) (a1 : Iv) (h1 : IArg s1 w1 d1 t1 u1 e1 x1 y1 a1) (s2 : Bool) (w2 : List Nat) (d2 : Int) (t2 : Bool) (u2 : List Nat) (e2 : Int) (x2 y2 : Dy) (a2 : Iv) (h2 : IArg s2 w2 d2 t2 u2 e2 x2 y2 a2) (hlt : (a1.hi.min a2.hi).v < (a1.lo.max a2.lo).v) : CallOK Tryz.prog gl 68 [.agg [.v (.bool s1), .sl 1 (u32s w1), .v (.int .i64 d1), .v (.bool t1), .sl 1 (u32s u1), .v (.int .i64 e1)], .agg [.v (.bool s2), .sl 1 (u32s w2), .v (.int .i64 d2), .v (.bool t2), .sl 1 (u32s u2), .v (.int .i64 e2)]] (.tup [.agg [.v (.bool (sg (Iv.zero).lo)), .sl 1 (u32s (ms (Iv.zero).lo)), .v (.int .i64 (dn (Iv.zero).lo)), .v (.bool (sg (Iv.zero).hi)), .sl 1 (u32s (ms (Iv.zero).hi)), .v (.int .i64 (dn (Iv.zero).hi))], .v (.int .i64 23)]) := by
  refine call_ok (C := ⟨Tryz.prog, gl, ti, 30, false⟩) ti_ok mixed 3000 Tryz.call68 Tryz.func68 rfl Tryz.ntmps68 (by simp) byClL byCl ?_
  rw [Tryz.results68]
  have r1 := ri_Norm _ _ _ _ _ _ _ _ _ h1
  have r2 := ri_Norm _ _ _ _ _ _ _ _ _ h2
  have p1 := ref_Max _ _ _ _ _ _ _ _ h1.lo h2.lo
  have p2 := ref_Min _ _ _ _ _ _ _ _ h1.hi h2.hi
  have p3 := ref_Cmp _ _ _ _ _ _ _ _ (h1.lo.cmax h2.lo) (h1.hi.cmin h2.hi)
  have k := (cmp_gt _ _).2 hlt
  clear hlt
  generalize (a1.lo.max a2.lo).cmp (a1.hi.min a2.hi) = n at *
  repeat' (first | (simp only [go_sem, Int.reduceAdd, Int.reduceEq, Int.reduceLE, Int.reduceLT, Int.reduceMul, Int.reduceNeg, Int.reducePow, Int.reduceSub, Int.reduceToNat, Nat.reduceAdd, Nat.reduceBEq, Nat.reduceEqDiff, Nat.reduceLT, Nat.reduceLeDiff, Nat.reduceMul, Nat.reducePow, Nat.reduceSub, reduceCtorEq, reduceIte, IntKind.bits.eq_def, ti, tin]) | (simp (disch := omega) only [w64, wu64, wu32, Nat.min_eq_left]) | (with_reducible first | refine callF_of (r1) ?_ | refine drawF_of (r1) ?_) | (with_reducible first | refine callF_of (r2) ?_ | refine drawF_of (r2) ?_) | (with_reducible first | refine callF_of (p1) ?_ | refine drawF_of (p1) ?_) | (with_reducible first | refine callF_of (p2) ?_ | refine drawF_of (p2) ?_) | (with_reducible first | refine callF_of (p3) ?_ | refine drawF_of (p3) ?_) | (refine after_lit ti_ok ?_) | (refine drawAfter_lit ti_ok ?_) | (refine drawEnd_of (by kernel_rfl) ?_) | ((first | refine cond_cases (fun hc => ?_) (fun hc => ?_) | refine guard_split (fun hc => ?_) (fun hc => ?_) | refine drawGuard_split (fun hc => ?_) (fun hc => ?_)) <;> first | (exfalso; simp only [dcT, dcF, bnT, bnF, bnU, bnV] at hc; omega) | (simp only [hc]; try simp only [dcT, dcF, bnT, bnF, bnU, bnV] at hc)) | (refine after_need (by omega) ?_) | (refine drawAfter_need (by omega) ?_))
  all_goals exact fin_le trivial (Le.tup (.cons Le.iv0 (.cons (.refl _) .nil)))
theorem ri_Meet (s1 : Bool) (w1 : List Nat) (d1 : Int) (t1 : Bool) (u1 : List Nat) (e1 : Int) (x1 y1 : Dy) (a1 : Iv) (h1 : IArg s1 w1 d1 t1 u1 e1 x1 y1 a1) (s2 : Bool) (w2 : List Nat) (d2 : Int) (t2 : Bool) (u2 : List Nat) (e2 : Int) (x2 y2 : Dy) (a2 : Iv) (h2 : IArg s2 w2 d2 t2 u2 e2 x2 y2 a2) (hle : (a1.lo.max a2.lo).v ≤ (a1.hi.min a2.hi).v) : CallOK Tryz.prog gl 68 [.agg [.v (.bool s1), .sl 1 (u32s w1), .v (.int .i64 d1), .v (.bool t1), .sl 1 (u32s u1), .v (.int .i64 e1)], .agg [.v (.bool s2), .sl 1 (u32s w2), .v (.int .i64 d2), .v (.bool t2), .sl 1 (u32s u2), .v (.int .i64 e2)]] (.tup [.agg [.v (.bool (sg (a1.lo.max a2.lo))), .sl 1 (u32s (ms (a1.lo.max a2.lo))), .v (.int .i64 (dn (a1.lo.max a2.lo))), .v (.bool (sg (a1.hi.min a2.hi))), .sl 1 (u32s (ms (a1.hi.min a2.hi))), .v (.int .i64 (dn (a1.hi.min a2.hi)))], .v (.int .i64 0)]) := by
  refine call_ok (C := ⟨Tryz.prog, gl, ti, 30, false⟩) ti_ok mixed 3000 Tryz.call68 Tryz.func68 rfl Tryz.ntmps68 (by simp) byClL byCl ?_
  rw [Tryz.results68]
  have r1 := ri_Norm _ _ _ _ _ _ _ _ _ h1
  have r2 := ri_Norm _ _ _ _ _ _ _ _ _ h2
  have p1 := ref_Max _ _ _ _ _ _ _ _ h1.lo h2.lo
  have p2 := ref_Min _ _ _ _ _ _ _ _ h1.hi h2.hi
  have p3 := ref_Cmp _ _ _ _ _ _ _ _ (h1.lo.cmax h2.lo) (h1.hi.cmin h2.hi)
  have k := (cmp_le _ _).2 hle
  clear hle
  generalize (a1.lo.max a2.lo).cmp (a1.hi.min a2.hi) = n at *
  repeat' (first | (simp only [go_sem, Int.reduceAdd, Int.reduceEq, Int.reduceLE, Int.reduceLT, Int.reduceMul, Int.reduceNeg, Int.reducePow, Int.reduceSub, Int.reduceToNat, Nat.reduceAdd, Nat.reduceBEq, Nat.reduceEqDiff, Nat.reduceLT, Nat.reduceLeDiff, Nat.reduceMul, Nat.reducePow, Nat.reduceSub, reduceCtorEq, reduceIte, IntKind.bits.eq_def, ti, tin]) | (simp (disch := omega) only [w64, wu64, wu32, Nat.min_eq_left]) | (with_reducible first | refine callF_of (r1) ?_ | refine drawF_of (r1) ?_) | (with_reducible first | refine callF_of (r2) ?_ | refine drawF_of (r2) ?_) | (with_reducible first | refine callF_of (p1) ?_ | refine drawF_of (p1) ?_) | (with_reducible first | refine callF_of (p2) ?_ | refine drawF_of (p2) ?_) | (with_reducible first | refine callF_of (p3) ?_ | refine drawF_of (p3) ?_) | (refine after_lit ti_ok ?_) | (refine drawAfter_lit ti_ok ?_) | (refine drawEnd_of (by kernel_rfl) ?_) | ((first | refine cond_cases (fun hc => ?_) (fun hc => ?_) | refine guard_split (fun hc => ?_) (fun hc => ?_) | refine drawGuard_split (fun hc => ?_) (fun hc => ?_)) <;> first | (exfalso; simp only [dcT, dcF, bnT, bnF, bnU, bnV] at hc; omega) | (simp only [hc]; try simp only [dcT, dcF, bnT, bnF, bnU, bnV] at hc)) | (refine after_need (by omega) ?_) | (refine drawAfter_need (by omega) ?_))
  all_goals exact fin_same trivial rfl
theorem ri_Widen_err (s1 : Bool) (w1 : List Nat) (d1 : Int) (t1 : Bool) (u1 : List Nat) (e1 : Int) (x1 y1 : Dy) (a1 : Iv) (h1 : IArg s1 w1 d1 t1 u1 e1 x1 y1 a1) (s2 : Bool) (w2 : List Nat) (d2 : Int) (x2 : Dy) (h2 : Arg s2 w2 d2 x2) (hlt : x2.v < 0) : CallOK Tryz.prog gl 69 [.agg [.v (.bool s1), .sl 1 (u32s w1), .v (.int .i64 d1), .v (.bool t1), .sl 1 (u32s u1), .v (.int .i64 e1)], .agg [.v (.bool s2), .sl 1 (u32s w2), .v (.int .i64 d2)]] (.tup [.agg [.v (.bool (sg (Iv.zero).lo)), .sl 1 (u32s (ms (Iv.zero).lo)), .v (.int .i64 (dn (Iv.zero).lo)), .v (.bool (sg (Iv.zero).hi)), .sl 1 (u32s (ms (Iv.zero).hi)), .v (.int .i64 (dn (Iv.zero).hi))], .v (.int .i64 3)]) := by
  refine call_ok (C := ⟨Tryz.prog, gl, ti, 17, false⟩) ti_ok mixed 3000 Tryz.call69 Tryz.func69 rfl Tryz.ntmps69 (by simp) byClL byCl ?_
  rw [Tryz.results69]
  have q1 := ref_Sign _ _ _ _ h2
  have k := (sign_lt0 x2).2 hlt
  clear hlt
  generalize x2.sign = n at *
  repeat' (first | (simp only [go_sem, Int.reduceAdd, Int.reduceEq, Int.reduceLE, Int.reduceLT, Int.reduceMul, Int.reduceNeg, Int.reducePow, Int.reduceSub, Int.reduceToNat, Nat.reduceAdd, Nat.reduceBEq, Nat.reduceEqDiff, Nat.reduceLT, Nat.reduceLeDiff, Nat.reduceMul, Nat.reducePow, Nat.reduceSub, reduceCtorEq, reduceIte, IntKind.bits.eq_def, ti, tin]) | (simp (disch := omega) only [w64, wu64, wu32, Nat.min_eq_left]) | (with_reducible first | refine callF_of (q1) ?_ | refine drawF_of (q1) ?_) | (refine after_lit ti_ok ?_) | (refine drawAfter_lit ti_ok ?_) | (refine drawEnd_of (by kernel_rfl) ?_) | ((first | refine cond_cases (fun hc => ?_) (fun hc => ?_) | refine guard_split (fun hc => ?_) (fun hc => ?_) | refine drawGuard_split (fun hc => ?_) (fun hc => ?_)) <;> first | (exfalso; simp only [dcT, dcF, bnT, bnF, bnU, bnV] at hc; omega) | (simp only [hc]; try simp only [dcT, dcF, bnT, bnF, bnU, bnV] at hc)) | (refine after_need (by omega) ?_) | (refine drawAfter_need (by omega) ?_))
  all_goals exact fin_le trivial (Le.tup (.cons Le.iv0 (.cons (.refl _) .nil)))
theorem ri_Widen (s1 : Bool) (w1 : List Nat) (d1 : Int) (t1 : Bool) (u1 : List Nat) (e1 : Int) (x1 y1 : Dy) (a1 : Iv) (h1 : IArg s1 w1 d1 t1 u1 e1 x1 y1 a1) (s2 : Bool) (w2 : List Nat) (d2 : Int) (x2 : Dy) (h2 : Arg s2 w2 d2 x2) (hle : 0 ≤ x2.v) (k : Nat) (g1 : a1.Mg k) (g2 : Mg k x2) (hk : k ≤ 1099511627775) : CallOK Tryz.prog gl 69 [.agg [.v (.bool s1), .sl 1 (u32s w1), .v (.int .i64 d1), .v (.bool t1), .sl 1 (u32s u1), .v (.int .i64 e1)], .agg [.v (.bool s2), .sl 1 (u32s w2), .v (.int .i64 d2)]] (.tup [.agg [.v (.bool (sg (a1.wide x2).lo)), .sl 1 (u32s (ms (a1.wide x2).lo)), .v (.int .i64 (dn (a1.wide x2).lo)), .v (.bool (sg (a1.wide x2).hi)), .sl 1 (u32s (ms (a1.wide x2).hi)), .v (.int .i64 (dn (a1.wide x2).hi))], .v (.int .i64 0)]) := by
  refine call_ok (C := ⟨Tryz.prog, gl, ti, 17, false⟩) ti_ok mixed 3000 Tryz.call69 Tryz.func69 rfl Tryz.ntmps69 (by simp) byClL byCl ?_
  rw [Tryz.results69]
  have q1 := ref_Sign _ _ _ _ h2
  have k : ¬ x2.sign < 0 := fun h => by have := (sign_lt0 x2).1 h; grind
  have p1 := ref_Neg _ _ _ _ h2
  have p2 := ri_span2 _ _ _ _ h2 _ _ _ _ h2.can.neg_of
  have p3 := ri_Add _ _ _ _ _ _ _ _ _ h1 _ _ _ _ _ _ _ _ _ (IArg.mk' (h2.can.cmin h2.can.neg_of) (h2.can.cmax h2.can.neg_of)) _ g1 (Iv.Mg.sp2 g2 g2.neg) hk
  change CallOK _ _ _ [_, .agg [.v (.bool (sg (Iv.sp2 x2 x2.neg).lo)), .sl 1 (u32s (ms (Iv.sp2 x2 x2.neg).lo)), .v (.int .i64 (dn (Iv.sp2 x2 x2.neg).lo)), .v (.bool (sg (Iv.sp2 x2 x2.neg).hi)), .sl 1 (u32s (ms (Iv.sp2 x2 x2.neg).hi)), .v (.int .i64 (dn (Iv.sp2 x2 x2.neg).hi))]] (.agg [.v (.bool (sg (a1.wide x2).lo)), .sl 1 (u32s (ms (a1.wide x2).lo)), .v (.int .i64 (dn (a1.wide x2).lo)), .v (.bool (sg (a1.wide x2).hi)), .sl 1 (u32s (ms (a1.wide x2).hi)), .v (.int .i64 (dn (a1.wide x2).hi))]) at p3
  clear hle
  generalize a1.wide x2 = z1 at *
  generalize Iv.sp2 x2 x2.neg = z2 at *
  generalize x2.neg = z3 at *
  generalize x2.sign = n at *
  repeat' (first | (simp only [go_sem, Int.reduceAdd, Int.reduceEq, Int.reduceLE, Int.reduceLT, Int.reduceMul, Int.reduceNeg, Int.reducePow, Int.reduceSub, Int.reduceToNat, Nat.reduceAdd, Nat.reduceBEq, Nat.reduceEqDiff, Nat.reduceLT, Nat.reduceLeDiff, Nat.reduceMul, Nat.reducePow, Nat.reduceSub, reduceCtorEq, reduceIte, IntKind.bits.eq_def, ti, tin]) | (simp (disch := omega) only [w64, wu64, wu32, Nat.min_eq_left]) | (with_reducible first | refine callF_of (q1) ?_ | refine drawF_of (q1) ?_) | (with_reducible first | refine callF_of (p1) ?_ | refine drawF_of (p1) ?_) | (with_reducible first | refine callF_of (p2) ?_ | refine drawF_of (p2) ?_) | (with_reducible first | refine callF_of (p3) ?_ | refine drawF_of (p3) ?_) | (refine after_lit ti_ok ?_) | (refine drawAfter_lit ti_ok ?_) | (refine drawEnd_of (by kernel_rfl) ?_) | ((first | refine cond_cases (fun hc => ?_) (fun hc => ?_) | refine guard_split (fun hc => ?_) (fun hc => ?_) | refine drawGuard_split (fun hc => ?_) (fun hc => ?_)) <;> first | (exfalso; simp only [dcT, dcF, bnT, bnF, bnU, bnV] at hc; omega) | (simp only [hc]; try simp only [dcT, dcF, bnT, bnF, bnU, bnV] at hc)) | (refine after_need (by omega) ?_) | (refine drawAfter_need (by omega) ?_))
  all_goals exact fin_same trivial rfl
theorem ri_Clip_err (s1 : Bool) (w1 : List Nat) (d1 : Int) (t1 : Bool) (u1 : List Nat) (e1 : Int) (x1 y1 : Dy) (a1 : Iv) (h1 : IArg s1 w1 d1 t1 u1 e1 x1 y1 a1) (s2 : Bool) (w2 : List Nat) (d2 : Int) (x2 : Dy) (h2 : Arg s2 w2 d2 x2) (s3 : Bool) (w3 : List Nat) (d3 : Int) (x3 : Dy) (h3 : Arg s3 w3 d3 x3) (hlt : x3.v < x2.v) : CallOK Tryz.prog gl 70 [.agg [.v (.bool s1), .sl 1 (u32s w1), .v (.int .i64 d1), .v (.bool t1), .sl 1 (u32s u1), .v (.int .i64 e1)], .agg [.v (.bool s2), .sl 1 (u32s w2), .v (.int .i64 d2)], .agg [.v (.bool s3), .sl 1 (u32s w3), .v (.int .i64 d3)]] (.tup [.agg [.v (.bool (sg (Iv.zero).lo)), .sl 1 (u32s (ms (Iv.zero).lo)), .v (.int .i64 (dn (Iv.zero).lo)), .v (.bool (sg (Iv.zero).hi)), .sl 1 (u32s (ms (Iv.zero).hi)), .v (.int .i64 (dn (Iv.zero).hi))], .v (.int .i64 3)]) := by
  refine call_ok (C := ⟨Tryz.prog, gl, ti, 20, false⟩) ti_ok mixed 3000 Tryz.call70 Tryz.func70 rfl Tryz.ntmps70 (by simp) byClL byCl ?_
  rw [Tryz.results70]
  have c1 := ref_Cmp _ _ _ _ _ _ _ _ h2 h3
  have k := (cmp_gt x2 x3).2 hlt
  clear hlt
  generalize x2.cmp x3 = n at *
  repeat' (first | (simp only [go_sem, Int.reduceAdd, Int.reduceEq, Int.reduceLE, Int.reduceLT, Int.reduceMul, Int.reduceNeg, Int.reducePow, Int.reduceSub, Int.reduceToNat, Nat.reduceAdd, Nat.reduceBEq, Nat.reduceEqDiff, Nat.reduceLT, Nat.reduceLeDiff, Nat.reduceMul, Nat.reducePow, Nat.reduceSub, reduceCtorEq, reduceIte, IntKind.bits.eq_def, ti, tin]) | (simp (disch := omega) only [w64, wu64, wu32, Nat.min_eq_left]) | (with_reducible first | refine callF_of (c1) ?_ | refine drawF_of (c1) ?_) | (refine after_lit ti_ok ?_) | (refine drawAfter_lit ti_ok ?_) | (refine drawEnd_of (by kernel_rfl) ?_) | ((first | refine cond_cases (fun hc => ?_) (fun hc => ?_) | refine guard_split (fun hc => ?_) (fun hc => ?_) | refine drawGuard_split (fun hc => ?_) (fun hc => ?_)) <;> first | (exfalso; simp only [dcT, dcF, bnT, bnF, bnU, bnV] at hc; omega) | (simp only [hc]; try simp only [dcT, dcF, bnT, bnF, bnU, bnV] at hc)) | (refine after_need (by omega) ?_) | (refine drawAfter_need (by omega) ?_))
  all_goals exact fin_le trivial (Le.tup (.cons Le.iv0 (.cons (.refl _) .nil)))
theorem ri_Clip (s1 : Bool) (w1 : List Nat) (d1 : Int) (t1 : Bool) (u1 : List Nat) (e1 : Int) (x1 y1 : Dy) (a1 : Iv) (h1 : IArg s1 w1 d1 t1 u1 e1 x1 y1 a1) (s2 : Bool) (w2 : List Nat) (d2 : Int) (x2 : Dy) (h2 : Arg s2 w2 d2 x2) (s3 : Bool) (w3 : List Nat) (d3 : Int) (x3 : Dy) (h3 : Arg s3 w3 d3 x3) (hle : x2.v ≤ x3.v) : CallOK Tryz.prog gl 70 [.agg [.v (.bool s1), .sl 1 (u32s w1), .v (.int .i64 d1), .v (.bool t1), .sl 1 (u32s u1), .v (.int .i64 e1)], .agg [.v (.bool s2), .sl 1 (u32s w2), .v (.int .i64 d2)], .agg [.v (.bool s3), .sl 1 (u32s w3), .v (.int .i64 d3)]] (.tup [.agg [.v (.bool (sg ((a1.max (Iv.pt x2)).min (Iv.pt x3)).lo)), .sl 1 (u32s (ms ((a1.max (Iv.pt x2)).min (Iv.pt x3)).lo)), .v (.int .i64 (dn ((a1.max (Iv.pt x2)).min (Iv.pt x3)).lo)), .v (.bool (sg ((a1.max (Iv.pt x2)).min (Iv.pt x3)).hi)), .sl 1 (u32s (ms ((a1.max (Iv.pt x2)).min (Iv.pt x3)).hi)), .v (.int .i64 (dn ((a1.max (Iv.pt x2)).min (Iv.pt x3)).hi))], .v (.int .i64 0)]) := by
  refine call_ok (C := ⟨Tryz.prog, gl, ti, 20, false⟩) ti_ok mixed 3000 Tryz.call70 Tryz.func70 rfl Tryz.ntmps70 (by simp) byClL byCl ?_
  rw [Tryz.results70]
  rw [Iv.clip_ref a1 hle]
  have c1 := ref_Cmp _ _ _ _ _ _ _ _ h2 h3
  have k := (cmp_le x2 x3).2 hle
  have p1 := ri_Point _ _ _ _ h2
  have p2 := ri_Point _ _ _ _ h3
  have p3 := ri_Min _ _ _ _ _ _ _ _ _ h3.cpt _ _ _ _ _ _ _ _ _ h1
  have p4 := ri_Max _ _ _ _ _ _ _ _ _ h2.cpt _ _ _ _ _ _ _ _ _ (h3.cpt.cmin h1)
  clear hle
  generalize x2.cmp x3 = n at *
  generalize (Iv.pt x2).max ((Iv.pt x3).min a1) = z4 at *
  generalize (Iv.pt x3).min a1 = z3 at *
  generalize Iv.pt x2 = z2 at *
  generalize Iv.pt x3 = z1 at *
  repeat' (first | (simp only [go_sem, Int.reduceAdd, Int.reduceEq, Int.reduceLE, Int.reduceLT, Int.reduceMul, Int.reduceNeg, Int.reducePow, Int.reduceSub, Int.reduceToNat, Nat.reduceAdd, Nat.reduceBEq, Nat.reduceEqDiff, Nat.reduceLT, Nat.reduceLeDiff, Nat.reduceMul, Nat.reducePow, Nat.reduceSub, reduceCtorEq, reduceIte, IntKind.bits.eq_def, ti, tin]) | (simp (disch := omega) only [w64, wu64, wu32, Nat.min_eq_left]) | (with_reducible first | refine callF_of (c1) ?_ | refine drawF_of (c1) ?_) | (with_reducible first | refine callF_of (p1) ?_ | refine drawF_of (p1) ?_) | (with_reducible first | refine callF_of (p2) ?_ | refine drawF_of (p2) ?_) | (with_reducible first | refine callF_of (p3) ?_ | refine drawF_of (p3) ?_) | (with_reducible first | refine callF_of (p4) ?_ | refine drawF_of (p4) ?_) | (refine after_lit ti_ok ?_) | (refine drawAfter_lit ti_ok ?_) | (refine drawEnd_of (by kernel_rfl) ?_) | ((first | refine cond_cases (fun hc => ?_) (fun hc => ?_) | refine guard_split (fun hc => ?_) (fun hc => ?_) | refine drawGuard_split (fun hc => ?_) (fun hc => ?_)) <;> first | (exfalso; simp only [dcT, dcF, bnT, bnF, bnU, bnV] at hc; omega) | (simp only [hc]; try simp only [dcT, dcF, bnT, bnF, bnU, bnV] at hc)) | (refine after_need (by omega) ?_) | (refine drawAfter_need (by omega) ?_))
  all_goals exact fin_same trivial rfl
theorem ref_Ceil_err (s : Bool) (ws : List Nat) (d : Int) (den : Int) (x : Dy) (h : Arg s ws d x) (hd : den < 0 ∨ 65536 < den) : CallOK Tryz.prog gl 118 [.agg [.v (.bool s), .sl 1 (u32s ws), .v (.int .i64 d)], .v (.int .i64 den)] (.tup [.agg [.v (.bool (sg (Dy.zero))), .sl 1 (u32s (ms (Dy.zero))), .v (.int .i64 (dn (Dy.zero)))], .v (.int .i64 3)]) := by
  refine call_ok (C := ⟨Tryz.prog, gl, ti, 18, false⟩) ti_ok mixed 3000 Tryz.call118 Tryz.func118 rfl Tryz.ntmps118 (by simp) byClL byCl ?_
  rw [Tryz.results118]
  have p1 := ref_Neg _ _ _ _ h
  have p2 := ref_Floor_err (sg x.neg) (ms x.neg) (dn x.neg) den hd
  have p3 := ref_Neg _ _ _ Dy.zero Arg.czero
  rw [neg_zero] at p3
  repeat' (first | (simp only [go_sem, Int.reduceAdd, Int.reduceEq, Int.reduceLE, Int.reduceLT, Int.reduceMul, Int.reduceNeg, Int.reducePow, Int.reduceSub, Int.reduceToNat, Nat.reduceAdd, Nat.reduceBEq, Nat.reduceEqDiff, Nat.reduceLT, Nat.reduceLeDiff, Nat.reduceMul, Nat.reducePow, Nat.reduceSub, reduceCtorEq, reduceIte, IntKind.bits.eq_def, ti, tin]) | (simp (disch := omega) only [w64, wu64, wu32, Nat.min_eq_left]) | (with_reducible first | refine callF_of (p1) ?_ | refine drawF_of (p1) ?_) | (with_reducible first | refine callF_of (p2) ?_ | refine drawF_of (p2) ?_) | (with_reducible first | refine callF_of (p3) ?_ | refine drawF_of (p3) ?_) | (refine after_lit ti_ok ?_) | (refine drawAfter_lit ti_ok ?_) | (refine drawEnd_of (by kernel_rfl) ?_) | ((first | refine cond_cases (fun hc => ?_) (fun hc => ?_) | refine guard_split (fun hc => ?_) (fun hc => ?_) | refine drawGuard_split (fun hc => ?_) (fun hc => ?_)) <;> first | (exfalso; simp only [dcT, dcF, bnT, bnF, bnU, bnV] at hc; omega) | (simp only [hc]; try simp only [dcT, dcF, bnT, bnF, bnU, bnV] at hc)) | (refine after_need (by omega) ?_) | (refine drawAfter_need (by omega) ?_))
  exact fin_same trivial rfl
theorem ref_CeilG (s : Bool) (ws : List Nat) (d : Int) (den : Nat) (x : Dy) (h : Arg s ws d x) (k : Nat) (g : Mg k x) (hk : k ≤ 1099511627775) (hd : den ≤ 65536) : CallOK Tryz.prog gl 118 [.agg [.v (.bool s), .sl 1 (u32s ws), .v (.int .i64 d)], .v (.int .i64 den)] (.tup [.agg [.v (.bool (sg (x.ceil den))), .sl 1 (u32s (ms (x.ceil den))), .v (.int .i64 (dn (x.ceil den)))], .v (.int .i64 0)]) := by
  refine call_ok (C := ⟨Tryz.prog, gl, ti, 18, false⟩) ti_ok mixed 3000 Tryz.call118 Tryz.func118 rfl Tryz.ntmps118 (by simp) byClL byCl ?_
  rw [Tryz.results118]
  have p1 := ref_Neg _ _ _ _ h
  have p2 := ref_Floor _ _ _ den _ h.neg_of hd
  have p3 := ref_Neg _ _ _ _ (Arg.of (g.neg.floor (den := den)) (by omega))
  unfold Dy.ceil
  repeat' (first | (simp only [go_sem, Int.reduceAdd, Int.reduceEq, Int.reduceLE, Int.reduceLT, Int.reduceMul, Int.reduceNeg, Int.reducePow, Int.reduceSub, Int.reduceToNat, Nat.reduceAdd, Nat.reduceBEq, Nat.reduceEqDiff, Nat.reduceLT, Nat.reduceLeDiff, Nat.reduceMul, Nat.reducePow, Nat.reduceSub, reduceCtorEq, reduceIte, IntKind.bits.eq_def, ti, tin]) | (simp (disch := omega) only [w64, wu64, wu32, Nat.min_eq_left]) | (with_reducible first | refine callF_of (p1) ?_ | refine drawF_of (p1) ?_) | (with_reducible first | refine callF_of (p2) ?_ | refine drawF_of (p2) ?_) | (with_reducible first | refine callF_of (p3) ?_ | refine drawF_of (p3) ?_) | (refine after_lit ti_ok ?_) | (refine drawAfter_lit ti_ok ?_) | (refine drawEnd_of (by kernel_rfl) ?_) | ((first | refine cond_cases (fun hc => ?_) (fun hc => ?_) | refine guard_split (fun hc => ?_) (fun hc => ?_) | refine drawGuard_split (fun hc => ?_) (fun hc => ?_)) <;> first | (exfalso; simp only [dcT, dcF, bnT, bnF, bnU, bnV] at hc; omega) | (simp only [hc]; try simp only [dcT, dcF, bnT, bnF, bnU, bnV] at hc)) | (refine after_need (by omega) ?_) | (refine drawAfter_need (by omega) ?_))
  exact fin_same trivial rfl
theorem ri_Round_err (s1 : Bool) (w1 : List Nat) (d1 : Int) (t1 : Bool) (u1 : List Nat) (e1 : Int) (x1 y1 : Dy) (a1 : Iv) (h1 : IArg s1 w1 d1 t1 u1 e1 x1 y1 a1) (den : Int) (hd : den < 0 ∨ 65536 < den) : CallOK Tryz.prog gl 71 [.agg [.v (.bool s1), .sl 1 (u32s w1), .v (.int .i64 d1), .v (.bool t1), .sl 1 (u32s u1), .v (.int .i64 e1)], .v (.int .i64 den)] (.tup [.agg [.v (.bool (sg (Iv.zero).lo)), .sl 1 (u32s (ms (Iv.zero).lo)), .v (.int .i64 (dn (Iv.zero).lo)), .v (.bool (sg (Iv.zero).hi)), .sl 1 (u32s (ms (Iv.zero).hi)), .v (.int .i64 (dn (Iv.zero).hi))], .v (.int .i64 3)]) := by
  refine call_ok (C := ⟨Tryz.prog, gl, ti, 33, false⟩) ti_ok mixed 3000 Tryz.call71 Tryz.func71 rfl Tryz.ntmps71 (by simp) byClL byCl ?_
  rw [Tryz.results71]
  have r1 := ri_Norm _ _ _ _ _ _ _ _ _ h1
  have p1 := ref_Floor_err (sg a1.lo) (ms a1.lo) (dn a1.lo) den hd
  have p2 := ref_Ceil_err (sg a1.hi) (ms a1.hi) (dn a1.hi) den _ h1.hi hd
  repeat' (first | (simp only [go_sem, Int.reduceAdd, Int.reduceEq, Int.reduceLE, Int.reduceLT, Int.reduceMul, Int.reduceNeg, Int.reducePow, Int.reduceSub, Int.reduceToNat, Nat.reduceAdd, Nat.reduceBEq, Nat.reduceEqDiff, Nat.reduceLT, Nat.reduceLeDiff, Nat.reduceMul, Nat.reducePow, Nat.reduceSub, reduceCtorEq, reduceIte, IntKind.bits.eq_def, ti, tin]) | (simp (disch := omega) only [w64, wu64, wu32, Nat.min_eq_left]) | (with_reducible first | refine callF_of (r1) ?_ | refine drawF_of (r1) ?_) | (with_reducible first | refine callF_of (p1) ?_ | refine drawF_of (p1) ?_) | (with_reducible first | refine callF_of (p2) ?_ | refine drawF_of (p2) ?_) | (refine after_lit ti_ok ?_) | (refine drawAfter_lit ti_ok ?_) | (refine drawEnd_of (by kernel_rfl) ?_) | ((first | refine cond_cases (fun hc => ?_) (fun hc => ?_) | refine guard_split (fun hc => ?_) (fun hc => ?_) | refine drawGuard_split (fun hc => ?_) (fun hc => ?_)) <;> first | (exfalso; simp only [dcT, dcF, bnT, bnF, bnU, bnV] at hc; omega) | (simp only [hc]; try simp only [dcT, dcF, bnT, bnF, bnU, bnV] at hc)) | (refine after_need (by omega) ?_) | (refine drawAfter_need (by omega) ?_))
  all_goals exact fin_le trivial (Le.tup (.cons Le.iv0 (.cons (.refl _) .nil)))
theorem ri_Round (s1 : Bool) (w1 : List Nat) (d1 : Int) (t1 : Bool) (u1 : List Nat) (e1 : Int) (x1 y1 : Dy) (a1 : Iv) (h1 : IArg s1 w1 d1 t1 u1 e1 x1 y1 a1) (den : Nat) (hd : den ≤ 65536) (k : Nat) (g : a1.Mg k) (hk : k ≤ 1099511627775) : CallOK Tryz.prog gl 71 [.agg [.v (.bool s1), .sl 1 (u32s w1), .v (.int .i64 d1), .v (.bool t1), .sl 1 (u32s u1), .v (.int .i64 e1)], .v (.int .i64 den)] (.tup [.agg [.v (.bool (sg (a1.lo.floor den))), .sl 1 (u32s (ms (a1.lo.floor den))), .v (.int .i64 (dn (a1.lo.floor den))), .v (.bool (sg (a1.hi.ceil den))), .sl 1 (u32s (ms (a1.hi.ceil den))), .v (.int .i64 (dn (a1.hi.ceil den)))], .v (.int .i64 0)]) := by
  refine call_ok (C := ⟨Tryz.prog, gl, ti, 33, false⟩) ti_ok mixed 3000 Tryz.call71 Tryz.func71 rfl Tryz.ntmps71 (by simp) byClL byCl ?_
  rw [Tryz.results71]
  have r1 := ri_Norm _ _ _ _ _ _ _ _ _ h1
  have p1 := ref_Floor _ _ _ den _ h1.lo hd
  have p2 := ref_CeilG _ _ _ den _ h1.hi k g.2 hk hd
  repeat' (first | (simp only [go_sem, Int.reduceAdd, Int.reduceEq, Int.reduceLE, Int.reduceLT, Int.reduceMul, Int.reduceNeg, Int.reducePow, Int.reduceSub, Int.reduceToNat, Nat.reduceAdd, Nat.reduceBEq, Nat.reduceEqDiff, Nat.reduceLT, Nat.reduceLeDiff, Nat.reduceMul, Nat.reducePow, Nat.reduceSub, reduceCtorEq, reduceIte, IntKind.bits.eq_def, ti, tin]) | (simp (disch := omega) only [w64, wu64, wu32, Nat.min_eq_left]) | (with_reducible first | refine callF_of (r1) ?_ | refine drawF_of (r1) ?_) | (with_reducible first | refine callF_of (p1) ?_ | refine drawF_of (p1) ?_) | (with_reducible first | refine callF_of (p2) ?_ | refine drawF_of (p2) ?_) | (refine after_lit ti_ok ?_) | (refine drawAfter_lit ti_ok ?_) | (refine drawEnd_of (by kernel_rfl) ?_) | ((first | refine cond_cases (fun hc => ?_) (fun hc => ?_) | refine guard_split (fun hc => ?_) (fun hc => ?_) | refine drawGuard_split (fun hc => ?_) (fun hc => ?_)) <;> first | (exfalso; simp only [dcT, dcF, bnT, bnF, bnU, bnV] at hc; omega) | (simp only [hc]; try simp only [dcT, dcF, bnT, bnF, bnU, bnV] at hc)) | (refine after_need (by omega) ?_) | (refine drawAfter_need (by omega) ?_))
  all_goals exact fin_same trivial rfl
theorem ri_Inside (s1 : Bool) (w1 : List Nat) (d1 : Int) (t1 : Bool) (u1 : List Nat) (e1 : Int) (x1 y1 : Dy) (a1 : Iv) (h1 : IArg s1 w1 d1 t1 u1 e1 x1 y1 a1) (s2 : Bool) (w2 : List Nat) (d2 : Int) (t2 : Bool) (u2 : List Nat) (e2 : Int) (x2 y2 : Dy) (a2 : Iv) (h2 : IArg s2 w2 d2 t2 u2 e2 x2 y2 a2) : CallOK Tryz.prog gl 60 [.agg [.v (.bool s1), .sl 1 (u32s w1), .v (.int .i64 d1), .v (.bool t1), .sl 1 (u32s u1), .v (.int .i64 e1)], .agg [.v (.bool s2), .sl 1 (u32s w2), .v (.int .i64 d2), .v (.bool t2), .sl 1 (u32s u2), .v (.int .i64 e2)]] (.v (.bool (a1.ins a2))) := by
  refine call_ok (C := ⟨Tryz.prog, gl, ti, 17, false⟩) ti_ok mixed 3000 Tryz.call60 Tryz.func60 rfl Tryz.ntmps60 (by simp) byClL byCl ?_
  rw [Tryz.results60]
  have r1 := ri_Norm _ _ _ _ _ _ _ _ _ h1
  have p1 := ri_Contains _ _ _ _ _ _ _ _ _ h2 _ _ _ _ h1.lo
  have p2 := ri_Contains _ _ _ _ _ _ _ _ _ h2 _ _ _ _ h1.hi
  rw [Iv.ins_ref]
  generalize a2.has a1.lo = m at *
  generalize a2.has a1.hi = n at *
  cases m
  ·
    repeat' (first | (simp only [go_sem, Int.reduceAdd, Int.reduceEq, Int.reduceLE, Int.reduceLT, Int.reduceMul, Int.reduceNeg, Int.reducePow, Int.reduceSub, Int.reduceToNat, Nat.reduceAdd, Nat.reduceBEq, Nat.reduceEqDiff, Nat.reduceLT, Nat.reduceLeDiff, Nat.reduceMul, Nat.reducePow, Nat.reduceSub, reduceCtorEq, reduceIte, IntKind.bits.eq_def, ti, tin]) | (simp (disch := omega) only [w64, wu64, wu32, Nat.min_eq_left]) | (with_reducible first | refine callF_of (r1) ?_ | refine drawF_of (r1) ?_) | (with_reducible first | refine callF_of (p1) ?_ | refine drawF_of (p1) ?_) | (with_reducible first | refine callF_of (p2) ?_ | refine drawF_of (p2) ?_) | (refine after_lit ti_ok ?_) | (refine drawAfter_lit ti_ok ?_) | (refine drawEnd_of (by kernel_rfl) ?_) | ((first | refine cond_cases (fun hc => ?_) (fun hc => ?_) | refine guard_split (fun hc => ?_) (fun hc => ?_) | refine drawGuard_split (fun hc => ?_) (fun hc => ?_)) <;> first | (exfalso; simp only [dcT, dcF, bnT, bnF, bnU, bnV] at hc; omega) | (simp only [hc]; try simp only [dcT, dcF, bnT, bnF, bnU, bnV] at hc)) | (refine after_need (by omega) ?_) | (refine drawAfter_need (by omega) ?_))
    all_goals exact fin_same trivial rfl
  ·
    repeat' (first | (simp only [go_sem, Int.reduceAdd, Int.reduceEq, Int.reduceLE, Int.reduceLT, Int.reduceMul, Int.reduceNeg, Int.reducePow, Int.reduceSub, Int.reduceToNat, Nat.reduceAdd, Nat.reduceBEq, Nat.reduceEqDiff, Nat.reduceLT, Nat.reduceLeDiff, Nat.reduceMul, Nat.reducePow, Nat.reduceSub, reduceCtorEq, reduceIte, IntKind.bits.eq_def, ti, tin]) | (simp (disch := omega) only [w64, wu64, wu32, Nat.min_eq_left]) | (with_reducible first | refine callF_of (r1) ?_ | refine drawF_of (r1) ?_) | (with_reducible first | refine callF_of (p1) ?_ | refine drawF_of (p1) ?_) | (with_reducible first | refine callF_of (p2) ?_ | refine drawF_of (p2) ?_) | (refine after_lit ti_ok ?_) | (refine drawAfter_lit ti_ok ?_) | (refine drawEnd_of (by kernel_rfl) ?_) | ((first | refine cond_cases (fun hc => ?_) (fun hc => ?_) | refine guard_split (fun hc => ?_) (fun hc => ?_) | refine drawGuard_split (fun hc => ?_) (fun hc => ?_)) <;> first | (exfalso; simp only [dcT, dcF, bnT, bnF, bnU, bnV] at hc; omega) | (simp only [hc]; try simp only [dcT, dcF, bnT, bnF, bnU, bnV] at hc)) | (refine after_need (by omega) ?_) | (refine drawAfter_need (by omega) ?_))
    all_goals exact fin_same trivial rfl
theorem ri_Width (s1 : Bool) (w1 : List Nat) (d1 : Int) (t1 : Bool) (u1 : List Nat) (e1 : Int) (x1 y1 : Dy) (a1 : Iv) (h1 : IArg s1 w1 d1 t1 u1 e1 x1 y1 a1) : CallOK Tryz.prog gl 55 [.agg [.v (.bool s1), .sl 1 (u32s w1), .v (.int .i64 d1), .v (.bool t1), .sl 1 (u32s u1), .v (.int .i64 e1)]] (.agg [.v (.bool (sg (a1.width))), .sl 1 (u32s (ms (a1.width))), .v (.int .i64 (dn (a1.width)))]) := by
  refine call_ok (C := ⟨Tryz.prog, gl, ti, 10, false⟩) ti_ok mixed 3000 Tryz.call55 Tryz.func55 rfl Tryz.ntmps55 (by simp) byClL byCl ?_
  rw [Tryz.results55]
  have r1 := ri_Norm _ _ _ _ _ _ _ _ _ h1
  have p1 := ref_Sub _ _ _ _ _ _ _ _ h1.hi h1.lo
  repeat' (first | (simp only [go_sem, Int.reduceAdd, Int.reduceEq, Int.reduceLE, Int.reduceLT, Int.reduceMul, Int.reduceNeg, Int.reducePow, Int.reduceSub, Int.reduceToNat, Nat.reduceAdd, Nat.reduceBEq, Nat.reduceEqDiff, Nat.reduceLT, Nat.reduceLeDiff, Nat.reduceMul, Nat.reducePow, Nat.reduceSub, reduceCtorEq, reduceIte, IntKind.bits.eq_def, ti, tin]) | (simp (disch := omega) only [w64, wu64, wu32, Nat.min_eq_left]) | (with_reducible first | refine callF_of (r1) ?_ | refine drawF_of (r1) ?_) | (with_reducible first | refine callF_of (p1) ?_ | refine drawF_of (p1) ?_) | (refine after_lit ti_ok ?_) | (refine drawAfter_lit ti_ok ?_) | (refine drawEnd_of (by kernel_rfl) ?_) | ((first | refine cond_cases (fun hc => ?_) (fun hc => ?_) | refine guard_split (fun hc => ?_) (fun hc => ?_) | refine drawGuard_split (fun hc => ?_) (fun hc => ?_)) <;> first | (exfalso; simp only [dcT, dcF, bnT, bnF, bnU, bnV] at hc; omega) | (simp only [hc]; try simp only [dcT, dcF, bnT, bnF, bnU, bnV] at hc)) | (refine after_need (by omega) ?_) | (refine drawAfter_need (by omega) ?_))
  exact fin_same trivial rfl
theorem ri_Mag (s1 : Bool) (w1 : List Nat) (d1 : Int) (t1 : Bool) (u1 : List Nat) (e1 : Int) (x1 y1 : Dy) (a1 : Iv) (h1 : IArg s1 w1 d1 t1 u1 e1 x1 y1 a1) : CallOK Tryz.prog gl 56 [.agg [.v (.bool s1), .sl 1 (u32s w1), .v (.int .i64 d1), .v (.bool t1), .sl 1 (u32s u1), .v (.int .i64 e1)]] (.agg [.v (.bool (sg (a1.mag))), .sl 1 (u32s (ms (a1.mag))), .v (.int .i64 (dn (a1.mag)))]) := by
  refine call_ok (C := ⟨Tryz.prog, gl, ti, 6, false⟩) ti_ok mixed 3000 Tryz.call56 Tryz.func56 rfl Tryz.ntmps56 (by simp) byClL byCl ?_
  rw [Tryz.results56]
  have p1 := ri_Abs _ _ _ _ _ _ _ _ _ h1
  repeat' (first | (simp only [go_sem, Int.reduceAdd, Int.reduceEq, Int.reduceLE, Int.reduceLT, Int.reduceMul, Int.reduceNeg, Int.reducePow, Int.reduceSub, Int.reduceToNat, Nat.reduceAdd, Nat.reduceBEq, Nat.reduceEqDiff, Nat.reduceLT, Nat.reduceLeDiff, Nat.reduceMul, Nat.reducePow, Nat.reduceSub, reduceCtorEq, reduceIte, IntKind.bits.eq_def, ti, tin]) | (simp (disch := omega) only [w64, wu64, wu32, Nat.min_eq_left]) | (with_reducible first | refine callF_of (p1) ?_ | refine drawF_of (p1) ?_) | (refine after_lit ti_ok ?_) | (refine drawAfter_lit ti_ok ?_) | (refine drawEnd_of (by kernel_rfl) ?_) | ((first | refine cond_cases (fun hc => ?_) (fun hc => ?_) | refine guard_split (fun hc => ?_) (fun hc => ?_) | refine drawGuard_split (fun hc => ?_) (fun hc => ?_)) <;> first | (exfalso; simp only [dcT, dcF, bnT, bnF, bnU, bnV] at hc; omega) | (simp only [hc]; try simp only [dcT, dcF, bnT, bnF, bnU, bnV] at hc)) | (refine after_need (by omega) ?_) | (refine drawAfter_need (by omega) ?_))
  exact fin_same trivial rfl
end Go.Proofs.YtkdpaoicekgalaaGreatDoor
