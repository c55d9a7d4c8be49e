/- The statement IntervalMonotone: its code returns true. -/
import Derived.Test.YtkdpaoicekgalaaGreatDoorL03p
set_option linter.unusedSimpArgs false
set_option linter.unusedVariables false
set_option linter.deprecated false
namespace Go.Proofs.YtkdpaoicekgalaaGreatDoor
open Go Go.Ax
set_option maxRecDepth 100000
set_option maxHeartbeats 4000000

theorem monotone_out (s1 : Bool) (w1 : List Nat) (d1 : Int) (t1 : Bool) (u1 : List Nat) (e1 : Int) (l1 : w1.length ≤ 9223372036854775807 ∧ u1.length ≤ 9223372036854775807) (s2 : Bool) (w2 : List Nat) (d2 : Int) (t2 : Bool) (u2 : List Nat) (e2 : Int) (l2 : w2.length ≤ 9223372036854775807 ∧ u2.length ≤ 9223372036854775807) (i1 : Int) (hi1 : 0 ≤ i1 ∧ i1 ≤ 255) (i2 : Int) (hi2 : 0 ≤ i2 ∧ i2 ≤ 255) (i3 : Int) (hi3 : 0 ≤ i3 ∧ i3 ≤ 255) (i4 : Int) (hi4 : 0 ≤ i4 ∧ i4 ≤ 255) (hf : ¬ (shI ⟨s1, w1, d1, t1, u1, e1⟩ ∧ shI ⟨s2, w2, d2, t2, u2, e2⟩)) : CallOK Tryz.prog gl 6 [.agg [.v (.bool s1), .sl 1 (u32s w1), .v (.int .i64 d1), .v (.bool t1), .sl 1 (u32s u1), .v (.int .i64 e1)], .agg [.v (.bool s2), .sl 1 (u32s w2), .v (.int .i64 d2), .v (.bool t2), .sl 1 (u32s u2), .v (.int .i64 e2)], .agg [.v (.int .u8 i1), .v (.int .u8 i2), .v (.int .u8 i3), .v (.int .u8 i4)]] (.v (.bool (true))) := by
  refine call_ok (C := ⟨Tryz.prog, gl, ti, 150, false⟩) ti_ok mixed 3000 Tryz.call6 Tryz.func6 rfl Tryz.ntmps6 (by simp) byClL byCl ?_
  rw [Tryz.results6]
  have fw := few03_2 s1 w1 d1 t1 u1 e1 l1 s2 w2 d2 t2 u2 e2 l2
  rw [decide_eq_false hf] at fw
  clear hf
  repeat' (first | (simp only [go_sem, Int.reduceAdd, Int.reduceEq, Int.reduceLE, Int.reduceLT, Int.reduceMul, Int.reduceNeg, Int.reducePow, Int.reduceSub, Int.reduceToNat, Nat.reduceAdd, Nat.reduceBEq, Nat.reduceEqDiff, Nat.reduceLT, Nat.reduceLeDiff, Nat.reduceMul, Nat.reducePow, Nat.reduceSub, reduceCtorEq, reduceIte, IntKind.bits.eq_def, ti, tin]) | (simp (disch := omega) only [w64, wu64, wu32, Nat.min_eq_left]) | (with_reducible first | refine callF_of (fw) ?_ | refine drawF_of (fw) ?_) | (with_reducible first | refine callF_of (awake03) ?_ | refine drawF_of (awake03) ?_) | (refine after_lit ti_ok ?_) | (refine drawAfter_lit ti_ok ?_) | (refine drawEnd_of (by kernel_rfl) ?_) | ((first | refine cond_cases (fun hc => ?_) (fun hc => ?_) | refine guard_split (fun hc => ?_) (fun hc => ?_) | refine drawGuard_split (fun hc => ?_) (fun hc => ?_)) <;> first | (exfalso; simp only [dcT, dcF, bnT, bnF, bnU, bnV] at hc; omega) | (simp only [hc]; try simp only [dcT, dcF, bnT, bnF, bnU, bnV] at hc)) | (refine after_need (by omega) ?_) | (refine drawAfter_need (by omega) ?_))
  all_goals exact fin_same trivial rfl
theorem monotone_in (s1 : Bool) (w1 : List Nat) (d1 : Int) (t1 : Bool) (u1 : List Nat) (e1 : Int) (x1 y1 : Dy) (a1 : Iv) (h1 : IArg s1 w1 d1 t1 u1 e1 x1 y1 a1) (g1 : a1.Mg 256) (k1 : a1.Dn 200) (gx1 : Mg 256 x1) (gy1 : Mg 256 y1) (s2 : Bool) (w2 : List Nat) (d2 : Int) (t2 : Bool) (u2 : List Nat) (e2 : Int) (x2 y2 : Dy) (a2 : Iv) (h2 : IArg s2 w2 d2 t2 u2 e2 x2 y2 a2) (g2 : a2.Mg 256) (k2 : a2.Dn 200) (gx2 : Mg 256 x2) (gy2 : Mg 256 y2) (i1 : Int) (hi1 : 0 ≤ i1 ∧ i1 ≤ 255) (i2 : Int) (hi2 : 0 ≤ i2 ∧ i2 ≤ 255) (i3 : Int) (hi3 : 0 ≤ i3 ∧ i3 ≤ 255) (i4 : Int) (hi4 : 0 ≤ i4 ∧ i4 ≤ 255) (hf : shI ⟨s1, w1, d1, t1, u1, e1⟩ ∧ shI ⟨s2, w2, d2, t2, u2, e2⟩) : CallOK Tryz.prog gl 6 [.agg [.v (.bool s1), .sl 1 (u32s w1), .v (.int .i64 d1), .v (.bool t1), .sl 1 (u32s u1), .v (.int .i64 e1)], .agg [.v (.bool s2), .sl 1 (u32s w2), .v (.int .i64 d2), .v (.bool t2), .sl 1 (u32s u2), .v (.int .i64 e2)], .agg [.v (.int .u8 i1), .v (.int .u8 i2), .v (.int .u8 i3), .v (.int .u8 i4)]] (.v (.bool (true))) := by
  refine call_ok (C := ⟨Tryz.prog, gl, ti, 150, false⟩) ti_ok mixed 3000 Tryz.call6 Tryz.func6 rfl Tryz.ntmps6 (by simp) byClL byCl ?_
  rw [Tryz.results6]
  have fw := few03_2 s1 w1 d1 t1 u1 e1 ⟨by have := h1.px.len; omega, by have := h1.py.len; omega⟩ s2 w2 d2 t2 u2 e2 ⟨by have := h2.px.len; omega, by have := h2.py.len; omega⟩
  rw [decide_eq_true hf] at fw
  clear hf
  have e10 := pick_mg (i := (i1 % 17).toNat) g1 (by omega) (by omega)
  have n10 := pick_on (i := (i1 % 17).toNat) k1 (by omega) (by omega)
  have m10 := pick_dn (i := (i1 % 17).toNat) k1 (by omega)
  have q10 := pick03 _ _ _ _ _ _ _ _ _ h1 (g1.mono (by omega)) i1 hi1
  generalize pickD a1 (i1 % 17).toNat = v1 at *
  have ar1 := Arg.of e10 (by omega)
  have e20 := pick_mg (i := (i2 % 17).toNat) g1 (by omega) (by omega)
  have n20 := pick_on (i := (i2 % 17).toNat) k1 (by omega) (by omega)
  have m20 := pick_dn (i := (i2 % 17).toNat) k1 (by omega)
  have q20 := pick03 _ _ _ _ _ _ _ _ _ h1 (g1.mono (by omega)) i2 hi2
  generalize pickD a1 (i2 % 17).toNat = v2 at *
  have ar2 := Arg.of e20 (by omega)
  have e30 := pick_mg (i := (i3 % 17).toNat) g2 (by omega) (by omega)
  have n30 := pick_on (i := (i3 % 17).toNat) k2 (by omega) (by omega)
  have m30 := pick_dn (i := (i3 % 17).toNat) k2 (by omega)
  have q30 := pick03 _ _ _ _ _ _ _ _ _ h2 (g2.mono (by omega)) i3 hi3
  generalize pickD a2 (i3 % 17).toNat = v3 at *
  have ar3 := Arg.of e30 (by omega)
  have e40 := pick_mg (i := (i4 % 17).toNat) g2 (by omega) (by omega)
  have n40 := pick_on (i := (i4 % 17).toNat) k2 (by omega) (by omega)
  have m40 := pick_dn (i := (i4 % 17).toNat) k2 (by omega)
  have q40 := pick03 _ _ _ _ _ _ _ _ _ h2 (g2.mono (by omega)) i4 hi4
  generalize pickD a2 (i4 % 17).toNat = v4 at *
  have ar4 := Arg.of e40 (by omega)
  have f11 := Min_ok _ _ _ _ _ _ _ _ ar1 ar2
  have f12 := Max_ok _ _ _ _ _ _ _ _ ar1 ar2
  have f13 := iv_Make _ _ _ _ (ar1.cmin ar2) _ _ _ _ (ar1.cmax ar2) (min_le_max v1 v2)
  have on1 := sp2_on n10 n20
  have mg1 := Iv.Mg.sp2 e10 e20
  have dd1 : (Iv.sp2 v1 v2).Dn 204 := ⟨by show (v1.min v2).d ≤ _; unfold Dy.min; split <;> omega, by show (v1.max v2).d ≤ _; unfold Dy.max; split <;> omega⟩
  have ex1 : (Iv.sp2 v1 v2).lo = v1.min v2 := rfl
  have ey1 : (Iv.sp2 v1 v2).hi = v1.max v2 := rfl
  rw [← ex1, ← ey1] at f13
  rw [← ex1] at f11
  rw [← ey1] at f12
  clear ex1 ey1
  generalize Iv.sp2 v1 v2 = b1 at *
  have f21 := Min_ok _ _ _ _ _ _ _ _ ar3 ar4
  have f22 := Max_ok _ _ _ _ _ _ _ _ ar3 ar4
  have f23 := iv_Make _ _ _ _ (ar3.cmin ar4) _ _ _ _ (ar3.cmax ar4) (min_le_max v3 v4)
  have on2 := sp2_on n30 n40
  have mg2 := Iv.Mg.sp2 e30 e40
  have dd2 : (Iv.sp2 v3 v4).Dn 204 := ⟨by show (v3.min v4).d ≤ _; unfold Dy.min; split <;> omega, by show (v3.max v4).d ≤ _; unfold Dy.max; split <;> omega⟩
  have ex2 : (Iv.sp2 v3 v4).lo = v3.min v4 := rfl
  have ey2 : (Iv.sp2 v3 v4).hi = v3.max v4 := rfl
  rw [← ex2, ← ey2] at f23
  rw [← ex2] at f21
  rw [← ey2] at f22
  clear ex2 ey2
  generalize Iv.sp2 v3 v4 = b2 at *
  have j1 := iv_Inside _ _ _ _ _ _ _ _ _ (IArg.of mg1) _ _ _ _ _ _ _ _ _ h1
  rw [Iv.ins_on on1.1 on1.2] at j1
  have j2 := iv_Inside _ _ _ _ _ _ _ _ _ (IArg.of mg2) _ _ _ _ _ _ _ _ _ h2
  rw [Iv.ins_on on2.1 on2.2] at j2
  have a30 := iv_Add _ _ _ _ _ _ _ _ _ h1 _ _ _ _ _ _ _ _ _ h2
  have b30 := iv_Add _ _ _ _ _ _ _ _ _ (IArg.of mg1) _ _ _ _ _ _ _ _ _ (IArg.of mg2)
  have c30 := iv_Inside _ _ _ _ _ _ _ _ _ (IArg.of (mg1.add mg2)) _ _ _ _ _ _ _ _ _ (IArg.of (g1.add g2))
  rw [add_ins on1.1 on1.2 on2.1 on2.2] at c30
  have a31 := iv_Sub _ _ _ _ _ _ _ _ _ h1 _ _ _ _ _ _ _ _ _ h2
  have b31 := iv_Sub _ _ _ _ _ _ _ _ _ (IArg.of mg1) _ _ _ _ _ _ _ _ _ (IArg.of mg2)
  have c31 := iv_Inside _ _ _ _ _ _ _ _ _ (IArg.of (mg1.sub mg2)) _ _ _ _ _ _ _ _ _ (IArg.of (g1.sub g2))
  rw [sub_ins on1.1 on1.2 on2.1 on2.2] at c31
  have a32 := iv_Mul _ _ _ _ _ _ _ _ _ h1 _ _ _ _ _ _ _ _ _ h2 256 256 g1 g2 (by omega)
  have b32 := iv_Mul _ _ _ _ _ _ _ _ _ (IArg.of mg1) _ _ _ _ _ _ _ _ _ (IArg.of mg2) 263 263 mg1 mg2 (by omega)
  have c32 := iv_Inside _ _ _ _ _ _ _ _ _ (IArg.of (mg1.mul mg2)) _ _ _ _ _ _ _ _ _ (IArg.of (g1.mul g2))
  rw [mul_ins (by omega) on1.1 on1.2 on2.1 on2.2 (k := 204) ⟨by have := k1.1; omega, by have := k1.2; omega⟩ ⟨by have := k2.1; omega, by have := k2.2; omega⟩ dd1 dd2] at c32
  have a33 := iv_Min _ _ _ _ _ _ _ _ _ h1 _ _ _ _ _ _ _ _ _ h2
  have b33 := iv_Min _ _ _ _ _ _ _ _ _ (IArg.of mg1) _ _ _ _ _ _ _ _ _ (IArg.of mg2)
  have c33 := iv_Inside _ _ _ _ _ _ _ _ _ (IArg.of (mg1.min mg2)) _ _ _ _ _ _ _ _ _ (IArg.of (g1.min g2))
  rw [min_ins on1.1 on1.2 on2.1 on2.2] at c33
  have a34 := iv_Max _ _ _ _ _ _ _ _ _ h1 _ _ _ _ _ _ _ _ _ h2
  have b34 := iv_Max _ _ _ _ _ _ _ _ _ (IArg.of mg1) _ _ _ _ _ _ _ _ _ (IArg.of mg2)
  have c34 := iv_Inside _ _ _ _ _ _ _ _ _ (IArg.of (mg1.max mg2)) _ _ _ _ _ _ _ _ _ (IArg.of (g1.max g2))
  rw [max_ins on1.1 on1.2 on2.1 on2.2] at c34
  have a35 := iv_Hull _ _ _ _ _ _ _ _ _ h1 _ _ _ _ _ _ _ _ _ h2
  have b35 := iv_Hull _ _ _ _ _ _ _ _ _ (IArg.of mg1) _ _ _ _ _ _ _ _ _ (IArg.of mg2)
  have c35 := iv_Inside _ _ _ _ _ _ _ _ _ (IArg.of (mg1.hull mg2)) _ _ _ _ _ _ _ _ _ (IArg.of (g1.hull g2))
  rw [hull_ins on1.1 on1.2 on2.1 on2.2] at c35
  have a40 := iv_Abs _ _ _ _ _ _ _ _ _ h1
  have b40 := iv_Abs _ _ _ _ _ _ _ _ _ (IArg.of mg1)
  have c40 := iv_Inside _ _ _ _ _ _ _ _ _ (IArg.of mg1.abs) _ _ _ _ _ _ _ _ _ (IArg.of g1.abs)
  rw [abs_ins on1.1 on1.2] at c40
  have a41 := iv_Width _ _ _ _ _ _ _ _ _ h1
  have b41 := iv_Width _ _ _ _ _ _ _ _ _ (IArg.of mg1)
  have c41 := Cmp_ok _ _ _ _ _ _ _ _ (Arg.of (mg1.2.sub mg1.1) (by omega)) (Arg.of (g1.2.sub g1.1) (by omega))
  have l41 := width_le on1.1 on1.2
  unfold Iv.width at a41 b41 l41
  clear e10 e20 e30 e40 n10 n20 n30 n40 m10 m20 m30 m40 on1 on2 mg1 mg2 dd1 dd2 ar1 ar2 ar3 ar4 g1 g2 k1 k2 gx1 gx2 gy1 gy2
  generalize (b1.hi.sub b1.lo).cmp (a1.hi.sub a1.lo) = n at *
  generalize a1.add a2 = z50 at *
  generalize a1.sub a2 = z51 at *
  generalize a1.mul a2 = z52 at *
  generalize a1.min a2 = z53 at *
  generalize a1.max a2 = z54 at *
  generalize a1.hull a2 = z55 at *
  generalize b1.add b2 = z60 at *
  generalize b1.sub b2 = z61 at *
  generalize b1.mul b2 = z62 at *
  generalize b1.min b2 = z63 at *
  generalize b1.max b2 = z64 at *
  generalize b1.hull b2 = z65 at *
  generalize a1.abs = z70 at *
  generalize b1.abs = z71 at *
  generalize b1.hi.sub b1.lo = z72 at *
  generalize a1.hi.sub a1.lo = z73 at *
  repeat' (first | (simp only [go_sem, Int.reduceAdd, Int.reduceEq, Int.reduceLE, Int.reduceLT, Int.reduceMul, Int.reduceNeg, Int.reducePow, Int.reduceSub, Int.reduceToNat, Nat.reduceAdd, Nat.reduceBEq, Nat.reduceEqDiff, Nat.reduceLT, Nat.reduceLeDiff, Nat.reduceMul, Nat.reducePow, Nat.reduceSub, reduceCtorEq, reduceIte, IntKind.bits.eq_def, ti, tin]) | (simp (disch := omega) only [w64, wu64, wu32, Nat.min_eq_left]) | (with_reducible first | refine callF_of (fw) ?_ | refine drawF_of (fw) ?_) | (with_reducible first | refine callF_of (awake03) ?_ | refine drawF_of (awake03) ?_) | (with_reducible first | refine callF_of (q10) ?_ | refine drawF_of (q10) ?_) | (with_reducible first | refine callF_of (q20) ?_ | refine drawF_of (q20) ?_) | (with_reducible first | refine callF_of (q30) ?_ | refine drawF_of (q30) ?_) | (with_reducible first | refine callF_of (q40) ?_ | refine drawF_of (q40) ?_) | (with_reducible first | refine callF_of (f11) ?_ | refine drawF_of (f11) ?_) | (with_reducible first | refine callF_of (f12) ?_ | refine drawF_of (f12) ?_) | (with_reducible first | refine callF_of (f13) ?_ | refine drawF_of (f13) ?_) | (with_reducible first | refine callF_of (f21) ?_ | refine drawF_of (f21) ?_) | (with_reducible first | refine callF_of (f22) ?_ | refine drawF_of (f22) ?_) | (with_reducible first | refine callF_of (f23) ?_ | refine drawF_of (f23) ?_) | (with_reducible first | refine callF_of (j1) ?_ | refine drawF_of (j1) ?_) | (with_reducible first | refine callF_of (j2) ?_ | refine drawF_of (j2) ?_) | (with_reducible first | refine callF_of (a30) ?_ | refine drawF_of (a30) ?_) | (with_reducible first | refine callF_of (b30) ?_ | refine drawF_of (b30) ?_) | (with_reducible first | refine callF_of (c30) ?_ | refine drawF_of (c30) ?_) | (with_reducible first | refine callF_of (a31) ?_ | refine drawF_of (a31) ?_) | (with_reducible first | refine callF_of (b31) ?_ | refine drawF_of (b31) ?_) | (with_reducible first | refine callF_of (c31) ?_ | refine drawF_of (c31) ?_) | (with_reducible first | refine callF_of (a32) ?_ | refine drawF_of (a32) ?_) | (with_reducible first | refine callF_of (b32) ?_ | refine drawF_of (b32) ?_) | (with_reducible first | refine callF_of (c32) ?_ | refine drawF_of (c32) ?_) | (with_reducible first | refine callF_of (a33) ?_ | refine drawF_of (a33) ?_) | (with_reducible first | refine callF_of (b33) ?_ | refine drawF_of (b33) ?_) | (with_reducible first | refine callF_of (c33) ?_ | refine drawF_of (c33) ?_) | (with_reducible first | refine callF_of (a34) ?_ | refine drawF_of (a34) ?_) | (with_reducible first | refine callF_of (b34) ?_ | refine drawF_of (b34) ?_) | (with_reducible first | refine callF_of (c34) ?_ | refine drawF_of (c34) ?_) | (with_reducible first | refine callF_of (a35) ?_ | refine drawF_of (a35) ?_) | (with_reducible first | refine callF_of (b35) ?_ | refine drawF_of (b35) ?_) | (with_reducible first | refine callF_of (c35) ?_ | refine drawF_of (c35) ?_) | (with_reducible first | refine callF_of (a40) ?_ | refine drawF_of (a40) ?_) | (with_reducible first | refine callF_of (b40) ?_ | refine drawF_of (b40) ?_) | (with_reducible first | refine callF_of (c40) ?_ | refine drawF_of (c40) ?_) | (with_reducible first | refine callF_of (a41) ?_ | refine drawF_of (a41) ?_) | (with_reducible first | refine callF_of (b41) ?_ | refine drawF_of (b41) ?_) | (with_reducible first | refine callF_of (c41) ?_ | refine drawF_of (c41) ?_) | (refine after_lit ti_ok ?_) | (refine drawAfter_lit ti_ok ?_) | (refine drawEnd_of (by kernel_rfl) ?_) | ((first | refine cond_cases (fun hc => ?_) (fun hc => ?_) | refine guard_split (fun hc => ?_) (fun hc => ?_) | refine drawGuard_split (fun hc => ?_) (fun hc => ?_)) <;> first | (exfalso; simp only [dcT, dcF, bnT, bnF, bnU, bnV] at hc; omega) | (simp only [hc]; try simp only [dcT, dcF, bnT, bnF, bnU, bnV] at hc)) | (refine after_need (by omega) ?_) | (refine drawAfter_need (by omega) ?_))
  all_goals first | exact fin_same trivial rfl | (refine fin_same trivial ?_; simp only [one, List.map_cons, List.map_nil]; rw [decide_eq_true l41])
theorem monotone_law (s1 : Bool) (w1 : List (List AV)) (d1 : Int) (t1 : Bool) (u1 : List (List AV)) (e1 : Int) (s2 : Bool) (w2 : List (List AV)) (d2 : Int) (t2 : Bool) (u2 : List (List AV)) (e2 : Int) (i1 : Int) (hi1 : 0 ≤ i1 ∧ i1 ≤ 255) (i2 : Int) (hi2 : 0 ≤ i2 ∧ i2 ≤ 255) (i3 : Int) (hi3 : 0 ≤ i3 ∧ i3 ≤ 255) (i4 : Int) (hi4 : 0 ≤ i4 ∧ i4 ≤ 255) (m1 : w1.length ≤ maxLen) (f1 : ∀ x ∈ w1, FitL [.int .u32] x) (n1 : u1.length ≤ maxLen) (g1 : ∀ x ∈ u1, FitL [.int .u32] x) (m2 : w2.length ≤ maxLen) (f2 : ∀ x ∈ w2, FitL [.int .u32] x) (n2 : u2.length ≤ maxLen) (g2 : ∀ x ∈ u2, FitL [.int .u32] x) : CallOK Tryz.prog gl 6 [.agg [.v (.bool s1), .sl 1 w1, .v (.int .i64 d1), .v (.bool t1), .sl 1 u1, .v (.int .i64 e1)], .agg [.v (.bool s2), .sl 1 w2, .v (.int .i64 d2), .v (.bool t2), .sl 1 u2, .v (.int .i64 e2)], .agg [.v (.int .u8 i1), .v (.int .u8 i2), .v (.int .u8 i3), .v (.int .u8 i4)]] (.v (.bool true)) := by
  unfold maxLen at *
  obtain ⟨w1, W1, rfl, z1⟩ := fit_u32s f1
  obtain ⟨u1, U1, rfl, y1⟩ := fit_u32s g1
  obtain ⟨w2, W2, rfl, z2⟩ := fit_u32s f2
  obtain ⟨u2, U2, rfl, y2⟩ := fit_u32s g2
  by_cases hf : shI ⟨s1, w1, d1, t1, u1, e1⟩ ∧ shI ⟨s2, w2, d2, t2, u2, e2⟩
  ·
    obtain ⟨x1, y1, a1, h1, g1, k1, p1, q1⟩ := sh_iarg W1 U1 hf.1
    obtain ⟨x2, y2, a2, h2, g2, k2, p2, q2⟩ := sh_iarg W2 U2 hf.2
    exact monotone_in _ _ _ _ _ _ _ _ _ h1 g1 k1 p1 q1 _ _ _ _ _ _ _ _ _ h2 g2 k2 p2 q2 i1 hi1 i2 hi2 i3 hi3 i4 hi4 hf
  · exact monotone_out s1 w1 d1 t1 u1 e1 ⟨by omega, by omega⟩ s2 w2 d2 t2 u2 e2 ⟨by omega, by omega⟩ i1 hi1 i2 hi2 i3 hi3 i4 hi4 hf
end Go.Proofs.YtkdpaoicekgalaaGreatDoor
