/- The statement IntervalValid: its code returns true. -/
import Derived.Test.YtkdpaoicekgalaaGreatDoorL03s
set_option linter.unusedSimpArgs false
set_option linter.unusedVariables false
set_option linter.deprecated false
namespace Go.Proofs.YtkdpaoicekgalaaGreatDoor
open Go Go.Ax
set_option maxRecDepth 100000
set_option maxHeartbeats 4000000

theorem valid_out (s1 : Bool) (w1 : List Nat) (d1 : Int) (t1 : Bool) (u1 : List Nat) (e1 : Int) (l1 : w1.length ≤ 9223372036854775807 ∧ u1.length ≤ 9223372036854775807) (s2 : Bool) (w2 : List Nat) (d2 : Int) (t2 : Bool) (u2 : List Nat) (e2 : Int) (l2 : w2.length ≤ 9223372036854775807 ∧ u2.length ≤ 9223372036854775807) (hf : ¬ (shI ⟨s1, w1, d1, t1, u1, e1⟩ ∧ shI ⟨s2, w2, d2, t2, u2, e2⟩)) : CallOK Tryz.prog gl 7 [.agg [.v (.bool s1), .sl 1 (u32s w1), .v (.int .i64 d1), .v (.bool t1), .sl 1 (u32s u1), .v (.int .i64 e1)], .agg [.v (.bool s2), .sl 1 (u32s w2), .v (.int .i64 d2), .v (.bool t2), .sl 1 (u32s u2), .v (.int .i64 e2)]] (.v (.bool (true))) := by
  refine call_ok (C := ⟨Tryz.prog, gl, ti, 152, false⟩) ti_ok mixed 3000 Tryz.call7 Tryz.func7 rfl Tryz.ntmps7 (by simp) byClL byCl ?_
  rw [Tryz.results7]
  have fw := few03_2 s1 w1 d1 t1 u1 e1 l1 s2 w2 d2 t2 u2 e2 l2
  rw [decide_eq_false hf] at fw
  clear hf
  repeat' (first | (simp only [go_sem, Int.reduceAdd, Int.reduceEq, Int.reduceLE, Int.reduceLT, Int.reduceMul, Int.reduceNeg, Int.reducePow, Int.reduceSub, Int.reduceToNat, Nat.reduceAdd, Nat.reduceBEq, Nat.reduceEqDiff, Nat.reduceLT, Nat.reduceLeDiff, Nat.reduceMul, Nat.reducePow, Nat.reduceSub, reduceCtorEq, reduceIte, IntKind.bits.eq_def, ti, tin]) | (simp (disch := omega) only [w64, wu64, wu32, Nat.min_eq_left]) | (with_reducible first | refine callF_of (fw) ?_ | refine drawF_of (fw) ?_) | (with_reducible first | refine callF_of (awake03) ?_ | refine drawF_of (awake03) ?_) | (refine after_lit ti_ok ?_) | (refine drawAfter_lit ti_ok ?_) | (refine drawEnd_of (by kernel_rfl) ?_) | ((first | refine cond_cases (fun hc => ?_) (fun hc => ?_) | refine guard_split (fun hc => ?_) (fun hc => ?_) | refine drawGuard_split (fun hc => ?_) (fun hc => ?_)) <;> first | (exfalso; simp only [dcT, dcF, bnT, bnF, bnU, bnV] at hc; omega) | (simp only [hc]; try simp only [dcT, dcF, bnT, bnF, bnU, bnV] at hc)) | (refine after_need (by omega) ?_) | (refine drawAfter_need (by omega) ?_))
  all_goals exact fin_same trivial rfl
theorem valid_bad (s1 : Bool) (w1 : List Nat) (d1 : Int) (t1 : Bool) (u1 : List Nat) (e1 : Int) (x1 y1 : Dy) (a1 : Iv) (h1 : IArg s1 w1 d1 t1 u1 e1 x1 y1 a1) (g1 : a1.Mg 256) (k1 : a1.Dn 200) (gx1 : Mg 256 x1) (gy1 : Mg 256 y1) (s2 : Bool) (w2 : List Nat) (d2 : Int) (t2 : Bool) (u2 : List Nat) (e2 : Int) (x2 y2 : Dy) (a2 : Iv) (h2 : IArg s2 w2 d2 t2 u2 e2 x2 y2 a2) (g2 : a2.Mg 256) (k2 : a2.Dn 200) (gx2 : Mg 256 x2) (gy2 : Mg 256 y2) (hf : shI ⟨s1, w1, d1, t1, u1, e1⟩ ∧ shI ⟨s2, w2, d2, t2, u2, e2⟩) (hlt : (a1.hi.min a2.hi).v < (a1.lo.max a2.lo).v) : CallOK Tryz.prog gl 7 [.agg [.v (.bool s1), .sl 1 (u32s w1), .v (.int .i64 d1), .v (.bool t1), .sl 1 (u32s u1), .v (.int .i64 e1)], .agg [.v (.bool s2), .sl 1 (u32s w2), .v (.int .i64 d2), .v (.bool t2), .sl 1 (u32s u2), .v (.int .i64 e2)]] (.v (.bool (true))) := by
  refine call_ok (C := ⟨Tryz.prog, gl, ti, 152, false⟩) ti_ok mixed 3000 Tryz.call7 Tryz.func7 rfl Tryz.ntmps7 (by simp) byClL byCl ?_
  rw [Tryz.results7]
  have fw := few03_2 s1 w1 d1 t1 u1 e1 ⟨by have := h1.px.len; omega, by have := h1.py.len; omega⟩ s2 w2 d2 t2 u2 e2 ⟨by have := h2.px.len; omega, by have := h2.py.len; omega⟩
  rw [decide_eq_true hf] at fw
  clear hf
  have r1 := ri_Norm _ _ _ _ _ _ _ _ _ h1
  have r2 := ri_Norm _ _ _ _ _ _ _ _ _ h2
  have v1 := iv_Valid _ _ _ _ _ _ _ _ _ h1
  have v2 := ri_Valid _ _ _ _ _ _ _ _ _ h1
  have v3 := iv_Valid _ _ _ _ _ _ _ _ _ h2
  have v4 := ri_Valid _ _ _ _ _ _ _ _ _ h2
  have a20 := iv_Neg _ _ _ _ _ _ _ _ _ h1
  have b20 := iv_Neg _ _ _ _ _ _ _ _ _ h1.can
  have c20 := ri_same g1.neg
  have a21 := iv_Abs _ _ _ _ _ _ _ _ _ h1
  have b21 := iv_Abs _ _ _ _ _ _ _ _ _ h1.can
  have c21 := ri_same g1.abs
  have a30 := iv_Add _ _ _ _ _ _ _ _ _ h1 _ _ _ _ _ _ _ _ _ h2
  have b30 := iv_Add _ _ _ _ _ _ _ _ _ h1.can _ _ _ _ _ _ _ _ _ h2.can
  have c30 := ri_same (g1.add g2)
  have a31 := iv_Sub _ _ _ _ _ _ _ _ _ h1 _ _ _ _ _ _ _ _ _ h2
  have b31 := iv_Sub _ _ _ _ _ _ _ _ _ h1.can _ _ _ _ _ _ _ _ _ h2.can
  have c31 := ri_same (g1.sub g2)
  have a32 := iv_Mul _ _ _ _ _ _ _ _ _ h1 _ _ _ _ _ _ _ _ _ h2 256 256 g1 g2 (by omega)
  have b32 := iv_Mul _ _ _ _ _ _ _ _ _ h1.can _ _ _ _ _ _ _ _ _ h2.can 256 256 g1 g2 (by omega)
  have c32 := ri_same (g1.mul g2)
  have a33 := iv_Min _ _ _ _ _ _ _ _ _ h1 _ _ _ _ _ _ _ _ _ h2
  have b33 := iv_Min _ _ _ _ _ _ _ _ _ h1.can _ _ _ _ _ _ _ _ _ h2.can
  have c33 := ri_same (g1.min g2)
  have a34 := iv_Max _ _ _ _ _ _ _ _ _ h1 _ _ _ _ _ _ _ _ _ h2
  have b34 := iv_Max _ _ _ _ _ _ _ _ _ h1.can _ _ _ _ _ _ _ _ _ h2.can
  have c34 := ri_same (g1.max g2)
  have a35 := iv_Hull _ _ _ _ _ _ _ _ _ h1 _ _ _ _ _ _ _ _ _ h2
  have b35 := iv_Hull _ _ _ _ _ _ _ _ _ h1.can _ _ _ _ _ _ _ _ _ h2.can
  have c35 := ri_same (g1.hull g2)
  have a40 := iv_Inside _ _ _ _ _ _ _ _ _ h1 _ _ _ _ _ _ _ _ _ h2
  have b40 := iv_Inside _ _ _ _ _ _ _ _ _ h1.can _ _ _ _ _ _ _ _ _ h2.can
  have a41 := iv_Text _ _ _ _ _ _ _ _ _ h1
  have b41 := iv_Text _ _ _ _ _ _ _ _ _ h1.can
  have a42 := iv_Mag _ _ _ _ _ _ _ _ _ h1
  have b42 := iv_Mag _ _ _ _ _ _ _ _ _ h1.can
  have c42 := same03 g1.abs.2
  have m1 := iv_Meet_err _ _ _ _ _ _ _ _ _ h1 _ _ _ _ _ _ _ _ _ h2 hlt
  have m2 := iv_Meet_err _ _ _ _ _ _ _ _ _ h1.can _ _ _ _ _ _ _ _ _ h2.can hlt
  have q4 := ri_same (Iv.Mg.zero 1)
  have n1 := base_Num 23
  clear hlt
  unfold Iv.mag at a42 b42
  generalize a1.add a2 = z50 at *
  generalize a1.sub a2 = z51 at *
  generalize a1.mul a2 = z52 at *
  generalize a1.min a2 = z53 at *
  generalize a1.max a2 = z54 at *
  generalize a1.hull a2 = z55 at *
  generalize a1.neg = z61 at *
  generalize a1.abs = z62 at *
  generalize a1.ins a2 = b1 at *
  generalize ivText a1 = z63 at *
  generalize decide (okI s1 w1 d1 t1 u1 e1 x1 y1) = b2 at *
  generalize decide (okI s2 w2 d2 t2 u2 e2 x2 y2) = b3 at *
  repeat' (first | (simp only [go_sem, Int.reduceAdd, Int.reduceEq, Int.reduceLE, Int.reduceLT, Int.reduceMul, Int.reduceNeg, Int.reducePow, Int.reduceSub, Int.reduceToNat, Nat.reduceAdd, Nat.reduceBEq, Nat.reduceEqDiff, Nat.reduceLT, Nat.reduceLeDiff, Nat.reduceMul, Nat.reducePow, Nat.reduceSub, reduceCtorEq, reduceIte, IntKind.bits.eq_def, ti, tin]) | (simp (disch := omega) only [w64, wu64, wu32, Nat.min_eq_left]) | (with_reducible first | refine callF_of (fw) ?_ | refine drawF_of (fw) ?_) | (with_reducible first | refine callF_of (awake03) ?_ | refine drawF_of (awake03) ?_) | (with_reducible first | refine callF_of (r1) ?_ | refine drawF_of (r1) ?_) | (with_reducible first | refine callF_of (r2) ?_ | refine drawF_of (r2) ?_) | (with_reducible first | refine callF_of (v1) ?_ | refine drawF_of (v1) ?_) | (with_reducible first | refine callF_of (v2) ?_ | refine drawF_of (v2) ?_) | (with_reducible first | refine callF_of (v3) ?_ | refine drawF_of (v3) ?_) | (with_reducible first | refine callF_of (v4) ?_ | refine drawF_of (v4) ?_) | (with_reducible first | refine callF_of (a20) ?_ | refine drawF_of (a20) ?_) | (with_reducible first | refine callF_of (b20) ?_ | refine drawF_of (b20) ?_) | (with_reducible first | refine callF_of (c20) ?_ | refine drawF_of (c20) ?_) | (with_reducible first | refine callF_of (a21) ?_ | refine drawF_of (a21) ?_) | (with_reducible first | refine callF_of (b21) ?_ | refine drawF_of (b21) ?_) | (with_reducible first | refine callF_of (c21) ?_ | refine drawF_of (c21) ?_) | (with_reducible first | refine callF_of (a30) ?_ | refine drawF_of (a30) ?_) | (with_reducible first | refine callF_of (b30) ?_ | refine drawF_of (b30) ?_) | (with_reducible first | refine callF_of (c30) ?_ | refine drawF_of (c30) ?_) | (with_reducible first | refine callF_of (a31) ?_ | refine drawF_of (a31) ?_) | (with_reducible first | refine callF_of (b31) ?_ | refine drawF_of (b31) ?_) | (with_reducible first | refine callF_of (c31) ?_ | refine drawF_of (c31) ?_) | (with_reducible first | refine callF_of (a32) ?_ | refine drawF_of (a32) ?_) | (with_reducible first | refine callF_of (b32) ?_ | refine drawF_of (b32) ?_) | (with_reducible first | refine callF_of (c32) ?_ | refine drawF_of (c32) ?_) | (with_reducible first | refine callF_of (a33) ?_ | refine drawF_of (a33) ?_) | (with_reducible first | refine callF_of (b33) ?_ | refine drawF_of (b33) ?_) | (with_reducible first | refine callF_of (c33) ?_ | refine drawF_of (c33) ?_) | (with_reducible first | refine callF_of (a34) ?_ | refine drawF_of (a34) ?_) | (with_reducible first | refine callF_of (b34) ?_ | refine drawF_of (b34) ?_) | (with_reducible first | refine callF_of (c34) ?_ | refine drawF_of (c34) ?_) | (with_reducible first | refine callF_of (a35) ?_ | refine drawF_of (a35) ?_) | (with_reducible first | refine callF_of (b35) ?_ | refine drawF_of (b35) ?_) | (with_reducible first | refine callF_of (c35) ?_ | refine drawF_of (c35) ?_) | (with_reducible first | refine callF_of (a40) ?_ | refine drawF_of (a40) ?_) | (with_reducible first | refine callF_of (b40) ?_ | refine drawF_of (b40) ?_) | (with_reducible first | refine callF_of (a41) ?_ | refine drawF_of (a41) ?_) | (with_reducible first | refine callF_of (b41) ?_ | refine drawF_of (b41) ?_) | (with_reducible first | refine callF_of (a42) ?_ | refine drawF_of (a42) ?_) | (with_reducible first | refine callF_of (b42) ?_ | refine drawF_of (b42) ?_) | (with_reducible first | refine callF_of (c42) ?_ | refine drawF_of (c42) ?_) | (with_reducible first | refine callF_of (m1) ?_ | refine drawF_of (m1) ?_) | (with_reducible first | refine callF_of (m2) ?_ | refine drawF_of (m2) ?_) | (with_reducible first | refine callF_of (q4) ?_ | refine drawF_of (q4) ?_) | (with_reducible first | refine callF_of (n1) ?_ | refine drawF_of (n1) ?_) | (refine after_lit ti_ok ?_) | (refine drawAfter_lit ti_ok ?_) | (refine drawEnd_of (by kernel_rfl) ?_) | ((first | refine cond_cases (fun hc => ?_) (fun hc => ?_) | refine guard_split (fun hc => ?_) (fun hc => ?_) | refine drawGuard_split (fun hc => ?_) (fun hc => ?_)) <;> first | (exfalso; simp only [dcT, dcF, bnT, bnF, bnU, bnV] at hc; omega) | (simp only [hc]; try simp only [dcT, dcF, bnT, bnF, bnU, bnV] at hc)) | (refine after_need (by omega) ?_) | (refine drawAfter_need (by omega) ?_))
  all_goals exact fin_same trivial rfl
theorem valid_ok (s1 : Bool) (w1 : List Nat) (d1 : Int) (t1 : Bool) (u1 : List Nat) (e1 : Int) (x1 y1 : Dy) (a1 : Iv) (h1 : IArg s1 w1 d1 t1 u1 e1 x1 y1 a1) (g1 : a1.Mg 256) (k1 : a1.Dn 200) (gx1 : Mg 256 x1) (gy1 : Mg 256 y1) (s2 : Bool) (w2 : List Nat) (d2 : Int) (t2 : Bool) (u2 : List Nat) (e2 : Int) (x2 y2 : Dy) (a2 : Iv) (h2 : IArg s2 w2 d2 t2 u2 e2 x2 y2 a2) (g2 : a2.Mg 256) (k2 : a2.Dn 200) (gx2 : Mg 256 x2) (gy2 : Mg 256 y2) (hf : shI ⟨s1, w1, d1, t1, u1, e1⟩ ∧ shI ⟨s2, w2, d2, t2, u2, e2⟩) (hle : (a1.lo.max a2.lo).v ≤ (a1.hi.min a2.hi).v) : CallOK Tryz.prog gl 7 [.agg [.v (.bool s1), .sl 1 (u32s w1), .v (.int .i64 d1), .v (.bool t1), .sl 1 (u32s u1), .v (.int .i64 e1)], .agg [.v (.bool s2), .sl 1 (u32s w2), .v (.int .i64 d2), .v (.bool t2), .sl 1 (u32s u2), .v (.int .i64 e2)]] (.v (.bool (true))) := by
  refine call_ok (C := ⟨Tryz.prog, gl, ti, 152, false⟩) ti_ok mixed 3000 Tryz.call7 Tryz.func7 rfl Tryz.ntmps7 (by simp) byClL byCl ?_
  rw [Tryz.results7]
  have fw := few03_2 s1 w1 d1 t1 u1 e1 ⟨by have := h1.px.len; omega, by have := h1.py.len; omega⟩ s2 w2 d2 t2 u2 e2 ⟨by have := h2.px.len; omega, by have := h2.py.len; omega⟩
  rw [decide_eq_true hf] at fw
  clear hf
  have r1 := ri_Norm _ _ _ _ _ _ _ _ _ h1
  have r2 := ri_Norm _ _ _ _ _ _ _ _ _ h2
  have v1 := iv_Valid _ _ _ _ _ _ _ _ _ h1
  have v2 := ri_Valid _ _ _ _ _ _ _ _ _ h1
  have v3 := iv_Valid _ _ _ _ _ _ _ _ _ h2
  have v4 := ri_Valid _ _ _ _ _ _ _ _ _ h2
  have a20 := iv_Neg _ _ _ _ _ _ _ _ _ h1
  have b20 := iv_Neg _ _ _ _ _ _ _ _ _ h1.can
  have c20 := ri_same g1.neg
  have a21 := iv_Abs _ _ _ _ _ _ _ _ _ h1
  have b21 := iv_Abs _ _ _ _ _ _ _ _ _ h1.can
  have c21 := ri_same g1.abs
  have a30 := iv_Add _ _ _ _ _ _ _ _ _ h1 _ _ _ _ _ _ _ _ _ h2
  have b30 := iv_Add _ _ _ _ _ _ _ _ _ h1.can _ _ _ _ _ _ _ _ _ h2.can
  have c30 := ri_same (g1.add g2)
  have a31 := iv_Sub _ _ _ _ _ _ _ _ _ h1 _ _ _ _ _ _ _ _ _ h2
  have b31 := iv_Sub _ _ _ _ _ _ _ _ _ h1.can _ _ _ _ _ _ _ _ _ h2.can
  have c31 := ri_same (g1.sub g2)
  have a32 := iv_Mul _ _ _ _ _ _ _ _ _ h1 _ _ _ _ _ _ _ _ _ h2 256 256 g1 g2 (by omega)
  have b32 := iv_Mul _ _ _ _ _ _ _ _ _ h1.can _ _ _ _ _ _ _ _ _ h2.can 256 256 g1 g2 (by omega)
  have c32 := ri_same (g1.mul g2)
  have a33 := iv_Min _ _ _ _ _ _ _ _ _ h1 _ _ _ _ _ _ _ _ _ h2
  have b33 := iv_Min _ _ _ _ _ _ _ _ _ h1.can _ _ _ _ _ _ _ _ _ h2.can
  have c33 := ri_same (g1.min g2)
  have a34 := iv_Max _ _ _ _ _ _ _ _ _ h1 _ _ _ _ _ _ _ _ _ h2
  have b34 := iv_Max _ _ _ _ _ _ _ _ _ h1.can _ _ _ _ _ _ _ _ _ h2.can
  have c34 := ri_same (g1.max g2)
  have a35 := iv_Hull _ _ _ _ _ _ _ _ _ h1 _ _ _ _ _ _ _ _ _ h2
  have b35 := iv_Hull _ _ _ _ _ _ _ _ _ h1.can _ _ _ _ _ _ _ _ _ h2.can
  have c35 := ri_same (g1.hull g2)
  have a40 := iv_Inside _ _ _ _ _ _ _ _ _ h1 _ _ _ _ _ _ _ _ _ h2
  have b40 := iv_Inside _ _ _ _ _ _ _ _ _ h1.can _ _ _ _ _ _ _ _ _ h2.can
  have a41 := iv_Text _ _ _ _ _ _ _ _ _ h1
  have b41 := iv_Text _ _ _ _ _ _ _ _ _ h1.can
  have a42 := iv_Mag _ _ _ _ _ _ _ _ _ h1
  have b42 := iv_Mag _ _ _ _ _ _ _ _ _ h1.can
  have c42 := same03 g1.abs.2
  have m1 := iv_Meet _ _ _ _ _ _ _ _ _ h1 _ _ _ _ _ _ _ _ _ h2 hle
  have m2 := iv_Meet _ _ _ _ _ _ _ _ _ h1.can _ _ _ _ _ _ _ _ _ h2.can hle
  have q4 := ri_same (a := a1.meet a2 hle) (k := 256) ⟨g1.1.max g2.1, g1.2.min g2.2⟩
  unfold Iv.meet at q4
  dsimp only at q4
  have n1 := base_Num_nil
  clear hle
  unfold Iv.mag at a42 b42
  generalize a1.lo.max a2.lo = z70 at *
  generalize a1.hi.min a2.hi = z71 at *
  generalize a1.add a2 = z50 at *
  generalize a1.sub a2 = z51 at *
  generalize a1.mul a2 = z52 at *
  generalize a1.min a2 = z53 at *
  generalize a1.max a2 = z54 at *
  generalize a1.hull a2 = z55 at *
  generalize a1.neg = z61 at *
  generalize a1.abs = z62 at *
  generalize a1.ins a2 = b1 at *
  generalize ivText a1 = z63 at *
  generalize decide (okI s1 w1 d1 t1 u1 e1 x1 y1) = b2 at *
  generalize decide (okI s2 w2 d2 t2 u2 e2 x2 y2) = b3 at *
  repeat' (first | (simp only [go_sem, Int.reduceAdd, Int.reduceEq, Int.reduceLE, Int.reduceLT, Int.reduceMul, Int.reduceNeg, Int.reducePow, Int.reduceSub, Int.reduceToNat, Nat.reduceAdd, Nat.reduceBEq, Nat.reduceEqDiff, Nat.reduceLT, Nat.reduceLeDiff, Nat.reduceMul, Nat.reducePow, Nat.reduceSub, reduceCtorEq, reduceIte, IntKind.bits.eq_def, ti, tin]) | (simp (disch := omega) only [w64, wu64, wu32, Nat.min_eq_left]) | (with_reducible first | refine callF_of (fw) ?_ | refine drawF_of (fw) ?_) | (with_reducible first | refine callF_of (awake03) ?_ | refine drawF_of (awake03) ?_) | (with_reducible first | refine callF_of (r1) ?_ | refine drawF_of (r1) ?_) | (with_reducible first | refine callF_of (r2) ?_ | refine drawF_of (r2) ?_) | (with_reducible first | refine callF_of (v1) ?_ | refine drawF_of (v1) ?_) | (with_reducible first | refine callF_of (v2) ?_ | refine drawF_of (v2) ?_) | (with_reducible first | refine callF_of (v3) ?_ | refine drawF_of (v3) ?_) | (with_reducible first | refine callF_of (v4) ?_ | refine drawF_of (v4) ?_) | (with_reducible first | refine callF_of (a20) ?_ | refine drawF_of (a20) ?_) | (with_reducible first | refine callF_of (b20) ?_ | refine drawF_of (b20) ?_) | (with_reducible first | refine callF_of (c20) ?_ | refine drawF_of (c20) ?_) | (with_reducible first | refine callF_of (a21) ?_ | refine drawF_of (a21) ?_) | (with_reducible first | refine callF_of (b21) ?_ | refine drawF_of (b21) ?_) | (with_reducible first | refine callF_of (c21) ?_ | refine drawF_of (c21) ?_) | (with_reducible first | refine callF_of (a30) ?_ | refine drawF_of (a30) ?_) | (with_reducible first | refine callF_of (b30) ?_ | refine drawF_of (b30) ?_) | (with_reducible first | refine callF_of (c30) ?_ | refine drawF_of (c30) ?_) | (with_reducible first | refine callF_of (a31) ?_ | refine drawF_of (a31) ?_) | (with_reducible first | refine callF_of (b31) ?_ | refine drawF_of (b31) ?_) | (with_reducible first | refine callF_of (c31) ?_ | refine drawF_of (c31) ?_) | (with_reducible first | refine callF_of (a32) ?_ | refine drawF_of (a32) ?_) | (with_reducible first | refine callF_of (b32) ?_ | refine drawF_of (b32) ?_) | (with_reducible first | refine callF_of (c32) ?_ | refine drawF_of (c32) ?_) | (with_reducible first | refine callF_of (a33) ?_ | refine drawF_of (a33) ?_) | (with_reducible first | refine callF_of (b33) ?_ | refine drawF_of (b33) ?_) | (with_reducible first | refine callF_of (c33) ?_ | refine drawF_of (c33) ?_) | (with_reducible first | refine callF_of (a34) ?_ | refine drawF_of (a34) ?_) | (with_reducible first | refine callF_of (b34) ?_ | refine drawF_of (b34) ?_) | (with_reducible first | refine callF_of (c34) ?_ | refine drawF_of (c34) ?_) | (with_reducible first | refine callF_of (a35) ?_ | refine drawF_of (a35) ?_) | (with_reducible first | refine callF_of (b35) ?_ | refine drawF_of (b35) ?_) | (with_reducible first | refine callF_of (c35) ?_ | refine drawF_of (c35) ?_) | (with_reducible first | refine callF_of (a40) ?_ | refine drawF_of (a40) ?_) | (with_reducible first | refine callF_of (b40) ?_ | refine drawF_of (b40) ?_) | (with_reducible first | refine callF_of (a41) ?_ | refine drawF_of (a41) ?_) | (with_reducible first | refine callF_of (b41) ?_ | refine drawF_of (b41) ?_) | (with_reducible first | refine callF_of (a42) ?_ | refine drawF_of (a42) ?_) | (with_reducible first | refine callF_of (b42) ?_ | refine drawF_of (b42) ?_) | (with_reducible first | refine callF_of (c42) ?_ | refine drawF_of (c42) ?_) | (with_reducible first | refine callF_of (m1) ?_ | refine drawF_of (m1) ?_) | (with_reducible first | refine callF_of (m2) ?_ | refine drawF_of (m2) ?_) | (with_reducible first | refine callF_of (q4) ?_ | refine drawF_of (q4) ?_) | (with_reducible first | refine callF_of (n1) ?_ | refine drawF_of (n1) ?_) | (refine after_lit ti_ok ?_) | (refine drawAfter_lit ti_ok ?_) | (refine drawEnd_of (by kernel_rfl) ?_) | ((first | refine cond_cases (fun hc => ?_) (fun hc => ?_) | refine guard_split (fun hc => ?_) (fun hc => ?_) | refine drawGuard_split (fun hc => ?_) (fun hc => ?_)) <;> first | (exfalso; simp only [dcT, dcF, bnT, bnF, bnU, bnV] at hc; omega) | (simp only [hc]; try simp only [dcT, dcF, bnT, bnF, bnU, bnV] at hc)) | (refine after_need (by omega) ?_) | (refine drawAfter_need (by omega) ?_))
  all_goals exact fin_same trivial rfl
theorem valid_law (s1 : Bool) (w1 : List (List AV)) (d1 : Int) (t1 : Bool) (u1 : List (List AV)) (e1 : Int) (s2 : Bool) (w2 : List (List AV)) (d2 : Int) (t2 : Bool) (u2 : List (List AV)) (e2 : Int) (m1 : w1.length ≤ maxLen) (f1 : ∀ x ∈ w1, FitL [.int .u32] x) (n1 : u1.length ≤ maxLen) (g1 : ∀ x ∈ u1, FitL [.int .u32] x) (m2 : w2.length ≤ maxLen) (f2 : ∀ x ∈ w2, FitL [.int .u32] x) (n2 : u2.length ≤ maxLen) (g2 : ∀ x ∈ u2, FitL [.int .u32] x) : CallOK Tryz.prog gl 7 [.agg [.v (.bool s1), .sl 1 w1, .v (.int .i64 d1), .v (.bool t1), .sl 1 u1, .v (.int .i64 e1)], .agg [.v (.bool s2), .sl 1 w2, .v (.int .i64 d2), .v (.bool t2), .sl 1 u2, .v (.int .i64 e2)]] (.v (.bool true)) := by
  unfold maxLen at *
  obtain ⟨w1, W1, rfl, z1⟩ := fit_u32s f1
  obtain ⟨u1, U1, rfl, y1⟩ := fit_u32s g1
  obtain ⟨w2, W2, rfl, z2⟩ := fit_u32s f2
  obtain ⟨u2, U2, rfl, y2⟩ := fit_u32s g2
  by_cases hf : shI ⟨s1, w1, d1, t1, u1, e1⟩ ∧ shI ⟨s2, w2, d2, t2, u2, e2⟩
  ·
    obtain ⟨x1, y1, a1, h1, g1, k1, p1, q1⟩ := sh_iarg W1 U1 hf.1
    obtain ⟨x2, y2, a2, h2, g2, k2, p2, q2⟩ := sh_iarg W2 U2 hf.2
    by_cases hle : (a1.lo.max a2.lo).v ≤ (a1.hi.min a2.hi).v
    · exact valid_ok _ _ _ _ _ _ _ _ _ h1 g1 k1 p1 q1 _ _ _ _ _ _ _ _ _ h2 g2 k2 p2 q2 hf hle
    · exact valid_bad _ _ _ _ _ _ _ _ _ h1 g1 k1 p1 q1 _ _ _ _ _ _ _ _ _ h2 g2 k2 p2 q2 hf (by grind)
  · exact valid_out s1 w1 d1 t1 u1 e1 ⟨by omega, by omega⟩ s2 w2 d2 t2 u2 e2 ⟨by omega, by omega⟩ hf
end Go.Proofs.YtkdpaoicekgalaaGreatDoor
