/- The statement IntervalBounds: its code returns true. -/
import Derived.Test.YtkdpaoicekgalaaDoorL03i
set_option linter.unusedSimpArgs false
set_option linter.unusedVariables false
set_option linter.deprecated false
namespace Go.Proofs.YtkdpaoicekgalaaDoor
open Go Go.Ax
set_option maxRecDepth 100000
set_option maxHeartbeats 4000000

theorem bounds_out (s1 : Bool) (w1 : List Nat) (d1 : Int) (t1 : Bool) (u1 : List Nat) (e1 : Int) (l1 : w1.length ≤ 9223372036854775807 ∧ u1.length ≤ 9223372036854775807) (s2 : Bool) (w2 : List Nat) (d2 : Int) (t2 : Bool) (u2 : List Nat) (e2 : Int) (l2 : w2.length ≤ 9223372036854775807 ∧ u2.length ≤ 9223372036854775807) (s3 : Bool) (w3 : List Nat) (d3 : Int) (t3 : Bool) (u3 : List Nat) (e3 : Int) (l3 : w3.length ≤ 9223372036854775807 ∧ u3.length ≤ 9223372036854775807) (hf : ¬ (shI ⟨s1, w1, d1, t1, u1, e1⟩ ∧ shI ⟨s2, w2, d2, t2, u2, e2⟩ ∧ shI ⟨s3, w3, d3, t3, u3, e3⟩)) : CallOK Tryd.prog gl 3 [.agg [.v (.bool s1), .sl 1 (u32s w1), .v (.int .i64 d1), .v (.bool t1), .sl 1 (u32s u1), .v (.int .i64 e1)], .agg [.v (.bool s2), .sl 1 (u32s w2), .v (.int .i64 d2), .v (.bool t2), .sl 1 (u32s u2), .v (.int .i64 e2)], .agg [.v (.bool s3), .sl 1 (u32s w3), .v (.int .i64 d3), .v (.bool t3), .sl 1 (u32s u3), .v (.int .i64 e3)]] (.v (.bool (true))) := by
  refine call_ok (C := ⟨Tryd.prog, gl, ti, 106, false⟩) ti_ok mixed 3000 Tryd.call3 Tryd.func3 rfl Tryd.ntmps3 (by simp) byClL byCl ?_
  rw [Tryd.results3]
  have fw := few03_3 s1 w1 d1 t1 u1 e1 l1 s2 w2 d2 t2 u2 e2 l2 s3 w3 d3 t3 u3 e3 l3
  rw [decide_eq_false hf] at fw
  clear hf
  repeat' (first
    | (simp only [go_sem, Int.reduceAdd, Int.reduceEq, Int.reduceLE, Int.reduceLT, Int.reduceMul, Int.reduceNeg, Int.reducePow, Int.reduceSub, Int.reduceToNat, Nat.reduceAdd, Nat.reduceBEq, Nat.reduceEqDiff, Nat.reduceLT, Nat.reduceLeDiff, Nat.reduceMul, Nat.reducePow, Nat.reduceSub, reduceCtorEq, reduceIte, IntKind.bits.eq_def, ti, tin])
    | (simp (disch := omega) only [w64, wu64, wu32, Nat.min_eq_left])
    | (with_reducible refine callF_of (fw) ?_)
    | (with_reducible refine drawF_of (fw) ?_)
    | (with_reducible refine callF_of (awake03) ?_)
    | (with_reducible refine drawF_of (awake03) ?_)
    | (refine after_lit ti_ok ?_)
    | (refine drawAfter_lit ti_ok ?_)
    | (refine drawEnd_of (by kernel_rfl) ?_)
    | ((first | refine cond_cases (fun hc => ?_) (fun hc => ?_) | refine guard_split (fun hc => ?_) (fun hc => ?_) | refine drawGuard_split (fun hc => ?_) (fun hc => ?_)) <;> first | (exfalso; simp only [decide_eq_true_eq, decide_eq_false_iff_not, Bool.not_eq_true, Bool.not_eq_false, Bool.not_eq_true', Bool.not_eq_false'] at hc; omega) | (simp only [hc]; try simp only [decide_eq_true_eq, decide_eq_false_iff_not, Bool.not_eq_true, Bool.not_eq_false, Bool.not_eq_true', Bool.not_eq_false'] at hc))
    | (refine after_need (by omega) ?_)
    | (refine drawAfter_need (by omega) ?_))
  all_goals exact fin_same trivial rfl
theorem bounds_bad (s1 : Bool) (w1 : List Nat) (d1 : Int) (t1 : Bool) (u1 : List Nat) (e1 : Int) (x1 y1 : Dy) (a1 : Iv) (h1 : IArg s1 w1 d1 t1 u1 e1 x1 y1 a1) (g1 : a1.Mg 256) (k1 : a1.Dn 200) (gx1 : Mg 256 x1) (gy1 : Mg 256 y1) (s2 : Bool) (w2 : List Nat) (d2 : Int) (t2 : Bool) (u2 : List Nat) (e2 : Int) (x2 y2 : Dy) (a2 : Iv) (h2 : IArg s2 w2 d2 t2 u2 e2 x2 y2 a2) (g2 : a2.Mg 256) (k2 : a2.Dn 200) (gx2 : Mg 256 x2) (gy2 : Mg 256 y2) (s3 : Bool) (w3 : List Nat) (d3 : Int) (t3 : Bool) (u3 : List Nat) (e3 : Int) (x3 y3 : Dy) (a3 : Iv) (h3 : IArg s3 w3 d3 t3 u3 e3 x3 y3 a3) (g3 : a3.Mg 256) (k3 : a3.Dn 200) (gx3 : Mg 256 x3) (gy3 : Mg 256 y3) (hf : shI ⟨s1, w1, d1, t1, u1, e1⟩ ∧ shI ⟨s2, w2, d2, t2, u2, e2⟩ ∧ shI ⟨s3, w3, d3, t3, u3, e3⟩) (hm : (a1.hi.min a2.hi).v < (a1.lo.max a2.lo).v) : CallOK Tryd.prog gl 3 [.agg [.v (.bool s1), .sl 1 (u32s w1), .v (.int .i64 d1), .v (.bool t1), .sl 1 (u32s u1), .v (.int .i64 e1)], .agg [.v (.bool s2), .sl 1 (u32s w2), .v (.int .i64 d2), .v (.bool t2), .sl 1 (u32s u2), .v (.int .i64 e2)], .agg [.v (.bool s3), .sl 1 (u32s w3), .v (.int .i64 d3), .v (.bool t3), .sl 1 (u32s u3), .v (.int .i64 e3)]] (.v (.bool (true))) := by
  refine call_ok (C := ⟨Tryd.prog, gl, ti, 106, false⟩) ti_ok mixed 3000 Tryd.call3 Tryd.func3 rfl Tryd.ntmps3 (by simp) byClL byCl ?_
  rw [Tryd.results3]
  have fw := few03_3 s1 w1 d1 t1 u1 e1 ⟨by have := h1.px.len; omega, by have := h1.py.len; omega⟩ s2 w2 d2 t2 u2 e2 ⟨by have := h2.px.len; omega, by have := h2.py.len; omega⟩ s3 w3 d3 t3 u3 e3 ⟨by have := h3.px.len; omega, by have := h3.py.len; omega⟩
  rw [decide_eq_true hf] at fw
  clear hf
  have hu := iv_Hull _ _ _ _ _ _ _ _ _ h1 _ _ _ _ _ _ _ _ _ h2
  have gh := g1.hull g2
  have i1 := iv_Inside _ _ _ _ _ _ _ _ _ h1 _ _ _ _ _ _ _ _ _ (IArg.of gh)
  rw [hull_ins_l] at i1
  have i2 := iv_Inside _ _ _ _ _ _ _ _ _ h2 _ _ _ _ _ _ _ _ _ (IArg.of gh)
  rw [hull_ins_r] at i2
  have i3 := iv_Inside _ _ _ _ _ _ _ _ _ h1 _ _ _ _ _ _ _ _ _ h3
  have i4 := iv_Inside _ _ _ _ _ _ _ _ _ h2 _ _ _ _ _ _ _ _ _ h3
  have i5 := iv_Inside _ _ _ _ _ _ _ _ _ (IArg.of gh) _ _ _ _ _ _ _ _ _ h3
  have hl : a1.ins a3 = true → a2.ins a3 = (a1.hull a2).ins a3 := hull_least
  have r1 := ri_Norm _ _ _ _ _ _ _ _ _ h1
  have r2 := ri_Norm _ _ _ _ _ _ _ _ _ h2
  have c1 := Cmp_ok _ _ _ _ _ _ _ _ h1.hi h2.lo
  have c2 := Cmp_ok _ _ _ _ _ _ _ _ h2.hi h1.lo
  have ap := apart_iff a1 a2
  rw [← cmp_lt, ← cmp_lt] at ap
  have i6 := iv_Inside _ _ _ _ _ _ _ _ _ h3 _ _ _ _ _ _ _ _ _ h1
  have i7 := iv_Inside _ _ _ _ _ _ _ _ _ h3 _ _ _ _ _ _ _ _ _ h2
  have m1 := iv_Meet_err _ _ _ _ _ _ _ _ _ h1 _ _ _ _ _ _ _ _ _ h2 hm
  have ap := ap.2 (by grind)
  have n3 := base_Is 23 23
  clear hm gh
  generalize a1.hi.cmp a2.lo = n1 at *
  generalize a2.hi.cmp a1.lo = n2 at *
  generalize a1.ins a3 = b3 at *
  generalize a2.ins a3 = b4 at *
  generalize (a1.hull a2).ins a3 = b5 at *
  generalize a3.ins a1 = b6 at *
  generalize a3.ins a2 = b7 at *
  generalize a1.hull a2 = z1 at *
  cases b3
  ·
    clear hl
    repeat' (first
      | (simp only [go_sem, Int.reduceAdd, Int.reduceEq, Int.reduceLE, Int.reduceLT, Int.reduceMul, Int.reduceNeg, Int.reducePow, Int.reduceSub, Int.reduceToNat, Nat.reduceAdd, Nat.reduceBEq, Nat.reduceEqDiff, Nat.reduceLT, Nat.reduceLeDiff, Nat.reduceMul, Nat.reducePow, Nat.reduceSub, reduceCtorEq, reduceIte, IntKind.bits.eq_def, ti, tin])
      | (simp (disch := omega) only [w64, wu64, wu32, Nat.min_eq_left])
      | (with_reducible refine callF_of (fw) ?_)
      | (with_reducible refine drawF_of (fw) ?_)
      | (with_reducible refine callF_of (awake03) ?_)
      | (with_reducible refine drawF_of (awake03) ?_)
      | (with_reducible refine callF_of (hu) ?_)
      | (with_reducible refine drawF_of (hu) ?_)
      | (with_reducible refine callF_of (i1) ?_)
      | (with_reducible refine drawF_of (i1) ?_)
      | (with_reducible refine callF_of (i2) ?_)
      | (with_reducible refine drawF_of (i2) ?_)
      | (with_reducible refine callF_of (i3) ?_)
      | (with_reducible refine drawF_of (i3) ?_)
      | (with_reducible refine callF_of (i4) ?_)
      | (with_reducible refine drawF_of (i4) ?_)
      | (with_reducible refine callF_of (i5) ?_)
      | (with_reducible refine drawF_of (i5) ?_)
      | (with_reducible refine callF_of (r1) ?_)
      | (with_reducible refine drawF_of (r1) ?_)
      | (with_reducible refine callF_of (r2) ?_)
      | (with_reducible refine drawF_of (r2) ?_)
      | (with_reducible refine callF_of (c1) ?_)
      | (with_reducible refine drawF_of (c1) ?_)
      | (with_reducible refine callF_of (c2) ?_)
      | (with_reducible refine drawF_of (c2) ?_)
      | (with_reducible refine callF_of (i6) ?_)
      | (with_reducible refine drawF_of (i6) ?_)
      | (with_reducible refine callF_of (i7) ?_)
      | (with_reducible refine drawF_of (i7) ?_)
      | (with_reducible refine callF_of (m1) ?_)
      | (with_reducible refine drawF_of (m1) ?_)
      | (with_reducible refine callF_of (n3) ?_)
      | (with_reducible refine drawF_of (n3) ?_)
      | (refine after_lit ti_ok ?_)
      | (refine drawAfter_lit ti_ok ?_)
      | (refine drawEnd_of (by kernel_rfl) ?_)
      | ((first | refine cond_cases (fun hc => ?_) (fun hc => ?_) | refine guard_split (fun hc => ?_) (fun hc => ?_) | refine drawGuard_split (fun hc => ?_) (fun hc => ?_)) <;> first | (exfalso; simp only [decide_eq_true_eq, decide_eq_false_iff_not, Bool.not_eq_true, Bool.not_eq_false, Bool.not_eq_true', Bool.not_eq_false'] at hc; omega) | (simp only [hc]; try simp only [decide_eq_true_eq, decide_eq_false_iff_not, Bool.not_eq_true, Bool.not_eq_false, Bool.not_eq_true', Bool.not_eq_false'] at hc))
      | (refine after_need (by omega) ?_)
      | (refine drawAfter_need (by omega) ?_))
    all_goals exact fin_same trivial rfl
  ·
    have hl := hl rfl
    subst hl
    repeat' (first
      | (simp only [go_sem, Int.reduceAdd, Int.reduceEq, Int.reduceLE, Int.reduceLT, Int.reduceMul, Int.reduceNeg, Int.reducePow, Int.reduceSub, Int.reduceToNat, Nat.reduceAdd, Nat.reduceBEq, Nat.reduceEqDiff, Nat.reduceLT, Nat.reduceLeDiff, Nat.reduceMul, Nat.reducePow, Nat.reduceSub, reduceCtorEq, reduceIte, IntKind.bits.eq_def, ti, tin])
      | (simp (disch := omega) only [w64, wu64, wu32, Nat.min_eq_left])
      | (with_reducible refine callF_of (fw) ?_)
      | (with_reducible refine drawF_of (fw) ?_)
      | (with_reducible refine callF_of (awake03) ?_)
      | (with_reducible refine drawF_of (awake03) ?_)
      | (with_reducible refine callF_of (hu) ?_)
      | (with_reducible refine drawF_of (hu) ?_)
      | (with_reducible refine callF_of (i1) ?_)
      | (with_reducible refine drawF_of (i1) ?_)
      | (with_reducible refine callF_of (i2) ?_)
      | (with_reducible refine drawF_of (i2) ?_)
      | (with_reducible refine callF_of (i3) ?_)
      | (with_reducible refine drawF_of (i3) ?_)
      | (with_reducible refine callF_of (i4) ?_)
      | (with_reducible refine drawF_of (i4) ?_)
      | (with_reducible refine callF_of (i5) ?_)
      | (with_reducible refine drawF_of (i5) ?_)
      | (with_reducible refine callF_of (r1) ?_)
      | (with_reducible refine drawF_of (r1) ?_)
      | (with_reducible refine callF_of (r2) ?_)
      | (with_reducible refine drawF_of (r2) ?_)
      | (with_reducible refine callF_of (c1) ?_)
      | (with_reducible refine drawF_of (c1) ?_)
      | (with_reducible refine callF_of (c2) ?_)
      | (with_reducible refine drawF_of (c2) ?_)
      | (with_reducible refine callF_of (i6) ?_)
      | (with_reducible refine drawF_of (i6) ?_)
      | (with_reducible refine callF_of (i7) ?_)
      | (with_reducible refine drawF_of (i7) ?_)
      | (with_reducible refine callF_of (m1) ?_)
      | (with_reducible refine drawF_of (m1) ?_)
      | (with_reducible refine callF_of (n3) ?_)
      | (with_reducible refine drawF_of (n3) ?_)
      | (refine after_lit ti_ok ?_)
      | (refine drawAfter_lit ti_ok ?_)
      | (refine drawEnd_of (by kernel_rfl) ?_)
      | ((first | refine cond_cases (fun hc => ?_) (fun hc => ?_) | refine guard_split (fun hc => ?_) (fun hc => ?_) | refine drawGuard_split (fun hc => ?_) (fun hc => ?_)) <;> first | (exfalso; simp only [decide_eq_true_eq, decide_eq_false_iff_not, Bool.not_eq_true, Bool.not_eq_false, Bool.not_eq_true', Bool.not_eq_false'] at hc; omega) | (simp only [hc]; try simp only [decide_eq_true_eq, decide_eq_false_iff_not, Bool.not_eq_true, Bool.not_eq_false, Bool.not_eq_true', Bool.not_eq_false'] at hc))
      | (refine after_need (by omega) ?_)
      | (refine drawAfter_need (by omega) ?_))
    all_goals exact fin_same trivial rfl
theorem bounds_ok (s1 : Bool) (w1 : List Nat) (d1 : Int) (t1 : Bool) (u1 : List Nat) (e1 : Int) (x1 y1 : Dy) (a1 : Iv) (h1 : IArg s1 w1 d1 t1 u1 e1 x1 y1 a1) (g1 : a1.Mg 256) (k1 : a1.Dn 200) (gx1 : Mg 256 x1) (gy1 : Mg 256 y1) (s2 : Bool) (w2 : List Nat) (d2 : Int) (t2 : Bool) (u2 : List Nat) (e2 : Int) (x2 y2 : Dy) (a2 : Iv) (h2 : IArg s2 w2 d2 t2 u2 e2 x2 y2 a2) (g2 : a2.Mg 256) (k2 : a2.Dn 200) (gx2 : Mg 256 x2) (gy2 : Mg 256 y2) (s3 : Bool) (w3 : List Nat) (d3 : Int) (t3 : Bool) (u3 : List Nat) (e3 : Int) (x3 y3 : Dy) (a3 : Iv) (h3 : IArg s3 w3 d3 t3 u3 e3 x3 y3 a3) (g3 : a3.Mg 256) (k3 : a3.Dn 200) (gx3 : Mg 256 x3) (gy3 : Mg 256 y3) (hf : shI ⟨s1, w1, d1, t1, u1, e1⟩ ∧ shI ⟨s2, w2, d2, t2, u2, e2⟩ ∧ shI ⟨s3, w3, d3, t3, u3, e3⟩) (hm : (a1.lo.max a2.lo).v ≤ (a1.hi.min a2.hi).v) : CallOK Tryd.prog gl 3 [.agg [.v (.bool s1), .sl 1 (u32s w1), .v (.int .i64 d1), .v (.bool t1), .sl 1 (u32s u1), .v (.int .i64 e1)], .agg [.v (.bool s2), .sl 1 (u32s w2), .v (.int .i64 d2), .v (.bool t2), .sl 1 (u32s u2), .v (.int .i64 e2)], .agg [.v (.bool s3), .sl 1 (u32s w3), .v (.int .i64 d3), .v (.bool t3), .sl 1 (u32s u3), .v (.int .i64 e3)]] (.v (.bool (true))) := by
  refine call_ok (C := ⟨Tryd.prog, gl, ti, 106, false⟩) ti_ok mixed 3000 Tryd.call3 Tryd.func3 rfl Tryd.ntmps3 (by simp) byClL byCl ?_
  rw [Tryd.results3]
  have fw := few03_3 s1 w1 d1 t1 u1 e1 ⟨by have := h1.px.len; omega, by have := h1.py.len; omega⟩ s2 w2 d2 t2 u2 e2 ⟨by have := h2.px.len; omega, by have := h2.py.len; omega⟩ s3 w3 d3 t3 u3 e3 ⟨by have := h3.px.len; omega, by have := h3.py.len; omega⟩
  rw [decide_eq_true hf] at fw
  clear hf
  have hu := iv_Hull _ _ _ _ _ _ _ _ _ h1 _ _ _ _ _ _ _ _ _ h2
  have gh := g1.hull g2
  have i1 := iv_Inside _ _ _ _ _ _ _ _ _ h1 _ _ _ _ _ _ _ _ _ (IArg.of gh)
  rw [hull_ins_l] at i1
  have i2 := iv_Inside _ _ _ _ _ _ _ _ _ h2 _ _ _ _ _ _ _ _ _ (IArg.of gh)
  rw [hull_ins_r] at i2
  have i3 := iv_Inside _ _ _ _ _ _ _ _ _ h1 _ _ _ _ _ _ _ _ _ h3
  have i4 := iv_Inside _ _ _ _ _ _ _ _ _ h2 _ _ _ _ _ _ _ _ _ h3
  have i5 := iv_Inside _ _ _ _ _ _ _ _ _ (IArg.of gh) _ _ _ _ _ _ _ _ _ h3
  have hl : a1.ins a3 = true → a2.ins a3 = (a1.hull a2).ins a3 := hull_least
  have r1 := ri_Norm _ _ _ _ _ _ _ _ _ h1
  have r2 := ri_Norm _ _ _ _ _ _ _ _ _ h2
  have c1 := Cmp_ok _ _ _ _ _ _ _ _ h1.hi h2.lo
  have c2 := Cmp_ok _ _ _ _ _ _ _ _ h2.hi h1.lo
  have ap := apart_iff a1 a2
  rw [← cmp_lt, ← cmp_lt] at ap
  have i6 := iv_Inside _ _ _ _ _ _ _ _ _ h3 _ _ _ _ _ _ _ _ _ h1
  have i7 := iv_Inside _ _ _ _ _ _ _ _ _ h3 _ _ _ _ _ _ _ _ _ h2
  have m1 := iv_Meet _ _ _ _ _ _ _ _ _ h1 _ _ _ _ _ _ _ _ _ h2 hm
  have ap : ¬ _ := fun h => ap.1 h hm
  have n3 := base_Is_nil 23
  have gm : (a1.meet a2 hm).Mg 256 := ⟨g1.1.max g2.1, g1.2.min g2.2⟩
  have i8 := iv_Inside _ _ _ _ _ _ _ _ _ (IArg.of gm) _ _ _ _ _ _ _ _ _ h1
  rw [meet_ins_l hm] at i8
  have i9 := iv_Inside _ _ _ _ _ _ _ _ _ (IArg.of gm) _ _ _ _ _ _ _ _ _ h2
  rw [meet_ins_r hm] at i9
  have i10 := iv_Inside _ _ _ _ _ _ _ _ _ h3 _ _ _ _ _ _ _ _ _ (IArg.of gm)
  rw [← meet_most hm] at i10
  unfold Iv.meet at i8 i9 i10
  dsimp only at i8 i9 i10
  clear gm hm gh
  generalize a1.hi.cmp a2.lo = n1 at *
  generalize a2.hi.cmp a1.lo = n2 at *
  generalize a1.ins a3 = b3 at *
  generalize a2.ins a3 = b4 at *
  generalize (a1.hull a2).ins a3 = b5 at *
  generalize a3.ins a1 = b6 at *
  generalize a3.ins a2 = b7 at *
  generalize a1.hull a2 = z1 at *
  generalize a1.lo.max a2.lo = z2 at *
  generalize a1.hi.min a2.hi = z3 at *
  cases b3
  ·
    clear hl
    cases b6
    ·
      repeat' (first
        | (simp only [go_sem, Int.reduceAdd, Int.reduceEq, Int.reduceLE, Int.reduceLT, Int.reduceMul, Int.reduceNeg, Int.reducePow, Int.reduceSub, Int.reduceToNat, Nat.reduceAdd, Nat.reduceBEq, Nat.reduceEqDiff, Nat.reduceLT, Nat.reduceLeDiff, Nat.reduceMul, Nat.reducePow, Nat.reduceSub, reduceCtorEq, reduceIte, IntKind.bits.eq_def, ti, tin])
        | (simp (disch := omega) only [w64, wu64, wu32, Nat.min_eq_left])
        | (with_reducible refine callF_of (fw) ?_)
        | (with_reducible refine drawF_of (fw) ?_)
        | (with_reducible refine callF_of (awake03) ?_)
        | (with_reducible refine drawF_of (awake03) ?_)
        | (with_reducible refine callF_of (hu) ?_)
        | (with_reducible refine drawF_of (hu) ?_)
        | (with_reducible refine callF_of (i1) ?_)
        | (with_reducible refine drawF_of (i1) ?_)
        | (with_reducible refine callF_of (i2) ?_)
        | (with_reducible refine drawF_of (i2) ?_)
        | (with_reducible refine callF_of (i3) ?_)
        | (with_reducible refine drawF_of (i3) ?_)
        | (with_reducible refine callF_of (i4) ?_)
        | (with_reducible refine drawF_of (i4) ?_)
        | (with_reducible refine callF_of (i5) ?_)
        | (with_reducible refine drawF_of (i5) ?_)
        | (with_reducible refine callF_of (r1) ?_)
        | (with_reducible refine drawF_of (r1) ?_)
        | (with_reducible refine callF_of (r2) ?_)
        | (with_reducible refine drawF_of (r2) ?_)
        | (with_reducible refine callF_of (c1) ?_)
        | (with_reducible refine drawF_of (c1) ?_)
        | (with_reducible refine callF_of (c2) ?_)
        | (with_reducible refine drawF_of (c2) ?_)
        | (with_reducible refine callF_of (i6) ?_)
        | (with_reducible refine drawF_of (i6) ?_)
        | (with_reducible refine callF_of (i7) ?_)
        | (with_reducible refine drawF_of (i7) ?_)
        | (with_reducible refine callF_of (m1) ?_)
        | (with_reducible refine drawF_of (m1) ?_)
        | (with_reducible refine callF_of (n3) ?_)
        | (with_reducible refine drawF_of (n3) ?_)
        | (with_reducible refine callF_of (i8) ?_)
        | (with_reducible refine drawF_of (i8) ?_)
        | (with_reducible refine callF_of (i9) ?_)
        | (with_reducible refine drawF_of (i9) ?_)
        | (with_reducible refine callF_of (i10) ?_)
        | (with_reducible refine drawF_of (i10) ?_)
        | (refine after_lit ti_ok ?_)
        | (refine drawAfter_lit ti_ok ?_)
        | (refine drawEnd_of (by kernel_rfl) ?_)
        | ((first | refine cond_cases (fun hc => ?_) (fun hc => ?_) | refine guard_split (fun hc => ?_) (fun hc => ?_) | refine drawGuard_split (fun hc => ?_) (fun hc => ?_)) <;> first | (exfalso; simp only [decide_eq_true_eq, decide_eq_false_iff_not, Bool.not_eq_true, Bool.not_eq_false, Bool.not_eq_true', Bool.not_eq_false'] at hc; omega) | (simp only [hc]; try simp only [decide_eq_true_eq, decide_eq_false_iff_not, Bool.not_eq_true, Bool.not_eq_false, Bool.not_eq_true', Bool.not_eq_false'] at hc))
        | (refine after_need (by omega) ?_)
        | (refine drawAfter_need (by omega) ?_))
      all_goals exact fin_same trivial rfl
    ·
      repeat' (first
        | (simp only [go_sem, Int.reduceAdd, Int.reduceEq, Int.reduceLE, Int.reduceLT, Int.reduceMul, Int.reduceNeg, Int.reducePow, Int.reduceSub, Int.reduceToNat, Nat.reduceAdd, Nat.reduceBEq, Nat.reduceEqDiff, Nat.reduceLT, Nat.reduceLeDiff, Nat.reduceMul, Nat.reducePow, Nat.reduceSub, reduceCtorEq, reduceIte, IntKind.bits.eq_def, ti, tin])
        | (simp (disch := omega) only [w64, wu64, wu32, Nat.min_eq_left])
        | (with_reducible refine callF_of (fw) ?_)
        | (with_reducible refine drawF_of (fw) ?_)
        | (with_reducible refine callF_of (awake03) ?_)
        | (with_reducible refine drawF_of (awake03) ?_)
        | (with_reducible refine callF_of (hu) ?_)
        | (with_reducible refine drawF_of (hu) ?_)
        | (with_reducible refine callF_of (i1) ?_)
        | (with_reducible refine drawF_of (i1) ?_)
        | (with_reducible refine callF_of (i2) ?_)
        | (with_reducible refine drawF_of (i2) ?_)
        | (with_reducible refine callF_of (i3) ?_)
        | (with_reducible refine drawF_of (i3) ?_)
        | (with_reducible refine callF_of (i4) ?_)
        | (with_reducible refine drawF_of (i4) ?_)
        | (with_reducible refine callF_of (i5) ?_)
        | (with_reducible refine drawF_of (i5) ?_)
        | (with_reducible refine callF_of (r1) ?_)
        | (with_reducible refine drawF_of (r1) ?_)
        | (with_reducible refine callF_of (r2) ?_)
        | (with_reducible refine drawF_of (r2) ?_)
        | (with_reducible refine callF_of (c1) ?_)
        | (with_reducible refine drawF_of (c1) ?_)
        | (with_reducible refine callF_of (c2) ?_)
        | (with_reducible refine drawF_of (c2) ?_)
        | (with_reducible refine callF_of (i6) ?_)
        | (with_reducible refine drawF_of (i6) ?_)
        | (with_reducible refine callF_of (i7) ?_)
        | (with_reducible refine drawF_of (i7) ?_)
        | (with_reducible refine callF_of (m1) ?_)
        | (with_reducible refine drawF_of (m1) ?_)
        | (with_reducible refine callF_of (n3) ?_)
        | (with_reducible refine drawF_of (n3) ?_)
        | (with_reducible refine callF_of (i8) ?_)
        | (with_reducible refine drawF_of (i8) ?_)
        | (with_reducible refine callF_of (i9) ?_)
        | (with_reducible refine drawF_of (i9) ?_)
        | (with_reducible refine callF_of (i10) ?_)
        | (with_reducible refine drawF_of (i10) ?_)
        | (refine after_lit ti_ok ?_)
        | (refine drawAfter_lit ti_ok ?_)
        | (refine drawEnd_of (by kernel_rfl) ?_)
        | ((first | refine cond_cases (fun hc => ?_) (fun hc => ?_) | refine guard_split (fun hc => ?_) (fun hc => ?_) | refine drawGuard_split (fun hc => ?_) (fun hc => ?_)) <;> first | (exfalso; simp only [decide_eq_true_eq, decide_eq_false_iff_not, Bool.not_eq_true, Bool.not_eq_false, Bool.not_eq_true', Bool.not_eq_false'] at hc; omega) | (simp only [hc]; try simp only [decide_eq_true_eq, decide_eq_false_iff_not, Bool.not_eq_true, Bool.not_eq_false, Bool.not_eq_true', Bool.not_eq_false'] at hc))
        | (refine after_need (by omega) ?_)
        | (refine drawAfter_need (by omega) ?_))
      all_goals exact fin_same trivial rfl
  ·
    have hl := hl rfl
    subst hl
    cases b6
    ·
      repeat' (first
        | (simp only [go_sem, Int.reduceAdd, Int.reduceEq, Int.reduceLE, Int.reduceLT, Int.reduceMul, Int.reduceNeg, Int.reducePow, Int.reduceSub, Int.reduceToNat, Nat.reduceAdd, Nat.reduceBEq, Nat.reduceEqDiff, Nat.reduceLT, Nat.reduceLeDiff, Nat.reduceMul, Nat.reducePow, Nat.reduceSub, reduceCtorEq, reduceIte, IntKind.bits.eq_def, ti, tin])
        | (simp (disch := omega) only [w64, wu64, wu32, Nat.min_eq_left])
        | (with_reducible refine callF_of (fw) ?_)
        | (with_reducible refine drawF_of (fw) ?_)
        | (with_reducible refine callF_of (awake03) ?_)
        | (with_reducible refine drawF_of (awake03) ?_)
        | (with_reducible refine callF_of (hu) ?_)
        | (with_reducible refine drawF_of (hu) ?_)
        | (with_reducible refine callF_of (i1) ?_)
        | (with_reducible refine drawF_of (i1) ?_)
        | (with_reducible refine callF_of (i2) ?_)
        | (with_reducible refine drawF_of (i2) ?_)
        | (with_reducible refine callF_of (i3) ?_)
        | (with_reducible refine drawF_of (i3) ?_)
        | (with_reducible refine callF_of (i4) ?_)
        | (with_reducible refine drawF_of (i4) ?_)
        | (with_reducible refine callF_of (i5) ?_)
        | (with_reducible refine drawF_of (i5) ?_)
        | (with_reducible refine callF_of (r1) ?_)
        | (with_reducible refine drawF_of (r1) ?_)
        | (with_reducible refine callF_of (r2) ?_)
        | (with_reducible refine drawF_of (r2) ?_)
        | (with_reducible refine callF_of (c1) ?_)
        | (with_reducible refine drawF_of (c1) ?_)
        | (with_reducible refine callF_of (c2) ?_)
        | (with_reducible refine drawF_of (c2) ?_)
        | (with_reducible refine callF_of (i6) ?_)
        | (with_reducible refine drawF_of (i6) ?_)
        | (with_reducible refine callF_of (i7) ?_)
        | (with_reducible refine drawF_of (i7) ?_)
        | (with_reducible refine callF_of (m1) ?_)
        | (with_reducible refine drawF_of (m1) ?_)
        | (with_reducible refine callF_of (n3) ?_)
        | (with_reducible refine drawF_of (n3) ?_)
        | (with_reducible refine callF_of (i8) ?_)
        | (with_reducible refine drawF_of (i8) ?_)
        | (with_reducible refine callF_of (i9) ?_)
        | (with_reducible refine drawF_of (i9) ?_)
        | (with_reducible refine callF_of (i10) ?_)
        | (with_reducible refine drawF_of (i10) ?_)
        | (refine after_lit ti_ok ?_)
        | (refine drawAfter_lit ti_ok ?_)
        | (refine drawEnd_of (by kernel_rfl) ?_)
        | ((first | refine cond_cases (fun hc => ?_) (fun hc => ?_) | refine guard_split (fun hc => ?_) (fun hc => ?_) | refine drawGuard_split (fun hc => ?_) (fun hc => ?_)) <;> first | (exfalso; simp only [decide_eq_true_eq, decide_eq_false_iff_not, Bool.not_eq_true, Bool.not_eq_false, Bool.not_eq_true', Bool.not_eq_false'] at hc; omega) | (simp only [hc]; try simp only [decide_eq_true_eq, decide_eq_false_iff_not, Bool.not_eq_true, Bool.not_eq_false, Bool.not_eq_true', Bool.not_eq_false'] at hc))
        | (refine after_need (by omega) ?_)
        | (refine drawAfter_need (by omega) ?_))
      all_goals exact fin_same trivial rfl
    ·
      repeat' (first
        | (simp only [go_sem, Int.reduceAdd, Int.reduceEq, Int.reduceLE, Int.reduceLT, Int.reduceMul, Int.reduceNeg, Int.reducePow, Int.reduceSub, Int.reduceToNat, Nat.reduceAdd, Nat.reduceBEq, Nat.reduceEqDiff, Nat.reduceLT, Nat.reduceLeDiff, Nat.reduceMul, Nat.reducePow, Nat.reduceSub, reduceCtorEq, reduceIte, IntKind.bits.eq_def, ti, tin])
        | (simp (disch := omega) only [w64, wu64, wu32, Nat.min_eq_left])
        | (with_reducible refine callF_of (fw) ?_)
        | (with_reducible refine drawF_of (fw) ?_)
        | (with_reducible refine callF_of (awake03) ?_)
        | (with_reducible refine drawF_of (awake03) ?_)
        | (with_reducible refine callF_of (hu) ?_)
        | (with_reducible refine drawF_of (hu) ?_)
        | (with_reducible refine callF_of (i1) ?_)
        | (with_reducible refine drawF_of (i1) ?_)
        | (with_reducible refine callF_of (i2) ?_)
        | (with_reducible refine drawF_of (i2) ?_)
        | (with_reducible refine callF_of (i3) ?_)
        | (with_reducible refine drawF_of (i3) ?_)
        | (with_reducible refine callF_of (i4) ?_)
        | (with_reducible refine drawF_of (i4) ?_)
        | (with_reducible refine callF_of (i5) ?_)
        | (with_reducible refine drawF_of (i5) ?_)
        | (with_reducible refine callF_of (r1) ?_)
        | (with_reducible refine drawF_of (r1) ?_)
        | (with_reducible refine callF_of (r2) ?_)
        | (with_reducible refine drawF_of (r2) ?_)
        | (with_reducible refine callF_of (c1) ?_)
        | (with_reducible refine drawF_of (c1) ?_)
        | (with_reducible refine callF_of (c2) ?_)
        | (with_reducible refine drawF_of (c2) ?_)
        | (with_reducible refine callF_of (i6) ?_)
        | (with_reducible refine drawF_of (i6) ?_)
        | (with_reducible refine callF_of (i7) ?_)
        | (with_reducible refine drawF_of (i7) ?_)
        | (with_reducible refine callF_of (m1) ?_)
        | (with_reducible refine drawF_of (m1) ?_)
        | (with_reducible refine callF_of (n3) ?_)
        | (with_reducible refine drawF_of (n3) ?_)
        | (with_reducible refine callF_of (i8) ?_)
        | (with_reducible refine drawF_of (i8) ?_)
        | (with_reducible refine callF_of (i9) ?_)
        | (with_reducible refine drawF_of (i9) ?_)
        | (with_reducible refine callF_of (i10) ?_)
        | (with_reducible refine drawF_of (i10) ?_)
        | (refine after_lit ti_ok ?_)
        | (refine drawAfter_lit ti_ok ?_)
        | (refine drawEnd_of (by kernel_rfl) ?_)
        | ((first | refine cond_cases (fun hc => ?_) (fun hc => ?_) | refine guard_split (fun hc => ?_) (fun hc => ?_) | refine drawGuard_split (fun hc => ?_) (fun hc => ?_)) <;> first | (exfalso; simp only [decide_eq_true_eq, decide_eq_false_iff_not, Bool.not_eq_true, Bool.not_eq_false, Bool.not_eq_true', Bool.not_eq_false'] at hc; omega) | (simp only [hc]; try simp only [decide_eq_true_eq, decide_eq_false_iff_not, Bool.not_eq_true, Bool.not_eq_false, Bool.not_eq_true', Bool.not_eq_false'] at hc))
        | (refine after_need (by omega) ?_)
        | (refine drawAfter_need (by omega) ?_))
      all_goals exact fin_same trivial rfl
theorem bounds_law (s1 : Bool) (w1 : List (List AV)) (d1 : Int) (t1 : Bool) (u1 : List (List AV)) (e1 : Int) (s2 : Bool) (w2 : List (List AV)) (d2 : Int) (t2 : Bool) (u2 : List (List AV)) (e2 : Int) (s3 : Bool) (w3 : List (List AV)) (d3 : Int) (t3 : Bool) (u3 : List (List AV)) (e3 : Int) (m1 : w1.length ≤ maxLen) (f1 : ∀ x ∈ w1, FitL [.int .u32] x) (n1 : u1.length ≤ maxLen) (g1 : ∀ x ∈ u1, FitL [.int .u32] x) (m2 : w2.length ≤ maxLen) (f2 : ∀ x ∈ w2, FitL [.int .u32] x) (n2 : u2.length ≤ maxLen) (g2 : ∀ x ∈ u2, FitL [.int .u32] x) (m3 : w3.length ≤ maxLen) (f3 : ∀ x ∈ w3, FitL [.int .u32] x) (n3 : u3.length ≤ maxLen) (g3 : ∀ x ∈ u3, FitL [.int .u32] x) : CallOK Tryd.prog gl 3 [.agg [.v (.bool s1), .sl 1 w1, .v (.int .i64 d1), .v (.bool t1), .sl 1 u1, .v (.int .i64 e1)], .agg [.v (.bool s2), .sl 1 w2, .v (.int .i64 d2), .v (.bool t2), .sl 1 u2, .v (.int .i64 e2)], .agg [.v (.bool s3), .sl 1 w3, .v (.int .i64 d3), .v (.bool t3), .sl 1 u3, .v (.int .i64 e3)]] (.v (.bool true)) := by
  unfold maxLen at *
  obtain ⟨w1, W1, rfl, z1⟩ := fit_u32s f1
  obtain ⟨u1, U1, rfl, y1⟩ := fit_u32s g1
  obtain ⟨w2, W2, rfl, z2⟩ := fit_u32s f2
  obtain ⟨u2, U2, rfl, y2⟩ := fit_u32s g2
  obtain ⟨w3, W3, rfl, z3⟩ := fit_u32s f3
  obtain ⟨u3, U3, rfl, y3⟩ := fit_u32s g3
  by_cases hf : shI ⟨s1, w1, d1, t1, u1, e1⟩ ∧ shI ⟨s2, w2, d2, t2, u2, e2⟩ ∧ shI ⟨s3, w3, d3, t3, u3, e3⟩
  ·
    obtain ⟨x1, y1, a1, h1, g1, k1, p1, q1⟩ := sh_iarg W1 U1 hf.1
    obtain ⟨x2, y2, a2, h2, g2, k2, p2, q2⟩ := sh_iarg W2 U2 hf.2.1
    obtain ⟨x3, y3, a3, h3, g3, k3, p3, q3⟩ := sh_iarg W3 U3 hf.2.2
    by_cases hle : (a1.lo.max a2.lo).v ≤ (a1.hi.min a2.hi).v
    · exact bounds_ok _ _ _ _ _ _ _ _ _ h1 g1 k1 p1 q1 _ _ _ _ _ _ _ _ _ h2 g2 k2 p2 q2 _ _ _ _ _ _ _ _ _ h3 g3 k3 p3 q3 hf hle
    · exact bounds_bad _ _ _ _ _ _ _ _ _ h1 g1 k1 p1 q1 _ _ _ _ _ _ _ _ _ h2 g2 k2 p2 q2 _ _ _ _ _ _ _ _ _ h3 g3 k3 p3 q3 hf (by grind)
  · exact bounds_out s1 w1 d1 t1 u1 e1 ⟨by omega, by omega⟩ s2 w2 d2 t2 u2 e2 ⟨by omega, by omega⟩ s3 w3 d3 t3 u3 e3 ⟨by omega, by omega⟩ hf
end Go.Proofs.YtkdpaoicekgalaaDoor
