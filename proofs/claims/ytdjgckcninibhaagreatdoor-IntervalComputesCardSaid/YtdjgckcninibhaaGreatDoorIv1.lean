/- Layer 3 (interval.go), part 1: validity, arguments, points, spans. -/
import Derived.Test.YtdjgckcninibhaaGreatDoorDy5
import Derived.Test.YtdjgckcninibhaaGreatDoorU4
set_option linter.unusedSimpArgs false
set_option linter.unusedVariables false
set_option linter.deprecated false
namespace Go.Proofs.YtdjgckcninibhaaGreatDoor
open Go Go.Ax
set_option maxRecDepth 100000
set_option maxHeartbeats 4000000

theorem iv_Valid (s1 : Bool) (w1 : List Nat) (d1 : Int) (t1 : Bool) (u1 : List Nat) (e1 : Int) (x1 y1 : Dy) (a1 : Iv) (h1 : IArg s1 w1 d1 t1 u1 e1 x1 y1 a1) : CallOK Tryz.prog gl 220 [.agg [.v (.bool s1), .sl 1 (u32s w1), .v (.int .i64 d1), .v (.bool t1), .sl 1 (u32s u1), .v (.int .i64 e1)]] (.v (.bool ((decide (okI s1 w1 d1 t1 u1 e1 x1 y1))))) := by
  refine call_ok (C := ⟨Tryz.prog, gl, ti, 19, false⟩) ti_ok mixed 3000 Tryz.call220 Tryz.func220 rfl Tryz.ntmps220 (by simp) byClL byCl ?_
  rw [Tryz.results220]
  have v1 := Valid_ok s1 w1 d1 (by have := h1.px.len; omega)
  have v2 := Valid_ok t1 u1 e1 (by have := h1.py.len; omega)
  have c1 := Cmp_ok _ _ _ _ _ _ _ _ h1.px h1.py
  have q := cmp_le x1 y1
  obtain ⟨z, hz⟩ : ∃ z, decide (okI s1 w1 d1 t1 u1 e1 x1 y1) = z := ⟨_, rfl⟩
  rw [hz]
  unfold okI at hz
  simp only [← q] at hz
  clear q h1
  generalize x1.cmp y1 = c at *
  generalize validR s1 w1 d1 = b1 at *
  generalize validR t1 u1 e1 = b2 at *
  cases b1 <;> cases b2 <;> subst hz
  ·
    repeat' (first | (simp only [go_sem, Int.reduceAdd, Int.reduceEq, Int.reduceLE, Int.reduceLT, Int.reduceMul, Int.reduceNeg, Int.reducePow, Int.reduceSub, Int.reduceToNat, Nat.reduceAdd, Nat.reduceBEq, Nat.reduceEqDiff, Nat.reduceLT, Nat.reduceLeDiff, Nat.reduceMul, Nat.reducePow, Nat.reduceSub, reduceCtorEq, reduceIte, IntKind.bits.eq_def, ti, tin]) | (simp (disch := omega) only [w64, wu64, wu32, Nat.min_eq_left]) | (with_reducible first | refine cF (v1) ?_ | refine dF (v1) ?_) | (with_reducible first | refine cF (v2) ?_ | refine dF (v2) ?_) | (with_reducible first | refine cF (c1) ?_ | refine dF (c1) ?_) | (refine aL ti_ok ?_) | (refine dL ti_ok ?_) | (refine dE (by kernel_rfl) ?_) | ((first | refine cC ?_ ?_ | refine gS ?_ ?_ | refine dS ?_ ?_) <;> intro hc <;> first | (exfalso; simp only [dcT, dcF, bnT, bnF, bnU, bnV] at hc; omega) | (simp only [hc]; try simp only [dcT, dcF, bnT, bnF, bnU, bnV] at hc)) | (refine aN (by omega) ?_) | (refine dN (by omega) ?_))
    all_goals (refine fin_same trivial ?_; simp [one])
  ·
    repeat' (first | (simp only [go_sem, Int.reduceAdd, Int.reduceEq, Int.reduceLE, Int.reduceLT, Int.reduceMul, Int.reduceNeg, Int.reducePow, Int.reduceSub, Int.reduceToNat, Nat.reduceAdd, Nat.reduceBEq, Nat.reduceEqDiff, Nat.reduceLT, Nat.reduceLeDiff, Nat.reduceMul, Nat.reducePow, Nat.reduceSub, reduceCtorEq, reduceIte, IntKind.bits.eq_def, ti, tin]) | (simp (disch := omega) only [w64, wu64, wu32, Nat.min_eq_left]) | (with_reducible first | refine cF (v1) ?_ | refine dF (v1) ?_) | (with_reducible first | refine cF (v2) ?_ | refine dF (v2) ?_) | (with_reducible first | refine cF (c1) ?_ | refine dF (c1) ?_) | (refine aL ti_ok ?_) | (refine dL ti_ok ?_) | (refine dE (by kernel_rfl) ?_) | ((first | refine cC ?_ ?_ | refine gS ?_ ?_ | refine dS ?_ ?_) <;> intro hc <;> first | (exfalso; simp only [dcT, dcF, bnT, bnF, bnU, bnV] at hc; omega) | (simp only [hc]; try simp only [dcT, dcF, bnT, bnF, bnU, bnV] at hc)) | (refine aN (by omega) ?_) | (refine dN (by omega) ?_))
    all_goals (refine fin_same trivial ?_; simp [one])
  ·
    repeat' (first | (simp only [go_sem, Int.reduceAdd, Int.reduceEq, Int.reduceLE, Int.reduceLT, Int.reduceMul, Int.reduceNeg, Int.reducePow, Int.reduceSub, Int.reduceToNat, Nat.reduceAdd, Nat.reduceBEq, Nat.reduceEqDiff, Nat.reduceLT, Nat.reduceLeDiff, Nat.reduceMul, Nat.reducePow, Nat.reduceSub, reduceCtorEq, reduceIte, IntKind.bits.eq_def, ti, tin]) | (simp (disch := omega) only [w64, wu64, wu32, Nat.min_eq_left]) | (with_reducible first | refine cF (v1) ?_ | refine dF (v1) ?_) | (with_reducible first | refine cF (v2) ?_ | refine dF (v2) ?_) | (with_reducible first | refine cF (c1) ?_ | refine dF (c1) ?_) | (refine aL ti_ok ?_) | (refine dL ti_ok ?_) | (refine dE (by kernel_rfl) ?_) | ((first | refine cC ?_ ?_ | refine gS ?_ ?_ | refine dS ?_ ?_) <;> intro hc <;> first | (exfalso; simp only [dcT, dcF, bnT, bnF, bnU, bnV] at hc; omega) | (simp only [hc]; try simp only [dcT, dcF, bnT, bnF, bnU, bnV] at hc)) | (refine aN (by omega) ?_) | (refine dN (by omega) ?_))
    all_goals (refine fin_same trivial ?_; simp [one])
  ·
    repeat' (first | (simp only [go_sem, Int.reduceAdd, Int.reduceEq, Int.reduceLE, Int.reduceLT, Int.reduceMul, Int.reduceNeg, Int.reducePow, Int.reduceSub, Int.reduceToNat, Nat.reduceAdd, Nat.reduceBEq, Nat.reduceEqDiff, Nat.reduceLT, Nat.reduceLeDiff, Nat.reduceMul, Nat.reducePow, Nat.reduceSub, reduceCtorEq, reduceIte, IntKind.bits.eq_def, ti, tin]) | (simp (disch := omega) only [w64, wu64, wu32, Nat.min_eq_left]) | (with_reducible first | refine cF (v1) ?_ | refine dF (v1) ?_) | (with_reducible first | refine cF (v2) ?_ | refine dF (v2) ?_) | (with_reducible first | refine cF (c1) ?_ | refine dF (c1) ?_) | (refine aL ti_ok ?_) | (refine dL ti_ok ?_) | (refine dE (by kernel_rfl) ?_) | ((first | refine cC ?_ ?_ | refine gS ?_ ?_ | refine dS ?_ ?_) <;> intro hc <;> first | (exfalso; simp only [dcT, dcF, bnT, bnF, bnU, bnV] at hc; omega) | (simp only [hc]; try simp only [dcT, dcF, bnT, bnF, bnU, bnV] at hc)) | (refine aN (by omega) ?_) | (refine dN (by omega) ?_))
    all_goals (refine fin_same trivial ?_; simp [one])
theorem iv_same (s1 : Bool) (w1 : List Nat) (d1 : Int) (x1 : Dy) (h1 : Arg s1 w1 d1 x1) : CallOK Tryz.prog gl 221 [.agg [.v (.bool s1), .sl 1 (u32s w1), .v (.int .i64 d1)]] (.agg [.v (.bool (sg (x1))), .sl 1 (u32s (ms (x1))), .v (.int .i64 (dn (x1)))]) := by
  refine call_ok (C := ⟨Tryz.prog, gl, ti, 5, false⟩) ti_ok mixed 3000 Tryz.call221 Tryz.func221 rfl Tryz.ntmps221 (by simp) byClL byCl ?_
  rw [Tryz.results221]
  have p := Shift_ok _ _ _ 0 _ h1
  rw [shift_zero] at p
  repeat' (first | (simp only [go_sem, Int.reduceAdd, Int.reduceEq, Int.reduceLE, Int.reduceLT, Int.reduceMul, Int.reduceNeg, Int.reducePow, Int.reduceSub, Int.reduceToNat, Nat.reduceAdd, Nat.reduceBEq, Nat.reduceEqDiff, Nat.reduceLT, Nat.reduceLeDiff, Nat.reduceMul, Nat.reducePow, Nat.reduceSub, reduceCtorEq, reduceIte, IntKind.bits.eq_def, ti, tin]) | (simp (disch := omega) only [w64, wu64, wu32, Nat.min_eq_left]) | (with_reducible first | refine cF (p) ?_ | refine dF (p) ?_) | (refine aL ti_ok ?_) | (refine dL ti_ok ?_) | (refine dE (by kernel_rfl) ?_) | ((first | refine cC ?_ ?_ | refine gS ?_ ?_ | refine dS ?_ ?_) <;> intro hc <;> first | (exfalso; simp only [dcT, dcF, bnT, bnF, bnU, bnV] at hc; omega) | (simp only [hc]; try simp only [dcT, dcF, bnT, bnF, bnU, bnV] at hc)) | (refine aN (by omega) ?_) | (refine dN (by omega) ?_))
  exact fin_same trivial rfl
theorem iv_Point (s1 : Bool) (w1 : List Nat) (d1 : Int) (x1 : Dy) (h1 : Arg s1 w1 d1 x1) : CallOK Tryz.prog gl 219 [.agg [.v (.bool s1), .sl 1 (u32s w1), .v (.int .i64 d1)]] (.agg [.v (.bool (sg (Iv.pt x1).lo)), .sl 1 (u32s (ms (Iv.pt x1).lo)), .v (.int .i64 (dn (Iv.pt x1).lo)), .v (.bool (sg (Iv.pt x1).hi)), .sl 1 (u32s (ms (Iv.pt x1).hi)), .v (.int .i64 (dn (Iv.pt x1).hi))]) := by
  refine call_ok (C := ⟨Tryz.prog, gl, ti, 8, false⟩) ti_ok mixed 3000 Tryz.call219 Tryz.func219 rfl Tryz.ntmps219 (by simp) byClL byCl ?_
  rw [Tryz.results219]
  repeat' (first | (simp only [go_sem, Int.reduceAdd, Int.reduceEq, Int.reduceLE, Int.reduceLT, Int.reduceMul, Int.reduceNeg, Int.reducePow, Int.reduceSub, Int.reduceToNat, Nat.reduceAdd, Nat.reduceBEq, Nat.reduceEqDiff, Nat.reduceLT, Nat.reduceLeDiff, Nat.reduceMul, Nat.reducePow, Nat.reduceSub, reduceCtorEq, reduceIte, IntKind.bits.eq_def, ti, tin]) | (simp (disch := omega) only [w64, wu64, wu32, Nat.min_eq_left]) | (with_reducible first | refine cF (iv_same _ _ _ _ h1) ?_ | refine dF (iv_same _ _ _ _ h1) ?_) | (refine aL ti_ok ?_) | (refine dL ti_ok ?_) | (refine dE (by kernel_rfl) ?_) | ((first | refine cC ?_ ?_ | refine gS ?_ ?_ | refine dS ?_ ?_) <;> intro hc <;> first | (exfalso; simp only [dcT, dcF, bnT, bnF, bnU, bnV] at hc; omega) | (simp only [hc]; try simp only [dcT, dcF, bnT, bnF, bnU, bnV] at hc)) | (refine aN (by omega) ?_) | (refine dN (by omega) ?_))
  exact fin_same trivial rfl
theorem iv_arg (s1 : Bool) (w1 : List Nat) (d1 : Int) (t1 : Bool) (u1 : List Nat) (e1 : Int) (x1 y1 : Dy) (a1 : Iv) (h1 : IArg s1 w1 d1 t1 u1 e1 x1 y1 a1) : CallOK Tryz.prog gl 166 [.agg [.v (.bool s1), .sl 1 (u32s w1), .v (.int .i64 d1), .v (.bool t1), .sl 1 (u32s u1), .v (.int .i64 e1)]] (.agg [.v (.bool (sg (a1).lo)), .sl 1 (u32s (ms (a1).lo)), .v (.int .i64 (dn (a1).lo)), .v (.bool (sg (a1).hi)), .sl 1 (u32s (ms (a1).hi)), .v (.int .i64 (dn (a1).hi))]) := by
  refine call_ok (C := ⟨Tryz.prog, gl, ti, 14, false⟩) ti_ok mixed 3000 Tryz.call166 Tryz.func166 rfl Tryz.ntmps166 (by simp) byClL byCl ?_
  rw [Tryz.results166]
  have v := iv_Valid _ _ _ _ _ _ _ _ _ h1
  rcases h1.is with ⟨ho, q1, q2⟩ | ⟨ho, q1⟩
  · rw [decide_eq_true ho] at v
    have p1 := iv_same _ _ _ _ h1.px
    have p2 := iv_same _ _ _ _ h1.py
    rw [q1, q2]
    repeat' (first | (simp only [go_sem, Int.reduceAdd, Int.reduceEq, Int.reduceLE, Int.reduceLT, Int.reduceMul, Int.reduceNeg, Int.reducePow, Int.reduceSub, Int.reduceToNat, Nat.reduceAdd, Nat.reduceBEq, Nat.reduceEqDiff, Nat.reduceLT, Nat.reduceLeDiff, Nat.reduceMul, Nat.reducePow, Nat.reduceSub, reduceCtorEq, reduceIte, IntKind.bits.eq_def, ti, tin]) | (simp (disch := omega) only [w64, wu64, wu32, Nat.min_eq_left]) | (with_reducible first | refine cF (v) ?_ | refine dF (v) ?_) | (with_reducible first | refine cF (p1) ?_ | refine dF (p1) ?_) | (with_reducible first | refine cF (p2) ?_ | refine dF (p2) ?_) | (refine aL ti_ok ?_) | (refine dL ti_ok ?_) | (refine dE (by kernel_rfl) ?_) | ((first | refine cC ?_ ?_ | refine gS ?_ ?_ | refine dS ?_ ?_) <;> intro hc <;> first | (exfalso; simp only [dcT, dcF, bnT, bnF, bnU, bnV] at hc; omega) | (simp only [hc]; try simp only [dcT, dcF, bnT, bnF, bnU, bnV] at hc)) | (refine aN (by omega) ?_) | (refine dN (by omega) ?_))
    exact fin_same trivial rfl
  · rw [decide_eq_false ho] at v
    rw [q1]
    repeat' (first | (simp only [go_sem, Int.reduceAdd, Int.reduceEq, Int.reduceLE, Int.reduceLT, Int.reduceMul, Int.reduceNeg, Int.reducePow, Int.reduceSub, Int.reduceToNat, Nat.reduceAdd, Nat.reduceBEq, Nat.reduceEqDiff, Nat.reduceLT, Nat.reduceLeDiff, Nat.reduceMul, Nat.reducePow, Nat.reduceSub, reduceCtorEq, reduceIte, IntKind.bits.eq_def, ti, tin]) | (simp (disch := omega) only [w64, wu64, wu32, Nat.min_eq_left]) | (with_reducible first | refine cF (v) ?_ | refine dF (v) ?_) | (refine aL ti_ok ?_) | (refine dL ti_ok ?_) | (refine dE (by kernel_rfl) ?_) | ((first | refine cC ?_ ?_ | refine gS ?_ ?_ | refine dS ?_ ?_) <;> intro hc <;> first | (exfalso; simp only [dcT, dcF, bnT, bnF, bnU, bnV] at hc; omega) | (simp only [hc]; try simp only [dcT, dcF, bnT, bnF, bnU, bnV] at hc)) | (refine aN (by omega) ?_) | (refine dN (by omega) ?_))
    exact fin_le trivial Le.iv0
theorem iv_span2 (s1 : Bool) (w1 : List Nat) (d1 : Int) (x1 : Dy) (h1 : Arg s1 w1 d1 x1) (s2 : Bool) (w2 : List Nat) (d2 : Int) (x2 : Dy) (h2 : Arg s2 w2 d2 x2) : CallOK Tryz.prog gl 170 [.sl 3 [[.v (.bool s1), .sl 1 (u32s w1), .v (.int .i64 d1)], [.v (.bool s2), .sl 1 (u32s w2), .v (.int .i64 d2)]]] (.agg [.v (.bool (sg (Iv.sp2 x1 x2).lo)), .sl 1 (u32s (ms (Iv.sp2 x1 x2).lo)), .v (.int .i64 (dn (Iv.sp2 x1 x2).lo)), .v (.bool (sg (Iv.sp2 x1 x2).hi)), .sl 1 (u32s (ms (Iv.sp2 x1 x2).hi)), .v (.int .i64 (dn (Iv.sp2 x1 x2).hi))]) := by
  refine call_ok (C := ⟨Tryz.prog, gl, ti, 29, false⟩) ti_ok mixed 3000 Tryz.call170 Tryz.func170 rfl Tryz.ntmps170 (by simp) byClL byCl ?_
  rw [Tryz.results170]
  have p1 := iv_Point _ _ _ _ h1
  have c1 := h1.can
  have m1 := Min_ok _ _ _ _ _ _ _ _ c1 h2
  have k1 := Max_ok _ _ _ _ _ _ _ _ c1 h2
  unfold Iv.sp2
  unfold Iv.pt at p1
  dsimp only at p1 ⊢
  generalize x1.min x2 = z1 at *
  generalize x1.max x2 = z2 at *
  repeat' (first | (simp only [go_sem, Int.reduceAdd, Int.reduceEq, Int.reduceLE, Int.reduceLT, Int.reduceMul, Int.reduceNeg, Int.reducePow, Int.reduceSub, Int.reduceToNat, Nat.reduceAdd, Nat.reduceBEq, Nat.reduceEqDiff, Nat.reduceLT, Nat.reduceLeDiff, Nat.reduceMul, Nat.reducePow, Nat.reduceSub, reduceCtorEq, reduceIte, IntKind.bits.eq_def, ti, tin]) | (simp (disch := omega) only [w64, wu64, wu32, Nat.min_eq_left]) | (refine l_unroll 3 _ rfl ?_) | (with_reducible first | refine cF (p1) ?_ | refine dF (p1) ?_) | (with_reducible first | refine cF (m1) ?_ | refine dF (m1) ?_) | (with_reducible first | refine cF (k1) ?_ | refine dF (k1) ?_) | (refine aL ti_ok ?_) | (refine dL ti_ok ?_) | (refine dE (by kernel_rfl) ?_) | ((first | refine cC ?_ ?_ | refine gS ?_ ?_ | refine dS ?_ ?_) <;> intro hc <;> first | (exfalso; simp only [dcT, dcF, bnT, bnF, bnU, bnV] at hc; omega) | (simp only [hc]; try simp only [dcT, dcF, bnT, bnF, bnU, bnV] at hc)) | (refine aN (by omega) ?_) | (refine dN (by omega) ?_))
  exact fin_same trivial rfl
theorem iv_span4 (s1 : Bool) (w1 : List Nat) (d1 : Int) (x1 : Dy) (h1 : Arg s1 w1 d1 x1) (s2 : Bool) (w2 : List Nat) (d2 : Int) (x2 : Dy) (h2 : Arg s2 w2 d2 x2) (s3 : Bool) (w3 : List Nat) (d3 : Int) (x3 : Dy) (h3 : Arg s3 w3 d3 x3) (s4 : Bool) (w4 : List Nat) (d4 : Int) (x4 : Dy) (h4 : Arg s4 w4 d4 x4) : CallOK Tryz.prog gl 170 [.sl 3 [[.v (.bool s1), .sl 1 (u32s w1), .v (.int .i64 d1)], [.v (.bool s2), .sl 1 (u32s w2), .v (.int .i64 d2)], [.v (.bool s3), .sl 1 (u32s w3), .v (.int .i64 d3)], [.v (.bool s4), .sl 1 (u32s w4), .v (.int .i64 d4)]]] (.agg [.v (.bool (sg (Iv.sp4 x1 x2 x3 x4).lo)), .sl 1 (u32s (ms (Iv.sp4 x1 x2 x3 x4).lo)), .v (.int .i64 (dn (Iv.sp4 x1 x2 x3 x4).lo)), .v (.bool (sg (Iv.sp4 x1 x2 x3 x4).hi)), .sl 1 (u32s (ms (Iv.sp4 x1 x2 x3 x4).hi)), .v (.int .i64 (dn (Iv.sp4 x1 x2 x3 x4).hi))]) := by
  refine call_ok (C := ⟨Tryz.prog, gl, ti, 29, false⟩) ti_ok mixed 3000 Tryz.call170 Tryz.func170 rfl Tryz.ntmps170 (by simp) byClL byCl ?_
  rw [Tryz.results170]
  have p1 := iv_Point _ _ _ _ h1
  have c1 := h1.can
  have m1 := Min_ok _ _ _ _ _ _ _ _ c1 h2
  have k1 := Max_ok _ _ _ _ _ _ _ _ c1 h2
  have g1 := c1.cmin h2.can
  have g2 := c1.cmax h2.can
  have m2 := Min_ok _ _ _ _ _ _ _ _ g1 h3
  have k2 := Max_ok _ _ _ _ _ _ _ _ g2 h3
  have g3 := g1.cmin h3.can
  have g4 := g2.cmax h3.can
  have m3 := Min_ok _ _ _ _ _ _ _ _ g3 h4
  have k3 := Max_ok _ _ _ _ _ _ _ _ g4 h4
  unfold Iv.sp4
  unfold Iv.pt at p1
  dsimp only at p1 ⊢
  clear g1 g2 g3 g4
  generalize ((x1.min x2).min x3).min x4 = z5 at *
  generalize ((x1.max x2).max x3).max x4 = z6 at *
  generalize (x1.min x2).min x3 = z3 at *
  generalize (x1.max x2).max x3 = z4 at *
  generalize x1.min x2 = z1 at *
  generalize x1.max x2 = z2 at *
  repeat' (first | (simp only [go_sem, Int.reduceAdd, Int.reduceEq, Int.reduceLE, Int.reduceLT, Int.reduceMul, Int.reduceNeg, Int.reducePow, Int.reduceSub, Int.reduceToNat, Nat.reduceAdd, Nat.reduceBEq, Nat.reduceEqDiff, Nat.reduceLT, Nat.reduceLeDiff, Nat.reduceMul, Nat.reducePow, Nat.reduceSub, reduceCtorEq, reduceIte, IntKind.bits.eq_def, ti, tin]) | (simp (disch := omega) only [w64, wu64, wu32, Nat.min_eq_left]) | (refine l_unroll 5 _ rfl ?_) | (with_reducible first | refine cF (p1) ?_ | refine dF (p1) ?_) | (with_reducible first | refine cF (m1) ?_ | refine dF (m1) ?_) | (with_reducible first | refine cF (k1) ?_ | refine dF (k1) ?_) | (with_reducible first | refine cF (m2) ?_ | refine dF (m2) ?_) | (with_reducible first | refine cF (k2) ?_ | refine dF (k2) ?_) | (with_reducible first | refine cF (m3) ?_ | refine dF (m3) ?_) | (with_reducible first | refine cF (k3) ?_ | refine dF (k3) ?_) | (refine aL ti_ok ?_) | (refine dL ti_ok ?_) | (refine dE (by kernel_rfl) ?_) | ((first | refine cC ?_ ?_ | refine gS ?_ ?_ | refine dS ?_ ?_) <;> intro hc <;> first | (exfalso; simp only [dcT, dcF, bnT, bnF, bnU, bnV] at hc; omega) | (simp only [hc]; try simp only [dcT, dcF, bnT, bnF, bnU, bnV] at hc)) | (refine aN (by omega) ?_) | (refine dN (by omega) ?_))
  exact fin_same trivial rfl
end Go.Proofs.YtdjgckcninibhaaGreatDoor
