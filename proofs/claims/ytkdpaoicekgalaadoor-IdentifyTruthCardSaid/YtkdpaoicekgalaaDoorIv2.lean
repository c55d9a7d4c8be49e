/- Layer 3 (interval.go), part 2: negatives, sums, products, minima, hulls. -/
import Derived.Test.YtkdpaoicekgalaaDoorIv1
set_option linter.unusedSimpArgs false
set_option linter.unusedVariables false
set_option linter.deprecated false
namespace Go.Proofs.YtkdpaoicekgalaaDoor
open Go Go.Ax
set_option maxRecDepth 100000
set_option maxHeartbeats 4000000

theorem iv_Add (s1 : Bool) (w1 : List Nat) (d1 : Int) (t1 : Bool) (u1 : List Nat) (e1 : Int) (x1 y1 : Dy) (a1 : Iv) (h1 : IArg s1 w1 d1 t1 u1 e1 x1 y1 a1) (s2 : Bool) (w2 : List Nat) (d2 : Int) (t2 : Bool) (u2 : List Nat) (e2 : Int) (x2 y2 : Dy) (a2 : Iv) (h2 : IArg s2 w2 d2 t2 u2 e2 x2 y2 a2) : CallOK Tryd.prog gl 22 [.agg [.v (.bool s1), .sl 1 (u32s w1), .v (.int .i64 d1), .v (.bool t1), .sl 1 (u32s u1), .v (.int .i64 e1)], .agg [.v (.bool s2), .sl 1 (u32s w2), .v (.int .i64 d2), .v (.bool t2), .sl 1 (u32s u2), .v (.int .i64 e2)]] (.agg [.v (.bool (sg (a1.add a2).lo)), .sl 1 (u32s (ms (a1.add a2).lo)), .v (.int .i64 (dn (a1.add a2).lo)), .v (.bool (sg (a1.add a2).hi)), .sl 1 (u32s (ms (a1.add a2).hi)), .v (.int .i64 (dn (a1.add a2).hi))]) := by
  refine call_ok (C := ⟨Tryd.prog, gl, ti, 20, false⟩) ti_ok mixed 3000 Tryd.call22 Tryd.func22 rfl Tryd.ntmps22 (by simp) byClL byCl ?_
  rw [Tryd.results22]
  have r1 := iv_arg _ _ _ _ _ _ _ _ _ h1
  have r2 := iv_arg _ _ _ _ _ _ _ _ _ h2
  have p1 := Add_ok _ _ _ _ _ _ _ _ h1.lo h2.lo
  have p2 := Add_ok _ _ _ _ _ _ _ _ h1.hi h2.hi
  repeat' (first | (simp only [go_sem, Int.reduceAdd, Int.reduceEq, Int.reduceLE, Int.reduceLT, Int.reduceMul, Int.reduceNeg, Int.reducePow, Int.reduceSub, Int.reduceToNat, Nat.reduceAdd, Nat.reduceBEq, Nat.reduceEqDiff, Nat.reduceLT, Nat.reduceLeDiff, Nat.reduceMul, Nat.reducePow, Nat.reduceSub, reduceCtorEq, reduceIte, IntKind.bits.eq_def, ti, tin]) | (simp (disch := omega) only [w64, wu64, wu32, Nat.min_eq_left]) | (with_reducible first | refine cF (r1) ?_ | refine dF (r1) ?_) | (with_reducible first | refine cF (r2) ?_ | refine dF (r2) ?_) | (with_reducible first | refine cF (p1) ?_ | refine dF (p1) ?_) | (with_reducible first | refine cF (p2) ?_ | refine dF (p2) ?_) | (refine aL ti_ok ?_) | (refine dL ti_ok ?_) | (refine dE (by kernel_rfl) ?_) | ((first | refine cC ?_ ?_ | refine gS ?_ ?_ | refine dS ?_ ?_) <;> intro hc <;> first | (exfalso; simp only [dcT, dcF, bnT, bnF, bnU, bnV] at hc; omega) | (simp only [hc]; try simp only [dcT, dcF, bnT, bnF, bnU, bnV] at hc)) | (refine aN (by omega) ?_) | (refine dN (by omega) ?_))
  exact fin_same trivial rfl
theorem iv_Mul (s1 : Bool) (w1 : List Nat) (d1 : Int) (t1 : Bool) (u1 : List Nat) (e1 : Int) (x1 y1 : Dy) (a1 : Iv) (h1 : IArg s1 w1 d1 t1 u1 e1 x1 y1 a1) (s2 : Bool) (w2 : List Nat) (d2 : Int) (t2 : Bool) (u2 : List Nat) (e2 : Int) (x2 y2 : Dy) (a2 : Iv) (h2 : IArg s2 w2 d2 t2 u2 e2 x2 y2 a2) (k l : Nat) (g1 : a1.Mg k) (g2 : a2.Mg l) (hk : k + l ≤ 1099511627775) : CallOK Tryd.prog gl 23 [.agg [.v (.bool s1), .sl 1 (u32s w1), .v (.int .i64 d1), .v (.bool t1), .sl 1 (u32s u1), .v (.int .i64 e1)], .agg [.v (.bool s2), .sl 1 (u32s w2), .v (.int .i64 d2), .v (.bool t2), .sl 1 (u32s u2), .v (.int .i64 e2)]] (.agg [.v (.bool (sg (a1.mul a2).lo)), .sl 1 (u32s (ms (a1.mul a2).lo)), .v (.int .i64 (dn (a1.mul a2).lo)), .v (.bool (sg (a1.mul a2).hi)), .sl 1 (u32s (ms (a1.mul a2).hi)), .v (.int .i64 (dn (a1.mul a2).hi))]) := by
  refine call_ok (C := ⟨Tryd.prog, gl, ti, 31, false⟩) ti_ok mixed 3000 Tryd.call23 Tryd.func23 rfl Tryd.ntmps23 (by simp) byClL byCl ?_
  rw [Tryd.results23]
  have r1 := iv_arg _ _ _ _ _ _ _ _ _ h1
  have r2 := iv_arg _ _ _ _ _ _ _ _ _ h2
  have p1 := Mul_ok _ _ _ _ _ _ _ _ h1.lo h2.lo
  have p2 := Mul_ok _ _ _ _ _ _ _ _ h1.lo h2.hi
  have p3 := Mul_ok _ _ _ _ _ _ _ _ h1.hi h2.lo
  have p4 := Mul_ok _ _ _ _ _ _ _ _ h1.hi h2.hi
  have p5 := iv_span4 _ _ _ _ (Arg.of (g1.1.mul g2.1) (by omega)) _ _ _ _ (Arg.of (g1.1.mul g2.2) (by omega)) _ _ _ _ (Arg.of (g1.2.mul g2.1) (by omega)) _ _ _ _ (Arg.of (g1.2.mul g2.2) (by omega))
  change CallOK _ _ _ _ (.agg [.v (.bool (sg (a1.mul a2).lo)), .sl 1 (u32s (ms (a1.mul a2).lo)), .v (.int .i64 (dn (a1.mul a2).lo)), .v (.bool (sg (a1.mul a2).hi)), .sl 1 (u32s (ms (a1.mul a2).hi)), .v (.int .i64 (dn (a1.mul a2).hi))]) at p5
  generalize a1.mul a2 = z at *
  generalize a1.lo.mul a2.lo = z1 at *
  generalize a1.lo.mul a2.hi = z2 at *
  generalize a1.hi.mul a2.lo = z3 at *
  generalize a1.hi.mul a2.hi = z4 at *
  repeat' (first | (simp only [go_sem, Int.reduceAdd, Int.reduceEq, Int.reduceLE, Int.reduceLT, Int.reduceMul, Int.reduceNeg, Int.reducePow, Int.reduceSub, Int.reduceToNat, Nat.reduceAdd, Nat.reduceBEq, Nat.reduceEqDiff, Nat.reduceLT, Nat.reduceLeDiff, Nat.reduceMul, Nat.reducePow, Nat.reduceSub, reduceCtorEq, reduceIte, IntKind.bits.eq_def, ti, tin]) | (simp (disch := omega) only [w64, wu64, wu32, Nat.min_eq_left]) | (with_reducible first | refine cF (r1) ?_ | refine dF (r1) ?_) | (with_reducible first | refine cF (r2) ?_ | refine dF (r2) ?_) | (with_reducible first | refine cF (p1) ?_ | refine dF (p1) ?_) | (with_reducible first | refine cF (p2) ?_ | refine dF (p2) ?_) | (with_reducible first | refine cF (p3) ?_ | refine dF (p3) ?_) | (with_reducible first | refine cF (p4) ?_ | refine dF (p4) ?_) | (with_reducible first | refine cF (p5) ?_ | refine dF (p5) ?_) | (refine aL ti_ok ?_) | (refine dL ti_ok ?_) | (refine dE (by kernel_rfl) ?_) | ((first | refine cC ?_ ?_ | refine gS ?_ ?_ | refine dS ?_ ?_) <;> intro hc <;> first | (exfalso; simp only [dcT, dcF, bnT, bnF, bnU, bnV] at hc; omega) | (simp only [hc]; try simp only [dcT, dcF, bnT, bnF, bnU, bnV] at hc)) | (refine aN (by omega) ?_) | (refine dN (by omega) ?_))
  exact fin_same trivial rfl
theorem iv_Min (s1 : Bool) (w1 : List Nat) (d1 : Int) (t1 : Bool) (u1 : List Nat) (e1 : Int) (x1 y1 : Dy) (a1 : Iv) (h1 : IArg s1 w1 d1 t1 u1 e1 x1 y1 a1) (s2 : Bool) (w2 : List Nat) (d2 : Int) (t2 : Bool) (u2 : List Nat) (e2 : Int) (x2 y2 : Dy) (a2 : Iv) (h2 : IArg s2 w2 d2 t2 u2 e2 x2 y2 a2) : CallOK Tryd.prog gl 24 [.agg [.v (.bool s1), .sl 1 (u32s w1), .v (.int .i64 d1), .v (.bool t1), .sl 1 (u32s u1), .v (.int .i64 e1)], .agg [.v (.bool s2), .sl 1 (u32s w2), .v (.int .i64 d2), .v (.bool t2), .sl 1 (u32s u2), .v (.int .i64 e2)]] (.agg [.v (.bool (sg (a1.min a2).lo)), .sl 1 (u32s (ms (a1.min a2).lo)), .v (.int .i64 (dn (a1.min a2).lo)), .v (.bool (sg (a1.min a2).hi)), .sl 1 (u32s (ms (a1.min a2).hi)), .v (.int .i64 (dn (a1.min a2).hi))]) := by
  refine call_ok (C := ⟨Tryd.prog, gl, ti, 20, false⟩) ti_ok mixed 3000 Tryd.call24 Tryd.func24 rfl Tryd.ntmps24 (by simp) byClL byCl ?_
  rw [Tryd.results24]
  have r1 := iv_arg _ _ _ _ _ _ _ _ _ h1
  have r2 := iv_arg _ _ _ _ _ _ _ _ _ h2
  have p1 := Min_ok _ _ _ _ _ _ _ _ h1.lo h2.lo
  have p2 := Min_ok _ _ _ _ _ _ _ _ h1.hi h2.hi
  repeat' (first | (simp only [go_sem, Int.reduceAdd, Int.reduceEq, Int.reduceLE, Int.reduceLT, Int.reduceMul, Int.reduceNeg, Int.reducePow, Int.reduceSub, Int.reduceToNat, Nat.reduceAdd, Nat.reduceBEq, Nat.reduceEqDiff, Nat.reduceLT, Nat.reduceLeDiff, Nat.reduceMul, Nat.reducePow, Nat.reduceSub, reduceCtorEq, reduceIte, IntKind.bits.eq_def, ti, tin]) | (simp (disch := omega) only [w64, wu64, wu32, Nat.min_eq_left]) | (with_reducible first | refine cF (r1) ?_ | refine dF (r1) ?_) | (with_reducible first | refine cF (r2) ?_ | refine dF (r2) ?_) | (with_reducible first | refine cF (p1) ?_ | refine dF (p1) ?_) | (with_reducible first | refine cF (p2) ?_ | refine dF (p2) ?_) | (refine aL ti_ok ?_) | (refine dL ti_ok ?_) | (refine dE (by kernel_rfl) ?_) | ((first | refine cC ?_ ?_ | refine gS ?_ ?_ | refine dS ?_ ?_) <;> intro hc <;> first | (exfalso; simp only [dcT, dcF, bnT, bnF, bnU, bnV] at hc; omega) | (simp only [hc]; try simp only [dcT, dcF, bnT, bnF, bnU, bnV] at hc)) | (refine aN (by omega) ?_) | (refine dN (by omega) ?_))
  exact fin_same trivial rfl
theorem iv_Max (s1 : Bool) (w1 : List Nat) (d1 : Int) (t1 : Bool) (u1 : List Nat) (e1 : Int) (x1 y1 : Dy) (a1 : Iv) (h1 : IArg s1 w1 d1 t1 u1 e1 x1 y1 a1) (s2 : Bool) (w2 : List Nat) (d2 : Int) (t2 : Bool) (u2 : List Nat) (e2 : Int) (x2 y2 : Dy) (a2 : Iv) (h2 : IArg s2 w2 d2 t2 u2 e2 x2 y2 a2) : CallOK Tryd.prog gl 25 [.agg [.v (.bool s1), .sl 1 (u32s w1), .v (.int .i64 d1), .v (.bool t1), .sl 1 (u32s u1), .v (.int .i64 e1)], .agg [.v (.bool s2), .sl 1 (u32s w2), .v (.int .i64 d2), .v (.bool t2), .sl 1 (u32s u2), .v (.int .i64 e2)]] (.agg [.v (.bool (sg (a1.max a2).lo)), .sl 1 (u32s (ms (a1.max a2).lo)), .v (.int .i64 (dn (a1.max a2).lo)), .v (.bool (sg (a1.max a2).hi)), .sl 1 (u32s (ms (a1.max a2).hi)), .v (.int .i64 (dn (a1.max a2).hi))]) := by
  refine call_ok (C := ⟨Tryd.prog, gl, ti, 20, false⟩) ti_ok mixed 3000 Tryd.call25 Tryd.func25 rfl Tryd.ntmps25 (by simp) byClL byCl ?_
  rw [Tryd.results25]
  have r1 := iv_arg _ _ _ _ _ _ _ _ _ h1
  have r2 := iv_arg _ _ _ _ _ _ _ _ _ h2
  have p1 := Max_ok _ _ _ _ _ _ _ _ h1.lo h2.lo
  have p2 := Max_ok _ _ _ _ _ _ _ _ h1.hi h2.hi
  repeat' (first | (simp only [go_sem, Int.reduceAdd, Int.reduceEq, Int.reduceLE, Int.reduceLT, Int.reduceMul, Int.reduceNeg, Int.reducePow, Int.reduceSub, Int.reduceToNat, Nat.reduceAdd, Nat.reduceBEq, Nat.reduceEqDiff, Nat.reduceLT, Nat.reduceLeDiff, Nat.reduceMul, Nat.reducePow, Nat.reduceSub, reduceCtorEq, reduceIte, IntKind.bits.eq_def, ti, tin]) | (simp (disch := omega) only [w64, wu64, wu32, Nat.min_eq_left]) | (with_reducible first | refine cF (r1) ?_ | refine dF (r1) ?_) | (with_reducible first | refine cF (r2) ?_ | refine dF (r2) ?_) | (with_reducible first | refine cF (p1) ?_ | refine dF (p1) ?_) | (with_reducible first | refine cF (p2) ?_ | refine dF (p2) ?_) | (refine aL ti_ok ?_) | (refine dL ti_ok ?_) | (refine dE (by kernel_rfl) ?_) | ((first | refine cC ?_ ?_ | refine gS ?_ ?_ | refine dS ?_ ?_) <;> intro hc <;> first | (exfalso; simp only [dcT, dcF, bnT, bnF, bnU, bnV] at hc; omega) | (simp only [hc]; try simp only [dcT, dcF, bnT, bnF, bnU, bnV] at hc)) | (refine aN (by omega) ?_) | (refine dN (by omega) ?_))
  exact fin_same trivial rfl
theorem iv_Hull (s1 : Bool) (w1 : List Nat) (d1 : Int) (t1 : Bool) (u1 : List Nat) (e1 : Int) (x1 y1 : Dy) (a1 : Iv) (h1 : IArg s1 w1 d1 t1 u1 e1 x1 y1 a1) (s2 : Bool) (w2 : List Nat) (d2 : Int) (t2 : Bool) (u2 : List Nat) (e2 : Int) (x2 y2 : Dy) (a2 : Iv) (h2 : IArg s2 w2 d2 t2 u2 e2 x2 y2 a2) : CallOK Tryd.prog gl 11 [.agg [.v (.bool s1), .sl 1 (u32s w1), .v (.int .i64 d1), .v (.bool t1), .sl 1 (u32s u1), .v (.int .i64 e1)], .agg [.v (.bool s2), .sl 1 (u32s w2), .v (.int .i64 d2), .v (.bool t2), .sl 1 (u32s u2), .v (.int .i64 e2)]] (.agg [.v (.bool (sg (a1.hull a2).lo)), .sl 1 (u32s (ms (a1.hull a2).lo)), .v (.int .i64 (dn (a1.hull a2).lo)), .v (.bool (sg (a1.hull a2).hi)), .sl 1 (u32s (ms (a1.hull a2).hi)), .v (.int .i64 (dn (a1.hull a2).hi))]) := by
  refine call_ok (C := ⟨Tryd.prog, gl, ti, 19, false⟩) ti_ok mixed 3000 Tryd.call11 Tryd.func11 rfl Tryd.ntmps11 (by simp) byClL byCl ?_
  rw [Tryd.results11]
  have r1 := iv_arg _ _ _ _ _ _ _ _ _ h1
  have r2 := iv_arg _ _ _ _ _ _ _ _ _ h2
  have p1 := iv_span4 _ _ _ _ h1.lo _ _ _ _ h1.hi _ _ _ _ h2.lo _ _ _ _ h2.hi
  repeat' (first | (simp only [go_sem, Int.reduceAdd, Int.reduceEq, Int.reduceLE, Int.reduceLT, Int.reduceMul, Int.reduceNeg, Int.reducePow, Int.reduceSub, Int.reduceToNat, Nat.reduceAdd, Nat.reduceBEq, Nat.reduceEqDiff, Nat.reduceLT, Nat.reduceLeDiff, Nat.reduceMul, Nat.reducePow, Nat.reduceSub, reduceCtorEq, reduceIte, IntKind.bits.eq_def, ti, tin]) | (simp (disch := omega) only [w64, wu64, wu32, Nat.min_eq_left]) | (with_reducible first | refine cF (r1) ?_ | refine dF (r1) ?_) | (with_reducible first | refine cF (r2) ?_ | refine dF (r2) ?_) | (with_reducible first | refine cF (p1) ?_ | refine dF (p1) ?_) | (refine aL ti_ok ?_) | (refine dL ti_ok ?_) | (refine dE (by kernel_rfl) ?_) | ((first | refine cC ?_ ?_ | refine gS ?_ ?_ | refine dS ?_ ?_) <;> intro hc <;> first | (exfalso; simp only [dcT, dcF, bnT, bnF, bnU, bnV] at hc; omega) | (simp only [hc]; try simp only [dcT, dcF, bnT, bnF, bnU, bnV] at hc)) | (refine aN (by omega) ?_) | (refine dN (by omega) ?_))
  exact fin_same trivial rfl
end Go.Proofs.YtkdpaoicekgalaaDoor
