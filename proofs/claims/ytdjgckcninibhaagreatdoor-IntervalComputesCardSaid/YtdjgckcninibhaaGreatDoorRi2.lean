/- The reference of layer 3 (ref.go), part 2: negatives, sums, products, minima, hulls. -/
import Derived.Test.YtdjgckcninibhaaGreatDoorRi1
set_option linter.unusedSimpArgs false
set_option linter.unusedVariables false
set_option linter.deprecated false
namespace Go.Proofs.YtdjgckcninibhaaGreatDoor
open Go Go.Ax
set_option maxRecDepth 100000
set_option maxHeartbeats 4000000

theorem ri_Neg (s1 : Bool) (w1 : List Nat) (d1 : Int) (t1 : Bool) (u1 : List Nat) (e1 : Int) (x1 y1 : Dy) (a1 : Iv) (h1 : IArg s1 w1 d1 t1 u1 e1 x1 y1 a1) : CallOK Tryz.prog gl 59 [.agg [.v (.bool s1), .sl 1 (u32s w1), .v (.int .i64 d1), .v (.bool t1), .sl 1 (u32s u1), .v (.int .i64 e1)]] (.agg [.v (.bool (sg (a1.neg).lo)), .sl 1 (u32s (ms (a1.neg).lo)), .v (.int .i64 (dn (a1.neg).lo)), .v (.bool (sg (a1.neg).hi)), .sl 1 (u32s (ms (a1.neg).hi)), .v (.int .i64 (dn (a1.neg).hi))]) := by
  refine call_ok (C := ⟨Tryz.prog, gl, ti, 13, false⟩) ti_ok mixed 3000 Tryz.call59 Tryz.func59 rfl Tryz.ntmps59 (by simp) byClL byCl ?_
  rw [Tryz.results59]
  have r1 := ri_Norm _ _ _ _ _ _ _ _ _ h1
  have p1 := ref_Neg _ _ _ _ h1.lo
  have p2 := ref_Neg _ _ _ _ h1.hi
  have p3 := ri_span2 _ _ _ _ h1.lo.neg_of _ _ _ _ h1.hi.neg_of
  rw [Iv.neg_ref] at p3
  repeat' (first | (simp only [go_sem, Int.reduceAdd, Int.reduceEq, Int.reduceLE, Int.reduceLT, Int.reduceMul, Int.reduceNeg, Int.reducePow, Int.reduceSub, Int.reduceToNat, Nat.reduceAdd, Nat.reduceBEq, Nat.reduceEqDiff, Nat.reduceLT, Nat.reduceLeDiff, Nat.reduceMul, Nat.reducePow, Nat.reduceSub, reduceCtorEq, reduceIte, IntKind.bits.eq_def, ti, tin]) | (simp (disch := omega) only [w64, wu64, wu32, Nat.min_eq_left]) | (with_reducible first | refine cF (r1) ?_ | refine dF (r1) ?_) | (with_reducible first | refine cF (p1) ?_ | refine dF (p1) ?_) | (with_reducible first | refine cF (p2) ?_ | refine dF (p2) ?_) | (with_reducible first | refine cF (p3) ?_ | refine dF (p3) ?_) | (refine aL ti_ok ?_) | (refine dL ti_ok ?_) | (refine dE (by kernel_rfl) ?_) | ((first | refine cC ?_ ?_ | refine gS ?_ ?_ | refine dS ?_ ?_) <;> intro hc <;> first | (exfalso; simp only [dcT, dcF, bnT, bnF, bnU, bnV] at hc; omega) | (simp only [hc]; try simp only [dcT, dcF, bnT, bnF, bnU, bnV] at hc)) | (refine aN (by omega) ?_) | (refine dN (by omega) ?_))
  exact fin_same trivial rfl
theorem ri_Add (s1 : Bool) (w1 : List Nat) (d1 : Int) (t1 : Bool) (u1 : List Nat) (e1 : Int) (x1 y1 : Dy) (a1 : Iv) (h1 : IArg s1 w1 d1 t1 u1 e1 x1 y1 a1) (s2 : Bool) (w2 : List Nat) (d2 : Int) (t2 : Bool) (u2 : List Nat) (e2 : Int) (x2 y2 : Dy) (a2 : Iv) (h2 : IArg s2 w2 d2 t2 u2 e2 x2 y2 a2) (k : Nat) (g1 : a1.Mg k) (g2 : a2.Mg k) (hk : k ≤ 1099511627775) : CallOK Tryz.prog gl 63 [.agg [.v (.bool s1), .sl 1 (u32s w1), .v (.int .i64 d1), .v (.bool t1), .sl 1 (u32s u1), .v (.int .i64 e1)], .agg [.v (.bool s2), .sl 1 (u32s w2), .v (.int .i64 d2), .v (.bool t2), .sl 1 (u32s u2), .v (.int .i64 e2)]] (.agg [.v (.bool (sg (a1.add a2).lo)), .sl 1 (u32s (ms (a1.add a2).lo)), .v (.int .i64 (dn (a1.add a2).lo)), .v (.bool (sg (a1.add a2).hi)), .sl 1 (u32s (ms (a1.add a2).hi)), .v (.int .i64 (dn (a1.add a2).hi))]) := by
  refine call_ok (C := ⟨Tryz.prog, gl, ti, 21, false⟩) ti_ok mixed 3000 Tryz.call63 Tryz.func63 rfl Tryz.ntmps63 (by simp) byClL byCl ?_
  rw [Tryz.results63]
  have r1 := ri_Norm _ _ _ _ _ _ _ _ _ h1
  have r2 := ri_Norm _ _ _ _ _ _ _ _ _ h2
  have p1 := ref_Add _ _ _ _ _ _ _ _ h1.lo h2.lo
  have p2 := ref_Add _ _ _ _ _ _ _ _ h1.hi h2.hi
  have p3 := ri_span2 _ _ _ _ (Arg.of (g1.1.add g2.1) (by omega)) _ _ _ _ (Arg.of (g1.2.add g2.2) (by omega))
  rw [Iv.add_ref] at p3
  repeat' (first | (simp only [go_sem, Int.reduceAdd, Int.reduceEq, Int.reduceLE, Int.reduceLT, Int.reduceMul, Int.reduceNeg, Int.reducePow, Int.reduceSub, Int.reduceToNat, Nat.reduceAdd, Nat.reduceBEq, Nat.reduceEqDiff, Nat.reduceLT, Nat.reduceLeDiff, Nat.reduceMul, Nat.reducePow, Nat.reduceSub, reduceCtorEq, reduceIte, IntKind.bits.eq_def, ti, tin]) | (simp (disch := omega) only [w64, wu64, wu32, Nat.min_eq_left]) | (with_reducible first | refine cF (r1) ?_ | refine dF (r1) ?_) | (with_reducible first | refine cF (r2) ?_ | refine dF (r2) ?_) | (with_reducible first | refine cF (p1) ?_ | refine dF (p1) ?_) | (with_reducible first | refine cF (p2) ?_ | refine dF (p2) ?_) | (with_reducible first | refine cF (p3) ?_ | refine dF (p3) ?_) | (refine aL ti_ok ?_) | (refine dL ti_ok ?_) | (refine dE (by kernel_rfl) ?_) | ((first | refine cC ?_ ?_ | refine gS ?_ ?_ | refine dS ?_ ?_) <;> intro hc <;> first | (exfalso; simp only [dcT, dcF, bnT, bnF, bnU, bnV] at hc; omega) | (simp only [hc]; try simp only [dcT, dcF, bnT, bnF, bnU, bnV] at hc)) | (refine aN (by omega) ?_) | (refine dN (by omega) ?_))
  exact fin_same trivial rfl
theorem ri_Sub (s1 : Bool) (w1 : List Nat) (d1 : Int) (t1 : Bool) (u1 : List Nat) (e1 : Int) (x1 y1 : Dy) (a1 : Iv) (h1 : IArg s1 w1 d1 t1 u1 e1 x1 y1 a1) (s2 : Bool) (w2 : List Nat) (d2 : Int) (t2 : Bool) (u2 : List Nat) (e2 : Int) (x2 y2 : Dy) (a2 : Iv) (h2 : IArg s2 w2 d2 t2 u2 e2 x2 y2 a2) (k : Nat) (g1 : a1.Mg k) (g2 : a2.Mg k) (hk : k ≤ 1099511627775) : CallOK Tryz.prog gl 65 [.agg [.v (.bool s1), .sl 1 (u32s w1), .v (.int .i64 d1), .v (.bool t1), .sl 1 (u32s u1), .v (.int .i64 e1)], .agg [.v (.bool s2), .sl 1 (u32s w2), .v (.int .i64 d2), .v (.bool t2), .sl 1 (u32s u2), .v (.int .i64 e2)]] (.agg [.v (.bool (sg (a1.sub a2).lo)), .sl 1 (u32s (ms (a1.sub a2).lo)), .v (.int .i64 (dn (a1.sub a2).lo)), .v (.bool (sg (a1.sub a2).hi)), .sl 1 (u32s (ms (a1.sub a2).hi)), .v (.int .i64 (dn (a1.sub a2).hi))]) := by
  refine call_ok (C := ⟨Tryz.prog, gl, ti, 9, false⟩) ti_ok mixed 3000 Tryz.call65 Tryz.func65 rfl Tryz.ntmps65 (by simp) byClL byCl ?_
  rw [Tryz.results65]
  have p1 := ri_Neg _ _ _ _ _ _ _ _ _ h2
  have p2 := ri_Add _ _ _ _ _ _ _ _ _ h1 _ _ _ _ _ _ _ _ _ h2.cneg k g1 g2.neg hk
  repeat' (first | (simp only [go_sem, Int.reduceAdd, Int.reduceEq, Int.reduceLE, Int.reduceLT, Int.reduceMul, Int.reduceNeg, Int.reducePow, Int.reduceSub, Int.reduceToNat, Nat.reduceAdd, Nat.reduceBEq, Nat.reduceEqDiff, Nat.reduceLT, Nat.reduceLeDiff, Nat.reduceMul, Nat.reducePow, Nat.reduceSub, reduceCtorEq, reduceIte, IntKind.bits.eq_def, ti, tin]) | (simp (disch := omega) only [w64, wu64, wu32, Nat.min_eq_left]) | (with_reducible first | refine cF (p1) ?_ | refine dF (p1) ?_) | (with_reducible first | refine cF (p2) ?_ | refine dF (p2) ?_) | (refine aL ti_ok ?_) | (refine dL ti_ok ?_) | (refine dE (by kernel_rfl) ?_) | ((first | refine cC ?_ ?_ | refine gS ?_ ?_ | refine dS ?_ ?_) <;> intro hc <;> first | (exfalso; simp only [dcT, dcF, bnT, bnF, bnU, bnV] at hc; omega) | (simp only [hc]; try simp only [dcT, dcF, bnT, bnF, bnU, bnV] at hc)) | (refine aN (by omega) ?_) | (refine dN (by omega) ?_))
  exact fin_same trivial rfl
theorem ri_Mul (s1 : Bool) (w1 : List Nat) (d1 : Int) (t1 : Bool) (u1 : List Nat) (e1 : Int) (x1 y1 : Dy) (a1 : Iv) (h1 : IArg s1 w1 d1 t1 u1 e1 x1 y1 a1) (s2 : Bool) (w2 : List Nat) (d2 : Int) (t2 : Bool) (u2 : List Nat) (e2 : Int) (x2 y2 : Dy) (a2 : Iv) (h2 : IArg s2 w2 d2 t2 u2 e2 x2 y2 a2) (k l : Nat) (g1 : a1.Mg k) (g2 : a2.Mg l) (hk : k + l ≤ 1099511627775) : CallOK Tryz.prog gl 67 [.agg [.v (.bool s1), .sl 1 (u32s w1), .v (.int .i64 d1), .v (.bool t1), .sl 1 (u32s u1), .v (.int .i64 e1)], .agg [.v (.bool s2), .sl 1 (u32s w2), .v (.int .i64 d2), .v (.bool t2), .sl 1 (u32s u2), .v (.int .i64 e2)]] (.agg [.v (.bool (sg (a1.mul a2).lo)), .sl 1 (u32s (ms (a1.mul a2).lo)), .v (.int .i64 (dn (a1.mul a2).lo)), .v (.bool (sg (a1.mul a2).hi)), .sl 1 (u32s (ms (a1.mul a2).hi)), .v (.int .i64 (dn (a1.mul a2).hi))]) := by
  refine call_ok (C := ⟨Tryz.prog, gl, ti, 31, false⟩) ti_ok mixed 3000 Tryz.call67 Tryz.func67 rfl Tryz.ntmps67 (by simp) byClL byCl ?_
  rw [Tryz.results67]
  have r1 := ri_Norm _ _ _ _ _ _ _ _ _ h1
  have r2 := ri_Norm _ _ _ _ _ _ _ _ _ h2
  have p1 := ref_Mul _ _ _ _ _ _ _ _ h1.lo h2.lo
  have p2 := ref_Mul _ _ _ _ _ _ _ _ h1.lo h2.hi
  have p3 := ref_Mul _ _ _ _ _ _ _ _ h1.hi h2.lo
  have p4 := ref_Mul _ _ _ _ _ _ _ _ h1.hi h2.hi
  have p5 := ri_span4 _ _ _ _ (Arg.of (g1.1.mul g2.1) (by omega)) _ _ _ _ (Arg.of (g1.1.mul g2.2) (by omega)) _ _ _ _ (Arg.of (g1.2.mul g2.1) (by omega)) _ _ _ _ (Arg.of (g1.2.mul g2.2) (by omega))
  change CallOK _ _ _ _ (.agg [.v (.bool (sg (a1.mul a2).lo)), .sl 1 (u32s (ms (a1.mul a2).lo)), .v (.int .i64 (dn (a1.mul a2).lo)), .v (.bool (sg (a1.mul a2).hi)), .sl 1 (u32s (ms (a1.mul a2).hi)), .v (.int .i64 (dn (a1.mul a2).hi))]) at p5
  generalize a1.mul a2 = z at *
  generalize a1.lo.mul a2.lo = z1 at *
  generalize a1.lo.mul a2.hi = z2 at *
  generalize a1.hi.mul a2.lo = z3 at *
  generalize a1.hi.mul a2.hi = z4 at *
  repeat' (first | (simp only [go_sem, Int.reduceAdd, Int.reduceEq, Int.reduceLE, Int.reduceLT, Int.reduceMul, Int.reduceNeg, Int.reducePow, Int.reduceSub, Int.reduceToNat, Nat.reduceAdd, Nat.reduceBEq, Nat.reduceEqDiff, Nat.reduceLT, Nat.reduceLeDiff, Nat.reduceMul, Nat.reducePow, Nat.reduceSub, reduceCtorEq, reduceIte, IntKind.bits.eq_def, ti, tin]) | (simp (disch := omega) only [w64, wu64, wu32, Nat.min_eq_left]) | (with_reducible first | refine cF (r1) ?_ | refine dF (r1) ?_) | (with_reducible first | refine cF (r2) ?_ | refine dF (r2) ?_) | (with_reducible first | refine cF (p1) ?_ | refine dF (p1) ?_) | (with_reducible first | refine cF (p2) ?_ | refine dF (p2) ?_) | (with_reducible first | refine cF (p3) ?_ | refine dF (p3) ?_) | (with_reducible first | refine cF (p4) ?_ | refine dF (p4) ?_) | (with_reducible first | refine cF (p5) ?_ | refine dF (p5) ?_) | (refine aL ti_ok ?_) | (refine dL ti_ok ?_) | (refine dE (by kernel_rfl) ?_) | ((first | refine cC ?_ ?_ | refine gS ?_ ?_ | refine dS ?_ ?_) <;> intro hc <;> first | (exfalso; simp only [dcT, dcF, bnT, bnF, bnU, bnV] at hc; omega) | (simp only [hc]; try simp only [dcT, dcF, bnT, bnF, bnU, bnV] at hc)) | (refine aN (by omega) ?_) | (refine dN (by omega) ?_))
  exact fin_same trivial rfl
theorem ri_Min (s1 : Bool) (w1 : List Nat) (d1 : Int) (t1 : Bool) (u1 : List Nat) (e1 : Int) (x1 y1 : Dy) (a1 : Iv) (h1 : IArg s1 w1 d1 t1 u1 e1 x1 y1 a1) (s2 : Bool) (w2 : List Nat) (d2 : Int) (t2 : Bool) (u2 : List Nat) (e2 : Int) (x2 y2 : Dy) (a2 : Iv) (h2 : IArg s2 w2 d2 t2 u2 e2 x2 y2 a2) : CallOK Tryz.prog gl 69 [.agg [.v (.bool s1), .sl 1 (u32s w1), .v (.int .i64 d1), .v (.bool t1), .sl 1 (u32s u1), .v (.int .i64 e1)], .agg [.v (.bool s2), .sl 1 (u32s w2), .v (.int .i64 d2), .v (.bool t2), .sl 1 (u32s u2), .v (.int .i64 e2)]] (.agg [.v (.bool (sg (a1.min a2).lo)), .sl 1 (u32s (ms (a1.min a2).lo)), .v (.int .i64 (dn (a1.min a2).lo)), .v (.bool (sg (a1.min a2).hi)), .sl 1 (u32s (ms (a1.min a2).hi)), .v (.int .i64 (dn (a1.min a2).hi))]) := by
  refine call_ok (C := ⟨Tryz.prog, gl, ti, 20, false⟩) ti_ok mixed 3000 Tryz.call69 Tryz.func69 rfl Tryz.ntmps69 (by simp) byClL byCl ?_
  rw [Tryz.results69]
  have r1 := ri_Norm _ _ _ _ _ _ _ _ _ h1
  have r2 := ri_Norm _ _ _ _ _ _ _ _ _ h2
  have p1 := ref_Min _ _ _ _ _ _ _ _ h1.lo h2.lo
  have p2 := ref_Min _ _ _ _ _ _ _ _ h1.hi h2.hi
  repeat' (first | (simp only [go_sem, Int.reduceAdd, Int.reduceEq, Int.reduceLE, Int.reduceLT, Int.reduceMul, Int.reduceNeg, Int.reducePow, Int.reduceSub, Int.reduceToNat, Nat.reduceAdd, Nat.reduceBEq, Nat.reduceEqDiff, Nat.reduceLT, Nat.reduceLeDiff, Nat.reduceMul, Nat.reducePow, Nat.reduceSub, reduceCtorEq, reduceIte, IntKind.bits.eq_def, ti, tin]) | (simp (disch := omega) only [w64, wu64, wu32, Nat.min_eq_left]) | (with_reducible first | refine cF (r1) ?_ | refine dF (r1) ?_) | (with_reducible first | refine cF (r2) ?_ | refine dF (r2) ?_) | (with_reducible first | refine cF (p1) ?_ | refine dF (p1) ?_) | (with_reducible first | refine cF (p2) ?_ | refine dF (p2) ?_) | (refine aL ti_ok ?_) | (refine dL ti_ok ?_) | (refine dE (by kernel_rfl) ?_) | ((first | refine cC ?_ ?_ | refine gS ?_ ?_ | refine dS ?_ ?_) <;> intro hc <;> first | (exfalso; simp only [dcT, dcF, bnT, bnF, bnU, bnV] at hc; omega) | (simp only [hc]; try simp only [dcT, dcF, bnT, bnF, bnU, bnV] at hc)) | (refine aN (by omega) ?_) | (refine dN (by omega) ?_))
  exact fin_same trivial rfl
theorem ri_Max (s1 : Bool) (w1 : List Nat) (d1 : Int) (t1 : Bool) (u1 : List Nat) (e1 : Int) (x1 y1 : Dy) (a1 : Iv) (h1 : IArg s1 w1 d1 t1 u1 e1 x1 y1 a1) (s2 : Bool) (w2 : List Nat) (d2 : Int) (t2 : Bool) (u2 : List Nat) (e2 : Int) (x2 y2 : Dy) (a2 : Iv) (h2 : IArg s2 w2 d2 t2 u2 e2 x2 y2 a2) : CallOK Tryz.prog gl 71 [.agg [.v (.bool s1), .sl 1 (u32s w1), .v (.int .i64 d1), .v (.bool t1), .sl 1 (u32s u1), .v (.int .i64 e1)], .agg [.v (.bool s2), .sl 1 (u32s w2), .v (.int .i64 d2), .v (.bool t2), .sl 1 (u32s u2), .v (.int .i64 e2)]] (.agg [.v (.bool (sg (a1.max a2).lo)), .sl 1 (u32s (ms (a1.max a2).lo)), .v (.int .i64 (dn (a1.max a2).lo)), .v (.bool (sg (a1.max a2).hi)), .sl 1 (u32s (ms (a1.max a2).hi)), .v (.int .i64 (dn (a1.max a2).hi))]) := by
  refine call_ok (C := ⟨Tryz.prog, gl, ti, 20, false⟩) ti_ok mixed 3000 Tryz.call71 Tryz.func71 rfl Tryz.ntmps71 (by simp) byClL byCl ?_
  rw [Tryz.results71]
  have r1 := ri_Norm _ _ _ _ _ _ _ _ _ h1
  have r2 := ri_Norm _ _ _ _ _ _ _ _ _ h2
  have p1 := ref_Max _ _ _ _ _ _ _ _ h1.lo h2.lo
  have p2 := ref_Max _ _ _ _ _ _ _ _ h1.hi h2.hi
  repeat' (first | (simp only [go_sem, Int.reduceAdd, Int.reduceEq, Int.reduceLE, Int.reduceLT, Int.reduceMul, Int.reduceNeg, Int.reducePow, Int.reduceSub, Int.reduceToNat, Nat.reduceAdd, Nat.reduceBEq, Nat.reduceEqDiff, Nat.reduceLT, Nat.reduceLeDiff, Nat.reduceMul, Nat.reducePow, Nat.reduceSub, reduceCtorEq, reduceIte, IntKind.bits.eq_def, ti, tin]) | (simp (disch := omega) only [w64, wu64, wu32, Nat.min_eq_left]) | (with_reducible first | refine cF (r1) ?_ | refine dF (r1) ?_) | (with_reducible first | refine cF (r2) ?_ | refine dF (r2) ?_) | (with_reducible first | refine cF (p1) ?_ | refine dF (p1) ?_) | (with_reducible first | refine cF (p2) ?_ | refine dF (p2) ?_) | (refine aL ti_ok ?_) | (refine dL ti_ok ?_) | (refine dE (by kernel_rfl) ?_) | ((first | refine cC ?_ ?_ | refine gS ?_ ?_ | refine dS ?_ ?_) <;> intro hc <;> first | (exfalso; simp only [dcT, dcF, bnT, bnF, bnU, bnV] at hc; omega) | (simp only [hc]; try simp only [dcT, dcF, bnT, bnF, bnU, bnV] at hc)) | (refine aN (by omega) ?_) | (refine dN (by omega) ?_))
  exact fin_same trivial rfl
theorem ri_Hull (s1 : Bool) (w1 : List Nat) (d1 : Int) (t1 : Bool) (u1 : List Nat) (e1 : Int) (x1 y1 : Dy) (a1 : Iv) (h1 : IArg s1 w1 d1 t1 u1 e1 x1 y1 a1) (s2 : Bool) (w2 : List Nat) (d2 : Int) (t2 : Bool) (u2 : List Nat) (e2 : Int) (x2 y2 : Dy) (a2 : Iv) (h2 : IArg s2 w2 d2 t2 u2 e2 x2 y2 a2) : CallOK Tryz.prog gl 73 [.agg [.v (.bool s1), .sl 1 (u32s w1), .v (.int .i64 d1), .v (.bool t1), .sl 1 (u32s u1), .v (.int .i64 e1)], .agg [.v (.bool s2), .sl 1 (u32s w2), .v (.int .i64 d2), .v (.bool t2), .sl 1 (u32s u2), .v (.int .i64 e2)]] (.agg [.v (.bool (sg (a1.hull a2).lo)), .sl 1 (u32s (ms (a1.hull a2).lo)), .v (.int .i64 (dn (a1.hull a2).lo)), .v (.bool (sg (a1.hull a2).hi)), .sl 1 (u32s (ms (a1.hull a2).hi)), .v (.int .i64 (dn (a1.hull a2).hi))]) := by
  refine call_ok (C := ⟨Tryz.prog, gl, ti, 19, false⟩) ti_ok mixed 3000 Tryz.call73 Tryz.func73 rfl Tryz.ntmps73 (by simp) byClL byCl ?_
  rw [Tryz.results73]
  have r1 := ri_Norm _ _ _ _ _ _ _ _ _ h1
  have r2 := ri_Norm _ _ _ _ _ _ _ _ _ h2
  have p1 := ri_span4 _ _ _ _ h1.lo _ _ _ _ h1.hi _ _ _ _ h2.lo _ _ _ _ h2.hi
  repeat' (first | (simp only [go_sem, Int.reduceAdd, Int.reduceEq, Int.reduceLE, Int.reduceLT, Int.reduceMul, Int.reduceNeg, Int.reducePow, Int.reduceSub, Int.reduceToNat, Nat.reduceAdd, Nat.reduceBEq, Nat.reduceEqDiff, Nat.reduceLT, Nat.reduceLeDiff, Nat.reduceMul, Nat.reducePow, Nat.reduceSub, reduceCtorEq, reduceIte, IntKind.bits.eq_def, ti, tin]) | (simp (disch := omega) only [w64, wu64, wu32, Nat.min_eq_left]) | (with_reducible first | refine cF (r1) ?_ | refine dF (r1) ?_) | (with_reducible first | refine cF (r2) ?_ | refine dF (r2) ?_) | (with_reducible first | refine cF (p1) ?_ | refine dF (p1) ?_) | (refine aL ti_ok ?_) | (refine dL ti_ok ?_) | (refine dE (by kernel_rfl) ?_) | ((first | refine cC ?_ ?_ | refine gS ?_ ?_ | refine dS ?_ ?_) <;> intro hc <;> first | (exfalso; simp only [dcT, dcF, bnT, bnF, bnU, bnV] at hc; omega) | (simp only [hc]; try simp only [dcT, dcF, bnT, bnF, bnU, bnV] at hc)) | (refine aN (by omega) ?_) | (refine dN (by omega) ?_))
  exact fin_same trivial rfl
end Go.Proofs.YtdjgckcninibhaaGreatDoor
