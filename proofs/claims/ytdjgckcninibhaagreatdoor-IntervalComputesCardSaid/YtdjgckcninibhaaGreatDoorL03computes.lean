/- The statement IntervalComputes: its code returns true. -/
import Derived.Test.YtdjgckcninibhaaGreatDoorQuo1
import Derived.Test.YtdjgckcninibhaaGreatDoorRi7
set_option linter.unusedSimpArgs false
set_option linter.unusedVariables false
set_option linter.deprecated false
namespace Go.Proofs.YtdjgckcninibhaaGreatDoor
open Go Go.Ax
set_option maxRecDepth 100000
set_option maxHeartbeats 4000000

theorem computes_out (s1 : Bool) (w1 : List Nat) (d1 : Int) (t1 : Bool) (u1 : List Nat) (e1 : Int) (l1 : w1.length ≤ 9223372036854775807 ∧ u1.length ≤ 9223372036854775807) (s2 : Bool) (w2 : List Nat) (d2 : Int) (t2 : Bool) (u2 : List Nat) (e2 : Int) (l2 : w2.length ≤ 9223372036854775807 ∧ u2.length ≤ 9223372036854775807) (hf : ¬ (shI ⟨s1, w1, d1, t1, u1, e1⟩ ∧ shI ⟨s2, w2, d2, t2, u2, e2⟩)) : CallOK Tryz.prog gl 10 [.agg [.v (.bool s1), .sl 1 (u32s w1), .v (.int .i64 d1), .v (.bool t1), .sl 1 (u32s u1), .v (.int .i64 e1)], .agg [.v (.bool s2), .sl 1 (u32s w2), .v (.int .i64 d2), .v (.bool t2), .sl 1 (u32s u2), .v (.int .i64 e2)]] (.v (.bool (true))) := by
  refine call_ok (C := ⟨Tryz.prog, gl, ti, 111, false⟩) ti_ok mixed 3000 Tryz.call10 Tryz.func10 rfl Tryz.ntmps10 (by simp) byClL byCl ?_
  rw [Tryz.results10]
  have fw := few03_2 s1 w1 d1 t1 u1 e1 l1 s2 w2 d2 t2 u2 e2 l2
  rw [decide_eq_false hf] at fw
  clear hf
  repeat' (first | (simp only [go_sem, Int.reduceAdd, Int.reduceEq, Int.reduceLE, Int.reduceLT, Int.reduceMul, Int.reduceNeg, Int.reducePow, Int.reduceSub, Int.reduceToNat, Nat.reduceAdd, Nat.reduceBEq, Nat.reduceEqDiff, Nat.reduceLT, Nat.reduceLeDiff, Nat.reduceMul, Nat.reducePow, Nat.reduceSub, reduceCtorEq, reduceIte, IntKind.bits.eq_def, ti, tin]) | (simp (disch := omega) only [w64, wu64, wu32, Nat.min_eq_left]) | (with_reducible first | refine cF (fw) ?_ | refine dF (fw) ?_) | (with_reducible first | refine cF (awake03) ?_ | refine dF (awake03) ?_) | (refine aL ti_ok ?_) | (refine dL ti_ok ?_) | (refine dE (by kernel_rfl) ?_) | ((first | refine cC ?_ ?_ | refine gS ?_ ?_ | refine dS ?_ ?_) <;> intro hc <;> first | (exfalso; simp only [dcT, dcF, bnT, bnF, bnU, bnV] at hc; omega) | (simp only [hc]; try simp only [dcT, dcF, bnT, bnF, bnU, bnV] at hc)) | (refine aN (by omega) ?_) | (refine dN (by omega) ?_))
  all_goals exact fin_same trivial rfl
theorem computes_in (s1 : Bool) (w1 : List Nat) (d1 : Int) (t1 : Bool) (u1 : List Nat) (e1 : Int) (x1 y1 : Dy) (a1 : Iv) (h1 : IArg s1 w1 d1 t1 u1 e1 x1 y1 a1) (g1 : a1.Mg 256) (k1 : a1.Dn 200) (gx1 : Mg 256 x1) (gy1 : Mg 256 y1) (s2 : Bool) (w2 : List Nat) (d2 : Int) (t2 : Bool) (u2 : List Nat) (e2 : Int) (x2 y2 : Dy) (a2 : Iv) (h2 : IArg s2 w2 d2 t2 u2 e2 x2 y2 a2) (g2 : a2.Mg 256) (k2 : a2.Dn 200) (gx2 : Mg 256 x2) (gy2 : Mg 256 y2) (hf : shI ⟨s1, w1, d1, t1, u1, e1⟩ ∧ shI ⟨s2, w2, d2, t2, u2, e2⟩) : CallOK Tryz.prog gl 10 [.agg [.v (.bool s1), .sl 1 (u32s w1), .v (.int .i64 d1), .v (.bool t1), .sl 1 (u32s u1), .v (.int .i64 e1)], .agg [.v (.bool s2), .sl 1 (u32s w2), .v (.int .i64 d2), .v (.bool t2), .sl 1 (u32s u2), .v (.int .i64 e2)]] (.v (.bool (true))) := by
  refine call_ok (C := ⟨Tryz.prog, gl, ti, 111, false⟩) ti_ok mixed 3000 Tryz.call10 Tryz.func10 rfl Tryz.ntmps10 (by simp) byClL byCl ?_
  rw [Tryz.results10]
  have fw := few03_2 s1 w1 d1 t1 u1 e1 ⟨by have := h1.px.len; omega, by have := h1.py.len; omega⟩ s2 w2 d2 t2 u2 e2 ⟨by have := h2.px.len; omega, by have := h2.py.len; omega⟩
  rw [decide_eq_true hf] at fw
  clear hf
  have a20 := iv_Neg _ _ _ _ _ _ _ _ _ h1
  have b20 := ri_Neg _ _ _ _ _ _ _ _ _ h1
  have c20 := ri_same g1.neg
  have a21 := iv_Abs _ _ _ _ _ _ _ _ _ h1
  have b21 := ri_Abs _ _ _ _ _ _ _ _ _ h1
  have c21 := ri_same g1.abs
  have a30 := iv_Add _ _ _ _ _ _ _ _ _ h1 _ _ _ _ _ _ _ _ _ h2
  have b30 := ri_Add _ _ _ _ _ _ _ _ _ h1 _ _ _ _ _ _ _ _ _ h2 256 g1 g2 (by omega)
  have c30 := ri_same (g1.add g2)
  have a31 := iv_Sub _ _ _ _ _ _ _ _ _ h1 _ _ _ _ _ _ _ _ _ h2
  have b31 := ri_Sub _ _ _ _ _ _ _ _ _ h1 _ _ _ _ _ _ _ _ _ h2 256 g1 g2 (by omega)
  have c31 := ri_same (g1.sub g2)
  have a32 := iv_Mul _ _ _ _ _ _ _ _ _ h1 _ _ _ _ _ _ _ _ _ h2 256 256 g1 g2 (by omega)
  have b32 := ri_Mul _ _ _ _ _ _ _ _ _ h1 _ _ _ _ _ _ _ _ _ h2 256 256 g1 g2 (by omega)
  have c32 := ri_same (g1.mul g2)
  have a33 := iv_Min _ _ _ _ _ _ _ _ _ h1 _ _ _ _ _ _ _ _ _ h2
  have b33 := ri_Min _ _ _ _ _ _ _ _ _ h1 _ _ _ _ _ _ _ _ _ h2
  have c33 := ri_same (g1.min g2)
  have a34 := iv_Max _ _ _ _ _ _ _ _ _ h1 _ _ _ _ _ _ _ _ _ h2
  have b34 := ri_Max _ _ _ _ _ _ _ _ _ h1 _ _ _ _ _ _ _ _ _ h2
  have c34 := ri_same (g1.max g2)
  have a35 := iv_Hull _ _ _ _ _ _ _ _ _ h1 _ _ _ _ _ _ _ _ _ h2
  have b35 := ri_Hull _ _ _ _ _ _ _ _ _ h1 _ _ _ _ _ _ _ _ _ h2
  have c35 := ri_same (g1.hull g2)
  have a40 := iv_Inside _ _ _ _ _ _ _ _ _ h1 _ _ _ _ _ _ _ _ _ h2
  have b40 := ri_Inside _ _ _ _ _ _ _ _ _ h1 _ _ _ _ _ _ _ _ _ h2
  have a41 := iv_Text _ _ _ _ _ _ _ _ _ h1
  have b41 := ri_Text _ _ _ _ _ _ _ _ _ h1
  have a42 := iv_Mag _ _ _ _ _ _ _ _ _ h1
  have b42 := ri_Mag _ _ _ _ _ _ _ _ _ h1
  have c42 := same03 g1.abs.2
  have a43 := iv_Width _ _ _ _ _ _ _ _ _ h1
  have b43 := ri_Width _ _ _ _ _ _ _ _ _ h1
  have c43 := same03 (g1.2.sub g1.1)
  unfold Iv.mag at a42 b42
  unfold Iv.width at a43 b43
  generalize a1.hi.sub a1.lo = z64 at *
  generalize a1.add a2 = z50 at *
  generalize a1.sub a2 = z51 at *
  generalize a1.mul a2 = z52 at *
  generalize a1.min a2 = z53 at *
  generalize a1.max a2 = z54 at *
  generalize a1.hull a2 = z55 at *
  generalize a1.neg = z61 at *
  generalize a1.abs = z62 at *
  generalize a1.ins a2 = b1 at *
  generalize ivText a1 = z63 at *
  repeat' (first | (simp only [go_sem, Int.reduceAdd, Int.reduceEq, Int.reduceLE, Int.reduceLT, Int.reduceMul, Int.reduceNeg, Int.reducePow, Int.reduceSub, Int.reduceToNat, Nat.reduceAdd, Nat.reduceBEq, Nat.reduceEqDiff, Nat.reduceLT, Nat.reduceLeDiff, Nat.reduceMul, Nat.reducePow, Nat.reduceSub, reduceCtorEq, reduceIte, IntKind.bits.eq_def, ti, tin]) | (simp (disch := omega) only [w64, wu64, wu32, Nat.min_eq_left]) | (with_reducible first | refine cF (fw) ?_ | refine dF (fw) ?_) | (with_reducible first | refine cF (awake03) ?_ | refine dF (awake03) ?_) | (with_reducible first | refine cF (a20) ?_ | refine dF (a20) ?_) | (with_reducible first | refine cF (b20) ?_ | refine dF (b20) ?_) | (with_reducible first | refine cF (c20) ?_ | refine dF (c20) ?_) | (with_reducible first | refine cF (a21) ?_ | refine dF (a21) ?_) | (with_reducible first | refine cF (b21) ?_ | refine dF (b21) ?_) | (with_reducible first | refine cF (c21) ?_ | refine dF (c21) ?_) | (with_reducible first | refine cF (a30) ?_ | refine dF (a30) ?_) | (with_reducible first | refine cF (b30) ?_ | refine dF (b30) ?_) | (with_reducible first | refine cF (c30) ?_ | refine dF (c30) ?_) | (with_reducible first | refine cF (a31) ?_ | refine dF (a31) ?_) | (with_reducible first | refine cF (b31) ?_ | refine dF (b31) ?_) | (with_reducible first | refine cF (c31) ?_ | refine dF (c31) ?_) | (with_reducible first | refine cF (a32) ?_ | refine dF (a32) ?_) | (with_reducible first | refine cF (b32) ?_ | refine dF (b32) ?_) | (with_reducible first | refine cF (c32) ?_ | refine dF (c32) ?_) | (with_reducible first | refine cF (a33) ?_ | refine dF (a33) ?_) | (with_reducible first | refine cF (b33) ?_ | refine dF (b33) ?_) | (with_reducible first | refine cF (c33) ?_ | refine dF (c33) ?_) | (with_reducible first | refine cF (a34) ?_ | refine dF (a34) ?_) | (with_reducible first | refine cF (b34) ?_ | refine dF (b34) ?_) | (with_reducible first | refine cF (c34) ?_ | refine dF (c34) ?_) | (with_reducible first | refine cF (a35) ?_ | refine dF (a35) ?_) | (with_reducible first | refine cF (b35) ?_ | refine dF (b35) ?_) | (with_reducible first | refine cF (c35) ?_ | refine dF (c35) ?_) | (with_reducible first | refine cF (a40) ?_ | refine dF (a40) ?_) | (with_reducible first | refine cF (b40) ?_ | refine dF (b40) ?_) | (with_reducible first | refine cF (a41) ?_ | refine dF (a41) ?_) | (with_reducible first | refine cF (b41) ?_ | refine dF (b41) ?_) | (with_reducible first | refine cF (a42) ?_ | refine dF (a42) ?_) | (with_reducible first | refine cF (b42) ?_ | refine dF (b42) ?_) | (with_reducible first | refine cF (c42) ?_ | refine dF (c42) ?_) | (with_reducible first | refine cF (a43) ?_ | refine dF (a43) ?_) | (with_reducible first | refine cF (b43) ?_ | refine dF (b43) ?_) | (with_reducible first | refine cF (c43) ?_ | refine dF (c43) ?_) | (refine aL ti_ok ?_) | (refine dL ti_ok ?_) | (refine dE (by kernel_rfl) ?_) | ((first | refine cC ?_ ?_ | refine gS ?_ ?_ | refine dS ?_ ?_) <;> intro hc <;> first | (exfalso; simp only [dcT, dcF, bnT, bnF, bnU, bnV] at hc; omega) | (simp only [hc]; try simp only [dcT, dcF, bnT, bnF, bnU, bnV] at hc)) | (refine aN (by omega) ?_) | (refine dN (by omega) ?_))
  all_goals exact fin_same trivial rfl
theorem computes_law (s1 : Bool) (w1 : List (List AV)) (d1 : Int) (t1 : Bool) (u1 : List (List AV)) (e1 : Int) (s2 : Bool) (w2 : List (List AV)) (d2 : Int) (t2 : Bool) (u2 : List (List AV)) (e2 : Int) (m1 : w1.length ≤ maxLen) (f1 : ∀ x ∈ w1, FitL [.int .u32] x) (n1 : u1.length ≤ maxLen) (g1 : ∀ x ∈ u1, FitL [.int .u32] x) (m2 : w2.length ≤ maxLen) (f2 : ∀ x ∈ w2, FitL [.int .u32] x) (n2 : u2.length ≤ maxLen) (g2 : ∀ x ∈ u2, FitL [.int .u32] x) : CallOK Tryz.prog gl 10 [.agg [.v (.bool s1), .sl 1 w1, .v (.int .i64 d1), .v (.bool t1), .sl 1 u1, .v (.int .i64 e1)], .agg [.v (.bool s2), .sl 1 w2, .v (.int .i64 d2), .v (.bool t2), .sl 1 u2, .v (.int .i64 e2)]] (.v (.bool true)) := by
  unfold maxLen at *
  obtain ⟨w1, W1, rfl, z1⟩ := fit_u32s f1
  obtain ⟨u1, U1, rfl, y1⟩ := fit_u32s g1
  obtain ⟨w2, W2, rfl, z2⟩ := fit_u32s f2
  obtain ⟨u2, U2, rfl, y2⟩ := fit_u32s g2
  by_cases hf : shI ⟨s1, w1, d1, t1, u1, e1⟩ ∧ shI ⟨s2, w2, d2, t2, u2, e2⟩
  ·
    obtain ⟨x1, y1, a1, h1, g1, k1, p1, q1⟩ := sh_iarg W1 U1 hf.1
    obtain ⟨x2, y2, a2, h2, g2, k2, p2, q2⟩ := sh_iarg W2 U2 hf.2
    exact computes_in _ _ _ _ _ _ _ _ _ h1 g1 k1 p1 q1 _ _ _ _ _ _ _ _ _ h2 g2 k2 p2 q2 hf
  · exact computes_out s1 w1 d1 t1 u1 e1 ⟨by omega, by omega⟩ s2 w2 d2 t2 u2 e2 ⟨by omega, by omega⟩ hf
end Go.Proofs.YtdjgckcninibhaaGreatDoor
