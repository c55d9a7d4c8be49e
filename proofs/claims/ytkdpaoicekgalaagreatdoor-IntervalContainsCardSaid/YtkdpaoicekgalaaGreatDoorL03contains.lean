/- The statement IntervalContains: its code returns true. -/
import Derived.Test.YtkdpaoicekgalaaGreatDoorL03p
set_option linter.unusedSimpArgs false
set_option linter.unusedVariables false
set_option linter.deprecated false
namespace Go.Proofs.YtkdpaoicekgalaaGreatDoor
open Go Go.Ax
set_option maxRecDepth 100000
set_option maxHeartbeats 4000000

theorem contains_out (s1 : Bool) (w1 : List Nat) (d1 : Int) (t1 : Bool) (u1 : List Nat) (e1 : Int) (l1 : w1.length ≤ 9223372036854775807 ∧ u1.length ≤ 9223372036854775807) (s2 : Bool) (w2 : List Nat) (d2 : Int) (t2 : Bool) (u2 : List Nat) (e2 : Int) (l2 : w2.length ≤ 9223372036854775807 ∧ u2.length ≤ 9223372036854775807) (i1 : Int) (hi1 : 0 ≤ i1 ∧ i1 ≤ 255) (i2 : Int) (hi2 : 0 ≤ i2 ∧ i2 ≤ 255) (hf : ¬ (shI ⟨s1, w1, d1, t1, u1, e1⟩ ∧ shI ⟨s2, w2, d2, t2, u2, e2⟩)) : CallOK Tryz.prog gl 4 [.agg [.v (.bool s1), .sl 1 (u32s w1), .v (.int .i64 d1), .v (.bool t1), .sl 1 (u32s u1), .v (.int .i64 e1)], .agg [.v (.bool s2), .sl 1 (u32s w2), .v (.int .i64 d2), .v (.bool t2), .sl 1 (u32s u2), .v (.int .i64 e2)], .agg [.v (.int .u8 i1), .v (.int .u8 i2)]] (.v (.bool (true))) := by
  refine call_ok (C := ⟨Tryz.prog, gl, ti, 120, false⟩) ti_ok mixed 3000 Tryz.call4 Tryz.func4 rfl Tryz.ntmps4 (by simp) byClL byCl ?_
  rw [Tryz.results4]
  have fw := few03_2 s1 w1 d1 t1 u1 e1 l1 s2 w2 d2 t2 u2 e2 l2
  rw [decide_eq_false hf] at fw
  clear hf
  repeat' (first
    | (simp only [go_sem, Int.reduceAdd, Int.reduceEq, Int.reduceLE, Int.reduceLT, Int.reduceMul, Int.reduceNeg, Int.reducePow, Int.reduceSub, Int.reduceToNat, Nat.reduceAdd, Nat.reduceBEq, Nat.reduceEqDiff, Nat.reduceLT, Nat.reduceLeDiff, Nat.reduceMul, Nat.reducePow, Nat.reduceSub, reduceCtorEq, reduceIte, IntKind.bits.eq_def, ti, tin])
    | (simp (disch := omega) only [w64, wu64, wu32, Nat.min_eq_left])
    | (with_reducible refine callF_of (fw) ?_)
    | (with_reducible refine drawF_of (fw) ?_)
    | (with_reducible refine callF_of (awake03) ?_)
    | (with_reducible refine drawF_of (awake03) ?_)
    | (refine after_lit ti_ok ?_)
    | (refine drawAfter_lit ti_ok ?_)
    | (refine drawEnd_of (by kernel_rfl) ?_)
    | ((first | refine cond_cases (fun hc => ?_) (fun hc => ?_) | refine guard_split (fun hc => ?_) (fun hc => ?_) | refine drawGuard_split (fun hc => ?_) (fun hc => ?_)) <;> first | (exfalso; simp only [decide_eq_true_eq, decide_eq_false_iff_not, Bool.not_eq_true, Bool.not_eq_false, Bool.not_eq_true', Bool.not_eq_false'] at hc; omega) | (simp only [hc]; try simp only [decide_eq_true_eq, decide_eq_false_iff_not, Bool.not_eq_true, Bool.not_eq_false, Bool.not_eq_true', Bool.not_eq_false'] at hc))
    | (refine after_need (by omega) ?_)
    | (refine drawAfter_need (by omega) ?_))
  all_goals exact fin_same trivial rfl
theorem contains_in (s1 : Bool) (w1 : List Nat) (d1 : Int) (t1 : Bool) (u1 : List Nat) (e1 : Int) (x1 y1 : Dy) (a1 : Iv) (h1 : IArg s1 w1 d1 t1 u1 e1 x1 y1 a1) (g1 : a1.Mg 256) (k1 : a1.Dn 200) (gx1 : Mg 256 x1) (gy1 : Mg 256 y1) (s2 : Bool) (w2 : List Nat) (d2 : Int) (t2 : Bool) (u2 : List Nat) (e2 : Int) (x2 y2 : Dy) (a2 : Iv) (h2 : IArg s2 w2 d2 t2 u2 e2 x2 y2 a2) (g2 : a2.Mg 256) (k2 : a2.Dn 200) (gx2 : Mg 256 x2) (gy2 : Mg 256 y2) (i1 : Int) (hi1 : 0 ≤ i1 ∧ i1 ≤ 255) (i2 : Int) (hi2 : 0 ≤ i2 ∧ i2 ≤ 255) (hf : shI ⟨s1, w1, d1, t1, u1, e1⟩ ∧ shI ⟨s2, w2, d2, t2, u2, e2⟩) : CallOK Tryz.prog gl 4 [.agg [.v (.bool s1), .sl 1 (u32s w1), .v (.int .i64 d1), .v (.bool t1), .sl 1 (u32s u1), .v (.int .i64 e1)], .agg [.v (.bool s2), .sl 1 (u32s w2), .v (.int .i64 d2), .v (.bool t2), .sl 1 (u32s u2), .v (.int .i64 e2)], .agg [.v (.int .u8 i1), .v (.int .u8 i2)]] (.v (.bool (true))) := by
  refine call_ok (C := ⟨Tryz.prog, gl, ti, 120, false⟩) ti_ok mixed 3000 Tryz.call4 Tryz.func4 rfl Tryz.ntmps4 (by simp) byClL byCl ?_
  rw [Tryz.results4]
  have fw := few03_2 s1 w1 d1 t1 u1 e1 ⟨by have := h1.px.len; omega, by have := h1.py.len; omega⟩ s2 w2 d2 t2 u2 e2 ⟨by have := h2.px.len; omega, by have := h2.py.len; omega⟩
  rw [decide_eq_true hf] at fw
  clear hf
  have e1 := pick_mg (i := (i1 % 17).toNat) g1 (by omega) (by omega)
  have e2 := pick_mg (i := (i2 % 17).toNat) g2 (by omega) (by omega)
  have n1 := pick_on (i := (i1 % 17).toNat) k1 (by omega) (by omega)
  have n2 := pick_on (i := (i2 % 17).toNat) k2 (by omega) (by omega)
  have m1 := pick_dn (i := (i1 % 17).toNat) k1 (by omega)
  have m2 := pick_dn (i := (i2 % 17).toNat) k2 (by omega)
  have q1 := pick03 _ _ _ _ _ _ _ _ _ h1 (g1.mono (by omega)) i1 hi1
  have q2 := pick03 _ _ _ _ _ _ _ _ _ h2 (g2.mono (by omega)) i2 hi2
  generalize pickD a1 (i1 % 17).toNat = x at *
  generalize pickD a2 (i2 % 17).toNat = y at *
  have ax := Arg.of e1 (by omega)
  have ay := Arg.of e2 (by omega)
  have j1 := iv_Contains _ _ _ _ _ _ _ _ _ h1 _ _ _ _ ax
  rw [n1.has] at j1
  have a20 := iv_Neg _ _ _ _ _ _ _ _ _ h1
  have b20 := Neg_ok _ _ _ _ ax
  have c20 := iv_Contains _ _ _ _ _ _ _ _ _ (IArg.of g1.neg) _ _ _ _ (Arg.of e1.neg (by omega))
  rw [(on_neg n1).has] at c20
  have a21 := iv_Abs _ _ _ _ _ _ _ _ _ h1
  have b21 := Abs_ok _ _ _ _ ax
  have c21 := iv_Contains _ _ _ _ _ _ _ _ _ (IArg.of g1.abs) _ _ _ _ (Arg.of e1.abs (by omega))
  rw [(on_abs n1).has] at c21
  have a30 := iv_Add _ _ _ _ _ _ _ _ _ h1 _ _ _ _ _ _ _ _ _ h2
  have b30 := Add_ok _ _ _ _ _ _ _ _ ax ay
  have c30 := iv_Contains _ _ _ _ _ _ _ _ _ (IArg.of (g1.add g2)) _ _ _ _ (Arg.of (e1.add e2) (by omega))
  rw [(on_add n1 n2).has] at c30
  have a31 := iv_Sub _ _ _ _ _ _ _ _ _ h1 _ _ _ _ _ _ _ _ _ h2
  have b31 := Sub_ok _ _ _ _ _ _ _ _ ax ay
  have c31 := iv_Contains _ _ _ _ _ _ _ _ _ (IArg.of (g1.sub g2)) _ _ _ _ (Arg.of (e1.sub e2) (by omega))
  rw [(on_sub n1 n2).has] at c31
  have a32 := iv_Mul _ _ _ _ _ _ _ _ _ h1 _ _ _ _ _ _ _ _ _ h2 256 256 g1 g2 (by omega)
  have b32 := Mul_ok _ _ _ _ _ _ _ _ ax ay
  have c32 := iv_Contains _ _ _ _ _ _ _ _ _ (IArg.of (g1.mul g2)) _ _ _ _ (Arg.of (e1.mul e2) (by omega))
  rw [(on_mul (by omega) n1 n2 (k := 204) ⟨by have := k1.1; omega, by have := k1.2; omega⟩ ⟨by have := k2.1; omega, by have := k2.2; omega⟩ (by omega) (by omega)).has] at c32
  have a33 := iv_Min _ _ _ _ _ _ _ _ _ h1 _ _ _ _ _ _ _ _ _ h2
  have b33 := Min_ok _ _ _ _ _ _ _ _ ax ay
  have c33 := iv_Contains _ _ _ _ _ _ _ _ _ (IArg.of (g1.min g2)) _ _ _ _ (Arg.of (e1.min e2) (by omega))
  rw [(on_min n1 n2).has] at c33
  have a34 := iv_Max _ _ _ _ _ _ _ _ _ h1 _ _ _ _ _ _ _ _ _ h2
  have b34 := Max_ok _ _ _ _ _ _ _ _ ax ay
  have c34 := iv_Contains _ _ _ _ _ _ _ _ _ (IArg.of (g1.max g2)) _ _ _ _ (Arg.of (e1.max e2) (by omega))
  rw [(on_max n1 n2).has] at c34
  have a40 := iv_Hull _ _ _ _ _ _ _ _ _ h1 _ _ _ _ _ _ _ _ _ h2
  have c40 := iv_Contains _ _ _ _ _ _ _ _ _ (IArg.of (g1.hull g2)) _ _ _ _ ax
  rw [(on_hull1 n1).has] at c40
  have c41 := iv_Contains _ _ _ _ _ _ _ _ _ (IArg.of (g1.hull g2)) _ _ _ _ ay
  rw [(on_hull2 n2).has] at c41
  have a42 := iv_Mag _ _ _ _ _ _ _ _ _ h1
  have c42 := Cmp_ok _ _ _ _ _ _ _ _ (Arg.of e1.abs (by omega)) (Arg.of g1.abs.2 (by omega))
  have l42 := mag_le n1
  change x.abs.cmp a1.abs.hi ≤ 0 at l42
  unfold Iv.mag at a42
  have a43 := iv_Scale _ _ _ _ _ _ _ _ _ h1 _ _ _ _ ay 256 263 g1 e2 (by omega)
  have c43 := iv_Contains _ _ _ _ _ _ _ _ _ (IArg.of (g1.mul (Iv.Mg.pt e2))) _ _ _ _ (Arg.of (e1.mul e2) (by omega))
  rw [(on_mul (by omega) n1 (Iv.on_lo (Iv.pt y)) (k := 204) ⟨by have := k1.1; omega, by have := k1.2; omega⟩ ⟨by show y.d ≤ _; omega, by show y.d ≤ _; omega⟩ (by omega) (by show y.d ≤ _; omega) : (a1.mul (Iv.pt y)).On (x.mul y)).has] at c43
  clear e1 e2 ax ay n1 n2 m1 m2 g1 g2 k1 k2 gx1 gx2 gy1 gy2
  generalize x.abs.cmp a1.abs.hi = n at *
  generalize a1.mul (Iv.pt y) = z1 at *
  generalize a1.add a2 = z50 at *
  generalize a1.sub a2 = z51 at *
  generalize a1.mul a2 = z52 at *
  generalize a1.min a2 = z53 at *
  generalize a1.max a2 = z54 at *
  generalize a1.hull a2 = z55 at *
  generalize a1.neg = z60 at *
  generalize a1.abs = z61 at *
  generalize x.add y = z70 at *
  generalize x.sub y = z71 at *
  generalize x.mul y = z72 at *
  generalize x.min y = z73 at *
  generalize x.max y = z74 at *
  generalize x.neg = z80 at *
  generalize x.abs = z81 at *
  repeat' (first
    | (simp only [go_sem, Int.reduceAdd, Int.reduceEq, Int.reduceLE, Int.reduceLT, Int.reduceMul, Int.reduceNeg, Int.reducePow, Int.reduceSub, Int.reduceToNat, Nat.reduceAdd, Nat.reduceBEq, Nat.reduceEqDiff, Nat.reduceLT, Nat.reduceLeDiff, Nat.reduceMul, Nat.reducePow, Nat.reduceSub, reduceCtorEq, reduceIte, IntKind.bits.eq_def, ti, tin])
    | (simp (disch := omega) only [w64, wu64, wu32, Nat.min_eq_left])
    | (with_reducible refine callF_of (fw) ?_)
    | (with_reducible refine drawF_of (fw) ?_)
    | (with_reducible refine callF_of (awake03) ?_)
    | (with_reducible refine drawF_of (awake03) ?_)
    | (with_reducible refine callF_of (q1) ?_)
    | (with_reducible refine drawF_of (q1) ?_)
    | (with_reducible refine callF_of (q2) ?_)
    | (with_reducible refine drawF_of (q2) ?_)
    | (with_reducible refine callF_of (j1) ?_)
    | (with_reducible refine drawF_of (j1) ?_)
    | (with_reducible refine callF_of (a20) ?_)
    | (with_reducible refine drawF_of (a20) ?_)
    | (with_reducible refine callF_of (b20) ?_)
    | (with_reducible refine drawF_of (b20) ?_)
    | (with_reducible refine callF_of (c20) ?_)
    | (with_reducible refine drawF_of (c20) ?_)
    | (with_reducible refine callF_of (a21) ?_)
    | (with_reducible refine drawF_of (a21) ?_)
    | (with_reducible refine callF_of (b21) ?_)
    | (with_reducible refine drawF_of (b21) ?_)
    | (with_reducible refine callF_of (c21) ?_)
    | (with_reducible refine drawF_of (c21) ?_)
    | (with_reducible refine callF_of (a30) ?_)
    | (with_reducible refine drawF_of (a30) ?_)
    | (with_reducible refine callF_of (b30) ?_)
    | (with_reducible refine drawF_of (b30) ?_)
    | (with_reducible refine callF_of (c30) ?_)
    | (with_reducible refine drawF_of (c30) ?_)
    | (with_reducible refine callF_of (a31) ?_)
    | (with_reducible refine drawF_of (a31) ?_)
    | (with_reducible refine callF_of (b31) ?_)
    | (with_reducible refine drawF_of (b31) ?_)
    | (with_reducible refine callF_of (c31) ?_)
    | (with_reducible refine drawF_of (c31) ?_)
    | (with_reducible refine callF_of (a32) ?_)
    | (with_reducible refine drawF_of (a32) ?_)
    | (with_reducible refine callF_of (b32) ?_)
    | (with_reducible refine drawF_of (b32) ?_)
    | (with_reducible refine callF_of (c32) ?_)
    | (with_reducible refine drawF_of (c32) ?_)
    | (with_reducible refine callF_of (a33) ?_)
    | (with_reducible refine drawF_of (a33) ?_)
    | (with_reducible refine callF_of (b33) ?_)
    | (with_reducible refine drawF_of (b33) ?_)
    | (with_reducible refine callF_of (c33) ?_)
    | (with_reducible refine drawF_of (c33) ?_)
    | (with_reducible refine callF_of (a34) ?_)
    | (with_reducible refine drawF_of (a34) ?_)
    | (with_reducible refine callF_of (b34) ?_)
    | (with_reducible refine drawF_of (b34) ?_)
    | (with_reducible refine callF_of (c34) ?_)
    | (with_reducible refine drawF_of (c34) ?_)
    | (with_reducible refine callF_of (a40) ?_)
    | (with_reducible refine drawF_of (a40) ?_)
    | (with_reducible refine callF_of (c40) ?_)
    | (with_reducible refine drawF_of (c40) ?_)
    | (with_reducible refine callF_of (c41) ?_)
    | (with_reducible refine drawF_of (c41) ?_)
    | (with_reducible refine callF_of (a42) ?_)
    | (with_reducible refine drawF_of (a42) ?_)
    | (with_reducible refine callF_of (c42) ?_)
    | (with_reducible refine drawF_of (c42) ?_)
    | (with_reducible refine callF_of (a43) ?_)
    | (with_reducible refine drawF_of (a43) ?_)
    | (with_reducible refine callF_of (c43) ?_)
    | (with_reducible refine drawF_of (c43) ?_)
    | (refine after_lit ti_ok ?_)
    | (refine drawAfter_lit ti_ok ?_)
    | (refine drawEnd_of (by kernel_rfl) ?_)
    | ((first | refine cond_cases (fun hc => ?_) (fun hc => ?_) | refine guard_split (fun hc => ?_) (fun hc => ?_) | refine drawGuard_split (fun hc => ?_) (fun hc => ?_)) <;> first | (exfalso; simp only [decide_eq_true_eq, decide_eq_false_iff_not, Bool.not_eq_true, Bool.not_eq_false, Bool.not_eq_true', Bool.not_eq_false'] at hc; omega) | (simp only [hc]; try simp only [decide_eq_true_eq, decide_eq_false_iff_not, Bool.not_eq_true, Bool.not_eq_false, Bool.not_eq_true', Bool.not_eq_false'] at hc))
    | (refine after_need (by omega) ?_)
    | (refine drawAfter_need (by omega) ?_))
  all_goals exact fin_same trivial rfl
theorem contains_law (s1 : Bool) (w1 : List (List AV)) (d1 : Int) (t1 : Bool) (u1 : List (List AV)) (e1 : Int) (s2 : Bool) (w2 : List (List AV)) (d2 : Int) (t2 : Bool) (u2 : List (List AV)) (e2 : Int) (i1 : Int) (hi1 : 0 ≤ i1 ∧ i1 ≤ 255) (i2 : Int) (hi2 : 0 ≤ i2 ∧ i2 ≤ 255) (m1 : w1.length ≤ maxLen) (f1 : ∀ x ∈ w1, FitL [.int .u32] x) (n1 : u1.length ≤ maxLen) (g1 : ∀ x ∈ u1, FitL [.int .u32] x) (m2 : w2.length ≤ maxLen) (f2 : ∀ x ∈ w2, FitL [.int .u32] x) (n2 : u2.length ≤ maxLen) (g2 : ∀ x ∈ u2, FitL [.int .u32] x) : CallOK Tryz.prog gl 4 [.agg [.v (.bool s1), .sl 1 w1, .v (.int .i64 d1), .v (.bool t1), .sl 1 u1, .v (.int .i64 e1)], .agg [.v (.bool s2), .sl 1 w2, .v (.int .i64 d2), .v (.bool t2), .sl 1 u2, .v (.int .i64 e2)], .agg [.v (.int .u8 i1), .v (.int .u8 i2)]] (.v (.bool true)) := by
  unfold maxLen at *
  obtain ⟨w1, W1, rfl, z1⟩ := fit_u32s f1
  obtain ⟨u1, U1, rfl, y1⟩ := fit_u32s g1
  obtain ⟨w2, W2, rfl, z2⟩ := fit_u32s f2
  obtain ⟨u2, U2, rfl, y2⟩ := fit_u32s g2
  by_cases hf : shI ⟨s1, w1, d1, t1, u1, e1⟩ ∧ shI ⟨s2, w2, d2, t2, u2, e2⟩
  ·
    obtain ⟨x1, y1, a1, h1, g1, k1, p1, q1⟩ := sh_iarg W1 U1 hf.1
    obtain ⟨x2, y2, a2, h2, g2, k2, p2, q2⟩ := sh_iarg W2 U2 hf.2
    exact contains_in _ _ _ _ _ _ _ _ _ h1 g1 k1 p1 q1 _ _ _ _ _ _ _ _ _ h2 g2 k2 p2 q2 i1 hi1 i2 hi2 hf
  · exact contains_out s1 w1 d1 t1 u1 e1 ⟨by omega, by omega⟩ s2 w2 d2 t2 u2 e2 ⟨by omega, by omega⟩ i1 hi1 i2 hi2 hf
end Go.Proofs.YtkdpaoicekgalaaGreatDoor
