/- The statement IntervalMakes: its code returns true. -/
import Derived.Test.YtkdpaoicekgalaaGreatDoorL03
set_option linter.unusedSimpArgs false
set_option linter.unusedVariables false
set_option linter.deprecated false
namespace Go.Proofs.YtkdpaoicekgalaaGreatDoor
open Go Go.Ax
set_option maxRecDepth 100000
set_option maxHeartbeats 4000000

theorem makes_out (s1 : Bool) (w1 : List Nat) (d1 : Int) (s2 : Bool) (w2 : List Nat) (d2 : Int) (l1 : w1.length ≤ 9223372036854775807) (l2 : w2.length ≤ 9223372036854775807) (m n : Int) (hm : -9223372036854775808 ≤ m ∧ m ≤ 9223372036854775807) (hn : -9223372036854775808 ≤ n ∧ n ≤ 9223372036854775807) (hf : ¬ (shR ⟨s1, w1, d1⟩ ∧ shR ⟨s2, w2, d2⟩)) : CallOK Tryz.prog gl 3 [.agg [.v (.bool s1), .sl 1 (u32s w1), .v (.int .i64 d1)], .agg [.v (.bool s2), .sl 1 (u32s w2), .v (.int .i64 d2)], .agg [.v (.int .i64 m), .v (.int .i64 n)]] (.v (.bool (true))) := by
  refine call_ok (C := ⟨Tryz.prog, gl, ti, 84, false⟩) ti_ok mixed 3000 Tryz.call3 Tryz.func3 rfl Tryz.ntmps3 (by simp) byClL byCl ?_
  rw [Tryz.results3]
  have fw := short03 s1 w1 d1 l1 s2 w2 d2 l2
  rw [decide_eq_false hf] at fw
  clear hf
  repeat' (first
    | (simp only [go_sem, Int.reduceAdd, Int.reduceEq, Int.reduceLE, Int.reduceLT, Int.reduceMul, Int.reduceNeg, Int.reducePow, Int.reduceSub, Int.reduceToNat, Nat.reduceAdd, Nat.reduceBEq, Nat.reduceEqDiff, Nat.reduceLT, Nat.reduceLeDiff, Nat.reduceMul, Nat.reducePow, Nat.reduceSub, reduceCtorEq, reduceIte, IntKind.bits.eq_def, ti, tin])
    | (simp (disch := omega) only [w64, wu64, wu32, Nat.min_eq_left])
    | (with_reducible refine callF_of (fw) ?_)
    | (with_reducible refine drawF_of (fw) ?_)
    | (with_reducible refine callF_of (awake03) ?_)
    | (with_reducible refine drawF_of (awake03) ?_)
    | (refine after_lit ti_ok ?_)
    | (refine drawAfter_lit ti_ok ?_)
    | (refine drawEnd_of (by kernel_rfl) ?_)
    | ((first | refine cond_cases (fun hc => ?_) (fun hc => ?_) | refine guard_split (fun hc => ?_) (fun hc => ?_) | refine drawGuard_split (fun hc => ?_) (fun hc => ?_)) <;> first | (exfalso; simp only [decide_eq_true_eq, decide_eq_false_iff_not, Bool.not_eq_true, Bool.not_eq_false, Bool.not_eq_true', Bool.not_eq_false'] at hc; omega) | (simp only [hc]; try simp only [decide_eq_true_eq, decide_eq_false_iff_not, Bool.not_eq_true, Bool.not_eq_false, Bool.not_eq_true', Bool.not_eq_false'] at hc))
    | (refine after_need (by omega) ?_)
    | (refine drawAfter_need (by omega) ?_))
  all_goals exact fin_same trivial rfl
theorem makes_bad (s1 : Bool) (w1 : List Nat) (d1 : Int) (x1 : Dy) (h1 : Arg s1 w1 d1 x1) (g1 : Mg 256 x1) (s2 : Bool) (w2 : List Nat) (d2 : Int) (x2 : Dy) (h2 : Arg s2 w2 d2 x2) (g2 : Mg 256 x2) (m n : Int) (hm : -9223372036854775808 ≤ m ∧ m ≤ 9223372036854775807) (hn : -9223372036854775808 ≤ n ∧ n ≤ 9223372036854775807) (hf : shR ⟨s1, w1, d1⟩ ∧ shR ⟨s2, w2, d2⟩) (hlt : x2.v < x1.v) : CallOK Tryz.prog gl 3 [.agg [.v (.bool s1), .sl 1 (u32s w1), .v (.int .i64 d1)], .agg [.v (.bool s2), .sl 1 (u32s w2), .v (.int .i64 d2)], .agg [.v (.int .i64 m), .v (.int .i64 n)]] (.v (.bool (true))) := by
  refine call_ok (C := ⟨Tryz.prog, gl, ti, 84, false⟩) ti_ok mixed 3000 Tryz.call3 Tryz.func3 rfl Tryz.ntmps3 (by simp) byClL byCl ?_
  rw [Tryz.results3]
  have fw := short03 s1 w1 d1 (by have := h1.len; omega) s2 w2 d2 (by have := h2.len; omega)
  rw [decide_eq_true hf] at fw
  clear hf
  have g3 := Iv.Mg.sp2 (mg_i64 hm) (mg_i64 hn)
  have i1 := iv_Ints m n hm hn
  have i2 := ri_Ints m n hm hn
  have p1 := iv_Point _ _ _ _ h1
  have p2 := ri_Point _ _ _ _ h1
  have c1 := iv_Scale _ _ _ _ _ _ _ _ _ (IArg.of g3) _ _ _ _ h1 64 256 g3 g1 (by omega)
  have c2 := ri_Scale _ _ _ _ _ _ _ _ _ (IArg.of g3) _ _ _ _ h1 64 256 g3 g1 (by omega)
  have c3 := iv_Contains _ _ _ _ _ _ _ _ _ (IArg.of g3) _ _ _ _ h2
  have c4 := ri_Contains _ _ _ _ _ _ _ _ _ (IArg.of g3) _ _ _ _ h2
  have q1 := ri_same (Iv.Mg.pt g1)
  have q2 := ri_same g3
  have q3 := ri_same (g3.mul (Iv.Mg.pt g1))
  have m1 := iv_Make_err _ _ _ _ h1 _ _ _ _ h2 hlt
  have m2 := ri_Make_err _ _ _ _ h1 _ _ _ _ h2 hlt
  have q4 := ri_same (Iv.Mg.zero 1)
  have n1 := base_Num 3
  clear g1 g2 g3 hlt
  generalize (Iv.sp2 (Dy.int m) (Dy.int n)).mul (Iv.pt x1) = z1 at *
  generalize (Iv.sp2 (Dy.int m) (Dy.int n)).has x2 = b1 at *
  generalize Iv.sp2 (Dy.int m) (Dy.int n) = z2 at *
  generalize Iv.pt x1 = z3 at *
  repeat' (first
    | (simp only [go_sem, Int.reduceAdd, Int.reduceEq, Int.reduceLE, Int.reduceLT, Int.reduceMul, Int.reduceNeg, Int.reducePow, Int.reduceSub, Int.reduceToNat, Nat.reduceAdd, Nat.reduceBEq, Nat.reduceEqDiff, Nat.reduceLT, Nat.reduceLeDiff, Nat.reduceMul, Nat.reducePow, Nat.reduceSub, reduceCtorEq, reduceIte, IntKind.bits.eq_def, ti, tin])
    | (simp (disch := omega) only [w64, wu64, wu32, Nat.min_eq_left])
    | (with_reducible refine callF_of (fw) ?_)
    | (with_reducible refine drawF_of (fw) ?_)
    | (with_reducible refine callF_of (awake03) ?_)
    | (with_reducible refine drawF_of (awake03) ?_)
    | (with_reducible refine callF_of (i1) ?_)
    | (with_reducible refine drawF_of (i1) ?_)
    | (with_reducible refine callF_of (i2) ?_)
    | (with_reducible refine drawF_of (i2) ?_)
    | (with_reducible refine callF_of (p1) ?_)
    | (with_reducible refine drawF_of (p1) ?_)
    | (with_reducible refine callF_of (p2) ?_)
    | (with_reducible refine drawF_of (p2) ?_)
    | (with_reducible refine callF_of (c1) ?_)
    | (with_reducible refine drawF_of (c1) ?_)
    | (with_reducible refine callF_of (c2) ?_)
    | (with_reducible refine drawF_of (c2) ?_)
    | (with_reducible refine callF_of (c3) ?_)
    | (with_reducible refine drawF_of (c3) ?_)
    | (with_reducible refine callF_of (c4) ?_)
    | (with_reducible refine drawF_of (c4) ?_)
    | (with_reducible refine callF_of (q1) ?_)
    | (with_reducible refine drawF_of (q1) ?_)
    | (with_reducible refine callF_of (q2) ?_)
    | (with_reducible refine drawF_of (q2) ?_)
    | (with_reducible refine callF_of (q3) ?_)
    | (with_reducible refine drawF_of (q3) ?_)
    | (with_reducible refine callF_of (m1) ?_)
    | (with_reducible refine drawF_of (m1) ?_)
    | (with_reducible refine callF_of (m2) ?_)
    | (with_reducible refine drawF_of (m2) ?_)
    | (with_reducible refine callF_of (q4) ?_)
    | (with_reducible refine drawF_of (q4) ?_)
    | (with_reducible refine callF_of (n1) ?_)
    | (with_reducible refine drawF_of (n1) ?_)
    | (refine after_lit ti_ok ?_)
    | (refine drawAfter_lit ti_ok ?_)
    | (refine drawEnd_of (by kernel_rfl) ?_)
    | ((first | refine cond_cases (fun hc => ?_) (fun hc => ?_) | refine guard_split (fun hc => ?_) (fun hc => ?_) | refine drawGuard_split (fun hc => ?_) (fun hc => ?_)) <;> first | (exfalso; simp only [decide_eq_true_eq, decide_eq_false_iff_not, Bool.not_eq_true, Bool.not_eq_false, Bool.not_eq_true', Bool.not_eq_false'] at hc; omega) | (simp only [hc]; try simp only [decide_eq_true_eq, decide_eq_false_iff_not, Bool.not_eq_true, Bool.not_eq_false, Bool.not_eq_true', Bool.not_eq_false'] at hc))
    | (refine after_need (by omega) ?_)
    | (refine drawAfter_need (by omega) ?_))
  all_goals exact fin_same trivial rfl
theorem makes_ok (s1 : Bool) (w1 : List Nat) (d1 : Int) (x1 : Dy) (h1 : Arg s1 w1 d1 x1) (g1 : Mg 256 x1) (s2 : Bool) (w2 : List Nat) (d2 : Int) (x2 : Dy) (h2 : Arg s2 w2 d2 x2) (g2 : Mg 256 x2) (m n : Int) (hm : -9223372036854775808 ≤ m ∧ m ≤ 9223372036854775807) (hn : -9223372036854775808 ≤ n ∧ n ≤ 9223372036854775807) (hf : shR ⟨s1, w1, d1⟩ ∧ shR ⟨s2, w2, d2⟩) (hle : x1.v ≤ x2.v) : CallOK Tryz.prog gl 3 [.agg [.v (.bool s1), .sl 1 (u32s w1), .v (.int .i64 d1)], .agg [.v (.bool s2), .sl 1 (u32s w2), .v (.int .i64 d2)], .agg [.v (.int .i64 m), .v (.int .i64 n)]] (.v (.bool (true))) := by
  refine call_ok (C := ⟨Tryz.prog, gl, ti, 84, false⟩) ti_ok mixed 3000 Tryz.call3 Tryz.func3 rfl Tryz.ntmps3 (by simp) byClL byCl ?_
  rw [Tryz.results3]
  have fw := short03 s1 w1 d1 (by have := h1.len; omega) s2 w2 d2 (by have := h2.len; omega)
  rw [decide_eq_true hf] at fw
  clear hf
  have g3 := Iv.Mg.sp2 (mg_i64 hm) (mg_i64 hn)
  have i1 := iv_Ints m n hm hn
  have i2 := ri_Ints m n hm hn
  have p1 := iv_Point _ _ _ _ h1
  have p2 := ri_Point _ _ _ _ h1
  have c1 := iv_Scale _ _ _ _ _ _ _ _ _ (IArg.of g3) _ _ _ _ h1 64 256 g3 g1 (by omega)
  have c2 := ri_Scale _ _ _ _ _ _ _ _ _ (IArg.of g3) _ _ _ _ h1 64 256 g3 g1 (by omega)
  have c3 := iv_Contains _ _ _ _ _ _ _ _ _ (IArg.of g3) _ _ _ _ h2
  have c4 := ri_Contains _ _ _ _ _ _ _ _ _ (IArg.of g3) _ _ _ _ h2
  have q1 := ri_same (Iv.Mg.pt g1)
  have q2 := ri_same g3
  have q3 := ri_same (g3.mul (Iv.Mg.pt g1))
  have m1 := iv_Make _ _ _ _ h1 _ _ _ _ h2 hle
  have m2 := ri_Make _ _ _ _ h1 _ _ _ _ h2 hle
  have q4 := ri_same (a := ⟨x1, x2, hle⟩) (k := 256) ⟨g1, g2⟩
  dsimp only at q4
  have n1 := base_Num_nil
  clear g1 g2 g3 hle
  generalize (Iv.sp2 (Dy.int m) (Dy.int n)).mul (Iv.pt x1) = z1 at *
  generalize (Iv.sp2 (Dy.int m) (Dy.int n)).has x2 = b1 at *
  generalize Iv.sp2 (Dy.int m) (Dy.int n) = z2 at *
  generalize Iv.pt x1 = z3 at *
  repeat' (first
    | (simp only [go_sem, Int.reduceAdd, Int.reduceEq, Int.reduceLE, Int.reduceLT, Int.reduceMul, Int.reduceNeg, Int.reducePow, Int.reduceSub, Int.reduceToNat, Nat.reduceAdd, Nat.reduceBEq, Nat.reduceEqDiff, Nat.reduceLT, Nat.reduceLeDiff, Nat.reduceMul, Nat.reducePow, Nat.reduceSub, reduceCtorEq, reduceIte, IntKind.bits.eq_def, ti, tin])
    | (simp (disch := omega) only [w64, wu64, wu32, Nat.min_eq_left])
    | (with_reducible refine callF_of (fw) ?_)
    | (with_reducible refine drawF_of (fw) ?_)
    | (with_reducible refine callF_of (awake03) ?_)
    | (with_reducible refine drawF_of (awake03) ?_)
    | (with_reducible refine callF_of (i1) ?_)
    | (with_reducible refine drawF_of (i1) ?_)
    | (with_reducible refine callF_of (i2) ?_)
    | (with_reducible refine drawF_of (i2) ?_)
    | (with_reducible refine callF_of (p1) ?_)
    | (with_reducible refine drawF_of (p1) ?_)
    | (with_reducible refine callF_of (p2) ?_)
    | (with_reducible refine drawF_of (p2) ?_)
    | (with_reducible refine callF_of (c1) ?_)
    | (with_reducible refine drawF_of (c1) ?_)
    | (with_reducible refine callF_of (c2) ?_)
    | (with_reducible refine drawF_of (c2) ?_)
    | (with_reducible refine callF_of (c3) ?_)
    | (with_reducible refine drawF_of (c3) ?_)
    | (with_reducible refine callF_of (c4) ?_)
    | (with_reducible refine drawF_of (c4) ?_)
    | (with_reducible refine callF_of (q1) ?_)
    | (with_reducible refine drawF_of (q1) ?_)
    | (with_reducible refine callF_of (q2) ?_)
    | (with_reducible refine drawF_of (q2) ?_)
    | (with_reducible refine callF_of (q3) ?_)
    | (with_reducible refine drawF_of (q3) ?_)
    | (with_reducible refine callF_of (m1) ?_)
    | (with_reducible refine drawF_of (m1) ?_)
    | (with_reducible refine callF_of (m2) ?_)
    | (with_reducible refine drawF_of (m2) ?_)
    | (with_reducible refine callF_of (q4) ?_)
    | (with_reducible refine drawF_of (q4) ?_)
    | (with_reducible refine callF_of (n1) ?_)
    | (with_reducible refine drawF_of (n1) ?_)
    | (refine after_lit ti_ok ?_)
    | (refine drawAfter_lit ti_ok ?_)
    | (refine drawEnd_of (by kernel_rfl) ?_)
    | ((first | refine cond_cases (fun hc => ?_) (fun hc => ?_) | refine guard_split (fun hc => ?_) (fun hc => ?_) | refine drawGuard_split (fun hc => ?_) (fun hc => ?_)) <;> first | (exfalso; simp only [decide_eq_true_eq, decide_eq_false_iff_not, Bool.not_eq_true, Bool.not_eq_false, Bool.not_eq_true', Bool.not_eq_false'] at hc; omega) | (simp only [hc]; try simp only [decide_eq_true_eq, decide_eq_false_iff_not, Bool.not_eq_true, Bool.not_eq_false, Bool.not_eq_true', Bool.not_eq_false'] at hc))
    | (refine after_need (by omega) ?_)
    | (refine drawAfter_need (by omega) ?_))
  all_goals exact fin_same trivial rfl
theorem makes_law (s1 : Bool) (w1 : List (List AV)) (d1 : Int) (s2 : Bool) (w2 : List (List AV)) (d2 : Int) (m n : Int) (hm : -9223372036854775808 ≤ m ∧ m ≤ 9223372036854775807) (hn : -9223372036854775808 ≤ n ∧ n ≤ 9223372036854775807) (m1 : w1.length ≤ maxLen) (f1 : ∀ x ∈ w1, FitL [.int .u32] x) (m2 : w2.length ≤ maxLen) (f2 : ∀ x ∈ w2, FitL [.int .u32] x) : CallOK Tryz.prog gl 3 [.agg [.v (.bool s1), .sl 1 w1, .v (.int .i64 d1)], .agg [.v (.bool s2), .sl 1 w2, .v (.int .i64 d2)], .agg [.v (.int .i64 m), .v (.int .i64 n)]] (.v (.bool true)) := by
  unfold maxLen at *
  obtain ⟨w1, W1, rfl, z1⟩ := fit_u32s f1
  obtain ⟨w2, W2, rfl, z2⟩ := fit_u32s f2
  by_cases hf : shR ⟨s1, w1, d1⟩ ∧ shR ⟨s2, w2, d2⟩
  ·
    obtain ⟨x1, h1, g1, k1⟩ := sh_arg (s := s1) (d := d1) W1 hf.1
    obtain ⟨x2, h2, g2, k2⟩ := sh_arg (s := s2) (d := d2) W2 hf.2
    by_cases hle : x1.v ≤ x2.v
    · exact makes_ok _ _ _ _ h1 g1 _ _ _ _ h2 g2 m n hm hn hf hle
    · exact makes_bad _ _ _ _ h1 g1 _ _ _ _ h2 g2 m n hm hn hf (by grind)
  · exact makes_out s1 w1 d1 s2 w2 d2 (by omega) (by omega) m n hm hn hf
end Go.Proofs.YtkdpaoicekgalaaGreatDoor
