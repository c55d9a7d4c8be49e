/- Layer 3 (interval.go), part 3: absolute values, limits. -/
import Derived.Test.YtdjgckcninibhaaGreatDoorIv2
set_option linter.unusedSimpArgs false
set_option linter.unusedVariables false
set_option linter.deprecated false
namespace Go.Proofs.YtdjgckcninibhaaGreatDoor
open Go Go.Ax
set_option maxRecDepth 100000
set_option maxHeartbeats 4000000

theorem iv_Abs (s1 : Bool) (w1 : List Nat) (d1 : Int) (t1 : Bool) (u1 : List Nat) (e1 : Int) (x1 y1 : Dy) (a1 : Iv) (h1 : IArg s1 w1 d1 t1 u1 e1 x1 y1 a1) : CallOK Tryz.prog gl 60 [.agg [.v (.bool s1), .sl 1 (u32s w1), .v (.int .i64 d1), .v (.bool t1), .sl 1 (u32s u1), .v (.int .i64 e1)]] (.agg [.v (.bool (sg (a1.abs).lo)), .sl 1 (u32s (ms (a1.abs).lo)), .v (.int .i64 (dn (a1.abs).lo)), .v (.bool (sg (a1.abs).hi)), .sl 1 (u32s (ms (a1.abs).hi)), .v (.int .i64 (dn (a1.abs).hi))]) := by
  refine call_ok (C := ⟨Tryz.prog, gl, ti, 27, false⟩) ti_ok mixed 3000 Tryz.call60 Tryz.func60 rfl Tryz.ntmps60 (by simp) byClL byCl ?_
  rw [Tryz.results60]
  have r1 := iv_arg _ _ _ _ _ _ _ _ _ h1
  have p1 := Abs_ok _ _ _ _ h1.lo
  have p2 := Abs_ok _ _ _ _ h1.hi
  have p3 := iv_span2 _ _ _ _ h1.lo.cabs _ _ _ _ h1.hi.cabs
  have q1 := Sign_ok _ _ _ _ h1.lo
  have q2 := Sign_ok _ _ _ _ h1.hi
  have j1 := sign_lt0 a1.lo
  have j2 := sign_gt0 a1.hi
  unfold Iv.abs
  unfold Iv.sp2 at p3 ⊢
  dsimp only at p3
  by_cases c1 : a1.lo.v < 0
  · have k1 := j1.2 c1
    by_cases c2 : 0 < a1.hi.v
    · have k2 := j2.2 c2
      rw [if_pos ⟨c1, c2⟩]
      clear c1 c2 j1 j2
      generalize a1.lo.sign = n1 at *
      generalize a1.hi.sign = n2 at *
      dsimp only
      generalize a1.lo.abs.min a1.hi.abs = z1 at *
      generalize a1.lo.abs.max a1.hi.abs = z2 at *
      repeat' (first | (simp only [go_sem, Int.reduceAdd, Int.reduceEq, Int.reduceLE, Int.reduceLT, Int.reduceMul, Int.reduceNeg, Int.reducePow, Int.reduceSub, Int.reduceToNat, Nat.reduceAdd, Nat.reduceBEq, Nat.reduceEqDiff, Nat.reduceLT, Nat.reduceLeDiff, Nat.reduceMul, Nat.reducePow, Nat.reduceSub, reduceCtorEq, reduceIte, IntKind.bits.eq_def, ti, tin]) | (simp (disch := omega) only [w64, wu64, wu32, Nat.min_eq_left]) | (with_reducible first | refine cF (r1) ?_ | refine dF (r1) ?_) | (with_reducible first | refine cF (p1) ?_ | refine dF (p1) ?_) | (with_reducible first | refine cF (p2) ?_ | refine dF (p2) ?_) | (with_reducible first | refine cF (p3) ?_ | refine dF (p3) ?_) | (with_reducible first | refine cF (q1) ?_ | refine dF (q1) ?_) | (with_reducible first | refine cF (q2) ?_ | refine dF (q2) ?_) | (refine aL ti_ok ?_) | (refine dL ti_ok ?_) | (refine dE (by kernel_rfl) ?_) | ((first | refine cC ?_ ?_ | refine gS ?_ ?_ | refine dS ?_ ?_) <;> intro hc <;> first | (exfalso; simp only [dcT, dcF, bnT, bnF, bnU, bnV] at hc; omega) | (simp only [hc]; try simp only [dcT, dcF, bnT, bnF, bnU, bnV] at hc)) | (refine aN (by omega) ?_) | (refine dN (by omega) ?_))
      all_goals exact fin_le trivial Le.lo0
    · have k2 : ¬ 0 < a1.hi.sign := fun h => c2 (j2.1 h)
      rw [if_neg (fun h => c2 h.2)]
      clear c1 c2 j1 j2
      generalize a1.lo.sign = n1 at *
      generalize a1.hi.sign = n2 at *
      dsimp only
      generalize a1.lo.abs.min a1.hi.abs = z1 at *
      generalize a1.lo.abs.max a1.hi.abs = z2 at *
      repeat' (first | (simp only [go_sem, Int.reduceAdd, Int.reduceEq, Int.reduceLE, Int.reduceLT, Int.reduceMul, Int.reduceNeg, Int.reducePow, Int.reduceSub, Int.reduceToNat, Nat.reduceAdd, Nat.reduceBEq, Nat.reduceEqDiff, Nat.reduceLT, Nat.reduceLeDiff, Nat.reduceMul, Nat.reducePow, Nat.reduceSub, reduceCtorEq, reduceIte, IntKind.bits.eq_def, ti, tin]) | (simp (disch := omega) only [w64, wu64, wu32, Nat.min_eq_left]) | (with_reducible first | refine cF (r1) ?_ | refine dF (r1) ?_) | (with_reducible first | refine cF (p1) ?_ | refine dF (p1) ?_) | (with_reducible first | refine cF (p2) ?_ | refine dF (p2) ?_) | (with_reducible first | refine cF (p3) ?_ | refine dF (p3) ?_) | (with_reducible first | refine cF (q1) ?_ | refine dF (q1) ?_) | (with_reducible first | refine cF (q2) ?_ | refine dF (q2) ?_) | (refine aL ti_ok ?_) | (refine dL ti_ok ?_) | (refine dE (by kernel_rfl) ?_) | ((first | refine cC ?_ ?_ | refine gS ?_ ?_ | refine dS ?_ ?_) <;> intro hc <;> first | (exfalso; simp only [dcT, dcF, bnT, bnF, bnU, bnV] at hc; omega) | (simp only [hc]; try simp only [dcT, dcF, bnT, bnF, bnU, bnV] at hc)) | (refine aN (by omega) ?_) | (refine dN (by omega) ?_))
      all_goals exact fin_same trivial rfl
  · have k1 : ¬ a1.lo.sign < 0 := fun h => c1 (j1.1 h)
    rw [if_neg (fun h => c1 h.1)]
    clear c1 j1 j2
    generalize a1.lo.sign = n1 at *
    generalize a1.hi.sign = n2 at *
    dsimp only
    generalize a1.lo.abs.min a1.hi.abs = z1 at *
    generalize a1.lo.abs.max a1.hi.abs = z2 at *
    repeat' (first | (simp only [go_sem, Int.reduceAdd, Int.reduceEq, Int.reduceLE, Int.reduceLT, Int.reduceMul, Int.reduceNeg, Int.reducePow, Int.reduceSub, Int.reduceToNat, Nat.reduceAdd, Nat.reduceBEq, Nat.reduceEqDiff, Nat.reduceLT, Nat.reduceLeDiff, Nat.reduceMul, Nat.reducePow, Nat.reduceSub, reduceCtorEq, reduceIte, IntKind.bits.eq_def, ti, tin]) | (simp (disch := omega) only [w64, wu64, wu32, Nat.min_eq_left]) | (with_reducible first | refine cF (r1) ?_ | refine dF (r1) ?_) | (with_reducible first | refine cF (p1) ?_ | refine dF (p1) ?_) | (with_reducible first | refine cF (p2) ?_ | refine dF (p2) ?_) | (with_reducible first | refine cF (p3) ?_ | refine dF (p3) ?_) | (with_reducible first | refine cF (q1) ?_ | refine dF (q1) ?_) | (with_reducible first | refine cF (q2) ?_ | refine dF (q2) ?_) | (refine aL ti_ok ?_) | (refine dL ti_ok ?_) | (refine dE (by kernel_rfl) ?_) | ((first | refine cC ?_ ?_ | refine gS ?_ ?_ | refine dS ?_ ?_) <;> intro hc <;> first | (exfalso; simp only [dcT, dcF, bnT, bnF, bnU, bnV] at hc; omega) | (simp only [hc]; try simp only [dcT, dcF, bnT, bnF, bnU, bnV] at hc)) | (refine aN (by omega) ?_) | (refine dN (by omega) ?_))
    all_goals exact fin_same trivial rfl
theorem iv_Ints (m n : Int) (hm : -9223372036854775808 ≤ m ∧ m ≤ 9223372036854775807) (hn : -9223372036854775808 ≤ n ∧ n ≤ 9223372036854775807) : CallOK Tryz.prog gl 164 [.v (.int .i64 m), .v (.int .i64 n)] (.agg [.v (.bool (sg (Iv.sp2 (Dy.int m) (Dy.int n)).lo)), .sl 1 (u32s (ms (Iv.sp2 (Dy.int m) (Dy.int n)).lo)), .v (.int .i64 (dn (Iv.sp2 (Dy.int m) (Dy.int n)).lo)), .v (.bool (sg (Iv.sp2 (Dy.int m) (Dy.int n)).hi)), .sl 1 (u32s (ms (Iv.sp2 (Dy.int m) (Dy.int n)).hi)), .v (.int .i64 (dn (Iv.sp2 (Dy.int m) (Dy.int n)).hi))]) := by
  refine call_ok (C := ⟨Tryz.prog, gl, ti, 11, false⟩) ti_ok mixed 3000 Tryz.call164 Tryz.func164 rfl Tryz.ntmps164 (by simp) byClL byCl ?_
  rw [Tryz.results164]
  have p1 := Of_ok m hm
  have p2 := Of_ok n hn
  have p3 := iv_span2 _ _ _ _ (Arg.of (mg_i64 hm) (by omega)) _ _ _ _ (Arg.of (mg_i64 hn) (by omega))
  generalize Iv.sp2 (Dy.int m) (Dy.int n) = z at *
  generalize Dy.int m = z1 at *
  generalize Dy.int n = z2 at *
  repeat' (first | (simp only [go_sem, Int.reduceAdd, Int.reduceEq, Int.reduceLE, Int.reduceLT, Int.reduceMul, Int.reduceNeg, Int.reducePow, Int.reduceSub, Int.reduceToNat, Nat.reduceAdd, Nat.reduceBEq, Nat.reduceEqDiff, Nat.reduceLT, Nat.reduceLeDiff, Nat.reduceMul, Nat.reducePow, Nat.reduceSub, reduceCtorEq, reduceIte, IntKind.bits.eq_def, ti, tin]) | (simp (disch := omega) only [w64, wu64, wu32, Nat.min_eq_left]) | (with_reducible first | refine cF (p1) ?_ | refine dF (p1) ?_) | (with_reducible first | refine cF (p2) ?_ | refine dF (p2) ?_) | (with_reducible first | refine cF (p3) ?_ | refine dF (p3) ?_) | (refine aL ti_ok ?_) | (refine dL ti_ok ?_) | (refine dE (by kernel_rfl) ?_) | ((first | refine cC ?_ ?_ | refine gS ?_ ?_ | refine dS ?_ ?_) <;> intro hc <;> first | (exfalso; simp only [dcT, dcF, bnT, bnF, bnU, bnV] at hc; omega) | (simp only [hc]; try simp only [dcT, dcF, bnT, bnF, bnU, bnV] at hc)) | (refine aN (by omega) ?_) | (refine dN (by omega) ?_))
  exact fin_same trivial rfl
theorem iv_Inside (s1 : Bool) (w1 : List Nat) (d1 : Int) (t1 : Bool) (u1 : List Nat) (e1 : Int) (x1 y1 : Dy) (a1 : Iv) (h1 : IArg s1 w1 d1 t1 u1 e1 x1 y1 a1) (s2 : Bool) (w2 : List Nat) (d2 : Int) (t2 : Bool) (u2 : List Nat) (e2 : Int) (x2 y2 : Dy) (a2 : Iv) (h2 : IArg s2 w2 d2 t2 u2 e2 x2 y2 a2) : CallOK Tryz.prog gl 81 [.agg [.v (.bool s1), .sl 1 (u32s w1), .v (.int .i64 d1), .v (.bool t1), .sl 1 (u32s u1), .v (.int .i64 e1)], .agg [.v (.bool s2), .sl 1 (u32s w2), .v (.int .i64 d2), .v (.bool t2), .sl 1 (u32s u2), .v (.int .i64 e2)]] (.v (.bool (a1.ins a2))) := by
  refine call_ok (C := ⟨Tryz.prog, gl, ti, 23, false⟩) ti_ok mixed 3000 Tryz.call81 Tryz.func81 rfl Tryz.ntmps81 (by simp) byClL byCl ?_
  rw [Tryz.results81]
  have r1 := iv_arg _ _ _ _ _ _ _ _ _ h1
  have r2 := iv_arg _ _ _ _ _ _ _ _ _ h2
  have p1 := Cmp_ok _ _ _ _ _ _ _ _ h2.lo h1.lo
  have p2 := Cmp_ok _ _ _ _ _ _ _ _ h1.hi h2.hi
  have e1 := cmp_le a2.lo a1.lo
  have e2 := cmp_le a1.hi a2.hi
  unfold Iv.ins
  simp only [← e1, ← e2]
  clear e1 e2
  generalize a2.lo.cmp a1.lo = m at *
  generalize a1.hi.cmp a2.hi = n at *
  repeat' (first | (simp only [go_sem, Int.reduceAdd, Int.reduceEq, Int.reduceLE, Int.reduceLT, Int.reduceMul, Int.reduceNeg, Int.reducePow, Int.reduceSub, Int.reduceToNat, Nat.reduceAdd, Nat.reduceBEq, Nat.reduceEqDiff, Nat.reduceLT, Nat.reduceLeDiff, Nat.reduceMul, Nat.reducePow, Nat.reduceSub, reduceCtorEq, reduceIte, IntKind.bits.eq_def, ti, tin]) | (simp (disch := omega) only [w64, wu64, wu32, Nat.min_eq_left]) | (with_reducible first | refine cF (r1) ?_ | refine dF (r1) ?_) | (with_reducible first | refine cF (r2) ?_ | refine dF (r2) ?_) | (with_reducible first | refine cF (p1) ?_ | refine dF (p1) ?_) | (with_reducible first | refine cF (p2) ?_ | refine dF (p2) ?_) | (refine aL ti_ok ?_) | (refine dL ti_ok ?_) | (refine dE (by kernel_rfl) ?_) | ((first | refine cC ?_ ?_ | refine gS ?_ ?_ | refine dS ?_ ?_) <;> intro hc <;> first | (exfalso; simp only [dcT, dcF, bnT, bnF, bnU, bnV] at hc; omega) | (simp only [hc]; try simp only [dcT, dcF, bnT, bnF, bnU, bnV] at hc)) | (refine aN (by omega) ?_) | (refine dN (by omega) ?_))
  all_goals (refine fin_same trivial ?_; simp [one, *])
theorem iv_Contains (s1 : Bool) (w1 : List Nat) (d1 : Int) (t1 : Bool) (u1 : List Nat) (e1 : Int) (x1 y1 : Dy) (a1 : Iv) (h1 : IArg s1 w1 d1 t1 u1 e1 x1 y1 a1) (s2 : Bool) (w2 : List Nat) (d2 : Int) (x2 : Dy) (h2 : Arg s2 w2 d2 x2) : CallOK Tryz.prog gl 165 [.agg [.v (.bool s1), .sl 1 (u32s w1), .v (.int .i64 d1), .v (.bool t1), .sl 1 (u32s u1), .v (.int .i64 e1)], .agg [.v (.bool s2), .sl 1 (u32s w2), .v (.int .i64 d2)]] (.v (.bool (a1.has x2))) := by
  refine call_ok (C := ⟨Tryz.prog, gl, ti, 9, false⟩) ti_ok mixed 3000 Tryz.call165 Tryz.func165 rfl Tryz.ntmps165 (by simp) byClL byCl ?_
  rw [Tryz.results165]
  have p1 := iv_Point _ _ _ _ h2
  have p2 := iv_Inside _ _ _ _ _ _ _ _ _ h2.cpt _ _ _ _ _ _ _ _ _ h1
  rw [Iv.has_pt] at p2
  repeat' (first | (simp only [go_sem, Int.reduceAdd, Int.reduceEq, Int.reduceLE, Int.reduceLT, Int.reduceMul, Int.reduceNeg, Int.reducePow, Int.reduceSub, Int.reduceToNat, Nat.reduceAdd, Nat.reduceBEq, Nat.reduceEqDiff, Nat.reduceLT, Nat.reduceLeDiff, Nat.reduceMul, Nat.reducePow, Nat.reduceSub, reduceCtorEq, reduceIte, IntKind.bits.eq_def, ti, tin]) | (simp (disch := omega) only [w64, wu64, wu32, Nat.min_eq_left]) | (with_reducible first | refine cF (p1) ?_ | refine dF (p1) ?_) | (with_reducible first | refine cF (p2) ?_ | refine dF (p2) ?_) | (refine aL ti_ok ?_) | (refine dL ti_ok ?_) | (refine dE (by kernel_rfl) ?_) | ((first | refine cC ?_ ?_ | refine gS ?_ ?_ | refine dS ?_ ?_) <;> intro hc <;> first | (exfalso; simp only [dcT, dcF, bnT, bnF, bnU, bnV] at hc; omega) | (simp only [hc]; try simp only [dcT, dcF, bnT, bnF, bnU, bnV] at hc)) | (refine aN (by omega) ?_) | (refine dN (by omega) ?_))
  exact fin_same trivial rfl
theorem iv_Width (s1 : Bool) (w1 : List Nat) (d1 : Int) (t1 : Bool) (u1 : List Nat) (e1 : Int) (x1 y1 : Dy) (a1 : Iv) (h1 : IArg s1 w1 d1 t1 u1 e1 x1 y1 a1) : CallOK Tryz.prog gl 75 [.agg [.v (.bool s1), .sl 1 (u32s w1), .v (.int .i64 d1), .v (.bool t1), .sl 1 (u32s u1), .v (.int .i64 e1)]] (.agg [.v (.bool (sg (a1.width))), .sl 1 (u32s (ms (a1.width))), .v (.int .i64 (dn (a1.width)))]) := by
  refine call_ok (C := ⟨Tryz.prog, gl, ti, 10, false⟩) ti_ok mixed 3000 Tryz.call75 Tryz.func75 rfl Tryz.ntmps75 (by simp) byClL byCl ?_
  rw [Tryz.results75]
  have r1 := iv_arg _ _ _ _ _ _ _ _ _ h1
  have p1 := Sub_ok _ _ _ _ _ _ _ _ h1.hi h1.lo
  repeat' (first | (simp only [go_sem, Int.reduceAdd, Int.reduceEq, Int.reduceLE, Int.reduceLT, Int.reduceMul, Int.reduceNeg, Int.reducePow, Int.reduceSub, Int.reduceToNat, Nat.reduceAdd, Nat.reduceBEq, Nat.reduceEqDiff, Nat.reduceLT, Nat.reduceLeDiff, Nat.reduceMul, Nat.reducePow, Nat.reduceSub, reduceCtorEq, reduceIte, IntKind.bits.eq_def, ti, tin]) | (simp (disch := omega) only [w64, wu64, wu32, Nat.min_eq_left]) | (with_reducible first | refine cF (r1) ?_ | refine dF (r1) ?_) | (with_reducible first | refine cF (p1) ?_ | refine dF (p1) ?_) | (refine aL ti_ok ?_) | (refine dL ti_ok ?_) | (refine dE (by kernel_rfl) ?_) | ((first | refine cC ?_ ?_ | refine gS ?_ ?_ | refine dS ?_ ?_) <;> intro hc <;> first | (exfalso; simp only [dcT, dcF, bnT, bnF, bnU, bnV] at hc; omega) | (simp only [hc]; try simp only [dcT, dcF, bnT, bnF, bnU, bnV] at hc)) | (refine aN (by omega) ?_) | (refine dN (by omega) ?_))
  exact fin_same trivial rfl
theorem iv_Mag (s1 : Bool) (w1 : List Nat) (d1 : Int) (t1 : Bool) (u1 : List Nat) (e1 : Int) (x1 y1 : Dy) (a1 : Iv) (h1 : IArg s1 w1 d1 t1 u1 e1 x1 y1 a1) : CallOK Tryz.prog gl 77 [.agg [.v (.bool s1), .sl 1 (u32s w1), .v (.int .i64 d1), .v (.bool t1), .sl 1 (u32s u1), .v (.int .i64 e1)]] (.agg [.v (.bool (sg (a1.mag))), .sl 1 (u32s (ms (a1.mag))), .v (.int .i64 (dn (a1.mag)))]) := by
  refine call_ok (C := ⟨Tryz.prog, gl, ti, 6, false⟩) ti_ok mixed 3000 Tryz.call77 Tryz.func77 rfl Tryz.ntmps77 (by simp) byClL byCl ?_
  rw [Tryz.results77]
  have p1 := iv_Abs _ _ _ _ _ _ _ _ _ h1
  repeat' (first | (simp only [go_sem, Int.reduceAdd, Int.reduceEq, Int.reduceLE, Int.reduceLT, Int.reduceMul, Int.reduceNeg, Int.reducePow, Int.reduceSub, Int.reduceToNat, Nat.reduceAdd, Nat.reduceBEq, Nat.reduceEqDiff, Nat.reduceLT, Nat.reduceLeDiff, Nat.reduceMul, Nat.reducePow, Nat.reduceSub, reduceCtorEq, reduceIte, IntKind.bits.eq_def, ti, tin]) | (simp (disch := omega) only [w64, wu64, wu32, Nat.min_eq_left]) | (with_reducible first | refine cF (p1) ?_ | refine dF (p1) ?_) | (refine aL ti_ok ?_) | (refine dL ti_ok ?_) | (refine dE (by kernel_rfl) ?_) | ((first | refine cC ?_ ?_ | refine gS ?_ ?_ | refine dS ?_ ?_) <;> intro hc <;> first | (exfalso; simp only [dcT, dcF, bnT, bnF, bnU, bnV] at hc; omega) | (simp only [hc]; try simp only [dcT, dcF, bnT, bnF, bnU, bnV] at hc)) | (refine aN (by omega) ?_) | (refine dN (by omega) ?_))
  exact fin_same trivial rfl
end Go.Proofs.YtdjgckcninibhaaGreatDoor
