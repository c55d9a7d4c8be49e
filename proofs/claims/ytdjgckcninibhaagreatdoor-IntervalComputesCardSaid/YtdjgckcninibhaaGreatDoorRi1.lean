/- The reference of layer 3 (ref.go), part 1: validity, arguments, points, spans. -/
import Derived.Test.YtdjgckcninibhaaGreatDoorIv1
import Derived.Test.YtdjgckcninibhaaGreatDoorRefA
import Derived.Test.YtdjgckcninibhaaGreatDoorRefB
set_option linter.unusedSimpArgs false
set_option linter.unusedVariables false
set_option linter.deprecated false
namespace Go.Proofs.YtdjgckcninibhaaGreatDoor
open Go Go.Ax
set_option maxRecDepth 100000
set_option maxHeartbeats 4000000

theorem ri_Valid (s1 : Bool) (w1 : List Nat) (d1 : Int) (t1 : Bool) (u1 : List Nat) (e1 : Int) (x1 y1 : Dy) (a1 : Iv) (h1 : IArg s1 w1 d1 t1 u1 e1 x1 y1 a1) : CallOK Tryz.prog gl 222 [.agg [.v (.bool s1), .sl 1 (u32s w1), .v (.int .i64 d1), .v (.bool t1), .sl 1 (u32s u1), .v (.int .i64 e1)]] (.v (.bool ((decide (okI s1 w1 d1 t1 u1 e1 x1 y1))))) := by
  refine call_ok (C := ⟨Tryz.prog, gl, ti, 19, false⟩) ti_ok mixed 3000 Tryz.call222 Tryz.func222 rfl Tryz.ntmps222 (by simp) byClL byCl ?_
  rw [Tryz.results222]
  have v1 := ref_Valid s1 w1 d1 (by have := h1.px.len; omega)
  have v2 := ref_Valid t1 u1 e1 (by have := h1.py.len; omega)
  have c1 := ref_Cmp _ _ _ _ _ _ _ _ h1.px h1.py
  have q := cmp_le x1 y1
  obtain ⟨z, hz⟩ : ∃ z, decide (okI s1 w1 d1 t1 u1 e1 x1 y1) = z := ⟨_, rfl⟩
  rw [hz]
  unfold okI at hz
  simp only [← q] at hz
  clear q h1
  generalize x1.cmp y1 = c at *
  generalize validR s1 w1 d1 = b1 at *
  generalize validR t1 u1 e1 = b2 at *
  cases b1 <;> cases b2 <;> subst hz
  ·
    repeat' (first | (simp only [go_sem, Int.reduceAdd, Int.reduceEq, Int.reduceLE, Int.reduceLT, Int.reduceMul, Int.reduceNeg, Int.reducePow, Int.reduceSub, Int.reduceToNat, Nat.reduceAdd, Nat.reduceBEq, Nat.reduceEqDiff, Nat.reduceLT, Nat.reduceLeDiff, Nat.reduceMul, Nat.reducePow, Nat.reduceSub, reduceCtorEq, reduceIte, IntKind.bits.eq_def, ti, tin]) | (simp (disch := omega) only [w64, wu64, wu32, Nat.min_eq_left]) | (with_reducible first | refine cF (v1) ?_ | refine dF (v1) ?_) | (with_reducible first | refine cF (v2) ?_ | refine dF (v2) ?_) | (with_reducible first | refine cF (c1) ?_ | refine dF (c1) ?_) | (refine aL ti_ok ?_) | (refine dL ti_ok ?_) | (refine dE (by kernel_rfl) ?_) | ((first | refine cC ?_ ?_ | refine gS ?_ ?_ | refine dS ?_ ?_) <;> intro hc <;> first | (exfalso; simp only [dcT, dcF, bnT, bnF, bnU, bnV] at hc; omega) | (simp only [hc]; try simp only [dcT, dcF, bnT, bnF, bnU, bnV] at hc)) | (refine aN (by omega) ?_) | (refine dN (by omega) ?_))
    all_goals (refine fin_same trivial ?_; simp [one])
  ·
    repeat' (first | (simp only [go_sem, Int.reduceAdd, Int.reduceEq, Int.reduceLE, Int.reduceLT, Int.reduceMul, Int.reduceNeg, Int.reducePow, Int.reduceSub, Int.reduceToNat, Nat.reduceAdd, Nat.reduceBEq, Nat.reduceEqDiff, Nat.reduceLT, Nat.reduceLeDiff, Nat.reduceMul, Nat.reducePow, Nat.reduceSub, reduceCtorEq, reduceIte, IntKind.bits.eq_def, ti, tin]) | (simp (disch := omega) only [w64, wu64, wu32, Nat.min_eq_left]) | (with_reducible first | refine cF (v1) ?_ | refine dF (v1) ?_) | (with_reducible first | refine cF (v2) ?_ | refine dF (v2) ?_) | (with_reducible first | refine cF (c1) ?_ | refine dF (c1) ?_) | (refine aL ti_ok ?_) | (refine dL ti_ok ?_) | (refine dE (by kernel_rfl) ?_) | ((first | refine cC ?_ ?_ | refine gS ?_ ?_ | refine dS ?_ ?_) <;> intro hc <;> first | (exfalso; simp only [dcT, dcF, bnT, bnF, bnU, bnV] at hc; omega) | (simp only [hc]; try simp only [dcT, dcF, bnT, bnF, bnU, bnV] at hc)) | (refine aN (by omega) ?_) | (refine dN (by omega) ?_))
    all_goals (refine fin_same trivial ?_; simp [one])
  ·
    repeat' (first | (simp only [go_sem, Int.reduceAdd, Int.reduceEq, Int.reduceLE, Int.reduceLT, Int.reduceMul, Int.reduceNeg, Int.reducePow, Int.reduceSub, Int.reduceToNat, Nat.reduceAdd, Nat.reduceBEq, Nat.reduceEqDiff, Nat.reduceLT, Nat.reduceLeDiff, Nat.reduceMul, Nat.reducePow, Nat.reduceSub, reduceCtorEq, reduceIte, IntKind.bits.eq_def, ti, tin]) | (simp (disch := omega) only [w64, wu64, wu32, Nat.min_eq_left]) | (with_reducible first | refine cF (v1) ?_ | refine dF (v1) ?_) | (with_reducible first | refine cF (v2) ?_ | refine dF (v2) ?_) | (with_reducible first | refine cF (c1) ?_ | refine dF (c1) ?_) | (refine aL ti_ok ?_) | (refine dL ti_ok ?_) | (refine dE (by kernel_rfl) ?_) | ((first | refine cC ?_ ?_ | refine gS ?_ ?_ | refine dS ?_ ?_) <;> intro hc <;> first | (exfalso; simp only [dcT, dcF, bnT, bnF, bnU, bnV] at hc; omega) | (simp only [hc]; try simp only [dcT, dcF, bnT, bnF, bnU, bnV] at hc)) | (refine aN (by omega) ?_) | (refine dN (by omega) ?_))
    all_goals (refine fin_same trivial ?_; simp [one])
  ·
    repeat' (first | (simp only [go_sem, Int.reduceAdd, Int.reduceEq, Int.reduceLE, Int.reduceLT, Int.reduceMul, Int.reduceNeg, Int.reducePow, Int.reduceSub, Int.reduceToNat, Nat.reduceAdd, Nat.reduceBEq, Nat.reduceEqDiff, Nat.reduceLT, Nat.reduceLeDiff, Nat.reduceMul, Nat.reducePow, Nat.reduceSub, reduceCtorEq, reduceIte, IntKind.bits.eq_def, ti, tin]) | (simp (disch := omega) only [w64, wu64, wu32, Nat.min_eq_left]) | (with_reducible first | refine cF (v1) ?_ | refine dF (v1) ?_) | (with_reducible first | refine cF (v2) ?_ | refine dF (v2) ?_) | (with_reducible first | refine cF (c1) ?_ | refine dF (c1) ?_) | (refine aL ti_ok ?_) | (refine dL ti_ok ?_) | (refine dE (by kernel_rfl) ?_) | ((first | refine cC ?_ ?_ | refine gS ?_ ?_ | refine dS ?_ ?_) <;> intro hc <;> first | (exfalso; simp only [dcT, dcF, bnT, bnF, bnU, bnV] at hc; omega) | (simp only [hc]; try simp only [dcT, dcF, bnT, bnF, bnU, bnV] at hc)) | (refine aN (by omega) ?_) | (refine dN (by omega) ?_))
    all_goals (refine fin_same trivial ?_; simp [one])
theorem ri_Point (s1 : Bool) (w1 : List Nat) (d1 : Int) (x1 : Dy) (h1 : Arg s1 w1 d1 x1) : CallOK Tryz.prog gl 223 [.agg [.v (.bool s1), .sl 1 (u32s w1), .v (.int .i64 d1)]] (.agg [.v (.bool (sg (Iv.pt x1).lo)), .sl 1 (u32s (ms (Iv.pt x1).lo)), .v (.int .i64 (dn (Iv.pt x1).lo)), .v (.bool (sg (Iv.pt x1).hi)), .sl 1 (u32s (ms (Iv.pt x1).hi)), .v (.int .i64 (dn (Iv.pt x1).hi))]) := by
  refine call_ok (C := ⟨Tryz.prog, gl, ti, 8, false⟩) ti_ok mixed 3000 Tryz.call223 Tryz.func223 rfl Tryz.ntmps223 (by simp) byClL byCl ?_
  rw [Tryz.results223]
  repeat' (first | (simp only [go_sem, Int.reduceAdd, Int.reduceEq, Int.reduceLE, Int.reduceLT, Int.reduceMul, Int.reduceNeg, Int.reducePow, Int.reduceSub, Int.reduceToNat, Nat.reduceAdd, Nat.reduceBEq, Nat.reduceEqDiff, Nat.reduceLT, Nat.reduceLeDiff, Nat.reduceMul, Nat.reducePow, Nat.reduceSub, reduceCtorEq, reduceIte, IntKind.bits.eq_def, ti, tin]) | (simp (disch := omega) only [w64, wu64, wu32, Nat.min_eq_left]) | (with_reducible first | refine cF (ref_Norm _ _ _ _ h1) ?_ | refine dF (ref_Norm _ _ _ _ h1) ?_) | (refine aL ti_ok ?_) | (refine dL ti_ok ?_) | (refine dE (by kernel_rfl) ?_) | ((first | refine cC ?_ ?_ | refine gS ?_ ?_ | refine dS ?_ ?_) <;> intro hc <;> first | (exfalso; simp only [dcT, dcF, bnT, bnF, bnU, bnV] at hc; omega) | (simp only [hc]; try simp only [dcT, dcF, bnT, bnF, bnU, bnV] at hc)) | (refine aN (by omega) ?_) | (refine dN (by omega) ?_))
  exact fin_same trivial rfl
theorem ri_Norm (s1 : Bool) (w1 : List Nat) (d1 : Int) (t1 : Bool) (u1 : List Nat) (e1 : Int) (x1 y1 : Dy) (a1 : Iv) (h1 : IArg s1 w1 d1 t1 u1 e1 x1 y1 a1) : CallOK Tryz.prog gl 167 [.agg [.v (.bool s1), .sl 1 (u32s w1), .v (.int .i64 d1), .v (.bool t1), .sl 1 (u32s u1), .v (.int .i64 e1)]] (.agg [.v (.bool (sg (a1).lo)), .sl 1 (u32s (ms (a1).lo)), .v (.int .i64 (dn (a1).lo)), .v (.bool (sg (a1).hi)), .sl 1 (u32s (ms (a1).hi)), .v (.int .i64 (dn (a1).hi))]) := by
  refine call_ok (C := ⟨Tryz.prog, gl, ti, 7, false⟩) ti_ok mixed 3000 Tryz.call167 Tryz.func167 rfl Tryz.ntmps167 (by simp) byClL byCl ?_
  rw [Tryz.results167]
  have v := ri_Valid _ _ _ _ _ _ _ _ _ h1
  rcases h1.is with ⟨ho, q1, q2⟩ | ⟨ho, q1⟩
  · rw [decide_eq_true ho] at v
    obtain ⟨z1, z2, z3⟩ := h1.px.valid_parts ho.1.1
    obtain ⟨z4, z5, z6⟩ := h1.py.valid_parts ho.1.2
    rw [q1, q2]
    subst z1 z2 z3 z4 z5 z6
    repeat' (first | (simp only [go_sem, Int.reduceAdd, Int.reduceEq, Int.reduceLE, Int.reduceLT, Int.reduceMul, Int.reduceNeg, Int.reducePow, Int.reduceSub, Int.reduceToNat, Nat.reduceAdd, Nat.reduceBEq, Nat.reduceEqDiff, Nat.reduceLT, Nat.reduceLeDiff, Nat.reduceMul, Nat.reducePow, Nat.reduceSub, reduceCtorEq, reduceIte, IntKind.bits.eq_def, ti, tin]) | (simp (disch := omega) only [w64, wu64, wu32, Nat.min_eq_left]) | (with_reducible first | refine cF (v) ?_ | refine dF (v) ?_) | (refine aL ti_ok ?_) | (refine dL ti_ok ?_) | (refine dE (by kernel_rfl) ?_) | ((first | refine cC ?_ ?_ | refine gS ?_ ?_ | refine dS ?_ ?_) <;> intro hc <;> first | (exfalso; simp only [dcT, dcF, bnT, bnF, bnU, bnV] at hc; omega) | (simp only [hc]; try simp only [dcT, dcF, bnT, bnF, bnU, bnV] at hc)) | (refine aN (by omega) ?_) | (refine dN (by omega) ?_))
    exact fin_same trivial rfl
  · rw [decide_eq_false ho] at v
    rw [q1]
    repeat' (first | (simp only [go_sem, Int.reduceAdd, Int.reduceEq, Int.reduceLE, Int.reduceLT, Int.reduceMul, Int.reduceNeg, Int.reducePow, Int.reduceSub, Int.reduceToNat, Nat.reduceAdd, Nat.reduceBEq, Nat.reduceEqDiff, Nat.reduceLT, Nat.reduceLeDiff, Nat.reduceMul, Nat.reducePow, Nat.reduceSub, reduceCtorEq, reduceIte, IntKind.bits.eq_def, ti, tin]) | (simp (disch := omega) only [w64, wu64, wu32, Nat.min_eq_left]) | (with_reducible first | refine cF (v) ?_ | refine dF (v) ?_) | (refine aL ti_ok ?_) | (refine dL ti_ok ?_) | (refine dE (by kernel_rfl) ?_) | ((first | refine cC ?_ ?_ | refine gS ?_ ?_ | refine dS ?_ ?_) <;> intro hc <;> first | (exfalso; simp only [dcT, dcF, bnT, bnF, bnU, bnV] at hc; omega) | (simp only [hc]; try simp only [dcT, dcF, bnT, bnF, bnU, bnV] at hc)) | (refine aN (by omega) ?_) | (refine dN (by omega) ?_))
    exact fin_le trivial Le.iv0
instance : DecidableEq Iv := fun _ _ => decidable_of_iff _ Iv.same
theorem ri_Same (a b : Iv) (ha : (ms a.lo).length ≤ 4611686018427387904 ∧ (ms a.hi).length ≤ 4611686018427387904) (hb : (ms b.lo).length ≤ 4611686018427387904 ∧ (ms b.hi).length ≤ 4611686018427387904) : CallOK Tryz.prog gl 57 [.agg [.v (.bool (sg (a).lo)), .sl 1 (u32s (ms (a).lo)), .v (.int .i64 (dn (a).lo)), .v (.bool (sg (a).hi)), .sl 1 (u32s (ms (a).hi)), .v (.int .i64 (dn (a).hi))], .agg [.v (.bool (sg (b).lo)), .sl 1 (u32s (ms (b).lo)), .v (.int .i64 (dn (b).lo)), .v (.bool (sg (b).hi)), .sl 1 (u32s (ms (b).hi)), .v (.int .i64 (dn (b).hi))]] (.v (.bool ((decide (a = b))))) := by
  refine call_ok (C := ⟨Tryz.prog, gl, ti, 17, false⟩) ti_ok mixed 3000 Tryz.call57 Tryz.func57 rfl Tryz.ntmps57 (by simp) byClL byCl ?_
  rw [Tryz.results57]
  have p1 := ref_Same a.lo b.lo ha.1 hb.1
  have p2 := ref_Same a.hi b.hi ha.2 hb.2
  obtain ⟨z, hz⟩ : ∃ z, decide (a = b) = z := ⟨_, rfl⟩
  rw [hz]
  have hs : decide (a = b) = decide (a.lo = b.lo ∧ a.hi = b.hi) := decide_eq_decide.2 Iv.same.symm
  rw [hs, Bool.decide_and] at hz
  clear hs
  generalize decide (a.lo = b.lo) = m at *
  generalize decide (a.hi = b.hi) = n at *
  subst hz
  cases m
  ·
    repeat' (first | (simp only [go_sem, Int.reduceAdd, Int.reduceEq, Int.reduceLE, Int.reduceLT, Int.reduceMul, Int.reduceNeg, Int.reducePow, Int.reduceSub, Int.reduceToNat, Nat.reduceAdd, Nat.reduceBEq, Nat.reduceEqDiff, Nat.reduceLT, Nat.reduceLeDiff, Nat.reduceMul, Nat.reducePow, Nat.reduceSub, reduceCtorEq, reduceIte, IntKind.bits.eq_def, ti, tin]) | (simp (disch := omega) only [w64, wu64, wu32, Nat.min_eq_left]) | (with_reducible first | refine cF (p1) ?_ | refine dF (p1) ?_) | (with_reducible first | refine cF (p2) ?_ | refine dF (p2) ?_) | (refine aL ti_ok ?_) | (refine dL ti_ok ?_) | (refine dE (by kernel_rfl) ?_) | ((first | refine cC ?_ ?_ | refine gS ?_ ?_ | refine dS ?_ ?_) <;> intro hc <;> first | (exfalso; simp only [dcT, dcF, bnT, bnF, bnU, bnV] at hc; omega) | (simp only [hc]; try simp only [dcT, dcF, bnT, bnF, bnU, bnV] at hc)) | (refine aN (by omega) ?_) | (refine dN (by omega) ?_))
    all_goals exact fin_same trivial rfl
  ·
    repeat' (first | (simp only [go_sem, Int.reduceAdd, Int.reduceEq, Int.reduceLE, Int.reduceLT, Int.reduceMul, Int.reduceNeg, Int.reducePow, Int.reduceSub, Int.reduceToNat, Nat.reduceAdd, Nat.reduceBEq, Nat.reduceEqDiff, Nat.reduceLT, Nat.reduceLeDiff, Nat.reduceMul, Nat.reducePow, Nat.reduceSub, reduceCtorEq, reduceIte, IntKind.bits.eq_def, ti, tin]) | (simp (disch := omega) only [w64, wu64, wu32, Nat.min_eq_left]) | (with_reducible first | refine cF (p1) ?_ | refine dF (p1) ?_) | (with_reducible first | refine cF (p2) ?_ | refine dF (p2) ?_) | (refine aL ti_ok ?_) | (refine dL ti_ok ?_) | (refine dE (by kernel_rfl) ?_) | ((first | refine cC ?_ ?_ | refine gS ?_ ?_ | refine dS ?_ ?_) <;> intro hc <;> first | (exfalso; simp only [dcT, dcF, bnT, bnF, bnU, bnV] at hc; omega) | (simp only [hc]; try simp only [dcT, dcF, bnT, bnF, bnU, bnV] at hc)) | (refine aN (by omega) ?_) | (refine dN (by omega) ?_))
    all_goals exact fin_same trivial rfl
theorem ri_same {k : Nat} {a : Iv} (g : a.Mg k) (hk : k ≤ 1099511627776 := by omega) : CallOK Tryz.prog gl 57 [.agg [.v (.bool (sg a.lo)), .sl 1 (u32s (ms a.lo)), .v (.int .i64 (dn a.lo)), .v (.bool (sg a.hi)), .sl 1 (u32s (ms a.hi)), .v (.int .i64 (dn a.hi))], .agg [.v (.bool (sg a.lo)), .sl 1 (u32s (ms a.lo)), .v (.int .i64 (dn a.lo)), .v (.bool (sg a.hi)), .sl 1 (u32s (ms a.hi)), .v (.int .i64 (dn a.hi))]] (.v (.bool true)) := by
  have l1 := (Arg.of g.1 hk).len
  have l2 := (Arg.of g.2 hk).len
  have := ri_Same a a ⟨by omega, by omega⟩ ⟨by omega, by omega⟩
  rwa [decide_eq_true rfl] at this
theorem ri_span2 (s1 : Bool) (w1 : List Nat) (d1 : Int) (x1 : Dy) (h1 : Arg s1 w1 d1 x1) (s2 : Bool) (w2 : List Nat) (d2 : Int) (x2 : Dy) (h2 : Arg s2 w2 d2 x2) : CallOK Tryz.prog gl 168 [.sl 3 [[.v (.bool s1), .sl 1 (u32s w1), .v (.int .i64 d1)], [.v (.bool s2), .sl 1 (u32s w2), .v (.int .i64 d2)]]] (.agg [.v (.bool (sg (Iv.sp2 x1 x2).lo)), .sl 1 (u32s (ms (Iv.sp2 x1 x2).lo)), .v (.int .i64 (dn (Iv.sp2 x1 x2).lo)), .v (.bool (sg (Iv.sp2 x1 x2).hi)), .sl 1 (u32s (ms (Iv.sp2 x1 x2).hi)), .v (.int .i64 (dn (Iv.sp2 x1 x2).hi))]) := by
  refine call_ok (C := ⟨Tryz.prog, gl, ti, 29, false⟩) ti_ok mixed 3000 Tryz.call168 Tryz.func168 rfl Tryz.ntmps168 (by simp) byClL byCl ?_
  rw [Tryz.results168]
  have p1 := ri_Point _ _ _ _ h1
  have c1 := h1.can
  have m1 := ref_Min _ _ _ _ _ _ _ _ c1 h2
  have k1 := ref_Max _ _ _ _ _ _ _ _ c1 h2
  unfold Iv.sp2
  unfold Iv.pt at p1
  dsimp only at p1 ⊢
  generalize x1.min x2 = z1 at *
  generalize x1.max x2 = z2 at *
  repeat' (first | (simp only [go_sem, Int.reduceAdd, Int.reduceEq, Int.reduceLE, Int.reduceLT, Int.reduceMul, Int.reduceNeg, Int.reducePow, Int.reduceSub, Int.reduceToNat, Nat.reduceAdd, Nat.reduceBEq, Nat.reduceEqDiff, Nat.reduceLT, Nat.reduceLeDiff, Nat.reduceMul, Nat.reducePow, Nat.reduceSub, reduceCtorEq, reduceIte, IntKind.bits.eq_def, ti, tin]) | (simp (disch := omega) only [w64, wu64, wu32, Nat.min_eq_left]) | (refine l_unroll 3 _ rfl ?_) | (with_reducible first | refine cF (p1) ?_ | refine dF (p1) ?_) | (with_reducible first | refine cF (m1) ?_ | refine dF (m1) ?_) | (with_reducible first | refine cF (k1) ?_ | refine dF (k1) ?_) | (refine aL ti_ok ?_) | (refine dL ti_ok ?_) | (refine dE (by kernel_rfl) ?_) | ((first | refine cC ?_ ?_ | refine gS ?_ ?_ | refine dS ?_ ?_) <;> intro hc <;> first | (exfalso; simp only [dcT, dcF, bnT, bnF, bnU, bnV] at hc; omega) | (simp only [hc]; try simp only [dcT, dcF, bnT, bnF, bnU, bnV] at hc)) | (refine aN (by omega) ?_) | (refine dN (by omega) ?_))
  exact fin_same trivial rfl
theorem ri_span4 (s1 : Bool) (w1 : List Nat) (d1 : Int) (x1 : Dy) (h1 : Arg s1 w1 d1 x1) (s2 : Bool) (w2 : List Nat) (d2 : Int) (x2 : Dy) (h2 : Arg s2 w2 d2 x2) (s3 : Bool) (w3 : List Nat) (d3 : Int) (x3 : Dy) (h3 : Arg s3 w3 d3 x3) (s4 : Bool) (w4 : List Nat) (d4 : Int) (x4 : Dy) (h4 : Arg s4 w4 d4 x4) : CallOK Tryz.prog gl 168 [.sl 3 [[.v (.bool s1), .sl 1 (u32s w1), .v (.int .i64 d1)], [.v (.bool s2), .sl 1 (u32s w2), .v (.int .i64 d2)], [.v (.bool s3), .sl 1 (u32s w3), .v (.int .i64 d3)], [.v (.bool s4), .sl 1 (u32s w4), .v (.int .i64 d4)]]] (.agg [.v (.bool (sg (Iv.sp4 x1 x2 x3 x4).lo)), .sl 1 (u32s (ms (Iv.sp4 x1 x2 x3 x4).lo)), .v (.int .i64 (dn (Iv.sp4 x1 x2 x3 x4).lo)), .v (.bool (sg (Iv.sp4 x1 x2 x3 x4).hi)), .sl 1 (u32s (ms (Iv.sp4 x1 x2 x3 x4).hi)), .v (.int .i64 (dn (Iv.sp4 x1 x2 x3 x4).hi))]) := by
  refine call_ok (C := ⟨Tryz.prog, gl, ti, 29, false⟩) ti_ok mixed 3000 Tryz.call168 Tryz.func168 rfl Tryz.ntmps168 (by simp) byClL byCl ?_
  rw [Tryz.results168]
  have p1 := ri_Point _ _ _ _ h1
  have c1 := h1.can
  have m1 := ref_Min _ _ _ _ _ _ _ _ c1 h2
  have k1 := ref_Max _ _ _ _ _ _ _ _ c1 h2
  have g1 := c1.cmin h2.can
  have g2 := c1.cmax h2.can
  have m2 := ref_Min _ _ _ _ _ _ _ _ g1 h3
  have k2 := ref_Max _ _ _ _ _ _ _ _ g2 h3
  have g3 := g1.cmin h3.can
  have g4 := g2.cmax h3.can
  have m3 := ref_Min _ _ _ _ _ _ _ _ g3 h4
  have k3 := ref_Max _ _ _ _ _ _ _ _ g4 h4
  unfold Iv.sp4
  unfold Iv.pt at p1
  dsimp only at p1 ⊢
  clear g1 g2 g3 g4
  generalize ((x1.min x2).min x3).min x4 = z5 at *
  generalize ((x1.max x2).max x3).max x4 = z6 at *
  generalize (x1.min x2).min x3 = z3 at *
  generalize (x1.max x2).max x3 = z4 at *
  generalize x1.min x2 = z1 at *
  generalize x1.max x2 = z2 at *
  repeat' (first | (simp only [go_sem, Int.reduceAdd, Int.reduceEq, Int.reduceLE, Int.reduceLT, Int.reduceMul, Int.reduceNeg, Int.reducePow, Int.reduceSub, Int.reduceToNat, Nat.reduceAdd, Nat.reduceBEq, Nat.reduceEqDiff, Nat.reduceLT, Nat.reduceLeDiff, Nat.reduceMul, Nat.reducePow, Nat.reduceSub, reduceCtorEq, reduceIte, IntKind.bits.eq_def, ti, tin]) | (simp (disch := omega) only [w64, wu64, wu32, Nat.min_eq_left]) | (refine l_unroll 5 _ rfl ?_) | (with_reducible first | refine cF (p1) ?_ | refine dF (p1) ?_) | (with_reducible first | refine cF (m1) ?_ | refine dF (m1) ?_) | (with_reducible first | refine cF (k1) ?_ | refine dF (k1) ?_) | (with_reducible first | refine cF (m2) ?_ | refine dF (m2) ?_) | (with_reducible first | refine cF (k2) ?_ | refine dF (k2) ?_) | (with_reducible first | refine cF (m3) ?_ | refine dF (m3) ?_) | (with_reducible first | refine cF (k3) ?_ | refine dF (k3) ?_) | (refine aL ti_ok ?_) | (refine dL ti_ok ?_) | (refine dE (by kernel_rfl) ?_) | ((first | refine cC ?_ ?_ | refine gS ?_ ?_ | refine dS ?_ ?_) <;> intro hc <;> first | (exfalso; simp only [dcT, dcF, bnT, bnF, bnU, bnV] at hc; omega) | (simp only [hc]; try simp only [dcT, dcF, bnT, bnF, bnU, bnV] at hc)) | (refine aN (by omega) ?_) | (refine dN (by omega) ?_))
  exact fin_same trivial rfl
end Go.Proofs.YtdjgckcninibhaaGreatDoor
