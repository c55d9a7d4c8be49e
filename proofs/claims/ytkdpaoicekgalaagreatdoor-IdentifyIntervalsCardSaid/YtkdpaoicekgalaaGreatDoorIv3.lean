/- Layer 3 (interval.go), part 1: validity, arguments, points, spans. -/
import Derived.Test.YtkdpaoicekgalaaGreatDoorNat7
import Derived.Test.YtkdpaoicekgalaaGreatDoorU4
set_option linter.unusedSimpArgs false
set_option linter.unusedVariables false
set_option linter.deprecated false
namespace Go.Proofs.YtkdpaoicekgalaaGreatDoor
open Go Go.Ax
set_option maxRecDepth 100000
set_option maxHeartbeats 4000000

theorem iv_Valid (s1 : Bool) (w1 : List Nat) (d1 : Int) (t1 : Bool) (u1 : List Nat) (e1 : Int) (x1 y1 : Dy) (a1 : Iv) (h1 : IArg s1 w1 d1 t1 u1 e1 x1 y1 a1) : CallOK Tryz.prog gl 63 [.agg [.v (.bool s1), .sl 1 (u32s w1), .v (.int .i64 d1), .v (.bool t1), .sl 1 (u32s u1), .v (.int .i64 e1)]] (.v (.bool ((decide (okI s1 w1 d1 t1 u1 e1 x1 y1))))) := by
  refine call_ok (C := ⟨Tryz.prog, gl, ti, 19, false⟩) ti_ok mixed 3000 Tryz.call63 Tryz.func63 rfl Tryz.ntmps63 (by simp) byClL byCl ?_
  rw [Tryz.results63]
  have v1 := Valid_ok s1 w1 d1 (by have := h1.px.len; omega)
  have v2 := Valid_ok t1 u1 e1 (by have := h1.py.len; omega)
  have c1 := Cmp_ok _ _ _ _ _ _ _ _ h1.px h1.py
  have q := cmp_le x1 y1
  obtain ⟨z, hz⟩ : ∃ z, decide (okI s1 w1 d1 t1 u1 e1 x1 y1) = z := ⟨_, rfl⟩
  rw [hz]
  unfold okI at hz
  simp only [← q] at hz
  clear q h1
  generalize x1.cmp y1 = c at *
  generalize validR s1 w1 d1 = b1 at *
  generalize validR t1 u1 e1 = b2 at *
  cases b1 <;> cases b2 <;> subst hz
  ·
    repeat' (first | (simp only [go_sem, Int.reduceAdd, Int.reduceEq, Int.reduceLE, Int.reduceLT, Int.reduceMul, Int.reduceNeg, Int.reducePow, Int.reduceSub, Int.reduceToNat, Nat.reduceAdd, Nat.reduceBEq, Nat.reduceEqDiff, Nat.reduceLT, Nat.reduceLeDiff, Nat.reduceMul, Nat.reducePow, Nat.reduceSub, reduceCtorEq, reduceIte, IntKind.bits.eq_def, ti, tin]) | (simp (disch := omega) only [w64, wu64, wu32, Nat.min_eq_left]) | (with_reducible first | refine cF (v1) ?_ | refine dF (v1) ?_) | (with_reducible first | refine cF (v2) ?_ | refine dF (v2) ?_) | (with_reducible first | refine cF (c1) ?_ | refine dF (c1) ?_) | (refine aL ti_ok ?_) | (refine dL ti_ok ?_) | (refine dE (by kernel_rfl) ?_) | ((first | refine cC ?_ ?_ | refine gS ?_ ?_ | refine dS ?_ ?_) <;> intro hc <;> first | (exfalso; simp only [dcT, dcF, bnT, bnF, bnU, bnV] at hc; omega) | (simp only [hc]; try simp only [dcT, dcF, bnT, bnF, bnU, bnV] at hc)) | (refine aN (by omega) ?_) | (refine dN (by omega) ?_))
    all_goals (refine fin_same trivial ?_; simp [one])
  ·
    repeat' (first | (simp only [go_sem, Int.reduceAdd, Int.reduceEq, Int.reduceLE, Int.reduceLT, Int.reduceMul, Int.reduceNeg, Int.reducePow, Int.reduceSub, Int.reduceToNat, Nat.reduceAdd, Nat.reduceBEq, Nat.reduceEqDiff, Nat.reduceLT, Nat.reduceLeDiff, Nat.reduceMul, Nat.reducePow, Nat.reduceSub, reduceCtorEq, reduceIte, IntKind.bits.eq_def, ti, tin]) | (simp (disch := omega) only [w64, wu64, wu32, Nat.min_eq_left]) | (with_reducible first | refine cF (v1) ?_ | refine dF (v1) ?_) | (with_reducible first | refine cF (v2) ?_ | refine dF (v2) ?_) | (with_reducible first | refine cF (c1) ?_ | refine dF (c1) ?_) | (refine aL ti_ok ?_) | (refine dL ti_ok ?_) | (refine dE (by kernel_rfl) ?_) | ((first | refine cC ?_ ?_ | refine gS ?_ ?_ | refine dS ?_ ?_) <;> intro hc <;> first | (exfalso; simp only [dcT, dcF, bnT, bnF, bnU, bnV] at hc; omega) | (simp only [hc]; try simp only [dcT, dcF, bnT, bnF, bnU, bnV] at hc)) | (refine aN (by omega) ?_) | (refine dN (by omega) ?_))
    all_goals (refine fin_same trivial ?_; simp [one])
  ·
    repeat' (first | (simp only [go_sem, Int.reduceAdd, Int.reduceEq, Int.reduceLE, Int.reduceLT, Int.reduceMul, Int.reduceNeg, Int.reducePow, Int.reduceSub, Int.reduceToNat, Nat.reduceAdd, Nat.reduceBEq, Nat.reduceEqDiff, Nat.reduceLT, Nat.reduceLeDiff, Nat.reduceMul, Nat.reducePow, Nat.reduceSub, reduceCtorEq, reduceIte, IntKind.bits.eq_def, ti, tin]) | (simp (disch := omega) only [w64, wu64, wu32, Nat.min_eq_left]) | (with_reducible first | refine cF (v1) ?_ | refine dF (v1) ?_) | (with_reducible first | refine cF (v2) ?_ | refine dF (v2) ?_) | (with_reducible first | refine cF (c1) ?_ | refine dF (c1) ?_) | (refine aL ti_ok ?_) | (refine dL ti_ok ?_) | (refine dE (by kernel_rfl) ?_) | ((first | refine cC ?_ ?_ | refine gS ?_ ?_ | refine dS ?_ ?_) <;> intro hc <;> first | (exfalso; simp only [dcT, dcF, bnT, bnF, bnU, bnV] at hc; omega) | (simp only [hc]; try simp only [dcT, dcF, bnT, bnF, bnU, bnV] at hc)) | (refine aN (by omega) ?_) | (refine dN (by omega) ?_))
    all_goals (refine fin_same trivial ?_; simp [one])
  ·
    repeat' (first | (simp only [go_sem, Int.reduceAdd, Int.reduceEq, Int.reduceLE, Int.reduceLT, Int.reduceMul, Int.reduceNeg, Int.reducePow, Int.reduceSub, Int.reduceToNat, Nat.reduceAdd, Nat.reduceBEq, Nat.reduceEqDiff, Nat.reduceLT, Nat.reduceLeDiff, Nat.reduceMul, Nat.reducePow, Nat.reduceSub, reduceCtorEq, reduceIte, IntKind.bits.eq_def, ti, tin]) | (simp (disch := omega) only [w64, wu64, wu32, Nat.min_eq_left]) | (with_reducible first | refine cF (v1) ?_ | refine dF (v1) ?_) | (with_reducible first | refine cF (v2) ?_ | refine dF (v2) ?_) | (with_reducible first | refine cF (c1) ?_ | refine dF (c1) ?_) | (refine aL ti_ok ?_) | (refine dL ti_ok ?_) | (refine dE (by kernel_rfl) ?_) | ((first | refine cC ?_ ?_ | refine gS ?_ ?_ | refine dS ?_ ?_) <;> intro hc <;> first | (exfalso; simp only [dcT, dcF, bnT, bnF, bnU, bnV] at hc; omega) | (simp only [hc]; try simp only [dcT, dcF, bnT, bnF, bnU, bnV] at hc)) | (refine aN (by omega) ?_) | (refine dN (by omega) ?_))
    all_goals (refine fin_same trivial ?_; simp [one])
theorem iv_same (s1 : Bool) (w1 : List Nat) (d1 : Int) (x1 : Dy) (h1 : Arg s1 w1 d1 x1) : CallOK Tryz.prog gl 91 [.agg [.v (.bool s1), .sl 1 (u32s w1), .v (.int .i64 d1)]] (.agg [.v (.bool (sg (x1))), .sl 1 (u32s (ms (x1))), .v (.int .i64 (dn (x1)))]) := by
  refine call_ok (C := ⟨Tryz.prog, gl, ti, 5, false⟩) ti_ok mixed 3000 Tryz.call91 Tryz.func91 rfl Tryz.ntmps91 (by simp) byClL byCl ?_
  rw [Tryz.results91]
  have p := Shift_ok _ _ _ 0 _ h1
  rw [shift_zero] at p
  repeat' (first | (simp only [go_sem, Int.reduceAdd, Int.reduceEq, Int.reduceLE, Int.reduceLT, Int.reduceMul, Int.reduceNeg, Int.reducePow, Int.reduceSub, Int.reduceToNat, Nat.reduceAdd, Nat.reduceBEq, Nat.reduceEqDiff, Nat.reduceLT, Nat.reduceLeDiff, Nat.reduceMul, Nat.reducePow, Nat.reduceSub, reduceCtorEq, reduceIte, IntKind.bits.eq_def, ti, tin]) | (simp (disch := omega) only [w64, wu64, wu32, Nat.min_eq_left]) | (with_reducible first | refine cF (p) ?_ | refine dF (p) ?_) | (refine aL ti_ok ?_) | (refine dL ti_ok ?_) | (refine dE (by kernel_rfl) ?_) | ((first | refine cC ?_ ?_ | refine gS ?_ ?_ | refine dS ?_ ?_) <;> intro hc <;> first | (exfalso; simp only [dcT, dcF, bnT, bnF, bnU, bnV] at hc; omega) | (simp only [hc]; try simp only [dcT, dcF, bnT, bnF, bnU, bnV] at hc)) | (refine aN (by omega) ?_) | (refine dN (by omega) ?_))
  exact fin_same trivial rfl
theorem iv_arg (s1 : Bool) (w1 : List Nat) (d1 : Int) (t1 : Bool) (u1 : List Nat) (e1 : Int) (x1 y1 : Dy) (a1 : Iv) (h1 : IArg s1 w1 d1 t1 u1 e1 x1 y1 a1) : CallOK Tryz.prog gl 97 [.agg [.v (.bool s1), .sl 1 (u32s w1), .v (.int .i64 d1), .v (.bool t1), .sl 1 (u32s u1), .v (.int .i64 e1)]] (.agg [.v (.bool (sg (a1).lo)), .sl 1 (u32s (ms (a1).lo)), .v (.int .i64 (dn (a1).lo)), .v (.bool (sg (a1).hi)), .sl 1 (u32s (ms (a1).hi)), .v (.int .i64 (dn (a1).hi))]) := by
  refine call_ok (C := ⟨Tryz.prog, gl, ti, 14, false⟩) ti_ok mixed 3000 Tryz.call97 Tryz.func97 rfl Tryz.ntmps97 (by simp) byClL byCl ?_
  rw [Tryz.results97]
  have v := iv_Valid _ _ _ _ _ _ _ _ _ h1
  rcases h1.is with ⟨ho, q1, q2⟩ | ⟨ho, q1⟩
  · rw [decide_eq_true ho] at v
    have p1 := iv_same _ _ _ _ h1.px
    have p2 := iv_same _ _ _ _ h1.py
    rw [q1, q2]
    repeat' (first | (simp only [go_sem, Int.reduceAdd, Int.reduceEq, Int.reduceLE, Int.reduceLT, Int.reduceMul, Int.reduceNeg, Int.reducePow, Int.reduceSub, Int.reduceToNat, Nat.reduceAdd, Nat.reduceBEq, Nat.reduceEqDiff, Nat.reduceLT, Nat.reduceLeDiff, Nat.reduceMul, Nat.reducePow, Nat.reduceSub, reduceCtorEq, reduceIte, IntKind.bits.eq_def, ti, tin]) | (simp (disch := omega) only [w64, wu64, wu32, Nat.min_eq_left]) | (with_reducible first | refine cF (v) ?_ | refine dF (v) ?_) | (with_reducible first | refine cF (p1) ?_ | refine dF (p1) ?_) | (with_reducible first | refine cF (p2) ?_ | refine dF (p2) ?_) | (refine aL ti_ok ?_) | (refine dL ti_ok ?_) | (refine dE (by kernel_rfl) ?_) | ((first | refine cC ?_ ?_ | refine gS ?_ ?_ | refine dS ?_ ?_) <;> intro hc <;> first | (exfalso; simp only [dcT, dcF, bnT, bnF, bnU, bnV] at hc; omega) | (simp only [hc]; try simp only [dcT, dcF, bnT, bnF, bnU, bnV] at hc)) | (refine aN (by omega) ?_) | (refine dN (by omega) ?_))
    exact fin_same trivial rfl
  · rw [decide_eq_false ho] at v
    rw [q1]
    repeat' (first | (simp only [go_sem, Int.reduceAdd, Int.reduceEq, Int.reduceLE, Int.reduceLT, Int.reduceMul, Int.reduceNeg, Int.reducePow, Int.reduceSub, Int.reduceToNat, Nat.reduceAdd, Nat.reduceBEq, Nat.reduceEqDiff, Nat.reduceLT, Nat.reduceLeDiff, Nat.reduceMul, Nat.reducePow, Nat.reduceSub, reduceCtorEq, reduceIte, IntKind.bits.eq_def, ti, tin]) | (simp (disch := omega) only [w64, wu64, wu32, Nat.min_eq_left]) | (with_reducible first | refine cF (v) ?_ | refine dF (v) ?_) | (refine aL ti_ok ?_) | (refine dL ti_ok ?_) | (refine dE (by kernel_rfl) ?_) | ((first | refine cC ?_ ?_ | refine gS ?_ ?_ | refine dS ?_ ?_) <;> intro hc <;> first | (exfalso; simp only [dcT, dcF, bnT, bnF, bnU, bnV] at hc; omega) | (simp only [hc]; try simp only [dcT, dcF, bnT, bnF, bnU, bnV] at hc)) | (refine aN (by omega) ?_) | (refine dN (by omega) ?_))
    exact fin_le trivial Le.iv0
end Go.Proofs.YtkdpaoicekgalaaGreatDoor
/- Layer 3 (interval.go), part 2: negatives, sums, products, minima, hulls. -/
set_option linter.unusedSimpArgs false
set_option linter.unusedVariables false
set_option linter.deprecated false
namespace Go.Proofs.YtkdpaoicekgalaaGreatDoor
open Go Go.Ax
set_option maxRecDepth 100000
set_option maxHeartbeats 4000000

end Go.Proofs.YtkdpaoicekgalaaGreatDoor
/- Layer 3 (interval.go), part 3: absolute values, limits. -/
set_option linter.unusedSimpArgs false
set_option linter.unusedVariables false
set_option linter.deprecated false
namespace Go.Proofs.YtkdpaoicekgalaaGreatDoor
open Go Go.Ax
set_option maxRecDepth 100000
set_option maxHeartbeats 4000000

theorem iv_Make (s1 : Bool) (w1 : List Nat) (d1 : Int) (x1 : Dy) (h1 : Arg s1 w1 d1 x1) (s2 : Bool) (w2 : List Nat) (d2 : Int) (x2 : Dy) (h2 : Arg s2 w2 d2 x2) (hle : x1.v ≤ x2.v) : CallOK Tryz.prog gl 14 [.agg [.v (.bool s1), .sl 1 (u32s w1), .v (.int .i64 d1)], .agg [.v (.bool s2), .sl 1 (u32s w2), .v (.int .i64 d2)]] (.tup [.agg [.v (.bool (sg (x1))), .sl 1 (u32s (ms (x1))), .v (.int .i64 (dn (x1))), .v (.bool (sg (x2))), .sl 1 (u32s (ms (x2))), .v (.int .i64 (dn (x2)))], .v .nilIface]) := by
  refine call_ok (C := ⟨Tryz.prog, gl, ti, 17, false⟩) ti_ok mixed 3000 Tryz.call14 Tryz.func14 rfl Tryz.ntmps14 (by simp) byClL byCl ?_
  rw [Tryz.results14]
  have c1 := Cmp_ok _ _ _ _ _ _ _ _ h1 h2
  have k := (cmp_le x1 x2).2 hle
  have p1 := iv_same _ _ _ _ h1
  have p2 := iv_same _ _ _ _ h2
  clear hle
  generalize x1.cmp x2 = n at *
  repeat' (first | (simp only [go_sem, Int.reduceAdd, Int.reduceEq, Int.reduceLE, Int.reduceLT, Int.reduceMul, Int.reduceNeg, Int.reducePow, Int.reduceSub, Int.reduceToNat, Nat.reduceAdd, Nat.reduceBEq, Nat.reduceEqDiff, Nat.reduceLT, Nat.reduceLeDiff, Nat.reduceMul, Nat.reducePow, Nat.reduceSub, reduceCtorEq, reduceIte, IntKind.bits.eq_def, ti, tin]) | (simp (disch := omega) only [w64, wu64, wu32, Nat.min_eq_left]) | (with_reducible first | refine cF (c1) ?_ | refine dF (c1) ?_) | (with_reducible first | refine cF (p1) ?_ | refine dF (p1) ?_) | (with_reducible first | refine cF (p2) ?_ | refine dF (p2) ?_) | (refine aL ti_ok ?_) | (refine dL ti_ok ?_) | (refine dE (by kernel_rfl) ?_) | ((first | refine cC ?_ ?_ | refine gS ?_ ?_ | refine dS ?_ ?_) <;> intro hc <;> first | (exfalso; simp only [dcT, dcF, bnT, bnF, bnU, bnV] at hc; omega) | (simp only [hc]; try simp only [dcT, dcF, bnT, bnF, bnU, bnV] at hc)) | (refine aN (by omega) ?_) | (refine dN (by omega) ?_))
  all_goals exact fin_same trivial rfl
end Go.Proofs.YtkdpaoicekgalaaGreatDoor
