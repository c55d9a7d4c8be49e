/- The statements on layer 3: the document's examples; short numbers and intervals. -/
import Derived.Test.YtdjgckcninibhaaGreatDoorDy6
import Derived.Test.YtdjgckcninibhaaGreatDoorRi3
import Derived.Test.YtdjgckcninibhaaGreatDoorNum
import Derived.Test.YtdjgckcninibhaaGreatDoorU4
import Derived.Test.YtdjgckcninibhaaGreatDoorU3
set_option linter.unusedSimpArgs false
set_option linter.unusedVariables false
set_option linter.deprecated false
namespace Go.Proofs.YtdjgckcninibhaaGreatDoor
open Go Go.Ax
set_option maxRecDepth 100000
set_option maxHeartbeats 4000000

/-- A number is short. -/
def shR (r : RD) : Prop := r.ws.length ≤ 8 ∧ (r.d ≤ 200 ∨ 65536 < r.d)
instance (r : RD) : Decidable (shR r) := inferInstanceAs (Decidable (_ ∧ _))
structure RI where
  s : Bool
  w : List Nat
  d : Int
  t : Bool
  u : List Nat
  e : Int
def shI (r : RI) : Prop := shR ⟨r.s, r.w, r.d⟩ ∧ shR ⟨r.t, r.u, r.e⟩
instance (r : RI) : Decidable (shI r) := inferInstanceAs (Decidable (_ ∧ _))
theorem sh_arg {s : Bool} {w : List Nat} {d : Int} (hW : Wd w) (f : shR ⟨s, w, d⟩) : ∃ x, Arg s w d x ∧ Mg 256 x ∧ x.d ≤ 200 := by
  obtain ⟨f1, f2⟩ := f
  simp only at f1 f2
  obtain ⟨x, h⟩ := Arg.get (s := s) (d := d) hW (by omega : w.length ≤ 68719476736)
  have h1 := h.mg f1
  have h2 := h.den (k := 200) f2 (by omega)
  exact ⟨x, h, h1, by unfold dn at h2; omega⟩
theorem sh_iarg {s : Bool} {w : List Nat} {d : Int} {t : Bool} {u : List Nat} {e : Int} (hW : Wd w) (hU : Wd u) (f : shI ⟨s, w, d, t, u, e⟩) : ∃ x y a, IArg s w d t u e x y a ∧ a.Mg 256 ∧ a.Dn 200 ∧ Mg 256 x ∧ Mg 256 y := by
  obtain ⟨x, h1, g1, d1⟩ := sh_arg hW f.1
  obtain ⟨y, h2, g2, d2⟩ := sh_arg hU f.2
  obtain ⟨a, ha⟩ := IArg.get h1 h2
  exact ⟨x, y, a, ha, ha.mg g1 g2, ha.den d1 d2, g1, g2⟩
theorem dec_and {p q : Prop} [Decidable p] [Decidable q] : decide (p ∧ q) = (decide p && decide q) := Bool.decide_and ..
theorem short03 (s1 : Bool) (w1 : List Nat) (d1 : Int) (hl : w1.length ≤ 9223372036854775807) (s2 : Bool) (w2 : List Nat) (d2 : Int) (hk : w2.length ≤ 9223372036854775807) : CallOK Tryz.prog gl 163 [.sl 3 [[.v (.bool s1), .sl 1 (u32s w1), .v (.int .i64 d1)], [.v (.bool s2), .sl 1 (u32s w2), .v (.int .i64 d2)]]] (.v (.bool ((decide (shR ⟨s1, w1, d1⟩ ∧ shR ⟨s2, w2, d2⟩))))) := by
  refine call_ok (C := ⟨Tryz.prog, gl, ti, 26, false⟩) ti_ok mixed 3000 Tryz.call163 Tryz.func163 rfl Tryz.ntmps163 (by simp) byClL byCl ?_
  rw [Tryz.results163]
  obtain ⟨z, hz⟩ : ∃ z, decide (shR ⟨s1, w1, d1⟩ ∧ shR ⟨s2, w2, d2⟩) = z := ⟨_, rfl⟩
  rw [hz]
  unfold shR at hz
  simp only at hz
  by_cases c1 : w1.length ≤ 8
  · by_cases c2 : d1 ≤ 200
    · by_cases c4 : w2.length ≤ 8
      · by_cases c5 : d2 ≤ 200
        · rw [decide_eq_true ⟨⟨c1, .inl c2⟩, c4, .inl c5⟩] at hz
          subst hz
          repeat' (first | (simp only [go_sem, Int.reduceAdd, Int.reduceEq, Int.reduceLE, Int.reduceLT, Int.reduceMul, Int.reduceNeg, Int.reducePow, Int.reduceSub, Int.reduceToNat, Nat.reduceAdd, Nat.reduceBEq, Nat.reduceEqDiff, Nat.reduceLT, Nat.reduceLeDiff, Nat.reduceMul, Nat.reducePow, Nat.reduceSub, reduceCtorEq, reduceIte, IntKind.bits.eq_def, ti, tin, u32s_length]) | (simp (disch := omega) only [w64, wu64, wu32, Nat.min_eq_left]) | (refine l_unroll 3 _ rfl ?_) | (refine aL ti_ok ?_) | (refine dL ti_ok ?_) | (refine dE (by kernel_rfl) ?_) | ((first | refine cC ?_ ?_ | refine gS ?_ ?_ | refine dS ?_ ?_) <;> intro hc <;> first | (exfalso; simp only [dcT, dcF, bnT, bnF, bnU, bnV] at hc; omega) | (simp only [hc]; try simp only [dcT, dcF, bnT, bnF, bnU, bnV] at hc)) | (refine aN (by omega) ?_) | (refine dN (by omega) ?_))
          all_goals exact fin_same trivial rfl
        · by_cases c6 : d2 ≤ 65536
          · rw [decide_eq_false (fun h => by omega)] at hz
            subst hz
            repeat' (first | (simp only [go_sem, Int.reduceAdd, Int.reduceEq, Int.reduceLE, Int.reduceLT, Int.reduceMul, Int.reduceNeg, Int.reducePow, Int.reduceSub, Int.reduceToNat, Nat.reduceAdd, Nat.reduceBEq, Nat.reduceEqDiff, Nat.reduceLT, Nat.reduceLeDiff, Nat.reduceMul, Nat.reducePow, Nat.reduceSub, reduceCtorEq, reduceIte, IntKind.bits.eq_def, ti, tin, u32s_length]) | (simp (disch := omega) only [w64, wu64, wu32, Nat.min_eq_left]) | (refine l_unroll 3 _ rfl ?_) | (refine aL ti_ok ?_) | (refine dL ti_ok ?_) | (refine dE (by kernel_rfl) ?_) | ((first | refine cC ?_ ?_ | refine gS ?_ ?_ | refine dS ?_ ?_) <;> intro hc <;> first | (exfalso; simp only [dcT, dcF, bnT, bnF, bnU, bnV] at hc; omega) | (simp only [hc]; try simp only [dcT, dcF, bnT, bnF, bnU, bnV] at hc)) | (refine aN (by omega) ?_) | (refine dN (by omega) ?_))
            all_goals exact fin_same trivial rfl
          · rw [decide_eq_true ⟨⟨c1, .inl c2⟩, c4, .inr (by omega)⟩] at hz
            subst hz
            repeat' (first | (simp only [go_sem, Int.reduceAdd, Int.reduceEq, Int.reduceLE, Int.reduceLT, Int.reduceMul, Int.reduceNeg, Int.reducePow, Int.reduceSub, Int.reduceToNat, Nat.reduceAdd, Nat.reduceBEq, Nat.reduceEqDiff, Nat.reduceLT, Nat.reduceLeDiff, Nat.reduceMul, Nat.reducePow, Nat.reduceSub, reduceCtorEq, reduceIte, IntKind.bits.eq_def, ti, tin, u32s_length]) | (simp (disch := omega) only [w64, wu64, wu32, Nat.min_eq_left]) | (refine l_unroll 3 _ rfl ?_) | (refine aL ti_ok ?_) | (refine dL ti_ok ?_) | (refine dE (by kernel_rfl) ?_) | ((first | refine cC ?_ ?_ | refine gS ?_ ?_ | refine dS ?_ ?_) <;> intro hc <;> first | (exfalso; simp only [dcT, dcF, bnT, bnF, bnU, bnV] at hc; omega) | (simp only [hc]; try simp only [dcT, dcF, bnT, bnF, bnU, bnV] at hc)) | (refine aN (by omega) ?_) | (refine dN (by omega) ?_))
            all_goals exact fin_same trivial rfl
      · rw [decide_eq_false (fun h => by omega)] at hz
        subst hz
        repeat' (first | (simp only [go_sem, Int.reduceAdd, Int.reduceEq, Int.reduceLE, Int.reduceLT, Int.reduceMul, Int.reduceNeg, Int.reducePow, Int.reduceSub, Int.reduceToNat, Nat.reduceAdd, Nat.reduceBEq, Nat.reduceEqDiff, Nat.reduceLT, Nat.reduceLeDiff, Nat.reduceMul, Nat.reducePow, Nat.reduceSub, reduceCtorEq, reduceIte, IntKind.bits.eq_def, ti, tin, u32s_length]) | (simp (disch := omega) only [w64, wu64, wu32, Nat.min_eq_left]) | (refine l_unroll 3 _ rfl ?_) | (refine aL ti_ok ?_) | (refine dL ti_ok ?_) | (refine dE (by kernel_rfl) ?_) | ((first | refine cC ?_ ?_ | refine gS ?_ ?_ | refine dS ?_ ?_) <;> intro hc <;> first | (exfalso; simp only [dcT, dcF, bnT, bnF, bnU, bnV] at hc; omega) | (simp only [hc]; try simp only [dcT, dcF, bnT, bnF, bnU, bnV] at hc)) | (refine aN (by omega) ?_) | (refine dN (by omega) ?_))
        all_goals exact fin_same trivial rfl
    · by_cases c3 : d1 ≤ 65536
      · rw [decide_eq_false (fun h => by omega)] at hz
        subst hz
        repeat' (first | (simp only [go_sem, Int.reduceAdd, Int.reduceEq, Int.reduceLE, Int.reduceLT, Int.reduceMul, Int.reduceNeg, Int.reducePow, Int.reduceSub, Int.reduceToNat, Nat.reduceAdd, Nat.reduceBEq, Nat.reduceEqDiff, Nat.reduceLT, Nat.reduceLeDiff, Nat.reduceMul, Nat.reducePow, Nat.reduceSub, reduceCtorEq, reduceIte, IntKind.bits.eq_def, ti, tin, u32s_length]) | (simp (disch := omega) only [w64, wu64, wu32, Nat.min_eq_left]) | (refine l_unroll 3 _ rfl ?_) | (refine aL ti_ok ?_) | (refine dL ti_ok ?_) | (refine dE (by kernel_rfl) ?_) | ((first | refine cC ?_ ?_ | refine gS ?_ ?_ | refine dS ?_ ?_) <;> intro hc <;> first | (exfalso; simp only [dcT, dcF, bnT, bnF, bnU, bnV] at hc; omega) | (simp only [hc]; try simp only [dcT, dcF, bnT, bnF, bnU, bnV] at hc)) | (refine aN (by omega) ?_) | (refine dN (by omega) ?_))
        all_goals exact fin_same trivial rfl
      · by_cases c4 : w2.length ≤ 8
        · by_cases c5 : d2 ≤ 200
          · rw [decide_eq_true ⟨⟨c1, .inr (by omega)⟩, c4, .inl c5⟩] at hz
            subst hz
            repeat' (first | (simp only [go_sem, Int.reduceAdd, Int.reduceEq, Int.reduceLE, Int.reduceLT, Int.reduceMul, Int.reduceNeg, Int.reducePow, Int.reduceSub, Int.reduceToNat, Nat.reduceAdd, Nat.reduceBEq, Nat.reduceEqDiff, Nat.reduceLT, Nat.reduceLeDiff, Nat.reduceMul, Nat.reducePow, Nat.reduceSub, reduceCtorEq, reduceIte, IntKind.bits.eq_def, ti, tin, u32s_length]) | (simp (disch := omega) only [w64, wu64, wu32, Nat.min_eq_left]) | (refine l_unroll 3 _ rfl ?_) | (refine aL ti_ok ?_) | (refine dL ti_ok ?_) | (refine dE (by kernel_rfl) ?_) | ((first | refine cC ?_ ?_ | refine gS ?_ ?_ | refine dS ?_ ?_) <;> intro hc <;> first | (exfalso; simp only [dcT, dcF, bnT, bnF, bnU, bnV] at hc; omega) | (simp only [hc]; try simp only [dcT, dcF, bnT, bnF, bnU, bnV] at hc)) | (refine aN (by omega) ?_) | (refine dN (by omega) ?_))
            all_goals exact fin_same trivial rfl
          · by_cases c6 : d2 ≤ 65536
            · rw [decide_eq_false (fun h => by omega)] at hz
              subst hz
              repeat' (first | (simp only [go_sem, Int.reduceAdd, Int.reduceEq, Int.reduceLE, Int.reduceLT, Int.reduceMul, Int.reduceNeg, Int.reducePow, Int.reduceSub, Int.reduceToNat, Nat.reduceAdd, Nat.reduceBEq, Nat.reduceEqDiff, Nat.reduceLT, Nat.reduceLeDiff, Nat.reduceMul, Nat.reducePow, Nat.reduceSub, reduceCtorEq, reduceIte, IntKind.bits.eq_def, ti, tin, u32s_length]) | (simp (disch := omega) only [w64, wu64, wu32, Nat.min_eq_left]) | (refine l_unroll 3 _ rfl ?_) | (refine aL ti_ok ?_) | (refine dL ti_ok ?_) | (refine dE (by kernel_rfl) ?_) | ((first | refine cC ?_ ?_ | refine gS ?_ ?_ | refine dS ?_ ?_) <;> intro hc <;> first | (exfalso; simp only [dcT, dcF, bnT, bnF, bnU, bnV] at hc; omega) | (simp only [hc]; try simp only [dcT, dcF, bnT, bnF, bnU, bnV] at hc)) | (refine aN (by omega) ?_) | (refine dN (by omega) ?_))
              all_goals exact fin_same trivial rfl
            · rw [decide_eq_true ⟨⟨c1, .inr (by omega)⟩, c4, .inr (by omega)⟩] at hz
              subst hz
              repeat' (first | (simp only [go_sem, Int.reduceAdd, Int.reduceEq, Int.reduceLE, Int.reduceLT, Int.reduceMul, Int.reduceNeg, Int.reducePow, Int.reduceSub, Int.reduceToNat, Nat.reduceAdd, Nat.reduceBEq, Nat.reduceEqDiff, Nat.reduceLT, Nat.reduceLeDiff, Nat.reduceMul, Nat.reducePow, Nat.reduceSub, reduceCtorEq, reduceIte, IntKind.bits.eq_def, ti, tin, u32s_length]) | (simp (disch := omega) only [w64, wu64, wu32, Nat.min_eq_left]) | (refine l_unroll 3 _ rfl ?_) | (refine aL ti_ok ?_) | (refine dL ti_ok ?_) | (refine dE (by kernel_rfl) ?_) | ((first | refine cC ?_ ?_ | refine gS ?_ ?_ | refine dS ?_ ?_) <;> intro hc <;> first | (exfalso; simp only [dcT, dcF, bnT, bnF, bnU, bnV] at hc; omega) | (simp only [hc]; try simp only [dcT, dcF, bnT, bnF, bnU, bnV] at hc)) | (refine aN (by omega) ?_) | (refine dN (by omega) ?_))
              all_goals exact fin_same trivial rfl
        · rw [decide_eq_false (fun h => by omega)] at hz
          subst hz
          repeat' (first | (simp only [go_sem, Int.reduceAdd, Int.reduceEq, Int.reduceLE, Int.reduceLT, Int.reduceMul, Int.reduceNeg, Int.reducePow, Int.reduceSub, Int.reduceToNat, Nat.reduceAdd, Nat.reduceBEq, Nat.reduceEqDiff, Nat.reduceLT, Nat.reduceLeDiff, Nat.reduceMul, Nat.reducePow, Nat.reduceSub, reduceCtorEq, reduceIte, IntKind.bits.eq_def, ti, tin, u32s_length]) | (simp (disch := omega) only [w64, wu64, wu32, Nat.min_eq_left]) | (refine l_unroll 3 _ rfl ?_) | (refine aL ti_ok ?_) | (refine dL ti_ok ?_) | (refine dE (by kernel_rfl) ?_) | ((first | refine cC ?_ ?_ | refine gS ?_ ?_ | refine dS ?_ ?_) <;> intro hc <;> first | (exfalso; simp only [dcT, dcF, bnT, bnF, bnU, bnV] at hc; omega) | (simp only [hc]; try simp only [dcT, dcF, bnT, bnF, bnU, bnV] at hc)) | (refine aN (by omega) ?_) | (refine dN (by omega) ?_))
          all_goals exact fin_same trivial rfl
  · rw [decide_eq_false (fun h => by omega)] at hz
    subst hz
    repeat' (first | (simp only [go_sem, Int.reduceAdd, Int.reduceEq, Int.reduceLE, Int.reduceLT, Int.reduceMul, Int.reduceNeg, Int.reducePow, Int.reduceSub, Int.reduceToNat, Nat.reduceAdd, Nat.reduceBEq, Nat.reduceEqDiff, Nat.reduceLT, Nat.reduceLeDiff, Nat.reduceMul, Nat.reducePow, Nat.reduceSub, reduceCtorEq, reduceIte, IntKind.bits.eq_def, ti, tin, u32s_length]) | (simp (disch := omega) only [w64, wu64, wu32, Nat.min_eq_left]) | (refine l_unroll 3 _ rfl ?_) | (refine aL ti_ok ?_) | (refine dL ti_ok ?_) | (refine dE (by kernel_rfl) ?_) | ((first | refine cC ?_ ?_ | refine gS ?_ ?_ | refine dS ?_ ?_) <;> intro hc <;> first | (exfalso; simp only [dcT, dcF, bnT, bnF, bnU, bnV] at hc; omega) | (simp only [hc]; try simp only [dcT, dcF, bnT, bnF, bnU, bnV] at hc)) | (refine aN (by omega) ?_) | (refine dN (by omega) ?_))
    all_goals exact fin_same trivial rfl
theorem few03_2 (s1 : Bool) (w1 : List Nat) (d1 : Int) (t1 : Bool) (u1 : List Nat) (e1 : Int) (l1 : w1.length ≤ 9223372036854775807 ∧ u1.length ≤ 9223372036854775807) (s2 : Bool) (w2 : List Nat) (d2 : Int) (t2 : Bool) (u2 : List Nat) (e2 : Int) (l2 : w2.length ≤ 9223372036854775807 ∧ u2.length ≤ 9223372036854775807) : CallOK Tryz.prog gl 55 [.sl 6 [[.v (.bool s1), .sl 1 (u32s w1), .v (.int .i64 d1), .v (.bool t1), .sl 1 (u32s u1), .v (.int .i64 e1)], [.v (.bool s2), .sl 1 (u32s w2), .v (.int .i64 d2), .v (.bool t2), .sl 1 (u32s u2), .v (.int .i64 e2)]]] (.v (.bool ((decide (shI ⟨s1, w1, d1, t1, u1, e1⟩ ∧ shI ⟨s2, w2, d2, t2, u2, e2⟩))))) := by
  refine call_ok (C := ⟨Tryz.prog, gl, ti, 19, false⟩) ti_ok mixed 3000 Tryz.call55 Tryz.func55 rfl Tryz.ntmps55 (by simp) byClL byCl ?_
  rw [Tryz.results55]
  simp only [dec_and]
  have f1 : CallOK _ _ _ _ (.v (.bool (decide (shI ⟨s1, w1, d1, t1, u1, e1⟩)))) := short03 s1 w1 d1 l1.1 t1 u1 e1 l1.2
  generalize decide (shI ⟨s1, w1, d1, t1, u1, e1⟩) = b1 at *
  have f2 : CallOK _ _ _ _ (.v (.bool (decide (shI ⟨s2, w2, d2, t2, u2, e2⟩)))) := short03 s2 w2 d2 l2.1 t2 u2 e2 l2.2
  generalize decide (shI ⟨s2, w2, d2, t2, u2, e2⟩) = b2 at *
  cases b1
  ·
    repeat' (first | (simp only [go_sem, Int.reduceAdd, Int.reduceEq, Int.reduceLE, Int.reduceLT, Int.reduceMul, Int.reduceNeg, Int.reducePow, Int.reduceSub, Int.reduceToNat, Nat.reduceAdd, Nat.reduceBEq, Nat.reduceEqDiff, Nat.reduceLT, Nat.reduceLeDiff, Nat.reduceMul, Nat.reducePow, Nat.reduceSub, reduceCtorEq, reduceIte, IntKind.bits.eq_def, ti, tin]) | (simp (disch := omega) only [w64, wu64, wu32, Nat.min_eq_left]) | (refine l_unroll 3 _ rfl ?_) | (with_reducible first | refine cF (f1) ?_ | refine dF (f1) ?_) | (with_reducible first | refine cF (f2) ?_ | refine dF (f2) ?_) | (refine aL ti_ok ?_) | (refine dL ti_ok ?_) | (refine dE (by kernel_rfl) ?_) | ((first | refine cC ?_ ?_ | refine gS ?_ ?_ | refine dS ?_ ?_) <;> intro hc <;> first | (exfalso; simp only [dcT, dcF, bnT, bnF, bnU, bnV] at hc; omega) | (simp only [hc]; try simp only [dcT, dcF, bnT, bnF, bnU, bnV] at hc)) | (refine aN (by omega) ?_) | (refine dN (by omega) ?_))
    all_goals exact fin_same trivial rfl
  ·
    cases b2
    ·
      repeat' (first | (simp only [go_sem, Int.reduceAdd, Int.reduceEq, Int.reduceLE, Int.reduceLT, Int.reduceMul, Int.reduceNeg, Int.reducePow, Int.reduceSub, Int.reduceToNat, Nat.reduceAdd, Nat.reduceBEq, Nat.reduceEqDiff, Nat.reduceLT, Nat.reduceLeDiff, Nat.reduceMul, Nat.reducePow, Nat.reduceSub, reduceCtorEq, reduceIte, IntKind.bits.eq_def, ti, tin]) | (simp (disch := omega) only [w64, wu64, wu32, Nat.min_eq_left]) | (refine l_unroll 3 _ rfl ?_) | (with_reducible first | refine cF (f1) ?_ | refine dF (f1) ?_) | (with_reducible first | refine cF (f2) ?_ | refine dF (f2) ?_) | (refine aL ti_ok ?_) | (refine dL ti_ok ?_) | (refine dE (by kernel_rfl) ?_) | ((first | refine cC ?_ ?_ | refine gS ?_ ?_ | refine dS ?_ ?_) <;> intro hc <;> first | (exfalso; simp only [dcT, dcF, bnT, bnF, bnU, bnV] at hc; omega) | (simp only [hc]; try simp only [dcT, dcF, bnT, bnF, bnU, bnV] at hc)) | (refine aN (by omega) ?_) | (refine dN (by omega) ?_))
      all_goals exact fin_same trivial rfl
    ·
      repeat' (first | (simp only [go_sem, Int.reduceAdd, Int.reduceEq, Int.reduceLE, Int.reduceLT, Int.reduceMul, Int.reduceNeg, Int.reducePow, Int.reduceSub, Int.reduceToNat, Nat.reduceAdd, Nat.reduceBEq, Nat.reduceEqDiff, Nat.reduceLT, Nat.reduceLeDiff, Nat.reduceMul, Nat.reducePow, Nat.reduceSub, reduceCtorEq, reduceIte, IntKind.bits.eq_def, ti, tin]) | (simp (disch := omega) only [w64, wu64, wu32, Nat.min_eq_left]) | (refine l_unroll 3 _ rfl ?_) | (with_reducible first | refine cF (f1) ?_ | refine dF (f1) ?_) | (with_reducible first | refine cF (f2) ?_ | refine dF (f2) ?_) | (refine aL ti_ok ?_) | (refine dL ti_ok ?_) | (refine dE (by kernel_rfl) ?_) | ((first | refine cC ?_ ?_ | refine gS ?_ ?_ | refine dS ?_ ?_) <;> intro hc <;> first | (exfalso; simp only [dcT, dcF, bnT, bnF, bnU, bnV] at hc; omega) | (simp only [hc]; try simp only [dcT, dcF, bnT, bnF, bnU, bnV] at hc)) | (refine aN (by omega) ?_) | (refine dN (by omega) ?_))
      all_goals exact fin_same trivial rfl
theorem iargc (a : Iv) (h : a.lo.n.natAbs < 4294967296 ∧ a.hi.n.natAbs < 4294967296) : a.Mg 32 := ⟨mg_of_ms (k := 1) (words_length_le (by simpa using h.1)), mg_of_ms (k := 1) (words_length_le (by simpa using h.2))⟩
theorem awake03  : CallOK Tryz.prog gl 56 [] (.v (.bool (true))) := by
  refine call_ok (C := ⟨Tryz.prog, gl, ti, 27, false⟩) ti_ok mixed 3000 Tryz.call56 Tryz.func56 rfl Tryz.ntmps56 (by simp) byClL byCl ?_
  rw [Tryz.results56]
  have i1 := iv_Ints (-2) 3 (by omega) (by omega)
  have i2 := iv_Ints 4 (-1) (by omega) (by omega)
  have i3 := iv_Ints (-5) 2 (by omega) (by omega)
  have g1 := iargc (Iv.sp2 (Dy.int (-2)) (Dy.int 3)) (by decide +kernel)
  have g2 := iargc (Iv.sp2 (Dy.int 4) (Dy.int (-1))) (by decide +kernel)
  have g3 := iargc (Iv.sp2 (Dy.int (-5)) (Dy.int 2)) (by decide +kernel)
  have m1 := iv_Mul _ _ _ _ _ _ _ _ _ (IArg.of g1) _ _ _ _ _ _ _ _ _ (IArg.of g2) 32 32 g1 g2 (by omega)
  have a1 := iv_Abs _ _ _ _ _ _ _ _ _ (IArg.of g3)
  have t1 := iv_Text _ _ _ _ _ _ _ _ _ (IArg.of (g1.mul g2))
  have t2 := iv_Text _ _ _ _ _ _ _ _ _ (IArg.of g3.abs)
  have o1 := Of_ok 12 (by omega)
  have o2 := Of_ok 13 (by omega)
  have c1 := iv_Contains _ _ _ _ _ _ _ _ _ (IArg.of (g1.mul g2)) _ _ _ _ (Arg.of (mg_i64 (n := 12) (by omega)) (by omega))
  have c2 := iv_Contains _ _ _ _ _ _ _ _ _ (IArg.of (g1.mul g2)) _ _ _ _ (Arg.of (mg_i64 (n := 13) (by omega)) (by omega))
  rw [show ivText ((Iv.sp2 (Dy.int (-2)) (Dy.int 3)).mul (Iv.sp2 (Dy.int 4) (Dy.int (-1)))) = [91, 45, 56, 44, 32, 49, 50, 93] by decide +kernel] at t1
  rw [show ivText (Iv.sp2 (Dy.int (-5)) (Dy.int 2)).abs = [91, 48, 44, 32, 53, 93] by decide +kernel] at t2
  rw [show Iv.has ((Iv.sp2 (Dy.int (-2)) (Dy.int 3)).mul (Iv.sp2 (Dy.int 4) (Dy.int (-1)))) (Dy.int 12) = true by decide +kernel] at c1
  rw [show Iv.has ((Iv.sp2 (Dy.int (-2)) (Dy.int 3)).mul (Iv.sp2 (Dy.int 4) (Dy.int (-1)))) (Dy.int 13) = false by decide +kernel] at c2
  clear g1 g2 g3
  generalize (Iv.sp2 (Dy.int (-5)) (Dy.int 2)).abs = z5 at *
  generalize (Iv.sp2 (Dy.int (-2)) (Dy.int 3)).mul (Iv.sp2 (Dy.int 4) (Dy.int (-1))) = z4 at *
  generalize Iv.sp2 (Dy.int (-5)) (Dy.int 2) = z3 at *
  generalize Iv.sp2 (Dy.int 4) (Dy.int (-1)) = z2 at *
  generalize Iv.sp2 (Dy.int (-2)) (Dy.int 3) = z1 at *
  generalize Dy.int 12 = z6 at *
  generalize Dy.int 13 = z7 at *
  have e1 : decide ((⟨[91, 45, 56, 44, 32, 49, 50, 93].toArray⟩ : ByteArray) = ⟨#[91, 45, 56, 44, 32, 49, 50, 93]⟩) = true := decide_eq_true rfl
  have e2 : decide ((⟨[91, 48, 44, 32, 53, 93].toArray⟩ : ByteArray) = ⟨#[91, 48, 44, 32, 53, 93]⟩) = true := decide_eq_true rfl
  repeat' (first | (simp only [go_sem, Int.reduceAdd, Int.reduceEq, Int.reduceLE, Int.reduceLT, Int.reduceMul, Int.reduceNeg, Int.reducePow, Int.reduceSub, Int.reduceToNat, Nat.reduceAdd, Nat.reduceBEq, Nat.reduceEqDiff, Nat.reduceLT, Nat.reduceLeDiff, Nat.reduceMul, Nat.reducePow, Nat.reduceSub, reduceCtorEq, reduceIte, IntKind.bits.eq_def, ti, tin, e1, e2]) | (simp (disch := omega) only [w64, wu64, wu32, Nat.min_eq_left]) | (with_reducible first | refine cF (i1) ?_ | refine dF (i1) ?_) | (with_reducible first | refine cF (i2) ?_ | refine dF (i2) ?_) | (with_reducible first | refine cF (i3) ?_ | refine dF (i3) ?_) | (with_reducible first | refine cF (m1) ?_ | refine dF (m1) ?_) | (with_reducible first | refine cF (a1) ?_ | refine dF (a1) ?_) | (with_reducible first | refine cF (t1) ?_ | refine dF (t1) ?_) | (with_reducible first | refine cF (t2) ?_ | refine dF (t2) ?_) | (with_reducible first | refine cF (o1) ?_ | refine dF (o1) ?_) | (with_reducible first | refine cF (o2) ?_ | refine dF (o2) ?_) | (with_reducible first | refine cF (c1) ?_ | refine dF (c1) ?_) | (with_reducible first | refine cF (c2) ?_ | refine dF (c2) ?_) | (refine aL ti_ok ?_) | (refine dL ti_ok ?_) | (refine dE (by kernel_rfl) ?_) | ((first | refine cC ?_ ?_ | refine gS ?_ ?_ | refine dS ?_ ?_) <;> intro hc <;> first | (exfalso; simp only [dcT, dcF, bnT, bnF, bnU, bnV] at hc; omega) | (simp only [hc]; try simp only [dcT, dcF, bnT, bnF, bnU, bnV] at hc)) | (refine aN (by omega) ?_) | (refine dN (by omega) ?_))
  exact fin_same trivial rfl
end Go.Proofs.YtdjgckcninibhaaGreatDoor
