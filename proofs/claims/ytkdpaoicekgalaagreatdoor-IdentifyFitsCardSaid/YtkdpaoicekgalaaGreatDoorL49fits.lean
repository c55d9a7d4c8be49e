/- The statement IdentifyFits: its code returns true. -/
import Derived.Test.YtkdpaoicekgalaaGreatDoorL49
import Derived.Test.YtkdpaoicekgalaaGreatDoorRefB
set_option linter.unusedSimpArgs false
set_option linter.unusedVariables false
set_option linter.deprecated false
namespace Go.Proofs.YtkdpaoicekgalaaGreatDoor
open Go Go.Ax
set_option maxRecDepth 100000
set_option maxHeartbeats 4000000

/-- A number is short. -/
def bfR (r : RD) : Prop := r.ws.length ≤ 8 ∧ (r.d ≤ 200 ∨ 65536 < r.d)
instance (r : RD) : Decidable (bfR r) := inferInstanceAs (Decidable (_ ∧ _))
theorem bf_arg {s : Bool} {w : List Nat} {d : Int} (hW : Wd w) (f : bfR ⟨s, w, d⟩) : ∃ x, Arg s w d x ∧ Mg 256 x := by
  obtain ⟨f1, f2⟩ := f
  simp only at f1 f2
  obtain ⟨x, h⟩ := Arg.get (s := s) (d := d) hW (by omega : w.length ≤ 68719476736)
  exact ⟨x, h, h.mg f1⟩
theorem brief49 (s1 : Bool) (w1 : List Nat) (d1 : Int) (hl : w1.length ≤ 9223372036854775807) (s2 : Bool) (w2 : List Nat) (d2 : Int) (hk : w2.length ≤ 9223372036854775807) : CallOK Tryz.prog gl 81 [.sl 3 [[.v (.bool s1), .sl 1 (u32s w1), .v (.int .i64 d1)], [.v (.bool s2), .sl 1 (u32s w2), .v (.int .i64 d2)]]] (.v (.bool ((decide (bfR ⟨s1, w1, d1⟩ ∧ bfR ⟨s2, w2, d2⟩))))) := by
  refine call_ok (C := ⟨Tryz.prog, gl, ti, 26, false⟩) ti_ok mixed 3000 Tryz.call81 Tryz.func81 rfl Tryz.ntmps81 (by simp) byClL byCl ?_
  rw [Tryz.results81]
  obtain ⟨z, hz⟩ : ∃ z, decide (bfR ⟨s1, w1, d1⟩ ∧ bfR ⟨s2, w2, d2⟩) = z := ⟨_, rfl⟩
  rw [hz]
  unfold bfR at hz
  simp only at hz
  by_cases c1 : w1.length ≤ 8
  · by_cases c2 : d1 ≤ 200
    · by_cases c4 : w2.length ≤ 8
      · by_cases c5 : d2 ≤ 200
        · rw [decide_eq_true ⟨⟨c1, .inl c2⟩, c4, .inl c5⟩] at hz
          subst hz
          repeat' (first | (simp only [go_sem, Int.reduceAdd, Int.reduceEq, Int.reduceLE, Int.reduceLT, Int.reduceMul, Int.reduceNeg, Int.reducePow, Int.reduceSub, Int.reduceToNat, Nat.reduceAdd, Nat.reduceBEq, Nat.reduceEqDiff, Nat.reduceLT, Nat.reduceLeDiff, Nat.reduceMul, Nat.reducePow, Nat.reduceSub, reduceCtorEq, reduceIte, IntKind.bits.eq_def, ti, tin, u32s_length]) | (simp (disch := omega) only [w64, wu64, wu32, Nat.min_eq_left]) | (refine l_unroll 3 _ rfl ?_) | (refine aL ti_ok ?_) | (refine dL ti_ok ?_) | (refine dE (by kernel_rfl) ?_) | ((first | refine cC ?_ ?_ | refine gS ?_ ?_ | refine dS ?_ ?_) <;> intro hc <;> first | (exfalso; simp only [dcT, dcF, bnT, bnF, bnU, bnV] at hc; omega) | (simp only [hc]; try simp only [dcT, dcF, bnT, bnF, bnU, bnV] at hc)) | (refine aN (by omega) ?_) | (refine dN (by omega) ?_))
          all_goals exact fin_same trivial rfl
        · by_cases c6 : d2 ≤ 65536
          · rw [decide_eq_false (fun h => by omega)] at hz
            subst hz
            repeat' (first | (simp only [go_sem, Int.reduceAdd, Int.reduceEq, Int.reduceLE, Int.reduceLT, Int.reduceMul, Int.reduceNeg, Int.reducePow, Int.reduceSub, Int.reduceToNat, Nat.reduceAdd, Nat.reduceBEq, Nat.reduceEqDiff, Nat.reduceLT, Nat.reduceLeDiff, Nat.reduceMul, Nat.reducePow, Nat.reduceSub, reduceCtorEq, reduceIte, IntKind.bits.eq_def, ti, tin, u32s_length]) | (simp (disch := omega) only [w64, wu64, wu32, Nat.min_eq_left]) | (refine l_unroll 3 _ rfl ?_) | (refine aL ti_ok ?_) | (refine dL ti_ok ?_) | (refine dE (by kernel_rfl) ?_) | ((first | refine cC ?_ ?_ | refine gS ?_ ?_ | refine dS ?_ ?_) <;> intro hc <;> first | (exfalso; simp only [dcT, dcF, bnT, bnF, bnU, bnV] at hc; omega) | (simp only [hc]; try simp only [dcT, dcF, bnT, bnF, bnU, bnV] at hc)) | (refine aN (by omega) ?_) | (refine dN (by omega) ?_))
            all_goals exact fin_same trivial rfl
          · rw [decide_eq_true ⟨⟨c1, .inl c2⟩, c4, .inr (by omega)⟩] at hz
            subst hz
            repeat' (first | (simp only [go_sem, Int.reduceAdd, Int.reduceEq, Int.reduceLE, Int.reduceLT, Int.reduceMul, Int.reduceNeg, Int.reducePow, Int.reduceSub, Int.reduceToNat, Nat.reduceAdd, Nat.reduceBEq, Nat.reduceEqDiff, Nat.reduceLT, Nat.reduceLeDiff, Nat.reduceMul, Nat.reducePow, Nat.reduceSub, reduceCtorEq, reduceIte, IntKind.bits.eq_def, ti, tin, u32s_length]) | (simp (disch := omega) only [w64, wu64, wu32, Nat.min_eq_left]) | (refine l_unroll 3 _ rfl ?_) | (refine aL ti_ok ?_) | (refine dL ti_ok ?_) | (refine dE (by kernel_rfl) ?_) | ((first | refine cC ?_ ?_ | refine gS ?_ ?_ | refine dS ?_ ?_) <;> intro hc <;> first | (exfalso; simp only [dcT, dcF, bnT, bnF, bnU, bnV] at hc; omega) | (simp only [hc]; try simp only [dcT, dcF, bnT, bnF, bnU, bnV] at hc)) | (refine aN (by omega) ?_) | (refine dN (by omega) ?_))
            all_goals exact fin_same trivial rfl
      · rw [decide_eq_false (fun h => by omega)] at hz
        subst hz
        repeat' (first | (simp only [go_sem, Int.reduceAdd, Int.reduceEq, Int.reduceLE, Int.reduceLT, Int.reduceMul, Int.reduceNeg, Int.reducePow, Int.reduceSub, Int.reduceToNat, Nat.reduceAdd, Nat.reduceBEq, Nat.reduceEqDiff, Nat.reduceLT, Nat.reduceLeDiff, Nat.reduceMul, Nat.reducePow, Nat.reduceSub, reduceCtorEq, reduceIte, IntKind.bits.eq_def, ti, tin, u32s_length]) | (simp (disch := omega) only [w64, wu64, wu32, Nat.min_eq_left]) | (refine l_unroll 3 _ rfl ?_) | (refine aL ti_ok ?_) | (refine dL ti_ok ?_) | (refine dE (by kernel_rfl) ?_) | ((first | refine cC ?_ ?_ | refine gS ?_ ?_ | refine dS ?_ ?_) <;> intro hc <;> first | (exfalso; simp only [dcT, dcF, bnT, bnF, bnU, bnV] at hc; omega) | (simp only [hc]; try simp only [dcT, dcF, bnT, bnF, bnU, bnV] at hc)) | (refine aN (by omega) ?_) | (refine dN (by omega) ?_))
        all_goals exact fin_same trivial rfl
    · by_cases c3 : d1 ≤ 65536
      · rw [decide_eq_false (fun h => by omega)] at hz
        subst hz
        repeat' (first | (simp only [go_sem, Int.reduceAdd, Int.reduceEq, Int.reduceLE, Int.reduceLT, Int.reduceMul, Int.reduceNeg, Int.reducePow, Int.reduceSub, Int.reduceToNat, Nat.reduceAdd, Nat.reduceBEq, Nat.reduceEqDiff, Nat.reduceLT, Nat.reduceLeDiff, Nat.reduceMul, Nat.reducePow, Nat.reduceSub, reduceCtorEq, reduceIte, IntKind.bits.eq_def, ti, tin, u32s_length]) | (simp (disch := omega) only [w64, wu64, wu32, Nat.min_eq_left]) | (refine l_unroll 3 _ rfl ?_) | (refine aL ti_ok ?_) | (refine dL ti_ok ?_) | (refine dE (by kernel_rfl) ?_) | ((first | refine cC ?_ ?_ | refine gS ?_ ?_ | refine dS ?_ ?_) <;> intro hc <;> first | (exfalso; simp only [dcT, dcF, bnT, bnF, bnU, bnV] at hc; omega) | (simp only [hc]; try simp only [dcT, dcF, bnT, bnF, bnU, bnV] at hc)) | (refine aN (by omega) ?_) | (refine dN (by omega) ?_))
        all_goals exact fin_same trivial rfl
      · by_cases c4 : w2.length ≤ 8
        · by_cases c5 : d2 ≤ 200
          · rw [decide_eq_true ⟨⟨c1, .inr (by omega)⟩, c4, .inl c5⟩] at hz
            subst hz
            repeat' (first | (simp only [go_sem, Int.reduceAdd, Int.reduceEq, Int.reduceLE, Int.reduceLT, Int.reduceMul, Int.reduceNeg, Int.reducePow, Int.reduceSub, Int.reduceToNat, Nat.reduceAdd, Nat.reduceBEq, Nat.reduceEqDiff, Nat.reduceLT, Nat.reduceLeDiff, Nat.reduceMul, Nat.reducePow, Nat.reduceSub, reduceCtorEq, reduceIte, IntKind.bits.eq_def, ti, tin, u32s_length]) | (simp (disch := omega) only [w64, wu64, wu32, Nat.min_eq_left]) | (refine l_unroll 3 _ rfl ?_) | (refine aL ti_ok ?_) | (refine dL ti_ok ?_) | (refine dE (by kernel_rfl) ?_) | ((first | refine cC ?_ ?_ | refine gS ?_ ?_ | refine dS ?_ ?_) <;> intro hc <;> first | (exfalso; simp only [dcT, dcF, bnT, bnF, bnU, bnV] at hc; omega) | (simp only [hc]; try simp only [dcT, dcF, bnT, bnF, bnU, bnV] at hc)) | (refine aN (by omega) ?_) | (refine dN (by omega) ?_))
            all_goals exact fin_same trivial rfl
          · by_cases c6 : d2 ≤ 65536
            · rw [decide_eq_false (fun h => by omega)] at hz
              subst hz
              repeat' (first | (simp only [go_sem, Int.reduceAdd, Int.reduceEq, Int.reduceLE, Int.reduceLT, Int.reduceMul, Int.reduceNeg, Int.reducePow, Int.reduceSub, Int.reduceToNat, Nat.reduceAdd, Nat.reduceBEq, Nat.reduceEqDiff, Nat.reduceLT, Nat.reduceLeDiff, Nat.reduceMul, Nat.reducePow, Nat.reduceSub, reduceCtorEq, reduceIte, IntKind.bits.eq_def, ti, tin, u32s_length]) | (simp (disch := omega) only [w64, wu64, wu32, Nat.min_eq_left]) | (refine l_unroll 3 _ rfl ?_) | (refine aL ti_ok ?_) | (refine dL ti_ok ?_) | (refine dE (by kernel_rfl) ?_) | ((first | refine cC ?_ ?_ | refine gS ?_ ?_ | refine dS ?_ ?_) <;> intro hc <;> first | (exfalso; simp only [dcT, dcF, bnT, bnF, bnU, bnV] at hc; omega) | (simp only [hc]; try simp only [dcT, dcF, bnT, bnF, bnU, bnV] at hc)) | (refine aN (by omega) ?_) | (refine dN (by omega) ?_))
              all_goals exact fin_same trivial rfl
            · rw [decide_eq_true ⟨⟨c1, .inr (by omega)⟩, c4, .inr (by omega)⟩] at hz
              subst hz
              repeat' (first | (simp only [go_sem, Int.reduceAdd, Int.reduceEq, Int.reduceLE, Int.reduceLT, Int.reduceMul, Int.reduceNeg, Int.reducePow, Int.reduceSub, Int.reduceToNat, Nat.reduceAdd, Nat.reduceBEq, Nat.reduceEqDiff, Nat.reduceLT, Nat.reduceLeDiff, Nat.reduceMul, Nat.reducePow, Nat.reduceSub, reduceCtorEq, reduceIte, IntKind.bits.eq_def, ti, tin, u32s_length]) | (simp (disch := omega) only [w64, wu64, wu32, Nat.min_eq_left]) | (refine l_unroll 3 _ rfl ?_) | (refine aL ti_ok ?_) | (refine dL ti_ok ?_) | (refine dE (by kernel_rfl) ?_) | ((first | refine cC ?_ ?_ | refine gS ?_ ?_ | refine dS ?_ ?_) <;> intro hc <;> first | (exfalso; simp only [dcT, dcF, bnT, bnF, bnU, bnV] at hc; omega) | (simp only [hc]; try simp only [dcT, dcF, bnT, bnF, bnU, bnV] at hc)) | (refine aN (by omega) ?_) | (refine dN (by omega) ?_))
              all_goals exact fin_same trivial rfl
        · rw [decide_eq_false (fun h => by omega)] at hz
          subst hz
          repeat' (first | (simp only [go_sem, Int.reduceAdd, Int.reduceEq, Int.reduceLE, Int.reduceLT, Int.reduceMul, Int.reduceNeg, Int.reducePow, Int.reduceSub, Int.reduceToNat, Nat.reduceAdd, Nat.reduceBEq, Nat.reduceEqDiff, Nat.reduceLT, Nat.reduceLeDiff, Nat.reduceMul, Nat.reducePow, Nat.reduceSub, reduceCtorEq, reduceIte, IntKind.bits.eq_def, ti, tin, u32s_length]) | (simp (disch := omega) only [w64, wu64, wu32, Nat.min_eq_left]) | (refine l_unroll 3 _ rfl ?_) | (refine aL ti_ok ?_) | (refine dL ti_ok ?_) | (refine dE (by kernel_rfl) ?_) | ((first | refine cC ?_ ?_ | refine gS ?_ ?_ | refine dS ?_ ?_) <;> intro hc <;> first | (exfalso; simp only [dcT, dcF, bnT, bnF, bnU, bnV] at hc; omega) | (simp only [hc]; try simp only [dcT, dcF, bnT, bnF, bnU, bnV] at hc)) | (refine aN (by omega) ?_) | (refine dN (by omega) ?_))
          all_goals exact fin_same trivial rfl
  · rw [decide_eq_false (fun h => by omega)] at hz
    subst hz
    repeat' (first | (simp only [go_sem, Int.reduceAdd, Int.reduceEq, Int.reduceLE, Int.reduceLT, Int.reduceMul, Int.reduceNeg, Int.reducePow, Int.reduceSub, Int.reduceToNat, Nat.reduceAdd, Nat.reduceBEq, Nat.reduceEqDiff, Nat.reduceLT, Nat.reduceLeDiff, Nat.reduceMul, Nat.reducePow, Nat.reduceSub, reduceCtorEq, reduceIte, IntKind.bits.eq_def, ti, tin, u32s_length]) | (simp (disch := omega) only [w64, wu64, wu32, Nat.min_eq_left]) | (refine l_unroll 3 _ rfl ?_) | (refine aL ti_ok ?_) | (refine dL ti_ok ?_) | (refine dE (by kernel_rfl) ?_) | ((first | refine cC ?_ ?_ | refine gS ?_ ?_ | refine dS ?_ ?_) <;> intro hc <;> first | (exfalso; simp only [dcT, dcF, bnT, bnF, bnU, bnV] at hc; omega) | (simp only [hc]; try simp only [dcT, dcF, bnT, bnF, bnU, bnV] at hc)) | (refine aN (by omega) ?_) | (refine dN (by omega) ?_))
    all_goals exact fin_same trivial rfl
theorem r49_of (n : Int) (h : -9223372036854775808 ≤ n ∧ n ≤ 9223372036854775807) : CallOK Tryz.prog gl 125 [.v (.int .i64 n)] (.agg [.v (.bool (sg (Dy.int n))), .sl 1 (u32s (ms (Dy.int n))), .v (.int .i64 (dn (Dy.int n)))]) := by
  refine call_ok (C := ⟨Tryz.prog, gl, ti, 5, false⟩) ti_ok mixed 3000 Tryz.call125 Tryz.func125 rfl Tryz.ntmps125 (by simp) byClL byCl ?_
  rw [Tryz.results125]
  have o1 := ref_Of n h
  generalize Dy.int n = z at *
  repeat' (first | (simp only [go_sem, Int.reduceAdd, Int.reduceEq, Int.reduceLE, Int.reduceLT, Int.reduceMul, Int.reduceNeg, Int.reducePow, Int.reduceSub, Int.reduceToNat, Nat.reduceAdd, Nat.reduceBEq, Nat.reduceEqDiff, Nat.reduceLT, Nat.reduceLeDiff, Nat.reduceMul, Nat.reducePow, Nat.reduceSub, reduceCtorEq, reduceIte, IntKind.bits.eq_def, ti, tin]) | (simp (disch := omega) only [w64, wu64, wu32, Nat.min_eq_left]) | (with_reducible first | refine cF (o1) ?_ | refine dF (o1) ?_) | (refine aL ti_ok ?_) | (refine dL ti_ok ?_) | (refine dE (by kernel_rfl) ?_) | ((first | refine cC ?_ ?_ | refine gS ?_ ?_ | refine dS ?_ ?_) <;> intro hc <;> first | (exfalso; simp only [dcT, dcF, bnT, bnF, bnU, bnV] at hc; omega) | (simp only [hc]; try simp only [dcT, dcF, bnT, bnF, bnU, bnV] at hc)) | (refine aN (by omega) ?_) | (refine dN (by omega) ?_))
  exact fin_same trivial rfl
theorem r49_Fits_err (l : List (Int × Int)) (n : Int) (hl : l.length ≤ 4611686018427387904) (h : ckS l n ≠ 0) (s : Bool) (ws : List Nat) (d : Int) (s' : Bool) (ws' : List Nat) (d' : Int) : CallOK Tryz.prog gl 83 [.sl 2 (rws prow l), .v (.int .i64 n), .agg [.v (.bool s), .sl 1 (u32s ws), .v (.int .i64 d)], .agg [.v (.bool s'), .sl 1 (u32s ws'), .v (.int .i64 d')]] (.tup [.v (.bool (false)), .v (.int .i64 ((ckS l n)))]) := by
  refine call_ok (C := ⟨Tryz.prog, gl, ti, 44, false⟩) ti_ok mixed 3000 Tryz.call83 Tryz.func83 rfl Tryz.ntmps83 (by simp) byClL byCl ?_
  rw [Tryz.results83]
  have c1 := r49_Check l n (by omega)
  generalize ckS l n = e at *
  repeat' (first | (simp only [go_sem, Int.reduceAdd, Int.reduceEq, Int.reduceLE, Int.reduceLT, Int.reduceMul, Int.reduceNeg, Int.reducePow, Int.reduceSub, Int.reduceToNat, Nat.reduceAdd, Nat.reduceBEq, Nat.reduceEqDiff, Nat.reduceLT, Nat.reduceLeDiff, Nat.reduceMul, Nat.reducePow, Nat.reduceSub, reduceCtorEq, reduceIte, IntKind.bits.eq_def, ti, tin]) | (simp (disch := omega) only [w64, wu64, wu32, Nat.min_eq_left]) | (with_reducible first | refine cF (c1) ?_ | refine dF (c1) ?_) | (refine aL ti_ok ?_) | (refine dL ti_ok ?_) | (refine dE (by kernel_rfl) ?_) | ((first | refine cC ?_ ?_ | refine gS ?_ ?_ | refine dS ?_ ?_) <;> intro hc <;> first | (exfalso; simp only [dcT, dcF, bnT, bnF, bnU, bnV] at hc; omega) | (simp only [hc]; try simp only [dcT, dcF, bnT, bnF, bnU, bnV] at hc)) | (refine aN (by omega) ?_) | (refine dN (by omega) ?_))
  all_goals exact fin_same trivial rfl
theorem r49_Fits (l : List (Int × Int)) (n : Int) (h : ckS l n = 0) (s : Bool) (ws : List Nat) (d : Int) (s' : Bool) (ws' : List Nat) (d' : Int) (p q : Dy) (hp : Arg s ws d p) (hq : Arg s' ws' d' q) (gp : Mg 1000 p) (gq : Mg 1000 q) : CallOK Tryz.prog gl 83 [.sl 2 (rws prow l), .v (.int .i64 n), .agg [.v (.bool s), .sl 1 (u32s ws), .v (.int .i64 d)], .agg [.v (.bool s'), .sl 1 (u32s ws'), .v (.int .i64 d')]] (.tup [.v (.bool ((decide (fitAll p q n l)))), .v (.int .i64 0)]) := by
  refine call_ok (C := ⟨Tryz.prog, gl, ti, 44, false⟩) ti_ok mixed 3000 Tryz.call83 Tryz.func83 rfl Tryz.ntmps83 (by simp) byClL byCl ?_
  rw [Tryz.results83]
  obtain ⟨g1, g2, g3, g4, g5⟩ := ck_ok h
  have c1 := r49_Check l n (by omega)
  rw [h] at c1
  obtain ⟨N, hN⟩ : ∃ N, l.length = N := ⟨_, rfl⟩
  obtain ⟨z, hz⟩ : ∃ z, decide (fitAll p q n l) = z := ⟨_, rfl⟩
  rw [hz]
  rw [hN] at g1 g2
  repeat' (first | (simp only [go_sem, Int.reduceAdd, Int.reduceEq, Int.reduceLE, Int.reduceLT, Int.reduceMul, Int.reduceNeg, Int.reducePow, Int.reduceSub, Int.reduceToNat, Nat.reduceAdd, Nat.reduceBEq, Nat.reduceEqDiff, Nat.reduceLT, Nat.reduceLeDiff, Nat.reduceMul, Nat.reducePow, Nat.reduceSub, reduceCtorEq, reduceIte, IntKind.bits.eq_def, ti, tin, rws_length, hN]) | (simp (disch := omega) only [w64, wu64, wu32, Nat.min_eq_left]) | (with_reducible first | refine cF (c1) ?_ | refine dF (c1) ?_) | (refine aL ti_ok ?_) | (refine dL ti_ok ?_) | (refine dE (by kernel_rfl) ?_) | ((first | refine cC ?_ ?_ | refine gS ?_ ?_ | refine dS ?_ ?_) <;> intro hc <;> first | (exfalso; simp only [dcT, dcF, bnT, bnF, bnU, bnV] at hc; omega) | (simp only [hc]; try simp only [dcT, dcF, bnT, bnF, bnU, bnV] at hc)) | (refine aN (by omega) ?_) | (refine dN (by omega) ?_))
  refine l_loop (α := Nat) (fun k => ⟨[(0, .sl 2 (rws prow l)), (1, .v (.int .i64 n)), (6, .p 0 3 0 0), (7, .p 1 3 0 0), (20, .sl 2 (rws prow l)), (21, .v (.int .i64 N)), (22, .v (.int .i64 k))], [(0, ⟨3, [[.v (.bool s), .sl 1 (u32s ws), .v (.int .i64 d)]]⟩), (1, ⟨3, [[.v (.bool s'), .sl 1 (u32s ws'), .v (.int .i64 d')]]⟩)], 2⟩) (fun k => k ≤ N ∧ ∀ i, i < k → fitD p q n (l.getD i (0, 0))) (fun k => N - k) (0) _ byFresh (fun _ h => by first | (cases h; done) | exact Nat.le_of_ble_eq_true rfl) ?_ ?_ ?_
  · exact ⟨Nat.zero_le _, fun i hi => by omega⟩
  · exact byWeak
  rintro k ⟨hk, hi⟩
  by_cases hkn : k < N
  ·
    have rk := rws_getD (f := prow) (l := l) (i := k) (0, 0) (by omega)
    obtain ⟨s0, hs0⟩ : ∃ s0, l.getD k (0, 0) = s0 := ⟨_, rfl⟩
    have bp := g3 s0 (by rw [← hs0, List.getD, List.getElem?_eq_getElem (by omega)]; exact List.getElem_mem _)
    have no : ¬ fitD p q n (l.getD k (0, 0)) → z = false := fun h => by rw [← hz]; exact decide_eq_false (fun hh => h (hh k (by omega)))
    have st : fitD p q n (l.getD k (0, 0)) → ∀ i, i < k + 1 → fitD p q n (l.getD i (0, 0)) := fun h i h2 => by
      by_cases h4 : i = k
      · rw [h4]; exact h
      · exact hi i (by omega)
    rw [hs0] at rk no st
    obtain ⟨x, y⟩ := s0
    rw [prow_mk] at rk
    simp only at bp
    obtain ⟨P, hP⟩ : ∃ P : Prop, (∀ i, i < k + 1 → fitD p q n (l.getD i (0, 0))) = P := ⟨_, rfl⟩
    rw [hP] at st
    unfold fitD at no st
    simp only at no st
    have o1 := r49_of y (by omega)
    have o2 := r49_of x (by omega)
    have o3 := r49_of n (by omega)
    have gx : Mg 64 (Dy.int x) := mg_i64 (by omega)
    have gy : Mg 64 (Dy.int y) := mg_i64 (by omega)
    have gn : Mg 64 (Dy.int n) := mg_i64 (by omega)
    have m1 := ref_Mul _ _ _ _ _ _ _ _ hp (gx.arg)
    have k1 := gp.mul gx
    have s1 := ref_Add _ _ _ _ _ _ _ _ k1.arg hq
    have k2 := k1.add (gq.mono (show 1000 ≤ 1000 + 64 by omega))
    have s2 := ref_Sub _ _ _ _ _ _ _ _ gy.arg k2.arg
    have k3 := (gy.mono (show 64 ≤ 1000 + 64 + 1 by omega)).sub k2
    have a1 := ref_Abs _ _ _ _ k3.arg
    have c2 := ref_Cmp _ _ _ _ _ _ _ _ k3.abs.arg gn.arg
    have eq1 : (Dy.int y).sub ((p.mul (Dy.int x)).add q) = ((Dy.int y).sub (p.mul (Dy.int x))).sub q := Dy.ext_v (by simp only [Dy.v_sub, Dy.v_add]; grind)
    rw [eq1] at s2 a1 c2
    clear gx gy gn k1 k2 k3 eq1 hi hz hs0
    generalize (((Dy.int y).sub (p.mul (Dy.int x))).sub q).abs.cmp (Dy.int n) = v at *
    generalize (((Dy.int y).sub (p.mul (Dy.int x))).sub q).abs = z1 at *
    generalize ((Dy.int y).sub (p.mul (Dy.int x))).sub q = z2 at *
    generalize (p.mul (Dy.int x)).add q = z3 at *
    generalize p.mul (Dy.int x) = z4 at *
    generalize Dy.int x = z5 at *
    generalize Dy.int y = z6 at *
    generalize Dy.int n = z7 at *
    by_cases hv : v ≤ 0
    · have st2 := st hv
      clear st no
      repeat' (first | (simp only [go_sem, Int.reduceAdd, Int.reduceEq, Int.reduceLE, Int.reduceLT, Int.reduceMul, Int.reduceNeg, Int.reducePow, Int.reduceSub, Int.reduceToNat, Nat.reduceAdd, Nat.reduceBEq, Nat.reduceEqDiff, Nat.reduceLT, Nat.reduceLeDiff, Nat.reduceMul, Nat.reducePow, Nat.reduceSub, reduceCtorEq, reduceIte, IntKind.bits.eq_def, ti, tin, rws_length, hN, rk]) | (simp (disch := omega) only [w64, wu64, wu32, Nat.min_eq_left]) | (with_reducible first | refine cF (o1) ?_ | refine dF (o1) ?_) | (with_reducible first | refine cF (o2) ?_ | refine dF (o2) ?_) | (with_reducible first | refine cF (o3) ?_ | refine dF (o3) ?_) | (with_reducible first | refine cF (m1) ?_ | refine dF (m1) ?_) | (with_reducible first | refine cF (s1) ?_ | refine dF (s1) ?_) | (with_reducible first | refine cF (s2) ?_ | refine dF (s2) ?_) | (with_reducible first | refine cF (a1) ?_ | refine dF (a1) ?_) | (with_reducible first | refine cF (c2) ?_ | refine dF (c2) ?_) | (refine aL ti_ok ?_) | (refine dL ti_ok ?_) | (refine dE (by kernel_rfl) ?_) | ((first | refine cC ?_ ?_ | refine gS ?_ ?_ | refine dS ?_ ?_) <;> intro hc <;> first | (exfalso; simp only [dcT, dcF, bnT, bnF, bnU, bnV] at hc; omega) | (simp only [hc]; try simp only [dcT, dcF, bnT, bnF, bnU, bnV] at hc)) | (refine aN (by omega) ?_) | (refine dN (by omega) ?_))
      refine roundEnd_of (α := Nat) (k + 1) ?_ ?_ ?_
      · exact ⟨by omega, by rw [hP]; exact st2⟩
      · omega
      · exact byWeak
    · have no2 := no hv
      subst no2
      clear st
      repeat' (first | (simp only [go_sem, Int.reduceAdd, Int.reduceEq, Int.reduceLE, Int.reduceLT, Int.reduceMul, Int.reduceNeg, Int.reducePow, Int.reduceSub, Int.reduceToNat, Nat.reduceAdd, Nat.reduceBEq, Nat.reduceEqDiff, Nat.reduceLT, Nat.reduceLeDiff, Nat.reduceMul, Nat.reducePow, Nat.reduceSub, reduceCtorEq, reduceIte, IntKind.bits.eq_def, ti, tin, rws_length, hN, rk]) | (simp (disch := omega) only [w64, wu64, wu32, Nat.min_eq_left]) | (with_reducible first | refine cF (o1) ?_ | refine dF (o1) ?_) | (with_reducible first | refine cF (o2) ?_ | refine dF (o2) ?_) | (with_reducible first | refine cF (o3) ?_ | refine dF (o3) ?_) | (with_reducible first | refine cF (m1) ?_ | refine dF (m1) ?_) | (with_reducible first | refine cF (s1) ?_ | refine dF (s1) ?_) | (with_reducible first | refine cF (s2) ?_ | refine dF (s2) ?_) | (with_reducible first | refine cF (a1) ?_ | refine dF (a1) ?_) | (with_reducible first | refine cF (c2) ?_ | refine dF (c2) ?_) | (refine aL ti_ok ?_) | (refine dL ti_ok ?_) | (refine dE (by kernel_rfl) ?_) | ((first | refine cC ?_ ?_ | refine gS ?_ ?_ | refine dS ?_ ?_) <;> intro hc <;> first | (exfalso; simp only [dcT, dcF, bnT, bnF, bnU, bnV] at hc; omega) | (simp only [hc]; try simp only [dcT, dcF, bnT, bnF, bnU, bnV] at hc)) | (refine aN (by omega) ?_) | (refine dN (by omega) ?_))
      all_goals exact fin_same trivial rfl
  ·
    have hz2 : z = true := by rw [← hz]; exact decide_eq_true (fun i h => hi i (by omega))
    subst hz2
    repeat' (first | (simp only [go_sem, Int.reduceAdd, Int.reduceEq, Int.reduceLE, Int.reduceLT, Int.reduceMul, Int.reduceNeg, Int.reducePow, Int.reduceSub, Int.reduceToNat, Nat.reduceAdd, Nat.reduceBEq, Nat.reduceEqDiff, Nat.reduceLT, Nat.reduceLeDiff, Nat.reduceMul, Nat.reducePow, Nat.reduceSub, reduceCtorEq, reduceIte, IntKind.bits.eq_def, ti, tin, rws_length, hN]) | (simp (disch := omega) only [w64, wu64, wu32, Nat.min_eq_left]) | (refine aL ti_ok ?_) | (refine dL ti_ok ?_) | (refine dE (by kernel_rfl) ?_) | ((first | refine cC ?_ ?_ | refine gS ?_ ?_ | refine dS ?_ ?_) <;> intro hc <;> first | (exfalso; simp only [dcT, dcF, bnT, bnF, bnU, bnV] at hc; omega) | (simp only [hc]; try simp only [dcT, dcF, bnT, bnF, bnU, bnV] at hc)) | (refine aN (by omega) ?_) | (refine dN (by omega) ?_))
    exact fin_same trivial rfl
theorem fits_long (l : List (Int × Int)) (n : Int) (hl : l.length ≤ 9223372036854775807) (h : 70 < l.length) (s : Bool) (w : List Nat) (d : Int) (s' : Bool) (w' : List Nat) (d' : Int) : CallOK Tryz.prog gl 10 [.sl 2 (rws prow l), .v (.int .i64 n), .agg [.v (.bool s), .sl 1 (u32s w), .v (.int .i64 d), .v (.bool s'), .sl 1 (u32s w'), .v (.int .i64 d')]] (.v (.bool (true))) := by
  refine call_ok (C := ⟨Tryz.prog, gl, ti, 57, false⟩) ti_ok mixed 3000 Tryz.call10 Tryz.func10 rfl Tryz.ntmps10 (by simp) byClL byCl ?_
  rw [Tryz.results10]
  repeat' (first | (simp only [go_sem, Int.reduceAdd, Int.reduceEq, Int.reduceLE, Int.reduceLT, Int.reduceMul, Int.reduceNeg, Int.reducePow, Int.reduceSub, Int.reduceToNat, Nat.reduceAdd, Nat.reduceBEq, Nat.reduceEqDiff, Nat.reduceLT, Nat.reduceLeDiff, Nat.reduceMul, Nat.reducePow, Nat.reduceSub, reduceCtorEq, reduceIte, IntKind.bits.eq_def, ti, tin, rws_length]) | (simp (disch := omega) only [w64, wu64, wu32, Nat.min_eq_left]) | (with_reducible first | refine cF (awake49) ?_ | refine dF (awake49) ?_) | (refine aL ti_ok ?_) | (refine dL ti_ok ?_) | (refine dE (by kernel_rfl) ?_) | ((first | refine cC ?_ ?_ | refine gS ?_ ?_ | refine dS ?_ ?_) <;> intro hc <;> first | (exfalso; simp only [dcT, dcF, bnT, bnF, bnU, bnV] at hc; omega) | (simp only [hc]; try simp only [dcT, dcF, bnT, bnF, bnU, bnV] at hc)) | (refine aN (by omega) ?_) | (refine dN (by omega) ?_))
  all_goals exact fin_same trivial rfl
theorem fits_out (l : List (Int × Int)) (n : Int) (h : l.length ≤ 70) (s : Bool) (w : List Nat) (d : Int) (s' : Bool) (w' : List Nat) (d' : Int) (h1 : w.length ≤ 9223372036854775807) (h2 : w'.length ≤ 9223372036854775807) (hf : ¬ (bfR ⟨s, w, d⟩ ∧ bfR ⟨s', w', d'⟩)) : CallOK Tryz.prog gl 10 [.sl 2 (rws prow l), .v (.int .i64 n), .agg [.v (.bool s), .sl 1 (u32s w), .v (.int .i64 d), .v (.bool s'), .sl 1 (u32s w'), .v (.int .i64 d')]] (.v (.bool (true))) := by
  refine call_ok (C := ⟨Tryz.prog, gl, ti, 57, false⟩) ti_ok mixed 3000 Tryz.call10 Tryz.func10 rfl Tryz.ntmps10 (by simp) byClL byCl ?_
  rw [Tryz.results10]
  have fw := brief49 s w d h1 s' w' d' h2
  rw [decide_eq_false hf] at fw
  clear hf
  repeat' (first | (simp only [go_sem, Int.reduceAdd, Int.reduceEq, Int.reduceLE, Int.reduceLT, Int.reduceMul, Int.reduceNeg, Int.reducePow, Int.reduceSub, Int.reduceToNat, Nat.reduceAdd, Nat.reduceBEq, Nat.reduceEqDiff, Nat.reduceLT, Nat.reduceLeDiff, Nat.reduceMul, Nat.reducePow, Nat.reduceSub, reduceCtorEq, reduceIte, IntKind.bits.eq_def, ti, tin, rws_length]) | (simp (disch := omega) only [w64, wu64, wu32, Nat.min_eq_left]) | (with_reducible first | refine cF (fw) ?_ | refine dF (fw) ?_) | (with_reducible first | refine cF (awake49) ?_ | refine dF (awake49) ?_) | (refine aL ti_ok ?_) | (refine dL ti_ok ?_) | (refine dE (by kernel_rfl) ?_) | ((first | refine cC ?_ ?_ | refine gS ?_ ?_ | refine dS ?_ ?_) <;> intro hc <;> first | (exfalso; simp only [dcT, dcF, bnT, bnF, bnU, bnV] at hc; omega) | (simp only [hc]; try simp only [dcT, dcF, bnT, bnF, bnU, bnV] at hc)) | (refine aN (by omega) ?_) | (refine dN (by omega) ?_))
  all_goals exact fin_same trivial rfl
theorem fits_err (l : List (Int × Int)) (n : Int) (h : l.length ≤ 70) (s : Bool) (w : List Nat) (d : Int) (s' : Bool) (w' : List Nat) (d' : Int) (h1 : w.length ≤ 9223372036854775807) (h2 : w'.length ≤ 9223372036854775807) (hf : bfR ⟨s, w, d⟩ ∧ bfR ⟨s', w', d'⟩) (hc0 : ckS l n ≠ 0) : CallOK Tryz.prog gl 10 [.sl 2 (rws prow l), .v (.int .i64 n), .agg [.v (.bool s), .sl 1 (u32s w), .v (.int .i64 d), .v (.bool s'), .sl 1 (u32s w'), .v (.int .i64 d')]] (.v (.bool (true))) := by
  refine call_ok (C := ⟨Tryz.prog, gl, ti, 57, false⟩) ti_ok mixed 3000 Tryz.call10 Tryz.func10 rfl Tryz.ntmps10 (by simp) byClL byCl ?_
  rw [Tryz.results10]
  have fw := brief49 s w d h1 s' w' d' h2
  rw [decide_eq_true hf] at fw
  have f1 := id_Fits_err l n (by omega) hc0 s w d s' w' d'
  have f2 := r49_Fits_err l n (by omega) hc0 s w d s' w' d'
  have n1 := base_NumE (ckS l n)
  clear hf hc0
  generalize ckS l n = e at *
  repeat' (first | (simp only [go_sem, Int.reduceAdd, Int.reduceEq, Int.reduceLE, Int.reduceLT, Int.reduceMul, Int.reduceNeg, Int.reducePow, Int.reduceSub, Int.reduceToNat, Nat.reduceAdd, Nat.reduceBEq, Nat.reduceEqDiff, Nat.reduceLT, Nat.reduceLeDiff, Nat.reduceMul, Nat.reducePow, Nat.reduceSub, reduceCtorEq, reduceIte, IntKind.bits.eq_def, ti, tin, rws_length]) | (simp (disch := omega) only [w64, wu64, wu32, Nat.min_eq_left]) | (with_reducible first | refine cF (fw) ?_ | refine dF (fw) ?_) | (with_reducible first | refine cF (awake49) ?_ | refine dF (awake49) ?_) | (with_reducible first | refine cF (f1) ?_ | refine dF (f1) ?_) | (with_reducible first | refine cF (f2) ?_ | refine dF (f2) ?_) | (with_reducible first | refine cF (n1) ?_ | refine dF (n1) ?_) | (refine aL ti_ok ?_) | (refine dL ti_ok ?_) | (refine dE (by kernel_rfl) ?_) | ((first | refine cC ?_ ?_ | refine gS ?_ ?_ | refine dS ?_ ?_) <;> intro hc <;> first | (exfalso; simp only [dcT, dcF, bnT, bnF, bnU, bnV] at hc; omega) | (simp only [hc]; try simp only [dcT, dcF, bnT, bnF, bnU, bnV] at hc)) | (refine aN (by omega) ?_) | (refine dN (by omega) ?_))
  all_goals exact fin_same trivial rfl
theorem fits_ok (l : List (Int × Int)) (n : Int) (h : l.length ≤ 70) (s : Bool) (w : List Nat) (d : Int) (s' : Bool) (w' : List Nat) (d' : Int) (p q : Dy) (h1 : Arg s w d p) (h2 : Arg s' w' d' q) (g1 : Mg 256 p) (g2 : Mg 256 q) (hf : bfR ⟨s, w, d⟩ ∧ bfR ⟨s', w', d'⟩) (hc0 : ckS l n = 0) : CallOK Tryz.prog gl 10 [.sl 2 (rws prow l), .v (.int .i64 n), .agg [.v (.bool s), .sl 1 (u32s w), .v (.int .i64 d), .v (.bool s'), .sl 1 (u32s w'), .v (.int .i64 d')]] (.v (.bool (true))) := by
  refine call_ok (C := ⟨Tryz.prog, gl, ti, 57, false⟩) ti_ok mixed 3000 Tryz.call10 Tryz.func10 rfl Tryz.ntmps10 (by simp) byClL byCl ?_
  rw [Tryz.results10]
  have fw := brief49 s w d (by have := h1.len; omega) s' w' d' (by have := h2.len; omega)
  rw [decide_eq_true hf] at fw
  have f1 := id_Fits l n hc0 s w d s' w' d' p q h1 h2 (g1.mono (by omega)) (g2.mono (by omega))
  have f2 := r49_Fits l n hc0 s w d s' w' d' p q h1 h2 (g1.mono (by omega)) (g2.mono (by omega))
  have n1 := base_Num_nil
  clear hf hc0
  generalize decide (fitAll p q n l) = e at *
  repeat' (first | (simp only [go_sem, Int.reduceAdd, Int.reduceEq, Int.reduceLE, Int.reduceLT, Int.reduceMul, Int.reduceNeg, Int.reducePow, Int.reduceSub, Int.reduceToNat, Nat.reduceAdd, Nat.reduceBEq, Nat.reduceEqDiff, Nat.reduceLT, Nat.reduceLeDiff, Nat.reduceMul, Nat.reducePow, Nat.reduceSub, reduceCtorEq, reduceIte, IntKind.bits.eq_def, ti, tin, rws_length]) | (simp (disch := omega) only [w64, wu64, wu32, Nat.min_eq_left]) | (with_reducible first | refine cF (fw) ?_ | refine dF (fw) ?_) | (with_reducible first | refine cF (awake49) ?_ | refine dF (awake49) ?_) | (with_reducible first | refine cF (f1) ?_ | refine dF (f1) ?_) | (with_reducible first | refine cF (f2) ?_ | refine dF (f2) ?_) | (with_reducible first | refine cF (n1) ?_ | refine dF (n1) ?_) | (refine aL ti_ok ?_) | (refine dL ti_ok ?_) | (refine dE (by kernel_rfl) ?_) | ((first | refine cC ?_ ?_ | refine gS ?_ ?_ | refine dS ?_ ?_) <;> intro hc <;> first | (exfalso; simp only [dcT, dcF, bnT, bnF, bnU, bnV] at hc; omega) | (simp only [hc]; try simp only [dcT, dcF, bnT, bnF, bnU, bnV] at hc)) | (refine aN (by omega) ?_) | (refine dN (by omega) ?_))
  all_goals exact fin_same trivial (by simp [one])
theorem fits_law (r : List (List AV)) (n : Int) (s : Bool) (w : List (List AV)) (d : Int) (s' : Bool) (w' : List (List AV)) (d' : Int) (m1 : r.length ≤ maxLen) (f1 : ∀ x ∈ r, FitL [.int .i64, .int .i64] x) (m2 : w.length ≤ maxLen) (f2 : ∀ x ∈ w, FitL [.int .u32] x) (m3 : w'.length ≤ maxLen) (f3 : ∀ x ∈ w', FitL [.int .u32] x) : CallOK Tryz.prog gl 10 [.sl 2 r, .v (.int .i64 n), .agg [.v (.bool s), .sl 1 w, .v (.int .i64 d), .v (.bool s'), .sl 1 w', .v (.int .i64 d')]] (.v (.bool true)) := by
  unfold maxLen at *
  obtain ⟨l, b1, rfl, z1⟩ := fit_prows f1
  obtain ⟨w, W1, rfl, z2⟩ := fit_u32s f2
  obtain ⟨w', W2, rfl, z3⟩ := fit_u32s f3
  by_cases h : 70 < l.length
  · exact fits_long l n (by omega) h s w d s' w' d'
  · by_cases hf : bfR ⟨s, w, d⟩ ∧ bfR ⟨s', w', d'⟩
    · obtain ⟨p, h1, g1⟩ := bf_arg W1 hf.1
      obtain ⟨q, h2, g2⟩ := bf_arg W2 hf.2
      by_cases hc0 : ckS l n = 0
      · exact fits_ok l n (by omega) s w d s' w' d' p q h1 h2 g1 g2 hf hc0
      · exact fits_err l n (by omega) s w d s' w' d' (by have := h1.len; omega) (by have := h2.len; omega) hf hc0
    · exact fits_out l n (by omega) s w d s' w' d' (by omega) (by omega) hf
end Go.Proofs.YtkdpaoicekgalaaGreatDoor
