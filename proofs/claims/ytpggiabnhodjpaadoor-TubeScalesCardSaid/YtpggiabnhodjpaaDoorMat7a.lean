/- Layer 4 (matrix): Norm. -/
import Derived.Test.YtpggiabnhodjpaaDoorMat6
set_option linter.unusedSimpArgs false
set_option linter.unusedVariables false
set_option linter.deprecated false
namespace Go.Proofs.YtpggiabnhodjpaaDoor
open Go Go.Ax
set_option maxRecDepth 100000
set_option maxHeartbeats 4000000

theorem mg_maxD {k : Nat} {f : Nat → Dy} : ∀ {n : Nat}, (∀ i, i < n → Mg k (f i)) → Mg k (maxD n f)
  | 0, _ => Mg.zero _
  | n + 1, h => Mg.max (mg_maxD (n := n) fun i hi => h i (by omega)) (h n (by omega))
theorem normD_raw {a : List (List RD)} {m : Nat} (h : ∀ i, i < a.length → (a.getD i []).length = m) : normD (dyM a) = maxD a.length fun i => sumD m fun j => ((a.getD i []).getD j RD.zero).dy.abs := by
  unfold normD
  rw [dyM_len]
  refine maxD_congr fun i hi => ?_
  unfold rowN
  rw [dyM_get, dyV_len, h i hi]
  exact sumD_congr fun j hj => by rw [dyV_get]
theorem mat_Norm (a : List (List RD)) (p : Nat) (hp : p ≤ 1000000) (h : ckM a = 0) (oa : okM p a) : CallOK Tryd.prog gl 35 [.sl 1 (mrows (a))] (.tup [.agg [.v (.bool (sg (normD (dyM a)))), .sl 1 (u32s (ms (normD (dyM a)))), .v (.int .i64 (dn (normD (dyM a))))], .v .nilIface]) := by
  refine call_ok (C := ⟨Tryd.prog, gl, ti, 39, false⟩) ti_ok mixed 3000 Tryd.call35 Tryd.func35 rfl Tryd.ntmps35 (by simp) byClL byCl ?_
  rw [Tryd.results35]
  obtain ⟨a1, a2, a3, a4, a5⟩ := ckM_ok h
  have c1 := mat_Check a (by omega)
  rw [h, eV_zero] at c1
  rw [normD_raw a5]
  obtain ⟨n, hn⟩ : ∃ n, a.length = n := ⟨_, rfl⟩
  obtain ⟨m, hm⟩ : ∃ m, (a.getD 0 []).length = m := ⟨_, rfl⟩
  rw [hn] at a1 a2 a5 ⊢
  rw [hm] at a3 a4 a5 ⊢
  have g0 : ∀ i j, j ≤ m → Mg (p + j) (sumD j fun j => ((a.getD i []).getD j RD.zero).dy.abs) := fun i j hj => mg_sumD fun j _ => Mg.abs (oa i j).2
  have gm : ∀ i, Mg (p + m) (maxD i fun i => sumD m fun j => ((a.getD i []).getD j RD.zero).dy.abs) := fun i => mg_maxD fun i _ => g0 i m (Nat.le_refl _)
  repeat' (first | (simp only [go_sem, Int.reduceAdd, Int.reduceEq, Int.reduceLE, Int.reduceLT, Int.reduceMul, Int.reduceNeg, Int.reducePow, Int.reduceSub, Int.reduceToNat, Nat.reduceAdd, Nat.reduceBEq, Nat.reduceEqDiff, Nat.reduceLT, Nat.reduceLeDiff, Nat.reduceMul, Nat.reducePow, Nat.reduceSub, reduceCtorEq, reduceIte, IntKind.bits.eq_def, ti, tin, mrows_length, hn]) | (simp (disch := omega) only [w64, wu64, wu32, Nat.min_eq_left]) | (with_reducible first | refine cF (c1) ?_ | refine dF (c1) ?_) | (refine aL ti_ok ?_) | (refine dL ti_ok ?_) | (refine dE (by kernel_rfl) ?_) | ((first | refine cC ?_ ?_ | refine gS ?_ ?_ | refine dS ?_ ?_) <;> intro hc <;> first | (exfalso; simp only [dcT, dcF, bnT, bnF, bnU, bnV] at hc; omega) | (simp only [hc]; try simp only [dcT, dcF, bnT, bnF, bnU, bnV] at hc)) | (refine aN (by omega) ?_) | (refine dN (by omega) ?_))
  refine l_loop (α := Nat) (fun i => ⟨[(2, .p 0 3 0 0), (5, .p 1 3 0 0), (17, .sl 1 (mrows (a))), (18, .v (.int .i64 n)), (19, .v (.int .i64 i))], [(0, ⟨3, [[.v (.bool (false)), .v (.slice none 0 0), .v (.int .i64 0)]]⟩), (1, ⟨3, [crow (maxD i fun i => sumD m fun j => ((a.getD i []).getD j RD.zero).dy.abs)]⟩)], 2⟩) (fun i => i ≤ n) (fun i => n - i) (0) _ byFresh (fun _ h => by first | (cases h; done) | exact Nat.le_of_ble_eq_true rfl) ?_ ?_ ?_
  · exact Nat.zero_le _
  · exact Weak.trans (Weak.mle 1 ⟨3, [crow Dy.zero]⟩ rfl MLe.dy0) (Nat.le_refl _) byWeak
  rintro i hi
  by_cases hin : i < n
  ·
    have ri := mrows_getD (a := a) (i := i) (by omega)
    have va : (vrows (a.getD i [])).length = m := by rw [vrows_length, a5 i hin]
    have la := a5 i hin
    have okA := oa i
    have gi := g0 i
    have gmi := gm i
    have es : (maxD (i + 1) fun i => sumD m fun j => ((a.getD i []).getD j RD.zero).dy.abs) = (maxD i fun i => sumD m fun j => ((a.getD i []).getD j RD.zero).dy.abs).max (sumD m fun j => ((a.getD i []).getD j RD.zero).dy.abs) := rfl
    generalize hM : (maxD i fun i => sumD m fun j => ((a.getD i []).getD j RD.zero).dy.abs) = MX at *
    generalize hx : a.getD i [] = x at *
    clear oa g0 gm a5 hM
    repeat' (first | (simp only [go_sem, Int.reduceAdd, Int.reduceEq, Int.reduceLE, Int.reduceLT, Int.reduceMul, Int.reduceNeg, Int.reducePow, Int.reduceSub, Int.reduceToNat, Nat.reduceAdd, Nat.reduceBEq, Nat.reduceEqDiff, Nat.reduceLT, Nat.reduceLeDiff, Nat.reduceMul, Nat.reducePow, Nat.reduceSub, reduceCtorEq, reduceIte, IntKind.bits.eq_def, ti, tin, mrows_length, hn, ri, va]) | (simp (disch := omega) only [w64, wu64, wu32, Nat.min_eq_left]) | (refine aL ti_ok ?_) | (refine dL ti_ok ?_) | (refine dE (by kernel_rfl) ?_) | ((first | refine cC ?_ ?_ | refine gS ?_ ?_ | refine dS ?_ ?_) <;> intro hc <;> first | (exfalso; simp only [dcT, dcF, bnT, bnF, bnU, bnV] at hc; omega) | (simp only [hc]; try simp only [dcT, dcF, bnT, bnF, bnU, bnV] at hc)) | (refine aN (by omega) ?_) | (refine dN (by omega) ?_))
    refine l_loop (α := Nat) (fun j => ⟨[(2, .p 0 3 0 0), (5, .p 1 3 0 0), (8, .p 2 3 0 0), (17, .sl 1 (mrows (a))), (18, .v (.int .i64 n)), (19, .v (.int .i64 i)), (23, .sl 3 (vrows (x))), (24, .v (.int .i64 m)), (25, .v (.int .i64 j))], [(0, ⟨3, [[.v (.bool (false)), .v (.slice none 0 0), .v (.int .i64 0)]]⟩), (1, ⟨3, [crow MX]⟩), (2, ⟨3, [crow (sumD j fun j => (x.getD j RD.zero).dy.abs)]⟩)], 3⟩) (fun j => j ≤ m) (fun j => m - j) (0) _ byFresh (fun _ h => by first | (cases h; done) | exact Nat.le_of_ble_eq_true rfl) ?_ ?_ ?_
    · exact Nat.zero_le _
    · exact Weak.trans (Weak.mle 2 ⟨3, [crow Dy.zero]⟩ rfl MLe.dy0) (Nat.le_refl _) byWeak
    rintro j hj
    by_cases hjm : j < m
    ·
      have rj := vrows_getD (l := x) (i := j) (by omega)
      have hxj := okA j
      have g1 := gi j hj
      have g2 : Mg p (x.getD j RD.zero).dy.abs := Mg.abs hxj.2
      have m1 := Abs_ok _ _ _ _ (RD.arg hxj.1)
      have s1 := Add_ok _ _ _ _ _ _ _ _ g1.arg g2.arg
      have ej : (sumD (j + 1) fun j => (x.getD j RD.zero).dy.abs) = (sumD j fun j => (x.getD j RD.zero).dy.abs).add (x.getD j RD.zero).dy.abs := rfl
      unfold vrow at rj
      clear g1 g2 hxj gi okA
      generalize (sumD j fun j => (x.getD j RD.zero).dy.abs) = S1 at *
      generalize (x.getD j RD.zero).dy.abs = S2 at *
      generalize x.getD j RD.zero = r at *
      repeat' (first | (simp only [go_sem, Int.reduceAdd, Int.reduceEq, Int.reduceLE, Int.reduceLT, Int.reduceMul, Int.reduceNeg, Int.reducePow, Int.reduceSub, Int.reduceToNat, Nat.reduceAdd, Nat.reduceBEq, Nat.reduceEqDiff, Nat.reduceLT, Nat.reduceLeDiff, Nat.reduceMul, Nat.reducePow, Nat.reduceSub, reduceCtorEq, reduceIte, IntKind.bits.eq_def, ti, tin, mrows_length, va, rj]) | (simp (disch := omega) only [w64, wu64, wu32, Nat.min_eq_left]) | (with_reducible first | refine cF (m1) ?_ | refine dF (m1) ?_) | (with_reducible first | refine cF (s1) ?_ | refine dF (s1) ?_) | (refine aL ti_ok ?_) | (refine dL ti_ok ?_) | (refine dE (by kernel_rfl) ?_) | ((first | refine cC ?_ ?_ | refine gS ?_ ?_ | refine dS ?_ ?_) <;> intro hc <;> first | (exfalso; simp only [dcT, dcF, bnT, bnF, bnU, bnV] at hc; omega) | (simp only [hc]; try simp only [dcT, dcF, bnT, bnF, bnU, bnV] at hc)) | (refine aN (by omega) ?_) | (refine dN (by omega) ?_))
      refine roundEnd_of (α := Nat) (j + 1) (show j + 1 ≤ m by omega) (by omega) ?_
      simp only [ej]
      exact byWeak
    ·
      have hjm2 : j = m := by omega
      subst hjm2
      have g3 := gi j (Nat.le_refl _)
      have mx := Max_ok _ _ _ _ _ _ _ _ gmi.arg g3.arg
      clear gi g3 gmi okA
      generalize (sumD j fun j => (x.getD j RD.zero).dy.abs) = S1 at *
      repeat' (first | (simp only [go_sem, Int.reduceAdd, Int.reduceEq, Int.reduceLE, Int.reduceLT, Int.reduceMul, Int.reduceNeg, Int.reducePow, Int.reduceSub, Int.reduceToNat, Nat.reduceAdd, Nat.reduceBEq, Nat.reduceEqDiff, Nat.reduceLT, Nat.reduceLeDiff, Nat.reduceMul, Nat.reducePow, Nat.reduceSub, reduceCtorEq, reduceIte, IntKind.bits.eq_def, ti, tin]) | (simp (disch := omega) only [w64, wu64, wu32, Nat.min_eq_left]) | (with_reducible first | refine cF (mx) ?_ | refine dF (mx) ?_) | (refine aL ti_ok ?_) | (refine dL ti_ok ?_) | (refine dE (by kernel_rfl) ?_) | ((first | refine cC ?_ ?_ | refine gS ?_ ?_ | refine dS ?_ ?_) <;> intro hc <;> first | (exfalso; simp only [dcT, dcF, bnT, bnF, bnU, bnV] at hc; omega) | (simp only [hc]; try simp only [dcT, dcF, bnT, bnF, bnU, bnV] at hc)) | (refine aN (by omega) ?_) | (refine dN (by omega) ?_))
      refine roundEnd_of (α := Nat) (i + 1) (show i + 1 ≤ n by omega) (by omega) ?_
      simp only [es]
      exact byWeak
  ·
    have hin2 : i = n := by omega
    subst hin2
    repeat' (first | (simp only [go_sem, Int.reduceAdd, Int.reduceEq, Int.reduceLE, Int.reduceLT, Int.reduceMul, Int.reduceNeg, Int.reducePow, Int.reduceSub, Int.reduceToNat, Nat.reduceAdd, Nat.reduceBEq, Nat.reduceEqDiff, Nat.reduceLT, Nat.reduceLeDiff, Nat.reduceMul, Nat.reducePow, Nat.reduceSub, reduceCtorEq, reduceIte, IntKind.bits.eq_def, ti, tin]) | (simp (disch := omega) only [w64, wu64, wu32, Nat.min_eq_left]) | (refine aL ti_ok ?_) | (refine dL ti_ok ?_) | (refine dE (by kernel_rfl) ?_) | ((first | refine cC ?_ ?_ | refine gS ?_ ?_ | refine dS ?_ ?_) <;> intro hc <;> first | (exfalso; simp only [dcT, dcF, bnT, bnF, bnU, bnV] at hc; omega) | (simp only [hc]; try simp only [dcT, dcF, bnT, bnF, bnU, bnV] at hc)) | (refine aN (by omega) ?_) | (refine dN (by omega) ?_))
    all_goals exact fin_same trivial rfl

/-! ### texts -/
def tabS {α : Type} (n : Nat) (f : Nat → α) : List α := (List.range n).map f
theorem tabS_len {α : Type} {n : Nat} {f : Nat → α} : (tabS n f).length = n := by simp [tabS]
theorem tabS_succ {α : Type} {n : Nat} {f : Nat → α} : tabS (n + 1) f = tabS n f ++ [f n] := by simp [tabS, List.range_succ]
end Go.Proofs.YtpggiabnhodjpaaDoor
