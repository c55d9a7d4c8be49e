/- Layer 4 (matrix): Norm, Text. -/
import Derived.Test.YtdjgckcninibhaaGreatDoorMat6
import Derived.Test.YtdjgckcninibhaaGreatDoorJoin
import Derived.Test.YtdjgckcninibhaaGreatDoorText
set_option linter.unusedSimpArgs false
set_option linter.unusedVariables false
set_option linter.deprecated false
namespace Go.Proofs.YtdjgckcninibhaaGreatDoor
open Go Go.Ax
set_option maxRecDepth 100000
set_option maxHeartbeats 4000000

theorem mg_maxD {k : Nat} {f : Nat → Dy} : ∀ {n : Nat}, (∀ i, i < n → Mg k (f i)) → Mg k (maxD n f)
  | 0, _ => Mg.zero _
  | n + 1, h => Mg.max (mg_maxD (n := n) fun i hi => h i (by omega)) (h n (by omega))
theorem normD_raw {a : List (List RD)} {m : Nat} (h : ∀ i, i < a.length → (a.getD i []).length = m) : normD (dyM a) = maxD a.length fun i => sumD m fun j => ((a.getD i []).getD j RD.zero).dy.abs := by
  unfold normD
  rw [dyM_len]
  refine maxD_congr fun i hi => ?_
  unfold rowN
  rw [dyM_get, dyV_len, h i hi]
  exact sumD_congr fun j hj => by rw [dyV_get]
theorem mat_Norm_err (a : List (List RD)) (ha : a.length ≤ 1000) (h : ¬ ckM a = 0) : CallOK Tryz.prog gl 89 [.sl 1 (mrows (a))] (.tup [.agg [.v (.bool (sg (Dy.zero))), .sl 1 (u32s (ms (Dy.zero))), .v (.int .i64 (dn (Dy.zero)))], .v (eV (ckM a))]) := by
  refine call_ok (C := ⟨Tryz.prog, gl, ti, 39, false⟩) ti_ok mixed 3000 Tryz.call89 Tryz.func89 rfl Tryz.ntmps89 (by simp) byClL byCl ?_
  rw [Tryz.results89]
  have c1 := mat_Check a (by omega)
  rw [eV_ne h] at c1 ⊢
  generalize ckM a = e at *
  repeat' (first | (simp only [go_sem, Int.reduceAdd, Int.reduceEq, Int.reduceLE, Int.reduceLT, Int.reduceMul, Int.reduceNeg, Int.reducePow, Int.reduceSub, Int.reduceToNat, Nat.reduceAdd, Nat.reduceBEq, Nat.reduceEqDiff, Nat.reduceLT, Nat.reduceLeDiff, Nat.reduceMul, Nat.reducePow, Nat.reduceSub, reduceCtorEq, reduceIte, IntKind.bits.eq_def, ti, tin]) | (simp (disch := omega) only [w64, wu64, wu32, Nat.min_eq_left]) | (with_reducible first | refine cF (c1) ?_ | refine dF (c1) ?_) | (refine aL ti_ok ?_) | (refine dL ti_ok ?_) | (refine dE (by kernel_rfl) ?_) | ((first | refine cC ?_ ?_ | refine gS ?_ ?_ | refine dS ?_ ?_) <;> intro hc <;> first | (exfalso; simp only [dcT, dcF, bnT, bnF, bnU, bnV] at hc; omega) | (simp only [hc]; try simp only [dcT, dcF, bnT, bnF, bnU, bnV] at hc)) | (refine aN (by omega) ?_) | (refine dN (by omega) ?_))
  all_goals exact fin_le trivial (Le.tup (.cons Le.dy0 (.cons (.refl _) .nil)))
theorem mat_Norm (a : List (List RD)) (p : Nat) (hp : p ≤ 1000000) (h : ckM a = 0) (oa : okM p a) : CallOK Tryz.prog gl 89 [.sl 1 (mrows (a))] (.tup [.agg [.v (.bool (sg (normD (dyM a)))), .sl 1 (u32s (ms (normD (dyM a)))), .v (.int .i64 (dn (normD (dyM a))))], .v .nilIface]) := by
  refine call_ok (C := ⟨Tryz.prog, gl, ti, 39, false⟩) ti_ok mixed 3000 Tryz.call89 Tryz.func89 rfl Tryz.ntmps89 (by simp) byClL byCl ?_
  rw [Tryz.results89]
  obtain ⟨a1, a2, a3, a4, a5⟩ := ckM_ok h
  have c1 := mat_Check a (by omega)
  rw [h, eV_zero] at c1
  rw [normD_raw a5]
  obtain ⟨n, hn⟩ : ∃ n, a.length = n := ⟨_, rfl⟩
  obtain ⟨m, hm⟩ : ∃ m, (a.getD 0 []).length = m := ⟨_, rfl⟩
  rw [hn] at a1 a2 a5 ⊢
  rw [hm] at a3 a4 a5 ⊢
  have g0 : ∀ i j, j ≤ m → Mg (p + j) (sumD j fun j => ((a.getD i []).getD j RD.zero).dy.abs) := fun i j hj => mg_sumD fun j _ => Mg.abs (oa i j).2
  have gm : ∀ i, Mg (p + m) (maxD i fun i => sumD m fun j => ((a.getD i []).getD j RD.zero).dy.abs) := fun i => mg_maxD fun i _ => g0 i m (Nat.le_refl _)
  repeat' (first | (simp only [go_sem, Int.reduceAdd, Int.reduceEq, Int.reduceLE, Int.reduceLT, Int.reduceMul, Int.reduceNeg, Int.reducePow, Int.reduceSub, Int.reduceToNat, Nat.reduceAdd, Nat.reduceBEq, Nat.reduceEqDiff, Nat.reduceLT, Nat.reduceLeDiff, Nat.reduceMul, Nat.reducePow, Nat.reduceSub, reduceCtorEq, reduceIte, IntKind.bits.eq_def, ti, tin, mrows_length, hn]) | (simp (disch := omega) only [w64, wu64, wu32, Nat.min_eq_left]) | (with_reducible first | refine cF (c1) ?_ | refine dF (c1) ?_) | (refine aL ti_ok ?_) | (refine dL ti_ok ?_) | (refine dE (by kernel_rfl) ?_) | ((first | refine cC ?_ ?_ | refine gS ?_ ?_ | refine dS ?_ ?_) <;> intro hc <;> first | (exfalso; simp only [dcT, dcF, bnT, bnF, bnU, bnV] at hc; omega) | (simp only [hc]; try simp only [dcT, dcF, bnT, bnF, bnU, bnV] at hc)) | (refine aN (by omega) ?_) | (refine dN (by omega) ?_))
  refine l_loop (α := Nat) (fun i => ⟨[(2, .p 0 3 0 0), (5, .p 1 3 0 0), (17, .sl 1 (mrows (a))), (18, .v (.int .i64 n)), (19, .v (.int .i64 i))], [(0, ⟨3, [[.v (.bool (false)), .v (.slice none 0 0), .v (.int .i64 0)]]⟩), (1, ⟨3, [crow (maxD i fun i => sumD m fun j => ((a.getD i []).getD j RD.zero).dy.abs)]⟩)], 2⟩) (fun i => i ≤ n) (fun i => n - i) (0) _ byFresh (fun _ h => by first | (cases h; done) | exact Nat.le_of_ble_eq_true rfl) ?_ ?_ ?_
  · exact Nat.zero_le _
  · exact Weak.trans (Weak.mle 1 ⟨3, [crow Dy.zero]⟩ rfl MLe.dy0) (Nat.le_refl _) byWeak
  rintro i hi
  by_cases hin : i < n
  ·
    have ri := mrows_getD (a := a) (i := i) (by omega)
    have va : (vrows (a.getD i [])).length = m := by rw [vrows_length, a5 i hin]
    have la := a5 i hin
    have okA := oa i
    have gi := g0 i
    have gmi := gm i
    have es : (maxD (i + 1) fun i => sumD m fun j => ((a.getD i []).getD j RD.zero).dy.abs) = (maxD i fun i => sumD m fun j => ((a.getD i []).getD j RD.zero).dy.abs).max (sumD m fun j => ((a.getD i []).getD j RD.zero).dy.abs) := rfl
    generalize hM : (maxD i fun i => sumD m fun j => ((a.getD i []).getD j RD.zero).dy.abs) = MX at *
    generalize hx : a.getD i [] = x at *
    clear oa g0 gm a5 hM
    repeat' (first | (simp only [go_sem, Int.reduceAdd, Int.reduceEq, Int.reduceLE, Int.reduceLT, Int.reduceMul, Int.reduceNeg, Int.reducePow, Int.reduceSub, Int.reduceToNat, Nat.reduceAdd, Nat.reduceBEq, Nat.reduceEqDiff, Nat.reduceLT, Nat.reduceLeDiff, Nat.reduceMul, Nat.reducePow, Nat.reduceSub, reduceCtorEq, reduceIte, IntKind.bits.eq_def, ti, tin, mrows_length, hn, ri, va]) | (simp (disch := omega) only [w64, wu64, wu32, Nat.min_eq_left]) | (refine aL ti_ok ?_) | (refine dL ti_ok ?_) | (refine dE (by kernel_rfl) ?_) | ((first | refine cC ?_ ?_ | refine gS ?_ ?_ | refine dS ?_ ?_) <;> intro hc <;> first | (exfalso; simp only [dcT, dcF, bnT, bnF, bnU, bnV] at hc; omega) | (simp only [hc]; try simp only [dcT, dcF, bnT, bnF, bnU, bnV] at hc)) | (refine aN (by omega) ?_) | (refine dN (by omega) ?_))
    refine l_loop (α := Nat) (fun j => ⟨[(2, .p 0 3 0 0), (5, .p 1 3 0 0), (8, .p 2 3 0 0), (17, .sl 1 (mrows (a))), (18, .v (.int .i64 n)), (19, .v (.int .i64 i)), (23, .sl 3 (vrows (x))), (24, .v (.int .i64 m)), (25, .v (.int .i64 j))], [(0, ⟨3, [[.v (.bool (false)), .v (.slice none 0 0), .v (.int .i64 0)]]⟩), (1, ⟨3, [crow MX]⟩), (2, ⟨3, [crow (sumD j fun j => (x.getD j RD.zero).dy.abs)]⟩)], 3⟩) (fun j => j ≤ m) (fun j => m - j) (0) _ byFresh (fun _ h => by first | (cases h; done) | exact Nat.le_of_ble_eq_true rfl) ?_ ?_ ?_
    · exact Nat.zero_le _
    · exact Weak.trans (Weak.mle 2 ⟨3, [crow Dy.zero]⟩ rfl MLe.dy0) (Nat.le_refl _) byWeak
    rintro j hj
    by_cases hjm : j < m
    ·
      have rj := vrows_getD (l := x) (i := j) (by omega)
      have hxj := okA j
      have g1 := gi j hj
      have g2 : Mg p (x.getD j RD.zero).dy.abs := Mg.abs hxj.2
      have m1 := Abs_ok _ _ _ _ (RD.arg hxj.1)
      have s1 := Add_ok _ _ _ _ _ _ _ _ g1.arg g2.arg
      have ej : (sumD (j + 1) fun j => (x.getD j RD.zero).dy.abs) = (sumD j fun j => (x.getD j RD.zero).dy.abs).add (x.getD j RD.zero).dy.abs := rfl
      unfold vrow at rj
      clear g1 g2 hxj gi okA
      generalize (sumD j fun j => (x.getD j RD.zero).dy.abs) = S1 at *
      generalize (x.getD j RD.zero).dy.abs = S2 at *
      generalize x.getD j RD.zero = r at *
      repeat' (first | (simp only [go_sem, Int.reduceAdd, Int.reduceEq, Int.reduceLE, Int.reduceLT, Int.reduceMul, Int.reduceNeg, Int.reducePow, Int.reduceSub, Int.reduceToNat, Nat.reduceAdd, Nat.reduceBEq, Nat.reduceEqDiff, Nat.reduceLT, Nat.reduceLeDiff, Nat.reduceMul, Nat.reducePow, Nat.reduceSub, reduceCtorEq, reduceIte, IntKind.bits.eq_def, ti, tin, mrows_length, va, rj]) | (simp (disch := omega) only [w64, wu64, wu32, Nat.min_eq_left]) | (with_reducible first | refine cF (m1) ?_ | refine dF (m1) ?_) | (with_reducible first | refine cF (s1) ?_ | refine dF (s1) ?_) | (refine aL ti_ok ?_) | (refine dL ti_ok ?_) | (refine dE (by kernel_rfl) ?_) | ((first | refine cC ?_ ?_ | refine gS ?_ ?_ | refine dS ?_ ?_) <;> intro hc <;> first | (exfalso; simp only [dcT, dcF, bnT, bnF, bnU, bnV] at hc; omega) | (simp only [hc]; try simp only [dcT, dcF, bnT, bnF, bnU, bnV] at hc)) | (refine aN (by omega) ?_) | (refine dN (by omega) ?_))
      refine roundEnd_of (α := Nat) (j + 1) (show j + 1 ≤ m by omega) (by omega) ?_
      simp only [ej]
      exact byWeak
    ·
      have hjm2 : j = m := by omega
      subst hjm2
      have g3 := gi j (Nat.le_refl _)
      have mx := Max_ok _ _ _ _ _ _ _ _ gmi.arg g3.arg
      clear gi g3 gmi okA
      generalize (sumD j fun j => (x.getD j RD.zero).dy.abs) = S1 at *
      repeat' (first | (simp only [go_sem, Int.reduceAdd, Int.reduceEq, Int.reduceLE, Int.reduceLT, Int.reduceMul, Int.reduceNeg, Int.reducePow, Int.reduceSub, Int.reduceToNat, Nat.reduceAdd, Nat.reduceBEq, Nat.reduceEqDiff, Nat.reduceLT, Nat.reduceLeDiff, Nat.reduceMul, Nat.reducePow, Nat.reduceSub, reduceCtorEq, reduceIte, IntKind.bits.eq_def, ti, tin]) | (simp (disch := omega) only [w64, wu64, wu32, Nat.min_eq_left]) | (with_reducible first | refine cF (mx) ?_ | refine dF (mx) ?_) | (refine aL ti_ok ?_) | (refine dL ti_ok ?_) | (refine dE (by kernel_rfl) ?_) | ((first | refine cC ?_ ?_ | refine gS ?_ ?_ | refine dS ?_ ?_) <;> intro hc <;> first | (exfalso; simp only [dcT, dcF, bnT, bnF, bnU, bnV] at hc; omega) | (simp only [hc]; try simp only [dcT, dcF, bnT, bnF, bnU, bnV] at hc)) | (refine aN (by omega) ?_) | (refine dN (by omega) ?_))
      refine roundEnd_of (α := Nat) (i + 1) (show i + 1 ≤ n by omega) (by omega) ?_
      simp only [es]
      exact byWeak
  ·
    have hin2 : i = n := by omega
    subst hin2
    repeat' (first | (simp only [go_sem, Int.reduceAdd, Int.reduceEq, Int.reduceLE, Int.reduceLT, Int.reduceMul, Int.reduceNeg, Int.reducePow, Int.reduceSub, Int.reduceToNat, Nat.reduceAdd, Nat.reduceBEq, Nat.reduceEqDiff, Nat.reduceLT, Nat.reduceLeDiff, Nat.reduceMul, Nat.reducePow, Nat.reduceSub, reduceCtorEq, reduceIte, IntKind.bits.eq_def, ti, tin]) | (simp (disch := omega) only [w64, wu64, wu32, Nat.min_eq_left]) | (refine aL ti_ok ?_) | (refine dL ti_ok ?_) | (refine dE (by kernel_rfl) ?_) | ((first | refine cC ?_ ?_ | refine gS ?_ ?_ | refine dS ?_ ?_) <;> intro hc <;> first | (exfalso; simp only [dcT, dcF, bnT, bnF, bnU, bnV] at hc; omega) | (simp only [hc]; try simp only [dcT, dcF, bnT, bnF, bnU, bnV] at hc)) | (refine aN (by omega) ?_) | (refine dN (by omega) ?_))
    all_goals exact fin_same trivial rfl

/-! ### texts -/
def rowText (l : List Dy) : List UInt8 := Lib.join (l.map dyText) [32]
def matText (a : List (List Dy)) : List UInt8 := Lib.join (a.map rowText) [59, 32]
theorem dyText_mg {k : Nat} {x : Dy} (h : Mg k x) : (dyText x).length ≤ k + 65570 := by
  have h1 := decDigits_bits (mg_iff.1 h)
  have hd := x.ok.1
  have h2 := decDigits_len 5 x.d (by omega)
  unfold dyText
  simp only [List.length_append]
  split <;> split <;> simp <;> omega
theorem join_len {B : Nat} (sep : List UInt8) : ∀ (l : List (List UInt8)), (∀ x ∈ l, x.length ≤ B) → (Lib.join l sep).length ≤ l.length * (B + sep.length)
  | [], _ => by simp [Lib.join_nil]
  | x :: l, h => by
    rw [Lib.join_cons]
    have hx := h x (by simp)
    have key : ∀ l : List (List UInt8), (∀ x ∈ l, x.length ≤ B) → (Lib.joinTail sep l).length ≤ l.length * (B + sep.length) := fun l => by
      induction l with
      | nil => intro _; simp [Lib.joinTail]
      | cons y l ih =>
        intro hy
        have h1 := hy y (by simp)
        have h2 := ih (fun z hz => hy z (by simp [hz]))
        unfold Lib.joinTail at h2 ⊢
        simp only [List.map_cons, List.flatten_cons, List.length_append, List.length_cons, Nat.succ_mul] at h2 ⊢
        omega
    have h3 := key l (fun y hy => h y (by simp [hy]))
    simp only [List.length_append, List.length_cons, Nat.succ_mul]
    omega
def cellT (a : List (List RD)) (i j : Nat) : List UInt8 := dyText ((a.getD i []).getD j RD.zero).dy
def tabS {α : Type} (n : Nat) (f : Nat → α) : List α := (List.range n).map f
theorem tabS_len {α : Type} {n : Nat} {f : Nat → α} : (tabS n f).length = n := by simp [tabS]
theorem tabS_succ {α : Type} {n : Nat} {f : Nat → α} : tabS (n + 1) f = tabS n f ++ [f n] := by simp [tabS, List.range_succ]
theorem strs_step {k : Nat} {f : Nat → List UInt8} : (strs (tabS k f)).take k ++ [[.v (.string ⟨(f k).toArray⟩)]] = strs (tabS (k + 1) f) := by rw [strs_snoc tabS_len, tabS_succ]
theorem map_tabS {α β : Type} {l : List α} {d : α} {g : α → β} : l.map g = tabS l.length fun i => g (l.getD i d) := by
  unfold tabS
  apply List.ext_getElem
  · simp
  · intro i h1 h2
    simp [List.getD] at h1 ⊢
    rw [List.getElem?_eq_getElem h1, Option.getD_some]
def rowTxt (a : List (List RD)) (m i : Nat) : List UInt8 := Lib.join (tabS m (cellT a i)) [32]
theorem matText_raw {a : List (List RD)} {m : Nat} (h : ∀ i, i < a.length → (a.getD i []).length = m) : matText (dyM a) = Lib.join (tabS a.length (rowTxt a m)) [59, 32] := by
  unfold matText
  rw [map_tabS (d := []), dyM_len]
  congr 1
  unfold tabS
  refine List.map_congr_left fun i hi => ?_
  have hi : i < a.length := by simpa using hi
  unfold rowText rowTxt
  rw [map_tabS (d := Dy.zero), dyM_get, dyV_len, h i hi]
  congr 1
  unfold tabS
  exact List.map_congr_left fun j _ => by unfold cellT; rw [dyV_get]
theorem mat_Text_err (a : List (List RD)) (ha : a.length ≤ 1000) (h : ¬ ckM a = 0) : CallOK Tryz.prog gl 95 [.sl 1 (mrows (a))] (.tup [.v (.string ByteArray.empty), .v (eV (ckM a))]) := by
  refine call_ok (C := ⟨Tryz.prog, gl, ti, 42, false⟩) ti_ok mixed 3000 Tryz.call95 Tryz.func95 rfl Tryz.ntmps95 (by simp) byClL byCl ?_
  rw [Tryz.results95]
  have c1 := mat_Check a (by omega)
  rw [eV_ne h] at c1 ⊢
  generalize ckM a = e at *
  repeat' (first | (simp only [go_sem, Int.reduceAdd, Int.reduceEq, Int.reduceLE, Int.reduceLT, Int.reduceMul, Int.reduceNeg, Int.reducePow, Int.reduceSub, Int.reduceToNat, Nat.reduceAdd, Nat.reduceBEq, Nat.reduceEqDiff, Nat.reduceLT, Nat.reduceLeDiff, Nat.reduceMul, Nat.reducePow, Nat.reduceSub, reduceCtorEq, reduceIte, IntKind.bits.eq_def, ti, tin]) | (simp (disch := omega) only [w64, wu64, wu32, Nat.min_eq_left]) | (with_reducible first | refine cF (c1) ?_ | refine dF (c1) ?_) | (refine aL ti_ok ?_) | (refine dL ti_ok ?_) | (refine dE (by kernel_rfl) ?_) | ((first | refine cC ?_ ?_ | refine gS ?_ ?_ | refine dS ?_ ?_) <;> intro hc <;> first | (exfalso; simp only [dcT, dcF, bnT, bnF, bnU, bnV] at hc; omega) | (simp only [hc]; try simp only [dcT, dcF, bnT, bnF, bnU, bnV] at hc)) | (refine aN (by omega) ?_) | (refine dN (by omega) ?_))
  all_goals exact fin_same trivial rfl
theorem mat_Text (a : List (List RD)) (p : Nat) (hp : p ≤ 1000000) (h : ckM a = 0) (oa : okM p a) : CallOK Tryz.prog gl 95 [.sl 1 (mrows (a))] (.tup [.v (.string ⟨(matText (dyM a)).toArray⟩), .v .nilIface]) := by
  refine call_ok (C := ⟨Tryz.prog, gl, ti, 42, false⟩) ti_ok mixed 3000 Tryz.call95 Tryz.func95 rfl Tryz.ntmps95 (by simp) byClL byCl ?_
  rw [Tryz.results95]
  obtain ⟨a1, a2, a3, a4, a5⟩ := ckM_ok h
  have c1 := mat_Check a (by omega)
  rw [h, eV_zero] at c1
  rw [matText_raw a5]
  obtain ⟨n, hn⟩ : ∃ n, a.length = n := ⟨_, rfl⟩
  obtain ⟨m, hm⟩ : ∃ m, (a.getD 0 []).length = m := ⟨_, rfl⟩
  rw [hn] at a1 a2 a5 ⊢
  rw [hm] at a3 a4 a5 ⊢
  have t0 : ∀ i j, (cellT a i j).length ≤ p + 65570 := fun i j => dyText_mg (oa i j).2
  have t1 : ∀ i, (rowTxt a m i).length ≤ 8 * (p + 65571) := fun i => by
    have := join_len (B := p + 65570) [32] (tabS m (cellT a i)) (fun x hx => by
      simp only [tabS, List.mem_map] at hx
      obtain ⟨j, _, rfl⟩ := hx
      exact t0 i j)
    rw [tabS_len] at this
    exact Nat.le_trans this (Nat.mul_le_mul a4 (Nat.le_refl _))
  have t2 : (Lib.join (tabS n (rowTxt a m)) [59, 32]).length ≤ 140737488355328 := by
    have := join_len (B := 8 * (p + 65571)) [59, 32] (tabS n (rowTxt a m)) (fun x hx => by
      simp only [tabS, List.mem_map] at hx
      obtain ⟨j, _, rfl⟩ := hx
      exact t1 j)
    rw [tabS_len] at this
    have h2 : n * (8 * (p + 65571) + [59, 32].length) ≤ 8 * (8 * (1000000 + 65571) + 2) := Nat.mul_le_mul a2 (by simp; omega)
    omega
  repeat' (first | (simp only [go_sem, Int.reduceAdd, Int.reduceEq, Int.reduceLE, Int.reduceLT, Int.reduceMul, Int.reduceNeg, Int.reducePow, Int.reduceSub, Int.reduceToNat, Nat.reduceAdd, Nat.reduceBEq, Nat.reduceEqDiff, Nat.reduceLT, Nat.reduceLeDiff, Nat.reduceMul, Nat.reducePow, Nat.reduceSub, reduceCtorEq, reduceIte, IntKind.bits.eq_def, ti, tin, mrows_length, hn]) | (simp (disch := omega) only [w64, wu64, wu32, Nat.min_eq_left]) | (with_reducible first | refine cF (c1) ?_ | refine dF (c1) ?_) | (refine aL ti_ok ?_) | (refine dL ti_ok ?_) | (refine dE (by kernel_rfl) ?_) | ((first | refine cC ?_ ?_ | refine gS ?_ ?_ | refine dS ?_ ?_) <;> intro hc <;> first | (exfalso; simp only [dcT, dcF, bnT, bnF, bnU, bnV] at hc; omega) | (simp only [hc]; try simp only [dcT, dcF, bnT, bnF, bnU, bnV] at hc)) | (refine aN (by omega) ?_) | (refine dN (by omega) ?_))
  first | refine loop_weak (s' := ⟨[(5, .ps 1 1 0 ((0 : Nat))), (16, .sl 1 (mrows (a))), (17, .v (.int .i64 n)), (18, .v (.int .i64 (((0 : Nat) : Int))))], [(1, ⟨1, []⟩)], 2⟩) ?_ (by first | exact Nat.le_refl _ | exact Nat.le_of_ble_eq_true rfl) ?_ | refine loop_weak0 (s' := ⟨[(5, .ps 1 1 0 ((0 : Nat))), (16, .sl 1 (mrows (a))), (17, .v (.int .i64 n)), (18, .v (.int .i64 (((0 : Nat) : Int))))], [(1, ⟨1, []⟩)], 2⟩) ?_ (Nat.zero_lt_succ _) ?_
  · exact Weak.trans (Weak.newnil 1 1 (Nat.zero_le _)) (Nat.zero_le _) byWeak
  refine l_loop (α := Nat) (fun i => ⟨[(5, .ps 1 1 0 i), (16, .sl 1 (mrows (a))), (17, .v (.int .i64 n)), (18, .v (.int .i64 i))], [(1, ⟨1, strs (tabS i (rowTxt a m))⟩)], 2⟩) (fun i => i ≤ n) (fun i => n - i) (0) _ byFresh (fun _ h => by first | (cases h; done) | exact Nat.le_of_ble_eq_true rfl) ?_ ?_ ?_
  · exact Nat.zero_le _
  · exact byWeak
  rintro i hi
  by_cases hin : i < n
  ·
    have ri := mrows_getD (a := a) (i := i) (by omega)
    have va : (vrows (a.getD i [])).length = m := by rw [vrows_length, a5 i hin]
    have la := a5 i hin
    have okA := oa i
    have hx0 : ∀ j, cellT a i j = dyText ((a.getD i []).getD j RD.zero).dy := fun j => rfl
    have j1 := join_ok (tabS m (cellT a i)) ⟨#[32]⟩ (by rw [tabS_len]; omega) (Nat.le_trans (t1 i) (by omega))
    have j2 : CallOK Tryz.prog gl 188 [.sl 1 (((strs (tabS m (cellT a i))).drop 0).take m), .v (.string ⟨#[32]⟩)] (.v (.string ⟨(rowTxt a m i).toArray⟩)) := by
      rw [List.drop_zero, List.take_of_length_le (by rw [strs_length, tabS_len]; exact Nat.le_refl _)]; exact j1
    have e6 := strs_step (k := i) (f := rowTxt a m)
    have l6 : (strs (tabS i (rowTxt a m))).length = i := by rw [strs_length, tabS_len]
    generalize hx : a.getD i [] = x at *
    clear t1 t2 oa a5 j1
    repeat' (first | (simp only [go_sem, Int.reduceAdd, Int.reduceEq, Int.reduceLE, Int.reduceLT, Int.reduceMul, Int.reduceNeg, Int.reducePow, Int.reduceSub, Int.reduceToNat, Nat.reduceAdd, Nat.reduceBEq, Nat.reduceEqDiff, Nat.reduceLT, Nat.reduceLeDiff, Nat.reduceMul, Nat.reducePow, Nat.reduceSub, reduceCtorEq, reduceIte, IntKind.bits.eq_def, ti, tin, mrows_length, hn, ri, va]) | (simp (disch := omega) only [w64, wu64, wu32, Nat.min_eq_left]) | (refine aL ti_ok ?_) | (refine dL ti_ok ?_) | (refine dE (by kernel_rfl) ?_) | ((first | refine cC ?_ ?_ | refine gS ?_ ?_ | refine dS ?_ ?_) <;> intro hc <;> first | (exfalso; simp only [dcT, dcF, bnT, bnF, bnU, bnV] at hc; omega) | (simp only [hc]; try simp only [dcT, dcF, bnT, bnF, bnU, bnV] at hc)) | (refine aN (by omega) ?_) | (refine dN (by omega) ?_))
    first | refine loop_weak (s' := ⟨[(5, .ps 1 1 0 i), (8, .ps 2 1 0 ((0 : Nat))), (16, .sl 1 (mrows (a))), (17, .v (.int .i64 n)), (18, .v (.int .i64 i)), (22, .sl 3 (vrows (x))), (23, .v (.int .i64 m)), (24, .v (.int .i64 (((0 : Nat) : Int))))], [(1, ⟨1, strs (tabS i (rowTxt a m))⟩), (2, ⟨1, []⟩)], 3⟩) ?_ (by first | exact Nat.le_refl _ | exact Nat.le_of_ble_eq_true rfl) ?_ | refine loop_weak0 (s' := ⟨[(5, .ps 1 1 0 i), (8, .ps 2 1 0 ((0 : Nat))), (16, .sl 1 (mrows (a))), (17, .v (.int .i64 n)), (18, .v (.int .i64 i)), (22, .sl 3 (vrows (x))), (23, .v (.int .i64 m)), (24, .v (.int .i64 (((0 : Nat) : Int))))], [(1, ⟨1, strs (tabS i (rowTxt a m))⟩), (2, ⟨1, []⟩)], 3⟩) ?_ (Nat.zero_lt_succ _) ?_
    · exact Weak.trans (Weak.newnil 2 1 (Nat.le_refl _)) (Nat.le_succ _) byWeak
    refine l_loop (α := Nat) (fun j => ⟨[(5, .ps 1 1 0 i), (8, .ps 2 1 0 j), (16, .sl 1 (mrows (a))), (17, .v (.int .i64 n)), (18, .v (.int .i64 i)), (22, .sl 3 (vrows (x))), (23, .v (.int .i64 m)), (24, .v (.int .i64 j))], [(1, ⟨1, strs (tabS i (rowTxt a m))⟩), (2, ⟨1, strs (tabS j (cellT a i))⟩)], 3⟩) (fun j => j ≤ m) (fun j => m - j) (0) _ byFresh (fun _ h => by first | (cases h; done) | exact Nat.le_of_ble_eq_true rfl) ?_ ?_ ?_
    · exact Nat.zero_le _
    · exact byWeak
    rintro j hj
    by_cases hjm : j < m
    ·
      have rj := vrows_getD (l := x) (i := j) (by omega)
      have tx := Text_ok _ _ _ _ (RD.arg (okA j).1)
      rw [← hx0 j] at tx
      have e7 := strs_step (k := j) (f := cellT a i)
      have l7 : (strs (tabS j (cellT a i))).length = j := by rw [strs_length, tabS_len]
      unfold vrow at rj
      generalize cellT a i j = T1 at *
      generalize x.getD j RD.zero = r at *
      clear okA hx0
      repeat' (first | (simp only [go_sem, Int.reduceAdd, Int.reduceEq, Int.reduceLE, Int.reduceLT, Int.reduceMul, Int.reduceNeg, Int.reducePow, Int.reduceSub, Int.reduceToNat, Nat.reduceAdd, Nat.reduceBEq, Nat.reduceEqDiff, Nat.reduceLT, Nat.reduceLeDiff, Nat.reduceMul, Nat.reducePow, Nat.reduceSub, reduceCtorEq, reduceIte, IntKind.bits.eq_def, ti, tin, mrows_length, va, rj, l6, l7, e7]) | (simp (disch := omega) only [w64, wu64, wu32, Nat.min_eq_left]) | (with_reducible first | refine cF (tx) ?_ | refine dF (tx) ?_) | (refine after_append_nil ti_ok rfl rfl rfl rfl ⟨rfl, by decide⟩ rfl ⟨trivial, by (try simp only [List.length_cons, List.length_nil, List.length_append, u32s_length, List.length_map, l7]); omega, by (try simp only [List.length_cons, List.length_nil, List.length_append, u32s_length, List.length_map, l7]); omega⟩ (fun _ => byRows) ?_) | (refine after_append_own ti_ok rfl rfl rfl rfl rfl ⟨rfl, rfl, by decide, Nat.le_of_ble_eq_true rfl⟩ (fun h => by first | (cases h; done) | decide) rfl ⟨trivial, by (try simp only [List.length_cons, List.length_nil, List.length_append, u32s_length, List.length_map, l7]); omega, by (try simp only [List.length_cons, List.length_nil, List.length_append, u32s_length, List.length_map, l7]); omega, by (try simp only [List.length_cons, List.length_nil, List.length_append, u32s_length, List.length_map, l7]); omega⟩ byRows byNoE byNoM ?_) | (refine aL ti_ok ?_) | (refine dL ti_ok ?_) | (refine dE (by kernel_rfl) ?_) | ((first | refine cC ?_ ?_ | refine gS ?_ ?_ | refine dS ?_ ?_) <;> intro hc <;> first | (exfalso; simp only [dcT, dcF, bnT, bnF, bnU, bnV] at hc; omega) | (simp only [hc]; try simp only [dcT, dcF, bnT, bnF, bnU, bnV] at hc)) | (refine aN (by omega) ?_) | (refine dN (by omega) ?_))
      refine roundEnd_of (α := Nat) (j + 1) (show j + 1 ≤ m by omega) (by omega) ?_
      exact byWeak
    ·
      have hjm2 : j = m := by omega
      subst hjm2
      clear okA hx0
      have l7 : (strs (tabS j (cellT a i))).length = j := by rw [strs_length, tabS_len]
      generalize rowTxt a j i = T1 at *
      repeat' (first | (simp only [go_sem, Int.reduceAdd, Int.reduceEq, Int.reduceLE, Int.reduceLT, Int.reduceMul, Int.reduceNeg, Int.reducePow, Int.reduceSub, Int.reduceToNat, Nat.reduceAdd, Nat.reduceBEq, Nat.reduceEqDiff, Nat.reduceLT, Nat.reduceLeDiff, Nat.reduceMul, Nat.reducePow, Nat.reduceSub, reduceCtorEq, reduceIte, IntKind.bits.eq_def, ti, tin, mrows_length, l6, l7, e6]) | (simp (disch := omega) only [w64, wu64, wu32, Nat.min_eq_left]) | (refine callF_frz 2 rfl (.cons (frz_ps rfl (by (try simp only [Nat.zero_add, mrows_length, l6, l7, e6]); omega)) (.cons .same .nil)) (.cons (.refl _) (.cons (.refl _) .nil)) (j2) ?_) | (refine after_append_nil ti_ok rfl rfl rfl rfl ⟨rfl, by decide⟩ rfl ⟨trivial, by (try simp only [List.length_cons, List.length_nil, List.length_append, u32s_length, List.length_map, l6]); omega, by (try simp only [List.length_cons, List.length_nil, List.length_append, u32s_length, List.length_map, l6]); omega⟩ (fun _ => byRows) ?_) | (refine after_append_own ti_ok rfl rfl rfl rfl rfl ⟨rfl, rfl, by decide, Nat.le_of_ble_eq_true rfl⟩ (fun h => by first | (cases h; done) | decide) rfl ⟨trivial, by (try simp only [List.length_cons, List.length_nil, List.length_append, u32s_length, List.length_map, l6]); omega, by (try simp only [List.length_cons, List.length_nil, List.length_append, u32s_length, List.length_map, l6]); omega, by (try simp only [List.length_cons, List.length_nil, List.length_append, u32s_length, List.length_map, l6]); omega⟩ byRows byNoE byNoM ?_) | (refine aL ti_ok ?_) | (refine dL ti_ok ?_) | (refine dE (by kernel_rfl) ?_) | ((first | refine cC ?_ ?_ | refine gS ?_ ?_ | refine dS ?_ ?_) <;> intro hc <;> first | (exfalso; simp only [dcT, dcF, bnT, bnF, bnU, bnV] at hc; omega) | (simp only [hc]; try simp only [dcT, dcF, bnT, bnF, bnU, bnV] at hc)) | (refine aN (by omega) ?_) | (refine dN (by omega) ?_))
      refine roundEnd_of (α := Nat) (i + 1) (show i + 1 ≤ n by omega) (by omega) ?_
      exact byWeak
  ·
    have hin2 : i = n := by omega
    subst hin2
    have j1 := join_ok (tabS i (rowTxt a m)) ⟨#[59, 32]⟩ (by rw [tabS_len]; omega) t2
    have j2 : CallOK Tryz.prog gl 188 [.sl 1 (((strs (tabS i (rowTxt a m))).drop 0).take i), .v (.string ⟨#[59, 32]⟩)] (.v (.string ⟨(Lib.join (tabS i (rowTxt a m)) [59, 32]).toArray⟩)) := by
      rw [List.drop_zero, List.take_of_length_le (by rw [strs_length, tabS_len]; exact Nat.le_refl _)]; exact j1
    have l6 : (strs (tabS i (rowTxt a m))).length = i := by rw [strs_length, tabS_len]
    repeat' (first | (simp only [go_sem, Int.reduceAdd, Int.reduceEq, Int.reduceLE, Int.reduceLT, Int.reduceMul, Int.reduceNeg, Int.reducePow, Int.reduceSub, Int.reduceToNat, Nat.reduceAdd, Nat.reduceBEq, Nat.reduceEqDiff, Nat.reduceLT, Nat.reduceLeDiff, Nat.reduceMul, Nat.reducePow, Nat.reduceSub, reduceCtorEq, reduceIte, IntKind.bits.eq_def, ti, tin, l6]) | (simp (disch := omega) only [w64, wu64, wu32, Nat.min_eq_left]) | (refine callF_frz 1 rfl (.cons (frz_ps rfl (by (try simp only [Nat.zero_add, l6]); omega)) (.cons .same .nil)) (.cons (.refl _) (.cons (.refl _) .nil)) (j2) ?_) | (refine aL ti_ok ?_) | (refine dL ti_ok ?_) | (refine dE (by kernel_rfl) ?_) | ((first | refine cC ?_ ?_ | refine gS ?_ ?_ | refine dS ?_ ?_) <;> intro hc <;> first | (exfalso; simp only [dcT, dcF, bnT, bnF, bnU, bnV] at hc; omega) | (simp only [hc]; try simp only [dcT, dcF, bnT, bnF, bnU, bnV] at hc)) | (refine aN (by omega) ?_) | (refine dN (by omega) ?_))
    all_goals exact fin_same trivial rfl
end Go.Proofs.YtdjgckcninibhaaGreatDoor
