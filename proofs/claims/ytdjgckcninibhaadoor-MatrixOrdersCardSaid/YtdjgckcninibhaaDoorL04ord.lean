/- The statement MatrixOrders: its code returns true. -/
import Derived.Test.YtdjgckcninibhaaDoorL04d
import Derived.Test.YtdjgckcninibhaaDoorL04rings
import Derived.Test.YtdjgckcninibhaaDoorU4
set_option linter.unusedSimpArgs false
set_option linter.unusedVariables false
set_option linter.deprecated false
namespace Go.Proofs.YtdjgckcninibhaaDoor
open Go Go.Ax
set_option maxRecDepth 100000
set_option maxHeartbeats 4000000

/-! ### a text is that of one number, of one matrix -/
def isDig (b : UInt8) : Prop := 48 ≤ b.toNat ∧ b.toNat ≤ 57
theorem dyText_inj {x y : Dy} (h : dyText x = dyText y) : x = y := by
  unfold dyText at h
  have dx := vd_dec x.n.natAbs
  have dy' := vd_dec y.n.natAbs
  have nz : ∀ n, ∃ c l, Lib.decDigits n = c :: l ∧ isDig c := fun n => by
    have h1 := decDigits_pos n
    have h2 := (vd_dec n).2
    cases hl : Lib.decDigits n with
    | nil => rw [hl] at h1; exact absurd h1 (by simp)
    | cons c l => rw [hl] at h2; exact ⟨c, l, rfl, h2 c (by simp)⟩
  have tail : ∀ z : Dy, ∀ b, (if 0 < z.d then [47, 50, 94] ++ Lib.decDigits z.d else []).head? = some b → ¬ isDig b := fun z b hb => by
    split at hb
    · simp at hb; subst hb; unfold isDig; decide
    · simp at hb
  have hs : sg x = sg y := by
    obtain ⟨c, l, e1, q1⟩ := nz x.n.natAbs
    obtain ⟨c', l', e2, q2⟩ := nz y.n.natAbs
    rw [e1, e2] at h
    cases hx : sg x <;> cases hy : sg y
    · rfl
    · rw [hx, hy] at h
      simp at h
      have := h.1
      subst this
      exact absurd q1 (by unfold isDig; decide)
    · rw [hx, hy] at h
      simp at h
      have := h.1
      subst this
      exact absurd q2 (by unfold isDig; decide)
    · rfl
  rw [hs, List.append_assoc, List.append_assoc] at h
  have h := List.append_cancel_left h
  obtain ⟨h1, h2⟩ := split_at (P := isDig) (fun b hb => dx.2 b hb) (fun b hb => dy'.2 b hb) (tail x) (tail y) h
  have hn := dec_inj h1
  have hd : x.d = y.d := by
    by_cases a : 0 < x.d <;> by_cases b : 0 < y.d
    · rw [if_pos a, if_pos b] at h2
      exact dec_inj (List.append_cancel_left h2)
    · rw [if_pos a, if_neg b] at h2; simp at h2
    · rw [if_neg a, if_pos b] at h2; simp at h2
    · omega
  refine Dy.eq ?_ hd
  have s1 : (sg x = true ↔ x.n < 0) := by unfold sg; simp
  have s2 : (sg y = true ↔ y.n < 0) := by unfold sg; simp
  rw [hs] at s1
  by_cases hb : sg y = true
  · have := s1.1 hb; have := s2.1 hb; omega
  · have : ¬ x.n < 0 := fun hh => hb (s1.2 hh)
    have : ¬ y.n < 0 := fun hh => hb (s2.2 hh)
    omega
theorem dyText_by (x : Dy) : ∀ b ∈ dyText x, b ≠ 32 ∧ b ≠ 59 := fun b hb => by
  have dig : ∀ n, ∀ b ∈ Lib.decDigits n, b ≠ 32 ∧ b ≠ 59 := fun n b hb => by
    have := (vd_dec n).2 b hb
    refine ⟨fun e => ?_, fun e => ?_⟩ <;> subst e <;> revert this <;> decide
  unfold dyText at hb
  rcases List.mem_append.1 hb with hb | hb
  · rcases List.mem_append.1 hb with hb | hb
    · split at hb
      · simp at hb; subst hb; decide
      · cases hb
    · exact dig _ b hb
  · split at hb
    · rcases List.mem_append.1 hb with hb | hb
      · simp at hb
        rcases hb with rfl | rfl | rfl <;> decide
      · exact dig _ b hb
    · cases hb
theorem map_inj {α β : Type} {f : α → β} (hf : ∀ x y, f x = f y → x = y) : ∀ {l m : List α}, l.map f = m.map f → l = m
  | [], [], _ => rfl
  | [], _ :: _, h => by simp at h
  | _ :: _, [], h => by simp at h
  | x :: l, y :: m, h => by
    simp only [List.map_cons, List.cons.injEq] at h
    rw [hf x y h.1, map_inj hf h.2]
theorem rowText_inj {x y : List Dy} (hl : x.length = y.length) (h : rowText x = rowText y) : x = y := by
  have key : ∀ z : List Dy, ∀ w ∈ z.map dyText, ∀ b ∈ w, b ≠ 32 := fun z w hw b hb => by
    obtain ⟨v, _, rfl⟩ := List.mem_map.1 hw
    exact (dyText_by v b hb).1
  have e := join_inj 32 [] (key x) (key y) (by simpa using hl) h
  exact map_inj (fun _ _ => dyText_inj) e
theorem matText_inj {n m : Nat} {a b : List (List Dy)} (ha : rect n m a) (hb : rect n m b) (h : matText a = matText b) : a = b := by
  have key : ∀ z : List (List Dy), ∀ w ∈ z.map rowText, ∀ c ∈ w, c ≠ 59 := fun z w hw c hc => by
    obtain ⟨v, _, rfl⟩ := List.mem_map.1 hw
    rcases join_mem hc with ⟨u, hu, hcu⟩ | hc
    · obtain ⟨d, _, rfl⟩ := List.mem_map.1 hu
      exact (dyText_by d c hcu).2
    · simp at hc; subst hc; decide
  have e := join_inj 59 [32] (key a) (key b) (by simp [ha.1, hb.1]) h
  refine list_ext (d := []) (by rw [ha.1, hb.1]) fun i hi => ?_
  rw [ha.1] at hi
  refine rowText_inj (by rw [ha.2 i hi, hb.2 i hi]) ?_
  have e1 : (a.map rowText).getD i [] = (b.map rowText).getD i [] := by rw [e]
  have l1 := ha.1
  have l2 := hb.1
  simpa [List.getD, l1, l2, hi] using e1
theorem text_eq {n m : Nat} {a b : List (List Dy)} (ha : rect n m a) (hb : rect n m b) : decide ((⟨(matText a).toArray⟩ : ByteArray) = ⟨(matText b).toArray⟩) = (leD a b && leD b a) := by
  by_cases h : a = b
  · subst h
    rw [decide_eq_true rfl, (le_both ha hb).2 rfl]
  · rw [decide_eq_false (fun e => h (matText_inj ha hb (by
      have := congrArg (fun z : ByteArray => z.data.toList) e
      simpa using this)))]
    cases hv : (leD a b && leD b a) with
    | false => rfl
    | true => exact absurd ((le_both ha hb).1 hv) h

theorem ord_few (a b c : List (List RD)) (hl : a.length ≤ 9223372036854775807) (ha : argM a) (hl' : b.length ≤ 9223372036854775807) (hb : argM b) (hl'' : c.length ≤ 9223372036854775807) (hc : argM c) (hf : ¬ (fewM a ∧ fewM b ∧ fewM c)) : CallOK Tryd.prog gl 9 [.sl 1 (mrows (a)), .sl 1 (mrows (b)), .sl 1 (mrows (c))] (.v (.bool (true))) := by
  refine call_ok (C := ⟨Tryd.prog, gl, ti, 171, false⟩) ti_ok mixed 3000 Tryd.call9 Tryd.func9 rfl Tryd.ntmps9 (by simp) byClL byCl ?_
  rw [Tryd.results9]
  have f1 := few_ok hl ha
  have f2 := few_ok hl' hb
  have f3 := few_ok hl'' hc
  by_cases h1 : fewM a
  · rw [decide_eq_true h1] at f1
    by_cases h2 : fewM b
    · rw [decide_eq_true h2] at f2
      rw [decide_eq_false (fun h => hf ⟨h1, h2, h⟩)] at f3
      clear hf h1 h2
      repeat' (first | (simp only [go_sem, Int.reduceAdd, Int.reduceEq, Int.reduceLE, Int.reduceLT, Int.reduceMul, Int.reduceNeg, Int.reducePow, Int.reduceSub, Int.reduceToNat, Nat.reduceAdd, Nat.reduceBEq, Nat.reduceEqDiff, Nat.reduceLT, Nat.reduceLeDiff, Nat.reduceMul, Nat.reducePow, Nat.reduceSub, reduceCtorEq, reduceIte, IntKind.bits.eq_def, ti, tin]) | (simp (disch := omega) only [w64, wu64, wu32, Nat.min_eq_left]) | (with_reducible first | refine cF (f1) ?_ | refine dF (f1) ?_) | (with_reducible first | refine cF (f2) ?_ | refine dF (f2) ?_) | (with_reducible first | refine cF (f3) ?_ | refine dF (f3) ?_) | (with_reducible first | refine cF (awake04) ?_ | refine dF (awake04) ?_) | (refine aL ti_ok ?_) | (refine dL ti_ok ?_) | (refine dE (by kernel_rfl) ?_) | ((first | refine cC ?_ ?_ | refine gS ?_ ?_ | refine dS ?_ ?_) <;> intro hc <;> first | (exfalso; simp only [dcT, dcF, bnT, bnF, bnU, bnV] at hc; omega) | (simp only [hc]; try simp only [dcT, dcF, bnT, bnF, bnU, bnV] at hc)) | (refine aN (by omega) ?_) | (refine dN (by omega) ?_))
      all_goals exact fin_same trivial rfl
    · rw [decide_eq_false h2] at f2
      clear hf h1 h2
      repeat' (first | (simp only [go_sem, Int.reduceAdd, Int.reduceEq, Int.reduceLE, Int.reduceLT, Int.reduceMul, Int.reduceNeg, Int.reducePow, Int.reduceSub, Int.reduceToNat, Nat.reduceAdd, Nat.reduceBEq, Nat.reduceEqDiff, Nat.reduceLT, Nat.reduceLeDiff, Nat.reduceMul, Nat.reducePow, Nat.reduceSub, reduceCtorEq, reduceIte, IntKind.bits.eq_def, ti, tin]) | (simp (disch := omega) only [w64, wu64, wu32, Nat.min_eq_left]) | (with_reducible first | refine cF (f1) ?_ | refine dF (f1) ?_) | (with_reducible first | refine cF (f2) ?_ | refine dF (f2) ?_) | (with_reducible first | refine cF (awake04) ?_ | refine dF (awake04) ?_) | (refine aL ti_ok ?_) | (refine dL ti_ok ?_) | (refine dE (by kernel_rfl) ?_) | ((first | refine cC ?_ ?_ | refine gS ?_ ?_ | refine dS ?_ ?_) <;> intro hc <;> first | (exfalso; simp only [dcT, dcF, bnT, bnF, bnU, bnV] at hc; omega) | (simp only [hc]; try simp only [dcT, dcF, bnT, bnF, bnU, bnV] at hc)) | (refine aN (by omega) ?_) | (refine dN (by omega) ?_))
      all_goals exact fin_same trivial rfl
  · rw [decide_eq_false h1] at f1
    clear hf h1
    repeat' (first | (simp only [go_sem, Int.reduceAdd, Int.reduceEq, Int.reduceLE, Int.reduceLT, Int.reduceMul, Int.reduceNeg, Int.reducePow, Int.reduceSub, Int.reduceToNat, Nat.reduceAdd, Nat.reduceBEq, Nat.reduceEqDiff, Nat.reduceLT, Nat.reduceLeDiff, Nat.reduceMul, Nat.reducePow, Nat.reduceSub, reduceCtorEq, reduceIte, IntKind.bits.eq_def, ti, tin]) | (simp (disch := omega) only [w64, wu64, wu32, Nat.min_eq_left]) | (with_reducible first | refine cF (f1) ?_ | refine dF (f1) ?_) | (with_reducible first | refine cF (awake04) ?_ | refine dF (awake04) ?_) | (refine aL ti_ok ?_) | (refine dL ti_ok ?_) | (refine dE (by kernel_rfl) ?_) | ((first | refine cC ?_ ?_ | refine gS ?_ ?_ | refine dS ?_ ?_) <;> intro hc <;> first | (exfalso; simp only [dcT, dcF, bnT, bnF, bnU, bnV] at hc; omega) | (simp only [hc]; try simp only [dcT, dcF, bnT, bnF, bnU, bnV] at hc)) | (refine aN (by omega) ?_) | (refine dN (by omega) ?_))
    all_goals exact fin_same trivial rfl
theorem ord_bad (a b c : List (List RD)) (hl : a.length ≤ 9223372036854775807) (ha : argM a) (hl' : b.length ≤ 9223372036854775807) (hb : argM b) (hl'' : c.length ≤ 9223372036854775807) (hc : argM c) (hf : fewM a ∧ fewM b ∧ fewM c) (hn : ¬ ((ckM a = 0 ∧ ckM b = 0 ∧ ckM c = 0) ∧ a.length = b.length ∧ (a.getD 0 []).length = (b.getD 0 []).length ∧ c.length = (a.getD 0 []).length)) : CallOK Tryd.prog gl 9 [.sl 1 (mrows (a)), .sl 1 (mrows (b)), .sl 1 (mrows (c))] (.v (.bool (true))) := by
  refine call_ok (C := ⟨Tryd.prog, gl, ti, 171, false⟩) ti_ok mixed 3000 Tryd.call9 Tryd.func9 rfl Tryd.ntmps9 (by simp) byClL byCl ?_
  rw [Tryd.results9]
  have f1 := few_ok hl ha
  have f2 := few_ok hl' hb
  have f3 := few_ok hl'' hc
  rw [decide_eq_true hf.1] at f1
  rw [decide_eq_true hf.2.1] at f2
  rw [decide_eq_true hf.2.2] at f3
  have b1 := ref_Both a b (by have := hf.1.1.1; omega) (by have := hf.2.1.1.1; omega)
  have c1 := ref_CheckM c (by have := hf.2.2.1.1; omega)
  clear hf
  by_cases k1 : ckM a = 0
  · rw [if_pos k1] at b1
    by_cases k2 : ckM b = 0
    · rw [k2] at b1
      by_cases k3 : ckM c = 0
      · rw [k3] at c1
        obtain ⟨a1, a2, a3, a4, a5⟩ := ckM_ok k1
        obtain ⟨b1', b2, b3, b4, b5⟩ := ckM_ok k2
        obtain ⟨c1', c2, c3, c4, c5⟩ := ckM_ok k3
        have r0 := mrows_getD (a := a) (i := 0) a1
        have l0 : (vrows (a.getD 0 [])).length = (a.getD 0 []).length := vrows_length _
        have r1 := mrows_getD (a := b) (i := 0) b1'
        have l1 : (vrows (b.getD 0 [])).length = (b.getD 0 []).length := vrows_length _
        have hn2 : ¬ (a.length = b.length ∧ (a.getD 0 []).length = (b.getD 0 []).length ∧ c.length = (a.getD 0 []).length) := fun h => hn ⟨⟨k1, k2, k3⟩, h⟩
        clear hn a5 b5 c5
        generalize a.getD 0 [] = x at *
        generalize b.getD 0 [] = y at *
        repeat' (first | (simp only [go_sem, Int.reduceAdd, Int.reduceEq, Int.reduceLE, Int.reduceLT, Int.reduceMul, Int.reduceNeg, Int.reducePow, Int.reduceSub, Int.reduceToNat, Nat.reduceAdd, Nat.reduceBEq, Nat.reduceEqDiff, Nat.reduceLT, Nat.reduceLeDiff, Nat.reduceMul, Nat.reducePow, Nat.reduceSub, reduceCtorEq, reduceIte, IntKind.bits.eq_def, ti, tin, mrows_length, r0, l0, r1, l1]) | (simp (disch := omega) only [w64, wu64, wu32, Nat.min_eq_left]) | (with_reducible first | refine cF (f1) ?_ | refine dF (f1) ?_) | (with_reducible first | refine cF (f2) ?_ | refine dF (f2) ?_) | (with_reducible first | refine cF (f3) ?_ | refine dF (f3) ?_) | (with_reducible first | refine cF (b1) ?_ | refine dF (b1) ?_) | (with_reducible first | refine cF (c1) ?_ | refine dF (c1) ?_) | (with_reducible first | refine cF (awake04) ?_ | refine dF (awake04) ?_) | (refine aL ti_ok ?_) | (refine dL ti_ok ?_) | (refine dE (by kernel_rfl) ?_) | ((first | refine cC ?_ ?_ | refine gS ?_ ?_ | refine dS ?_ ?_) <;> intro hc <;> first | (exfalso; simp only [dcT, dcF, bnT, bnF, bnU, bnV] at hc; omega) | (simp only [hc]; try simp only [dcT, dcF, bnT, bnF, bnU, bnV] at hc)) | (refine aN (by omega) ?_) | (refine dN (by omega) ?_))
        all_goals exact fin_same trivial rfl
      · generalize ckM c = e at *
        repeat' (first | (simp only [go_sem, Int.reduceAdd, Int.reduceEq, Int.reduceLE, Int.reduceLT, Int.reduceMul, Int.reduceNeg, Int.reducePow, Int.reduceSub, Int.reduceToNat, Nat.reduceAdd, Nat.reduceBEq, Nat.reduceEqDiff, Nat.reduceLT, Nat.reduceLeDiff, Nat.reduceMul, Nat.reducePow, Nat.reduceSub, reduceCtorEq, reduceIte, IntKind.bits.eq_def, ti, tin]) | (simp (disch := omega) only [w64, wu64, wu32, Nat.min_eq_left]) | (with_reducible first | refine cF (f1) ?_ | refine dF (f1) ?_) | (with_reducible first | refine cF (f2) ?_ | refine dF (f2) ?_) | (with_reducible first | refine cF (f3) ?_ | refine dF (f3) ?_) | (with_reducible first | refine cF (b1) ?_ | refine dF (b1) ?_) | (with_reducible first | refine cF (c1) ?_ | refine dF (c1) ?_) | (with_reducible first | refine cF (awake04) ?_ | refine dF (awake04) ?_) | (refine aL ti_ok ?_) | (refine dL ti_ok ?_) | (refine dE (by kernel_rfl) ?_) | ((first | refine cC ?_ ?_ | refine gS ?_ ?_ | refine dS ?_ ?_) <;> intro hc <;> first | (exfalso; simp only [dcT, dcF, bnT, bnF, bnU, bnV] at hc; omega) | (simp only [hc]; try simp only [dcT, dcF, bnT, bnF, bnU, bnV] at hc)) | (refine aN (by omega) ?_) | (refine dN (by omega) ?_))
        all_goals exact fin_same trivial rfl
    · generalize ckM b = e at *
      repeat' (first | (simp only [go_sem, Int.reduceAdd, Int.reduceEq, Int.reduceLE, Int.reduceLT, Int.reduceMul, Int.reduceNeg, Int.reducePow, Int.reduceSub, Int.reduceToNat, Nat.reduceAdd, Nat.reduceBEq, Nat.reduceEqDiff, Nat.reduceLT, Nat.reduceLeDiff, Nat.reduceMul, Nat.reducePow, Nat.reduceSub, reduceCtorEq, reduceIte, IntKind.bits.eq_def, ti, tin]) | (simp (disch := omega) only [w64, wu64, wu32, Nat.min_eq_left]) | (with_reducible first | refine cF (f1) ?_ | refine dF (f1) ?_) | (with_reducible first | refine cF (f2) ?_ | refine dF (f2) ?_) | (with_reducible first | refine cF (f3) ?_ | refine dF (f3) ?_) | (with_reducible first | refine cF (b1) ?_ | refine dF (b1) ?_) | (with_reducible first | refine cF (awake04) ?_ | refine dF (awake04) ?_) | (refine aL ti_ok ?_) | (refine dL ti_ok ?_) | (refine dE (by kernel_rfl) ?_) | ((first | refine cC ?_ ?_ | refine gS ?_ ?_ | refine dS ?_ ?_) <;> intro hc <;> first | (exfalso; simp only [dcT, dcF, bnT, bnF, bnU, bnV] at hc; omega) | (simp only [hc]; try simp only [dcT, dcF, bnT, bnF, bnU, bnV] at hc)) | (refine aN (by omega) ?_) | (refine dN (by omega) ?_))
      all_goals exact fin_same trivial rfl
  · rw [if_neg k1] at b1
    generalize ckM a = e at *
    repeat' (first | (simp only [go_sem, Int.reduceAdd, Int.reduceEq, Int.reduceLE, Int.reduceLT, Int.reduceMul, Int.reduceNeg, Int.reducePow, Int.reduceSub, Int.reduceToNat, Nat.reduceAdd, Nat.reduceBEq, Nat.reduceEqDiff, Nat.reduceLT, Nat.reduceLeDiff, Nat.reduceMul, Nat.reducePow, Nat.reduceSub, reduceCtorEq, reduceIte, IntKind.bits.eq_def, ti, tin]) | (simp (disch := omega) only [w64, wu64, wu32, Nat.min_eq_left]) | (with_reducible first | refine cF (f1) ?_ | refine dF (f1) ?_) | (with_reducible first | refine cF (f2) ?_ | refine dF (f2) ?_) | (with_reducible first | refine cF (f3) ?_ | refine dF (f3) ?_) | (with_reducible first | refine cF (b1) ?_ | refine dF (b1) ?_) | (with_reducible first | refine cF (awake04) ?_ | refine dF (awake04) ?_) | (refine aL ti_ok ?_) | (refine dL ti_ok ?_) | (refine dE (by kernel_rfl) ?_) | ((first | refine cC ?_ ?_ | refine gS ?_ ?_ | refine dS ?_ ?_) <;> intro hc <;> first | (exfalso; simp only [dcT, dcF, bnT, bnF, bnU, bnV] at hc; omega) | (simp only [hc]; try simp only [dcT, dcF, bnT, bnF, bnU, bnV] at hc)) | (refine aN (by omega) ?_) | (refine dN (by omega) ?_))
    all_goals exact fin_same trivial rfl
theorem mg_absD' {n m p : Nat} {a : List (List Dy)} (ha : rect n m a) (hn : 0 < n) (ga : ∀ i j, Mg p (el a i j)) (i j : Nat) : Mg p (el (absD a) i j) := by
  by_cases hij : i < n ∧ j < m
  · rw [el_abs ha hn hij.1 hij.2]; exact Mg.abs (ga i j)
  · rw [el_out (rect_abs ha hn) hij]; exact Mg.zero _
theorem ord_in (a b c : List (List RD)) (n m l : Nat) (hl : a.length ≤ 9223372036854775807) (ha : argM a) (hl' : b.length ≤ 9223372036854775807) (hb : argM b) (hl'' : c.length ≤ 9223372036854775807) (hc : argM c) (hf : fewM a ∧ fewM b ∧ fewM c) (k1 : ckM a = 0) (k2 : ckM b = 0) (k3 : ckM c = 0) (n1 : a.length = n) (n2 : b.length = n) (n3 : c.length = m) (n4 : (a.getD 0 []).length = m) (n5 : (b.getD 0 []).length = m) (n6 : (c.getD 0 []).length = l) : CallOK Tryd.prog gl 9 [.sl 1 (mrows (a)), .sl 1 (mrows (b)), .sl 1 (mrows (c))] (.v (.bool (true))) := by
  refine call_ok (C := ⟨Tryd.prog, gl, ti, 171, false⟩) ti_ok mixed 3000 Tryd.call9 Tryd.func9 rfl Tryd.ntmps9 (by simp) byClL byCl ?_
  rw [Tryd.results9]
  have f1 := few_ok hl ha
  have f2 := few_ok hl' hb
  have f3 := few_ok hl'' hc
  rw [decide_eq_true hf.1] at f1
  rw [decide_eq_true hf.2.1] at f2
  rw [decide_eq_true hf.2.2] at f3
  have hl1 := hf.1.1.1
  have hl2 := hf.2.1.1.1
  have hl3 := hf.2.2.1.1
  have b1 := ref_Both a b (by omega) (by omega)
  rw [if_pos k1, k2] at b1
  have c1 := ref_CheckM c (by omega)
  rw [k3] at c1
  obtain ⟨oa, fa⟩ := few_okM ha hf.1
  obtain ⟨ob, fb⟩ := few_okM hb hf.2.1
  obtain ⟨oc, fc⟩ := few_okM hc hf.2.2
  obtain ⟨a1, a2, a3, a4, a5⟩ := ckM_ok k1
  obtain ⟨b1', b2, b3, b4, b5⟩ := ckM_ok k2
  obtain ⟨c1', c2, c3, c4, c5⟩ := ckM_ok k3
  have hn : 0 < n := by omega
  have hn8 : n ≤ 8 := by omega
  have hm : 0 < m := by omega
  have hm8 : m ≤ 8 := by omega
  have hl0 : 0 < l := by omega
  have hl8 : l ≤ 8 := by omega
  have ra := rect_of k1
  have rb := rect_of k2
  have rc := rect_of k3
  rw [n1, n4] at ra
  rw [n2, n5] at rb
  rw [n3, n6] at rc
  have ga := mg_el_raw oa
  have gb := mg_el_raw ob
  have gc := mg_el_raw oc
  have rd := rect_abs rc hm
  have gd := mg_absD' rc hm gc
  have rp := rect_mul ra rd hm
  have rq := rect_mul rb rd hm
  have gp : ∀ i j, Mg 200 (el (mulD (dyM a) (absD (dyM c))) i j) := fun i j => (mg_mulD ra rd hm ga gd i j).mono (by omega)
  have gq : ∀ i j, Mg 200 (el (mulD (dyM b) (absD (dyM c))) i j) := fun i j => (mg_mulD rb rd hm gb gd i j).mono (by omega)
  have m1 := mat_Le a b 96 (bothE_raw k1 k2 (decide_eq_true ⟨by omega, by omega⟩)) oa ob
  have m2 := mat_Le b a 96 (bothE_raw k2 k1 (decide_eq_true ⟨by omega, by omega⟩)) ob oa
  have m3 := mat_Abs c 96 k3 oc
  have m4 := mat_Mul a (crM (absD (dyM c))) 96 96 (by omega) (bothE_raw k1 (ckM_rect rd hm hm8 hl0 hl8) (decide_eq_true (by rw [n4, crM_len, rd.1]))) oa (okM_cr gd (by omega))
  have m5 := mat_Mul b (crM (absD (dyM c))) 96 96 (by omega) (bothE_raw k2 (ckM_rect rd hm hm8 hl0 hl8) (decide_eq_true (by rw [n5, crM_len, rd.1]))) ob (okM_cr gd (by omega))
  have m6 := mat_Le (crM (mulD (dyM a) (absD (dyM c)))) (crM (mulD (dyM b) (absD (dyM c)))) 200 (bothE_add rp rq hn hn8 hl0 hl8) (okM_cr gp (by omega)) (okM_cr gq (by omega))
  have m7 := mat_Text a 96 (by omega) k1 oa
  have m8 := mat_Text b 96 (by omega) k2 ob
  rw [dyM_cr] at m4 m5
  rw [dyM_cr, dyM_cr] at m6
  have e1 := text_eq ra rb
  have e2 : leD (dyM a) (dyM b) = true → leD (mulD (dyM a) (absD (dyM c))) (mulD (dyM b) (absD (dyM c))) = true := le_mulD ra rb rc hm fa fb fc (by omega)
  have r0 := mrows_getD (a := a) (i := 0) a1
  have l0 : (vrows (a.getD 0 [])).length = m := by rw [vrows_length, n4]
  have r1 := mrows_getD (a := b) (i := 0) b1'
  have l1 : (vrows (b.getD 0 [])).length = m := by rw [vrows_length, n5]
  clear hf oa ob oc fa fb fc ra rb rc rd rp rq ga gb gc gd gp gq a5 b5 c5 ha hb hc
  generalize leD (mulD (dyM a) (absD (dyM c))) (mulD (dyM b) (absD (dyM c))) = z3 at *
  generalize mulD (dyM a) (absD (dyM c)) = Z1 at *
  generalize mulD (dyM b) (absD (dyM c)) = Z2 at *
  generalize absD (dyM c) = Z3 at *
  generalize leD (dyM a) (dyM b) = x1 at *
  generalize leD (dyM b) (dyM a) = y1 at *
  generalize matText (dyM a) = T1 at *
  generalize matText (dyM b) = T2 at *
  generalize a.getD 0 [] = x at *
  generalize b.getD 0 [] = y at *
  cases x1 with
  | true =>
    have e3 := e2 rfl
    subst e3
    clear e2
    cases y1 with
    | true =>
      repeat' (first | (simp only [go_sem, Int.reduceAdd, Int.reduceEq, Int.reduceLE, Int.reduceLT, Int.reduceMul, Int.reduceNeg, Int.reducePow, Int.reduceSub, Int.reduceToNat, Nat.reduceAdd, Nat.reduceBEq, Nat.reduceEqDiff, Nat.reduceLT, Nat.reduceLeDiff, Nat.reduceMul, Nat.reducePow, Nat.reduceSub, reduceCtorEq, reduceIte, IntKind.bits.eq_def, ti, tin, mrows_length, r0, l0, r1, l1, n1, n2, n3, e1, Bool.true_and, Bool.and_true]) | (simp (disch := omega) only [w64, wu64, wu32, Nat.min_eq_left]) | (with_reducible first | refine cF (f1) ?_ | refine dF (f1) ?_) | (with_reducible first | refine cF (f2) ?_ | refine dF (f2) ?_) | (with_reducible first | refine cF (f3) ?_ | refine dF (f3) ?_) | (with_reducible first | refine cF (b1) ?_ | refine dF (b1) ?_) | (with_reducible first | refine cF (c1) ?_ | refine dF (c1) ?_) | (with_reducible first | refine cF (awake04) ?_ | refine dF (awake04) ?_) | (with_reducible first | refine cF (m1) ?_ | refine dF (m1) ?_) | (with_reducible first | refine cF (m2) ?_ | refine dF (m2) ?_) | (with_reducible first | refine cF (m3) ?_ | refine dF (m3) ?_) | (with_reducible first | refine cF (m4) ?_ | refine dF (m4) ?_) | (with_reducible first | refine cF (m5) ?_ | refine dF (m5) ?_) | (with_reducible first | refine cF (m6) ?_ | refine dF (m6) ?_) | (with_reducible first | refine cF (m7) ?_ | refine dF (m7) ?_) | (with_reducible first | refine cF (m8) ?_ | refine dF (m8) ?_) | (refine aL ti_ok ?_) | (refine dL ti_ok ?_) | (refine dE (by kernel_rfl) ?_) | ((first | refine cC ?_ ?_ | refine gS ?_ ?_ | refine dS ?_ ?_) <;> intro hc <;> first | (exfalso; simp only [dcT, dcF, bnT, bnF, bnU, bnV] at hc; omega) | (simp only [hc]; try simp only [dcT, dcF, bnT, bnF, bnU, bnV] at hc)) | (refine aN (by omega) ?_) | (refine dN (by omega) ?_))
      all_goals exact fin_same trivial rfl
    | false =>
      repeat' (first | (simp only [go_sem, Int.reduceAdd, Int.reduceEq, Int.reduceLE, Int.reduceLT, Int.reduceMul, Int.reduceNeg, Int.reducePow, Int.reduceSub, Int.reduceToNat, Nat.reduceAdd, Nat.reduceBEq, Nat.reduceEqDiff, Nat.reduceLT, Nat.reduceLeDiff, Nat.reduceMul, Nat.reducePow, Nat.reduceSub, reduceCtorEq, reduceIte, IntKind.bits.eq_def, ti, tin, mrows_length, r0, l0, r1, l1, n1, n2, n3, e1, Bool.true_and, Bool.and_false, Bool.and_true]) | (simp (disch := omega) only [w64, wu64, wu32, Nat.min_eq_left]) | (with_reducible first | refine cF (f1) ?_ | refine dF (f1) ?_) | (with_reducible first | refine cF (f2) ?_ | refine dF (f2) ?_) | (with_reducible first | refine cF (f3) ?_ | refine dF (f3) ?_) | (with_reducible first | refine cF (b1) ?_ | refine dF (b1) ?_) | (with_reducible first | refine cF (c1) ?_ | refine dF (c1) ?_) | (with_reducible first | refine cF (awake04) ?_ | refine dF (awake04) ?_) | (with_reducible first | refine cF (m1) ?_ | refine dF (m1) ?_) | (with_reducible first | refine cF (m2) ?_ | refine dF (m2) ?_) | (with_reducible first | refine cF (m3) ?_ | refine dF (m3) ?_) | (with_reducible first | refine cF (m4) ?_ | refine dF (m4) ?_) | (with_reducible first | refine cF (m5) ?_ | refine dF (m5) ?_) | (with_reducible first | refine cF (m6) ?_ | refine dF (m6) ?_) | (with_reducible first | refine cF (m7) ?_ | refine dF (m7) ?_) | (with_reducible first | refine cF (m8) ?_ | refine dF (m8) ?_) | (refine aL ti_ok ?_) | (refine dL ti_ok ?_) | (refine dE (by kernel_rfl) ?_) | ((first | refine cC ?_ ?_ | refine gS ?_ ?_ | refine dS ?_ ?_) <;> intro hc <;> first | (exfalso; simp only [dcT, dcF, bnT, bnF, bnU, bnV] at hc; omega) | (simp only [hc]; try simp only [dcT, dcF, bnT, bnF, bnU, bnV] at hc)) | (refine aN (by omega) ?_) | (refine dN (by omega) ?_))
      all_goals exact fin_same trivial rfl
  | false =>
    clear e2
    repeat' (first | (simp only [go_sem, Int.reduceAdd, Int.reduceEq, Int.reduceLE, Int.reduceLT, Int.reduceMul, Int.reduceNeg, Int.reducePow, Int.reduceSub, Int.reduceToNat, Nat.reduceAdd, Nat.reduceBEq, Nat.reduceEqDiff, Nat.reduceLT, Nat.reduceLeDiff, Nat.reduceMul, Nat.reducePow, Nat.reduceSub, reduceCtorEq, reduceIte, IntKind.bits.eq_def, ti, tin, mrows_length, r0, l0, r1, l1, n1, n2, n3, e1, Bool.false_and]) | (simp (disch := omega) only [w64, wu64, wu32, Nat.min_eq_left]) | (with_reducible first | refine cF (f1) ?_ | refine dF (f1) ?_) | (with_reducible first | refine cF (f2) ?_ | refine dF (f2) ?_) | (with_reducible first | refine cF (f3) ?_ | refine dF (f3) ?_) | (with_reducible first | refine cF (b1) ?_ | refine dF (b1) ?_) | (with_reducible first | refine cF (c1) ?_ | refine dF (c1) ?_) | (with_reducible first | refine cF (awake04) ?_ | refine dF (awake04) ?_) | (with_reducible first | refine cF (m1) ?_ | refine dF (m1) ?_) | (with_reducible first | refine cF (m2) ?_ | refine dF (m2) ?_) | (with_reducible first | refine cF (m3) ?_ | refine dF (m3) ?_) | (with_reducible first | refine cF (m4) ?_ | refine dF (m4) ?_) | (with_reducible first | refine cF (m5) ?_ | refine dF (m5) ?_) | (with_reducible first | refine cF (m6) ?_ | refine dF (m6) ?_) | (with_reducible first | refine cF (m7) ?_ | refine dF (m7) ?_) | (with_reducible first | refine cF (m8) ?_ | refine dF (m8) ?_) | (refine aL ti_ok ?_) | (refine dL ti_ok ?_) | (refine dE (by kernel_rfl) ?_) | ((first | refine cC ?_ ?_ | refine gS ?_ ?_ | refine dS ?_ ?_) <;> intro hc <;> first | (exfalso; simp only [dcT, dcF, bnT, bnF, bnU, bnV] at hc; omega) | (simp only [hc]; try simp only [dcT, dcF, bnT, bnF, bnU, bnV] at hc)) | (refine aN (by omega) ?_) | (refine dN (by omega) ?_))
    all_goals exact fin_same trivial rfl
theorem orders_law (r r' r'' : List (List AV)) (hr : r.length ≤ maxLen) (fr : ∀ x ∈ r, FitL [.sl [.bool, .sl [.int .u32], .int .i64]] x) (hr' : r'.length ≤ maxLen) (fr' : ∀ x ∈ r', FitL [.sl [.bool, .sl [.int .u32], .int .i64]] x) (hr'' : r''.length ≤ maxLen) (fr'' : ∀ x ∈ r'', FitL [.sl [.bool, .sl [.int .u32], .int .i64]] x) :
    CallOK Tryd.prog gl 9 [.sl 1 r, .sl 1 r', .sl 1 r''] (.v (.bool true)) := by
  unfold maxLen at hr hr' hr''
  obtain ⟨a, ha, rfl, h1⟩ := fit_mrows fr
  obtain ⟨b, hb, rfl, h2⟩ := fit_mrows fr'
  obtain ⟨c, hc, rfl, h3⟩ := fit_mrows fr''
  have hl : a.length ≤ 9223372036854775807 := by omega
  have hl' : b.length ≤ 9223372036854775807 := by omega
  have hl'' : c.length ≤ 9223372036854775807 := by omega
  by_cases hf : fewM a ∧ fewM b ∧ fewM c
  · by_cases hn : (ckM a = 0 ∧ ckM b = 0 ∧ ckM c = 0) ∧ a.length = b.length ∧ (a.getD 0 []).length = (b.getD 0 []).length ∧ c.length = (a.getD 0 []).length
    · obtain ⟨⟨k1, k2, k3⟩, e1, e2, e3⟩ := hn
      exact ord_in a b c a.length (a.getD 0 []).length (c.getD 0 []).length hl ha hl' hb hl'' hc hf k1 k2 k3 rfl e1.symm e3 rfl e2.symm rfl
    · exact ord_bad a b c hl ha hl' hb hl'' hc hf hn
  · exact ord_few a b c hl ha hl' hb hl'' hc hf
end Go.Proofs.YtdjgckcninibhaaDoor
