/- The statement MatrixRings: its code returns true. -/
import Derived.Test.YtdjgckcninibhaaDoorL04d
set_option linter.unusedSimpArgs false
set_option linter.unusedVariables false
set_option linter.deprecated false
namespace Go.Proofs.YtdjgckcninibhaaDoor
open Go Go.Ax
set_option maxRecDepth 100000
set_option maxHeartbeats 4000000

theorem rings_few (a b c : List (List RD)) (hl : a.length ≤ 9223372036854775807) (ha : argM a) (hl' : b.length ≤ 9223372036854775807) (hb : argM b) (hl'' : c.length ≤ 9223372036854775807) (hc : argM c) (hf : ¬ (fewM a ∧ fewM b ∧ fewM c)) : CallOK Tryd.prog gl 8 [.sl 1 (mrows (a)), .sl 1 (mrows (b)), .sl 1 (mrows (c))] (.v (.bool (true))) := by
  refine call_ok (C := ⟨Tryd.prog, gl, ti, 226, false⟩) ti_ok mixed 3000 Tryd.call8 Tryd.func8 rfl Tryd.ntmps8 (by simp) byClL byCl ?_
  rw [Tryd.results8]
  have f1 := few_ok hl ha
  have f2 := few_ok hl' hb
  have f3 := few_ok hl'' hc
  by_cases h1 : fewM a
  · rw [decide_eq_true h1] at f1
    by_cases h2 : fewM b
    · rw [decide_eq_true h2] at f2
      rw [decide_eq_false (fun h => hf ⟨h1, h2, h⟩)] at f3
      clear hf h1 h2
      repeat' (first | (simp only [go_sem, Int.reduceAdd, Int.reduceEq, Int.reduceLE, Int.reduceLT, Int.reduceMul, Int.reduceNeg, Int.reducePow, Int.reduceSub, Int.reduceToNat, Nat.reduceAdd, Nat.reduceBEq, Nat.reduceEqDiff, Nat.reduceLT, Nat.reduceLeDiff, Nat.reduceMul, Nat.reducePow, Nat.reduceSub, reduceCtorEq, reduceIte, IntKind.bits.eq_def, ti, tin]) | (simp (disch := omega) only [w64, wu64, wu32, Nat.min_eq_left]) | (with_reducible first | refine cF (f1) ?_ | refine dF (f1) ?_) | (with_reducible first | refine cF (f2) ?_ | refine dF (f2) ?_) | (with_reducible first | refine cF (f3) ?_ | refine dF (f3) ?_) | (with_reducible first | refine cF (awake04) ?_ | refine dF (awake04) ?_) | (refine aL ti_ok ?_) | (refine dL ti_ok ?_) | (refine dE (by kernel_rfl) ?_) | ((first | refine cC ?_ ?_ | refine gS ?_ ?_ | refine dS ?_ ?_) <;> intro hc <;> first | (exfalso; simp only [dcT, dcF, bnT, bnF, bnU, bnV] at hc; omega) | (simp only [hc]; try simp only [dcT, dcF, bnT, bnF, bnU, bnV] at hc)) | (refine aN (by omega) ?_) | (refine dN (by omega) ?_))
      all_goals exact fin_same trivial rfl
    · rw [decide_eq_false h2] at f2
      clear hf h1 h2
      repeat' (first | (simp only [go_sem, Int.reduceAdd, Int.reduceEq, Int.reduceLE, Int.reduceLT, Int.reduceMul, Int.reduceNeg, Int.reducePow, Int.reduceSub, Int.reduceToNat, Nat.reduceAdd, Nat.reduceBEq, Nat.reduceEqDiff, Nat.reduceLT, Nat.reduceLeDiff, Nat.reduceMul, Nat.reducePow, Nat.reduceSub, reduceCtorEq, reduceIte, IntKind.bits.eq_def, ti, tin]) | (simp (disch := omega) only [w64, wu64, wu32, Nat.min_eq_left]) | (with_reducible first | refine cF (f1) ?_ | refine dF (f1) ?_) | (with_reducible first | refine cF (f2) ?_ | refine dF (f2) ?_) | (with_reducible first | refine cF (awake04) ?_ | refine dF (awake04) ?_) | (refine aL ti_ok ?_) | (refine dL ti_ok ?_) | (refine dE (by kernel_rfl) ?_) | ((first | refine cC ?_ ?_ | refine gS ?_ ?_ | refine dS ?_ ?_) <;> intro hc <;> first | (exfalso; simp only [dcT, dcF, bnT, bnF, bnU, bnV] at hc; omega) | (simp only [hc]; try simp only [dcT, dcF, bnT, bnF, bnU, bnV] at hc)) | (refine aN (by omega) ?_) | (refine dN (by omega) ?_))
      all_goals exact fin_same trivial rfl
  · rw [decide_eq_false h1] at f1
    clear hf h1
    repeat' (first | (simp only [go_sem, Int.reduceAdd, Int.reduceEq, Int.reduceLE, Int.reduceLT, Int.reduceMul, Int.reduceNeg, Int.reducePow, Int.reduceSub, Int.reduceToNat, Nat.reduceAdd, Nat.reduceBEq, Nat.reduceEqDiff, Nat.reduceLT, Nat.reduceLeDiff, Nat.reduceMul, Nat.reducePow, Nat.reduceSub, reduceCtorEq, reduceIte, IntKind.bits.eq_def, ti, tin]) | (simp (disch := omega) only [w64, wu64, wu32, Nat.min_eq_left]) | (with_reducible first | refine cF (f1) ?_ | refine dF (f1) ?_) | (with_reducible first | refine cF (awake04) ?_ | refine dF (awake04) ?_) | (refine aL ti_ok ?_) | (refine dL ti_ok ?_) | (refine dE (by kernel_rfl) ?_) | ((first | refine cC ?_ ?_ | refine gS ?_ ?_ | refine dS ?_ ?_) <;> intro hc <;> first | (exfalso; simp only [dcT, dcF, bnT, bnF, bnU, bnV] at hc; omega) | (simp only [hc]; try simp only [dcT, dcF, bnT, bnF, bnU, bnV] at hc)) | (refine aN (by omega) ?_) | (refine dN (by omega) ?_))
    all_goals exact fin_same trivial rfl
theorem rings_bad (a b c : List (List RD)) (hl : a.length ≤ 9223372036854775807) (ha : argM a) (hl' : b.length ≤ 9223372036854775807) (hb : argM b) (hl'' : c.length ≤ 9223372036854775807) (hc : argM c) (hf : fewM a ∧ fewM b ∧ fewM c) (hn : ¬ ((ckM a = 0 ∧ ckM b = 0 ∧ ckM c = 0) ∧ a.length = (a.getD 0 []).length ∧ b.length = (b.getD 0 []).length ∧ c.length = (c.getD 0 []).length ∧ a.length = b.length ∧ b.length = c.length)) : CallOK Tryd.prog gl 8 [.sl 1 (mrows (a)), .sl 1 (mrows (b)), .sl 1 (mrows (c))] (.v (.bool (true))) := by
  refine call_ok (C := ⟨Tryd.prog, gl, ti, 226, false⟩) ti_ok mixed 3000 Tryd.call8 Tryd.func8 rfl Tryd.ntmps8 (by simp) byClL byCl ?_
  rw [Tryd.results8]
  have f1 := few_ok hl ha
  have f2 := few_ok hl' hb
  have f3 := few_ok hl'' hc
  rw [decide_eq_true hf.1] at f1
  rw [decide_eq_true hf.2.1] at f2
  rw [decide_eq_true hf.2.2] at f3
  have b1 := ref_Both a b (by have := hf.1.1.1; omega) (by have := hf.2.1.1.1; omega)
  have c1 := ref_CheckM c (by have := hf.2.2.1.1; omega)
  clear hf
  by_cases k1 : ckM a = 0
  · rw [if_pos k1] at b1
    by_cases k2 : ckM b = 0
    · rw [k2] at b1
      by_cases k3 : ckM c = 0
      · rw [k3] at c1
        obtain ⟨a1, a2, a3, a4, a5⟩ := ckM_ok k1
        obtain ⟨b1', b2, b3, b4, b5⟩ := ckM_ok k2
        obtain ⟨c1', c2, c3, c4, c5⟩ := ckM_ok k3
        have r0 := mrows_getD (a := a) (i := 0) a1
        have l0 : (vrows (a.getD 0 [])).length = (a.getD 0 []).length := vrows_length _
        have r1 := mrows_getD (a := b) (i := 0) b1'
        have l1 : (vrows (b.getD 0 [])).length = (b.getD 0 []).length := vrows_length _
        have r2 := mrows_getD (a := c) (i := 0) c1'
        have l2 : (vrows (c.getD 0 [])).length = (c.getD 0 []).length := vrows_length _
        have hn2 : ¬ (a.length = (a.getD 0 []).length ∧ b.length = (b.getD 0 []).length ∧ c.length = (c.getD 0 []).length ∧ a.length = b.length ∧ b.length = c.length) := fun h => hn ⟨⟨k1, k2, k3⟩, h⟩
        clear hn a5 b5 c5
        generalize a.getD 0 [] = x at *
        generalize b.getD 0 [] = y at *
        generalize c.getD 0 [] = z at *
        repeat' (first | (simp only [go_sem, Int.reduceAdd, Int.reduceEq, Int.reduceLE, Int.reduceLT, Int.reduceMul, Int.reduceNeg, Int.reducePow, Int.reduceSub, Int.reduceToNat, Nat.reduceAdd, Nat.reduceBEq, Nat.reduceEqDiff, Nat.reduceLT, Nat.reduceLeDiff, Nat.reduceMul, Nat.reducePow, Nat.reduceSub, reduceCtorEq, reduceIte, IntKind.bits.eq_def, ti, tin, mrows_length, r0, l0, r1, l1, r2, l2]) | (simp (disch := omega) only [w64, wu64, wu32, Nat.min_eq_left]) | (with_reducible first | refine cF (f1) ?_ | refine dF (f1) ?_) | (with_reducible first | refine cF (f2) ?_ | refine dF (f2) ?_) | (with_reducible first | refine cF (f3) ?_ | refine dF (f3) ?_) | (with_reducible first | refine cF (b1) ?_ | refine dF (b1) ?_) | (with_reducible first | refine cF (c1) ?_ | refine dF (c1) ?_) | (with_reducible first | refine cF (awake04) ?_ | refine dF (awake04) ?_) | (refine aL ti_ok ?_) | (refine dL ti_ok ?_) | (refine dE (by kernel_rfl) ?_) | ((first | refine cC ?_ ?_ | refine gS ?_ ?_ | refine dS ?_ ?_) <;> intro hc <;> first | (exfalso; simp only [dcT, dcF, bnT, bnF, bnU, bnV] at hc; omega) | (simp only [hc]; try simp only [dcT, dcF, bnT, bnF, bnU, bnV] at hc)) | (refine aN (by omega) ?_) | (refine dN (by omega) ?_))
        all_goals exact fin_same trivial rfl
      · generalize ckM c = e at *
        repeat' (first | (simp only [go_sem, Int.reduceAdd, Int.reduceEq, Int.reduceLE, Int.reduceLT, Int.reduceMul, Int.reduceNeg, Int.reducePow, Int.reduceSub, Int.reduceToNat, Nat.reduceAdd, Nat.reduceBEq, Nat.reduceEqDiff, Nat.reduceLT, Nat.reduceLeDiff, Nat.reduceMul, Nat.reducePow, Nat.reduceSub, reduceCtorEq, reduceIte, IntKind.bits.eq_def, ti, tin]) | (simp (disch := omega) only [w64, wu64, wu32, Nat.min_eq_left]) | (with_reducible first | refine cF (f1) ?_ | refine dF (f1) ?_) | (with_reducible first | refine cF (f2) ?_ | refine dF (f2) ?_) | (with_reducible first | refine cF (f3) ?_ | refine dF (f3) ?_) | (with_reducible first | refine cF (b1) ?_ | refine dF (b1) ?_) | (with_reducible first | refine cF (c1) ?_ | refine dF (c1) ?_) | (with_reducible first | refine cF (awake04) ?_ | refine dF (awake04) ?_) | (refine aL ti_ok ?_) | (refine dL ti_ok ?_) | (refine dE (by kernel_rfl) ?_) | ((first | refine cC ?_ ?_ | refine gS ?_ ?_ | refine dS ?_ ?_) <;> intro hc <;> first | (exfalso; simp only [dcT, dcF, bnT, bnF, bnU, bnV] at hc; omega) | (simp only [hc]; try simp only [dcT, dcF, bnT, bnF, bnU, bnV] at hc)) | (refine aN (by omega) ?_) | (refine dN (by omega) ?_))
        all_goals exact fin_same trivial rfl
    · generalize ckM b = e at *
      repeat' (first | (simp only [go_sem, Int.reduceAdd, Int.reduceEq, Int.reduceLE, Int.reduceLT, Int.reduceMul, Int.reduceNeg, Int.reducePow, Int.reduceSub, Int.reduceToNat, Nat.reduceAdd, Nat.reduceBEq, Nat.reduceEqDiff, Nat.reduceLT, Nat.reduceLeDiff, Nat.reduceMul, Nat.reducePow, Nat.reduceSub, reduceCtorEq, reduceIte, IntKind.bits.eq_def, ti, tin]) | (simp (disch := omega) only [w64, wu64, wu32, Nat.min_eq_left]) | (with_reducible first | refine cF (f1) ?_ | refine dF (f1) ?_) | (with_reducible first | refine cF (f2) ?_ | refine dF (f2) ?_) | (with_reducible first | refine cF (f3) ?_ | refine dF (f3) ?_) | (with_reducible first | refine cF (b1) ?_ | refine dF (b1) ?_) | (with_reducible first | refine cF (awake04) ?_ | refine dF (awake04) ?_) | (refine aL ti_ok ?_) | (refine dL ti_ok ?_) | (refine dE (by kernel_rfl) ?_) | ((first | refine cC ?_ ?_ | refine gS ?_ ?_ | refine dS ?_ ?_) <;> intro hc <;> first | (exfalso; simp only [dcT, dcF, bnT, bnF, bnU, bnV] at hc; omega) | (simp only [hc]; try simp only [dcT, dcF, bnT, bnF, bnU, bnV] at hc)) | (refine aN (by omega) ?_) | (refine dN (by omega) ?_))
      all_goals exact fin_same trivial rfl
  · rw [if_neg k1] at b1
    generalize ckM a = e at *
    repeat' (first | (simp only [go_sem, Int.reduceAdd, Int.reduceEq, Int.reduceLE, Int.reduceLT, Int.reduceMul, Int.reduceNeg, Int.reducePow, Int.reduceSub, Int.reduceToNat, Nat.reduceAdd, Nat.reduceBEq, Nat.reduceEqDiff, Nat.reduceLT, Nat.reduceLeDiff, Nat.reduceMul, Nat.reducePow, Nat.reduceSub, reduceCtorEq, reduceIte, IntKind.bits.eq_def, ti, tin]) | (simp (disch := omega) only [w64, wu64, wu32, Nat.min_eq_left]) | (with_reducible first | refine cF (f1) ?_ | refine dF (f1) ?_) | (with_reducible first | refine cF (f2) ?_ | refine dF (f2) ?_) | (with_reducible first | refine cF (f3) ?_ | refine dF (f3) ?_) | (with_reducible first | refine cF (b1) ?_ | refine dF (b1) ?_) | (with_reducible first | refine cF (awake04) ?_ | refine dF (awake04) ?_) | (refine aL ti_ok ?_) | (refine dL ti_ok ?_) | (refine dE (by kernel_rfl) ?_) | ((first | refine cC ?_ ?_ | refine gS ?_ ?_ | refine dS ?_ ?_) <;> intro hc <;> first | (exfalso; simp only [dcT, dcF, bnT, bnF, bnU, bnV] at hc; omega) | (simp only [hc]; try simp only [dcT, dcF, bnT, bnF, bnU, bnV] at hc)) | (refine aN (by omega) ?_) | (refine dN (by omega) ?_))
    all_goals exact fin_same trivial rfl
theorem bothE_add {n m : Nat} {a b : List (List Dy)} (ha : rect n m a) (hb : rect n m b) (hn : 0 < n) (hn8 : n ≤ 8) (hm : 0 < m) (hm8 : m ≤ 8) : bothE (crM a) (crM b) (fitAdd (crM a) (crM b)) = 0 := by
  unfold bothE fitAdd
  rw [if_pos (ckM_rect ha hn hn8 hm hm8), if_pos (ckM_rect hb hn hn8 hm hm8), if_pos (decide_eq_true ⟨by rw [crM_len, crM_len, ha.1, hb.1], by rw [crM_get, crM_get, List.length_map, List.length_map, ha.2 0 hn, hb.2 0 hn]⟩)]
/-- The raw matrices' contracts, with the canonical ones in their place. -/
theorem bothE_raw {a b : List (List RD)} {z : Bool} (ha : ckM a = 0) (hb : ckM b = 0) (h : z = true) : bothE a b z = 0 := by
  unfold bothE; rw [if_pos ha, if_pos hb, if_pos h]
theorem mg_addD {n m p : Nat} {a b : List (List Dy)} (ha : rect n m a) (hn : 0 < n) (ga : ∀ i j, Mg p (el a i j)) (gb : ∀ i j, Mg p (el b i j)) (i j : Nat) : Mg (p + 1) (el (addD a b) i j) := by
  by_cases hij : i < n ∧ j < m
  · rw [el_add ha hn hij.1 hij.2]; exact Mg.add (ga i j) (gb i j)
  · rw [el_out (rect_add ha hn) hij]; exact Mg.zero _
theorem mg_appD {n m p q : Nat} {a : List (List Dy)} {x : List Dy} (ha : rect n m a) (ga : ∀ i j, Mg p (el a i j)) (gx : ∀ i, Mg q (x.getD i Dy.zero)) (i : Nat) : Mg (p + q + m) ((appD a x).getD i Dy.zero) := by
  by_cases hi : i < n
  · rw [el_app ha hi]; exact mg_dot (fun k _ => ga i k) (fun k _ => gx k)
  · rw [List.getD, List.getElem?_eq_none (by rw [app_len, ha.1]; omega)]; exact Mg.zero _
theorem rings_in (a b c : List (List RD)) (n : Nat) (hl : a.length ≤ 9223372036854775807) (ha : argM a) (hl' : b.length ≤ 9223372036854775807) (hb : argM b) (hl'' : c.length ≤ 9223372036854775807) (hc : argM c) (hf : fewM a ∧ fewM b ∧ fewM c) (k1 : ckM a = 0) (k2 : ckM b = 0) (k3 : ckM c = 0) (n1 : a.length = n) (n2 : b.length = n) (n3 : c.length = n) (n4 : (a.getD 0 []).length = n) (n5 : (b.getD 0 []).length = n) (n6 : (c.getD 0 []).length = n) : CallOK Tryd.prog gl 8 [.sl 1 (mrows (a)), .sl 1 (mrows (b)), .sl 1 (mrows (c))] (.v (.bool (true))) := by
  refine call_ok (C := ⟨Tryd.prog, gl, ti, 226, false⟩) ti_ok mixed 3000 Tryd.call8 Tryd.func8 rfl Tryd.ntmps8 (by simp) byClL byCl ?_
  rw [Tryd.results8]
  have f1 := few_ok hl ha
  have f2 := few_ok hl' hb
  have f3 := few_ok hl'' hc
  rw [decide_eq_true hf.1] at f1
  rw [decide_eq_true hf.2.1] at f2
  rw [decide_eq_true hf.2.2] at f3
  have hl1 := hf.1.1.1
  have hl2 := hf.2.1.1.1
  have hl3 := hf.2.2.1.1
  have b1 := ref_Both a b (by omega) (by omega)
  rw [if_pos k1, k2] at b1
  have c1 := ref_CheckM c (by omega)
  rw [k3] at c1
  obtain ⟨oa, fa⟩ := few_okM ha hf.1
  obtain ⟨ob, fb⟩ := few_okM hb hf.2.1
  obtain ⟨oc, fc⟩ := few_okM hc hf.2.2
  obtain ⟨a1, a2, a3, a4, a5⟩ := ckM_ok k1
  obtain ⟨b1', b2, b3, b4, b5⟩ := ckM_ok k2
  obtain ⟨c1', c2, c3, c4, c5⟩ := ckM_ok k3
  have hn : 0 < n := by omega
  have hn8 : n ≤ 8 := by omega
  have ra := rect_of k1
  have rb := rect_of k2
  have rc := rect_of k3
  rw [n1, n4] at ra
  rw [n2, n5] at rb
  rw [n3, n6] at rc
  have ga := mg_el_raw oa
  have gb := mg_el_raw ob
  have gc := mg_el_raw oc
  have rab := rect_mul ra rb hn
  have rbc := rect_mul rb rc hn
  have rac := rect_mul ra rc hn
  have rs := rect_add (b := dyM c) rb hn
  have gab : ∀ i j, Mg 200 (el (mulD (dyM a) (dyM b)) i j) := fun i j => (mg_mulD ra rb hn ga gb i j).mono (by omega)
  have gbc : ∀ i j, Mg 200 (el (mulD (dyM b) (dyM c)) i j) := fun i j => (mg_mulD rb rc hn gb gc i j).mono (by omega)
  have gac : ∀ i j, Mg 200 (el (mulD (dyM a) (dyM c)) i j) := fun i j => (mg_mulD ra rc hn ga gc i j).mono (by omega)
  have gs : ∀ i j, Mg 97 (el (addD (dyM b) (dyM c)) i j) := mg_addD rb hn gb gc
  have m1 := mat_Mul a b 96 96 (by omega) (bothE_raw k1 k2 (decide_eq_true (by omega))) oa ob
  have m2 := mat_Mul b c 96 96 (by omega) (bothE_raw k2 k3 (decide_eq_true (by omega))) ob oc
  have m3 := mat_Mul (crM (mulD (dyM a) (dyM b))) c 200 96 (by omega) (bothE_raw (ckM_rect rab hn hn8 hn hn8) k3 (decide_eq_true (by rw [crM_get, List.length_map, rab.2 0 hn, n3]))) (okM_cr gab (by omega)) oc
  have m4 := mat_Mul a (crM (mulD (dyM b) (dyM c))) 96 200 (by omega) (bothE_raw k1 (ckM_rect rbc hn hn8 hn hn8) (decide_eq_true (by rw [n4, crM_len, rbc.1]))) oa (okM_cr gbc (by omega))
  have s5 := mat_Add b c 96 (bothE_raw k2 k3 (decide_eq_true ⟨by omega, by omega⟩)) ob oc
  have m6 := mat_Mul a (crM (addD (dyM b) (dyM c))) 96 97 (by omega) (bothE_raw k1 (ckM_rect rs hn hn8 hn hn8) (decide_eq_true (by rw [n4, crM_len, rs.1]))) oa (okM_cr gs (by omega))
  have m7 := mat_Mul a c 96 96 (by omega) (bothE_raw k1 k3 (decide_eq_true (by omega))) oa oc
  have s8 := mat_Add (crM (mulD (dyM a) (dyM b))) (crM (mulD (dyM a) (dyM c))) 200 (bothE_add rab rac hn hn8 hn hn8) (okM_cr gab (by omega)) (okM_cr gac (by omega))
  have v9 := mat_Apply b (c.getD 0 []) 96 96 (by omega) k2 (by omega) ob (oc 0)
  have gx : ∀ i, Mg 96 ((dyV (c.getD 0 [])).getD i Dy.zero) := fun i => by rw [dyV_get]; exact (oc 0 i).2
  have gu : ∀ i, Mg 200 ((appD (dyM b) (dyV (c.getD 0 []))).getD i Dy.zero) := fun i => (mg_appD rb gb gx i).mono (by omega)
  have lu : (appD (dyM b) (dyV (c.getD 0 []))).length = n := by rw [app_len, dyM_len, n2]
  have v10 := mat_Apply a ((appD (dyM b) (dyV (c.getD 0 []))).map can) 96 200 (by omega) k1 (by rw [List.length_map, lu, n4]) oa (okV_can gu (by omega))
  have v11 := mat_Apply (crM (mulD (dyM a) (dyM b))) (c.getD 0 []) 200 96 (by omega) (ckM_rect rab hn hn8 hn hn8) (by rw [crM_get, List.length_map, rab.2 0 hn, n6]) (okM_cr gab (by omega)) (oc 0)
  rw [dyM_cr, mul_assocD ra rb rc hn hn fa fb fc (by omega)] at m3
  rw [dyM_cr] at m4
  rw [dyM_cr, mul_addD ra rb rc hn hn fa fb fc (by omega)] at m6
  rw [dyM_cr, dyM_cr] at s8
  have fx : fineV 60 (dyV (c.getD 0 [])) := fun i => by rw [dyV_get, ← dyM_el]; exact fc 0 i
  rw [dyV_can, app_mulD ra rb hn fa fb fx (by omega)] at v10
  rw [dyM_cr] at v11
  have rx := rect_mul ra rbc hn
  have q1 := same_mat rx (by omega) (by omega) (by omega) (mg_mulD ra rbc hn ga gbc)
  have q2 := same_mat (rect_add (b := mulD (dyM a) (dyM c)) rab hn) (by omega) (by omega) (by omega) (mg_addD rab hn gab gac)
  have q3 := same_vec (n := n) (by rw [app_len, rab.1]) (by omega) (by omega) (mg_appD rab gab gx)
  have r0 := mrows_getD (a := a) (i := 0) a1
  have l0 : (vrows (a.getD 0 [])).length = n := by rw [vrows_length, n4]
  have r1 := mrows_getD (a := b) (i := 0) b1'
  have l1 : (vrows (b.getD 0 [])).length = n := by rw [vrows_length, n5]
  have r2 := mrows_getD (a := c) (i := 0) c1'
  have l2 : (vrows (c.getD 0 [])).length = n := by rw [vrows_length, n6]
  clear hf oa ob oc fa fb fc ra rb rc rab rbc rac rs ga gb gc gab gbc gac gs gx gu lu fx rx a5 b5 c5 ha hb hc
  generalize appD (mulD (dyM a) (dyM b)) (dyV (c.getD 0 [])) = V2 at *
  generalize (appD (dyM b) (dyV (c.getD 0 []))).map can = V1 at *
  generalize addD (mulD (dyM a) (dyM b)) (mulD (dyM a) (dyM c)) = Z1 at *
  generalize mulD (dyM a) (mulD (dyM b) (dyM c)) = Z2 at *
  generalize addD (dyM b) (dyM c) = Z3 at *
  generalize mulD (dyM a) (dyM b) = Z4 at *
  generalize mulD (dyM b) (dyM c) = Z5 at *
  generalize mulD (dyM a) (dyM c) = Z6 at *
  generalize a.getD 0 [] = x at *
  generalize b.getD 0 [] = y at *
  generalize c.getD 0 [] = z at *
  repeat' (first | (simp only [go_sem, Int.reduceAdd, Int.reduceEq, Int.reduceLE, Int.reduceLT, Int.reduceMul, Int.reduceNeg, Int.reducePow, Int.reduceSub, Int.reduceToNat, Nat.reduceAdd, Nat.reduceBEq, Nat.reduceEqDiff, Nat.reduceLT, Nat.reduceLeDiff, Nat.reduceMul, Nat.reducePow, Nat.reduceSub, reduceCtorEq, reduceIte, IntKind.bits.eq_def, ti, tin, mrows_length, n1, n2, n3, r0, l0, r1, l1, r2, l2]) | (simp (disch := omega) only [w64, wu64, wu32, Nat.min_eq_left]) | (with_reducible first | refine cF (f1) ?_ | refine dF (f1) ?_) | (with_reducible first | refine cF (f2) ?_ | refine dF (f2) ?_) | (with_reducible first | refine cF (f3) ?_ | refine dF (f3) ?_) | (with_reducible first | refine cF (b1) ?_ | refine dF (b1) ?_) | (with_reducible first | refine cF (c1) ?_ | refine dF (c1) ?_) | (with_reducible first | refine cF (awake04) ?_ | refine dF (awake04) ?_) | (with_reducible first | refine cF (m1) ?_ | refine dF (m1) ?_) | (with_reducible first | refine cF (m2) ?_ | refine dF (m2) ?_) | (with_reducible first | refine cF (m3) ?_ | refine dF (m3) ?_) | (with_reducible first | refine cF (m4) ?_ | refine dF (m4) ?_) | (with_reducible first | refine cF (s5) ?_ | refine dF (s5) ?_) | (with_reducible first | refine cF (m6) ?_ | refine dF (m6) ?_) | (with_reducible first | refine cF (m7) ?_ | refine dF (m7) ?_) | (with_reducible first | refine cF (s8) ?_ | refine dF (s8) ?_) | (with_reducible first | refine cF (v9) ?_ | refine dF (v9) ?_) | (with_reducible first | refine cF (v10) ?_ | refine dF (v10) ?_) | (with_reducible first | refine cF (v11) ?_ | refine dF (v11) ?_) | (with_reducible first | refine cF (q1) ?_ | refine dF (q1) ?_) | (with_reducible first | refine cF (q2) ?_ | refine dF (q2) ?_) | (with_reducible first | refine cF (q3) ?_ | refine dF (q3) ?_) | (refine aL ti_ok ?_) | (refine dL ti_ok ?_) | (refine dE (by kernel_rfl) ?_) | ((first | refine cC ?_ ?_ | refine gS ?_ ?_ | refine dS ?_ ?_) <;> intro hc <;> first | (exfalso; simp only [dcT, dcF, bnT, bnF, bnU, bnV] at hc; omega) | (simp only [hc]; try simp only [dcT, dcF, bnT, bnF, bnU, bnV] at hc)) | (refine aN (by omega) ?_) | (refine dN (by omega) ?_))
  all_goals exact fin_same trivial rfl
theorem rings_law (r r' r'' : List (List AV)) (hr : r.length ≤ maxLen) (fr : ∀ x ∈ r, FitL [.sl [.bool, .sl [.int .u32], .int .i64]] x) (hr' : r'.length ≤ maxLen) (fr' : ∀ x ∈ r', FitL [.sl [.bool, .sl [.int .u32], .int .i64]] x) (hr'' : r''.length ≤ maxLen) (fr'' : ∀ x ∈ r'', FitL [.sl [.bool, .sl [.int .u32], .int .i64]] x) :
    CallOK Tryd.prog gl 8 [.sl 1 r, .sl 1 r', .sl 1 r''] (.v (.bool true)) := by
  unfold maxLen at hr hr' hr''
  obtain ⟨a, ha, rfl, h1⟩ := fit_mrows fr
  obtain ⟨b, hb, rfl, h2⟩ := fit_mrows fr'
  obtain ⟨c, hc, rfl, h3⟩ := fit_mrows fr''
  have hl : a.length ≤ 9223372036854775807 := by omega
  have hl' : b.length ≤ 9223372036854775807 := by omega
  have hl'' : c.length ≤ 9223372036854775807 := by omega
  by_cases hf : fewM a ∧ fewM b ∧ fewM c
  · by_cases hn : (ckM a = 0 ∧ ckM b = 0 ∧ ckM c = 0) ∧ a.length = (a.getD 0 []).length ∧ b.length = (b.getD 0 []).length ∧ c.length = (c.getD 0 []).length ∧ a.length = b.length ∧ b.length = c.length
    · obtain ⟨⟨k1, k2, k3⟩, e1, e2, e3, e4, e5⟩ := hn
      exact rings_in a b c a.length hl ha hl' hb hl'' hc hf k1 k2 k3 rfl e4.symm (by omega) e1.symm (by omega) (by omega)
    · exact rings_bad a b c hl ha hl' hb hl'' hc hf hn
  · exact rings_few a b c hl ha hl' hb hl'' hc hf
end Go.Proofs.YtdjgckcninibhaaDoor
