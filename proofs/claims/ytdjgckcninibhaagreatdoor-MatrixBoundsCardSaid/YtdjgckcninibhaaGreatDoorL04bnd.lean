/- The statement MatrixBounds: its code returns true. -/
import Derived.Test.YtdjgckcninibhaaGreatDoorL04rings
set_option linter.unusedSimpArgs false
set_option linter.unusedVariables false
set_option linter.deprecated false
namespace Go.Proofs.YtdjgckcninibhaaGreatDoor
open Go Go.Ax
set_option maxRecDepth 100000
set_option maxHeartbeats 4000000

theorem bnd_few (a b : List (List RD)) (hl : a.length ≤ 9223372036854775807) (ha : argM a) (hl' : b.length ≤ 9223372036854775807) (hb : argM b) (hf : ¬ (fewM a ∧ fewM b)) : CallOK Tryz.prog gl 12 [.sl 1 (mrows (a)), .sl 1 (mrows (b))] (.v (.bool (true))) := by
  refine call_ok (C := ⟨Tryz.prog, gl, ti, 144, false⟩) ti_ok mixed 3000 Tryz.call12 Tryz.func12 rfl Tryz.ntmps12 (by simp) byClL byCl ?_
  rw [Tryz.results12]
  have f1 := few_ok hl ha
  have f2 := few_ok hl' hb
  by_cases h1 : fewM a
  · rw [decide_eq_true h1] at f1
    rw [decide_eq_false (fun h => hf ⟨h1, h⟩)] at f2
    clear hf h1
    repeat' (first | (simp only [go_sem, Int.reduceAdd, Int.reduceEq, Int.reduceLE, Int.reduceLT, Int.reduceMul, Int.reduceNeg, Int.reducePow, Int.reduceSub, Int.reduceToNat, Nat.reduceAdd, Nat.reduceBEq, Nat.reduceEqDiff, Nat.reduceLT, Nat.reduceLeDiff, Nat.reduceMul, Nat.reducePow, Nat.reduceSub, reduceCtorEq, reduceIte, IntKind.bits.eq_def, ti, tin]) | (simp (disch := omega) only [w64, wu64, wu32, Nat.min_eq_left]) | (with_reducible first | refine cF (f1) ?_ | refine dF (f1) ?_) | (with_reducible first | refine cF (f2) ?_ | refine dF (f2) ?_) | (with_reducible first | refine cF (awake04) ?_ | refine dF (awake04) ?_) | (refine aL ti_ok ?_) | (refine dL ti_ok ?_) | (refine dE (by kernel_rfl) ?_) | ((first | refine cC ?_ ?_ | refine gS ?_ ?_ | refine dS ?_ ?_) <;> intro hc <;> first | (exfalso; simp only [dcT, dcF, bnT, bnF, bnU, bnV] at hc; omega) | (simp only [hc]; try simp only [dcT, dcF, bnT, bnF, bnU, bnV] at hc)) | (refine aN (by omega) ?_) | (refine dN (by omega) ?_))
    all_goals exact fin_same trivial rfl
  · rw [decide_eq_false h1] at f1
    clear hf h1
    repeat' (first | (simp only [go_sem, Int.reduceAdd, Int.reduceEq, Int.reduceLE, Int.reduceLT, Int.reduceMul, Int.reduceNeg, Int.reducePow, Int.reduceSub, Int.reduceToNat, Nat.reduceAdd, Nat.reduceBEq, Nat.reduceEqDiff, Nat.reduceLT, Nat.reduceLeDiff, Nat.reduceMul, Nat.reducePow, Nat.reduceSub, reduceCtorEq, reduceIte, IntKind.bits.eq_def, ti, tin]) | (simp (disch := omega) only [w64, wu64, wu32, Nat.min_eq_left]) | (with_reducible first | refine cF (f1) ?_ | refine dF (f1) ?_) | (with_reducible first | refine cF (awake04) ?_ | refine dF (awake04) ?_) | (refine aL ti_ok ?_) | (refine dL ti_ok ?_) | (refine dE (by kernel_rfl) ?_) | ((first | refine cC ?_ ?_ | refine gS ?_ ?_ | refine dS ?_ ?_) <;> intro hc <;> first | (exfalso; simp only [dcT, dcF, bnT, bnF, bnU, bnV] at hc; omega) | (simp only [hc]; try simp only [dcT, dcF, bnT, bnF, bnU, bnV] at hc)) | (refine aN (by omega) ?_) | (refine dN (by omega) ?_))
    all_goals exact fin_same trivial rfl
theorem bnd_bad (a b : List (List RD)) (hl : a.length ≤ 9223372036854775807) (ha : argM a) (hl' : b.length ≤ 9223372036854775807) (hb : argM b) (hf : fewM a ∧ fewM b) (hn : ¬ ((ckM a = 0 ∧ ckM b = 0) ∧ (a.getD 0 []).length = b.length)) : CallOK Tryz.prog gl 12 [.sl 1 (mrows (a)), .sl 1 (mrows (b))] (.v (.bool (true))) := by
  refine call_ok (C := ⟨Tryz.prog, gl, ti, 144, false⟩) ti_ok mixed 3000 Tryz.call12 Tryz.func12 rfl Tryz.ntmps12 (by simp) byClL byCl ?_
  rw [Tryz.results12]
  have f1 := few_ok hl ha
  have f2 := few_ok hl' hb
  rw [decide_eq_true hf.1] at f1
  rw [decide_eq_true hf.2] at f2
  have b1 := ref_Both a b (by have := hf.1.1.1; omega) (by have := hf.2.1.1; omega)
  clear hf
  by_cases k1 : ckM a = 0
  · rw [if_pos k1] at b1
    by_cases k2 : ckM b = 0
    · rw [k2] at b1
      obtain ⟨a1, a2, a3, a4, a5⟩ := ckM_ok k1
      obtain ⟨b1', b2, b3, b4, b5⟩ := ckM_ok k2
      have r0 := mrows_getD (a := a) (i := 0) a1
      have l0 : (vrows (a.getD 0 [])).length = (a.getD 0 []).length := vrows_length _
      have hn2 : ¬ (a.getD 0 []).length = b.length := fun h => hn ⟨⟨k1, k2⟩, h⟩
      clear hn a5 b5
      generalize a.getD 0 [] = x at *
      repeat' (first | (simp only [go_sem, Int.reduceAdd, Int.reduceEq, Int.reduceLE, Int.reduceLT, Int.reduceMul, Int.reduceNeg, Int.reducePow, Int.reduceSub, Int.reduceToNat, Nat.reduceAdd, Nat.reduceBEq, Nat.reduceEqDiff, Nat.reduceLT, Nat.reduceLeDiff, Nat.reduceMul, Nat.reducePow, Nat.reduceSub, reduceCtorEq, reduceIte, IntKind.bits.eq_def, ti, tin, mrows_length, r0, l0]) | (simp (disch := omega) only [w64, wu64, wu32, Nat.min_eq_left]) | (with_reducible first | refine cF (f1) ?_ | refine dF (f1) ?_) | (with_reducible first | refine cF (f2) ?_ | refine dF (f2) ?_) | (with_reducible first | refine cF (b1) ?_ | refine dF (b1) ?_) | (with_reducible first | refine cF (awake04) ?_ | refine dF (awake04) ?_) | (refine aL ti_ok ?_) | (refine dL ti_ok ?_) | (refine dE (by kernel_rfl) ?_) | ((first | refine cC ?_ ?_ | refine gS ?_ ?_ | refine dS ?_ ?_) <;> intro hc <;> first | (exfalso; simp only [dcT, dcF, bnT, bnF, bnU, bnV] at hc; omega) | (simp only [hc]; try simp only [dcT, dcF, bnT, bnF, bnU, bnV] at hc)) | (refine aN (by omega) ?_) | (refine dN (by omega) ?_))
      all_goals exact fin_same trivial rfl
    · generalize ckM b = e at *
      repeat' (first | (simp only [go_sem, Int.reduceAdd, Int.reduceEq, Int.reduceLE, Int.reduceLT, Int.reduceMul, Int.reduceNeg, Int.reducePow, Int.reduceSub, Int.reduceToNat, Nat.reduceAdd, Nat.reduceBEq, Nat.reduceEqDiff, Nat.reduceLT, Nat.reduceLeDiff, Nat.reduceMul, Nat.reducePow, Nat.reduceSub, reduceCtorEq, reduceIte, IntKind.bits.eq_def, ti, tin]) | (simp (disch := omega) only [w64, wu64, wu32, Nat.min_eq_left]) | (with_reducible first | refine cF (f1) ?_ | refine dF (f1) ?_) | (with_reducible first | refine cF (f2) ?_ | refine dF (f2) ?_) | (with_reducible first | refine cF (b1) ?_ | refine dF (b1) ?_) | (with_reducible first | refine cF (awake04) ?_ | refine dF (awake04) ?_) | (refine aL ti_ok ?_) | (refine dL ti_ok ?_) | (refine dE (by kernel_rfl) ?_) | ((first | refine cC ?_ ?_ | refine gS ?_ ?_ | refine dS ?_ ?_) <;> intro hc <;> first | (exfalso; simp only [dcT, dcF, bnT, bnF, bnU, bnV] at hc; omega) | (simp only [hc]; try simp only [dcT, dcF, bnT, bnF, bnU, bnV] at hc)) | (refine aN (by omega) ?_) | (refine dN (by omega) ?_))
      all_goals exact fin_same trivial rfl
  · rw [if_neg k1] at b1
    generalize ckM a = e at *
    repeat' (first | (simp only [go_sem, Int.reduceAdd, Int.reduceEq, Int.reduceLE, Int.reduceLT, Int.reduceMul, Int.reduceNeg, Int.reducePow, Int.reduceSub, Int.reduceToNat, Nat.reduceAdd, Nat.reduceBEq, Nat.reduceEqDiff, Nat.reduceLT, Nat.reduceLeDiff, Nat.reduceMul, Nat.reducePow, Nat.reduceSub, reduceCtorEq, reduceIte, IntKind.bits.eq_def, ti, tin]) | (simp (disch := omega) only [w64, wu64, wu32, Nat.min_eq_left]) | (with_reducible first | refine cF (f1) ?_ | refine dF (f1) ?_) | (with_reducible first | refine cF (f2) ?_ | refine dF (f2) ?_) | (with_reducible first | refine cF (b1) ?_ | refine dF (b1) ?_) | (with_reducible first | refine cF (awake04) ?_ | refine dF (awake04) ?_) | (refine aL ti_ok ?_) | (refine dL ti_ok ?_) | (refine dE (by kernel_rfl) ?_) | ((first | refine cC ?_ ?_ | refine gS ?_ ?_ | refine dS ?_ ?_) <;> intro hc <;> first | (exfalso; simp only [dcT, dcF, bnT, bnF, bnU, bnV] at hc; omega) | (simp only [hc]; try simp only [dcT, dcF, bnT, bnF, bnU, bnV] at hc)) | (refine aN (by omega) ?_) | (refine dN (by omega) ?_))
    all_goals exact fin_same trivial rfl
theorem mg_absD {n m p : Nat} {a : List (List Dy)} (ha : rect n m a) (hn : 0 < n) (ga : ∀ i j, Mg p (el a i j)) (i j : Nat) : Mg p (el (absD a) i j) := by
  by_cases hij : i < n ∧ j < m
  · rw [el_abs ha hn hij.1 hij.2]; exact Mg.abs (ga i j)
  · rw [el_out (rect_abs ha hn) hij]; exact Mg.zero _
theorem mg_normD {n m p : Nat} {a : List (List Dy)} (ha : rect n m a) (ga : ∀ i j, Mg p (el a i j)) : Mg (p + m) (normD a) := by
  unfold normD
  refine mg_maxD fun i hi => ?_
  rw [ha.1] at hi
  unfold rowN
  rw [ha.2 i hi]
  exact mg_sumD fun k _ => Mg.abs (ga i k)
theorem bnd_in (a b : List (List RD)) (n m l : Nat) (hl : a.length ≤ 9223372036854775807) (ha : argM a) (hl' : b.length ≤ 9223372036854775807) (hb : argM b) (hf : fewM a ∧ fewM b) (k1 : ckM a = 0) (k2 : ckM b = 0) (n1 : a.length = n) (n2 : (a.getD 0 []).length = m) (n3 : b.length = m) (n4 : (b.getD 0 []).length = l) : CallOK Tryz.prog gl 12 [.sl 1 (mrows (a)), .sl 1 (mrows (b))] (.v (.bool (true))) := by
  refine call_ok (C := ⟨Tryz.prog, gl, ti, 144, false⟩) ti_ok mixed 3000 Tryz.call12 Tryz.func12 rfl Tryz.ntmps12 (by simp) byClL byCl ?_
  rw [Tryz.results12]
  have f1 := few_ok hl ha
  have f2 := few_ok hl' hb
  rw [decide_eq_true hf.1] at f1
  rw [decide_eq_true hf.2] at f2
  obtain ⟨a1, a2, a3, a4, a5⟩ := ckM_ok k1
  obtain ⟨b1', b2, b3, b4, b5⟩ := ckM_ok k2
  have b1 := ref_Both a b (by omega) (by omega)
  rw [if_pos k1, k2] at b1
  obtain ⟨oa, fa⟩ := few_okM ha hf.1
  obtain ⟨ob, fb⟩ := few_okM hb hf.2
  have ra := rect_of k1
  have rb := rect_of k2
  rw [n1, n2] at ra
  rw [n3, n4] at rb
  have hn : 0 < n := by omega
  have hm : 0 < m := by omega
  have hl0 : 0 < l := by omega
  have hn8 : n ≤ 8 := by omega
  have hm8 : m ≤ 8 := by omega
  have hl8 : l ≤ 8 := by omega
  have ga := mg_el_raw oa
  have gb := mg_el_raw ob
  have rab := rect_mul ra rb hm
  have gab : ∀ i j, Mg 200 (el (mulD (dyM a) (dyM b)) i j) := fun i j => (mg_mulD ra rb hm ga gb i j).mono (by omega)
  have raa := rect_abs ra hn
  have rba := rect_abs rb hm
  have gaa := mg_absD ra hn ga
  have gba := mg_absD rb hm gb
  have rq := rect_mul raa rba hm
  have gq : ∀ i j, Mg 200 (el (mulD (absD (dyM a)) (absD (dyM b))) i j) := fun i j => (mg_mulD raa rba hm gaa gba i j).mono (by omega)
  have rd := rect_abs rab hn
  have gd := mg_absD rab hn gab
  have m1 := mat_Mul a b 96 96 (by omega) (bothE_raw k1 k2 (decide_eq_true (by omega))) oa ob
  have m2 := mat_Abs (crM (mulD (dyM a) (dyM b))) 200 (ckM_rect rab hn hn8 hl0 hl8) (okM_cr gab (by omega))
  have m3 := mat_Abs a 96 k1 oa
  have m4 := mat_Abs b 96 k2 ob
  have m5 := mat_Mul (crM (absD (dyM a))) (crM (absD (dyM b))) 96 96 (by omega) (bothE_mul raa rba hn hn8 hm hm8 hl0 hl8) (okM_cr gaa (by omega)) (okM_cr gba (by omega))
  have m6 := mat_Le (crM (absD (mulD (dyM a) (dyM b)))) (crM (mulD (absD (dyM a)) (absD (dyM b)))) 200 (bothE_add rd rq hn hn8 hl0 hl8) (okM_cr gd (by omega)) (okM_cr gq (by omega))
  have m7 := mat_Norm a 96 (by omega) k1 oa
  have m8 := mat_Norm b 96 (by omega) k2 ob
  have m9 := mat_Norm (crM (mulD (dyM a) (dyM b))) 200 (by omega) (ckM_rect rab hn hn8 hl0 hl8) (okM_cr gab (by omega))
  rw [dyM_cr] at m2 m9
  rw [dyM_cr, dyM_cr] at m5
  rw [dyM_cr, dyM_cr, abs_mul_le ra rb hn hm fa fb (by omega)] at m6
  have ga1 := mg_normD ra ga
  have gb1 := mg_normD rb gb
  have gp1 := mg_normD rab gab
  have mu := ref_Mul _ _ _ _ _ _ _ _ (ga1.arg) (gb1.arg)
  have gm : Mg _ ((normD (dyM a)).mul (normD (dyM b))) := Mg.mul ga1 gb1
  have cc := ref_Cmp _ _ _ _ _ _ _ _ (gp1.arg) (gm.arg)
  have hle := norm_mulD ra rb hm fa fb (by omega)
  have r0 := mrows_getD (a := a) (i := 0) a1
  have l0 : (vrows (a.getD 0 [])).length = m := by rw [vrows_length, n2]
  clear hf oa ob fa fb ra rb rab raa rba rq rd ga gb gab gaa gba gq gd ga1 gb1 gp1 gm a5 b5 ha hb
  generalize hc : (normD (mulD (dyM a) (dyM b))).cmp ((normD (dyM a)).mul (normD (dyM b))) = cv at *
  clear hc
  generalize (normD (dyM a)).mul (normD (dyM b)) = N4 at *
  generalize normD (mulD (dyM a) (dyM b)) = N3 at *
  generalize normD (dyM a) = N1 at *
  generalize normD (dyM b) = N2 at *
  generalize mulD (absD (dyM a)) (absD (dyM b)) = Z5 at *
  generalize absD (mulD (dyM a) (dyM b)) = Z4 at *
  generalize mulD (dyM a) (dyM b) = Z3 at *
  generalize absD (dyM a) = Z1 at *
  generalize absD (dyM b) = Z2 at *
  generalize a.getD 0 [] = x at *
  repeat' (first | (simp only [go_sem, Int.reduceAdd, Int.reduceEq, Int.reduceLE, Int.reduceLT, Int.reduceMul, Int.reduceNeg, Int.reducePow, Int.reduceSub, Int.reduceToNat, Nat.reduceAdd, Nat.reduceBEq, Nat.reduceEqDiff, Nat.reduceLT, Nat.reduceLeDiff, Nat.reduceMul, Nat.reducePow, Nat.reduceSub, reduceCtorEq, reduceIte, IntKind.bits.eq_def, ti, tin, mrows_length, r0, l0, n1, n3]) | (simp (disch := omega) only [w64, wu64, wu32, Nat.min_eq_left]) | (with_reducible first | refine cF (f1) ?_ | refine dF (f1) ?_) | (with_reducible first | refine cF (f2) ?_ | refine dF (f2) ?_) | (with_reducible first | refine cF (b1) ?_ | refine dF (b1) ?_) | (with_reducible first | refine cF (awake04) ?_ | refine dF (awake04) ?_) | (with_reducible first | refine cF (m1) ?_ | refine dF (m1) ?_) | (with_reducible first | refine cF (m2) ?_ | refine dF (m2) ?_) | (with_reducible first | refine cF (m3) ?_ | refine dF (m3) ?_) | (with_reducible first | refine cF (m4) ?_ | refine dF (m4) ?_) | (with_reducible first | refine cF (m5) ?_ | refine dF (m5) ?_) | (with_reducible first | refine cF (m6) ?_ | refine dF (m6) ?_) | (with_reducible first | refine cF (m7) ?_ | refine dF (m7) ?_) | (with_reducible first | refine cF (m8) ?_ | refine dF (m8) ?_) | (with_reducible first | refine cF (m9) ?_ | refine dF (m9) ?_) | (with_reducible first | refine cF (mu) ?_ | refine dF (mu) ?_) | (with_reducible first | refine cF (cc) ?_ | refine dF (cc) ?_) | (refine aL ti_ok ?_) | (refine dL ti_ok ?_) | (refine dE (by kernel_rfl) ?_) | ((first | refine cC ?_ ?_ | refine gS ?_ ?_ | refine dS ?_ ?_) <;> intro hc <;> first | (exfalso; simp only [dcT, dcF, bnT, bnF, bnU, bnV] at hc; omega) | (simp only [hc]; try simp only [dcT, dcF, bnT, bnF, bnU, bnV] at hc)) | (refine aN (by omega) ?_) | (refine dN (by omega) ?_))
  all_goals first | exact fin_same trivial rfl | exact fin_same trivial (congrArg (fun b => AV.v (Value.bool b)) (decide_eq_true (by omega)))
theorem bounds_law (r r' : List (List AV)) (hr : r.length ≤ maxLen) (fr : ∀ x ∈ r, FitL [.sl [.bool, .sl [.int .u32], .int .i64]] x) (hr' : r'.length ≤ maxLen) (fr' : ∀ x ∈ r', FitL [.sl [.bool, .sl [.int .u32], .int .i64]] x) :
    CallOK Tryz.prog gl 12 [.sl 1 r, .sl 1 r'] (.v (.bool true)) := by
  unfold maxLen at hr hr'
  obtain ⟨a, ha, rfl, h1⟩ := fit_mrows fr
  obtain ⟨b, hb, rfl, h2⟩ := fit_mrows fr'
  have hl : a.length ≤ 9223372036854775807 := by omega
  have hl' : b.length ≤ 9223372036854775807 := by omega
  by_cases hf : fewM a ∧ fewM b
  · by_cases hn : (ckM a = 0 ∧ ckM b = 0) ∧ (a.getD 0 []).length = b.length
    · exact bnd_in a b _ _ _ hl ha hl' hb hf hn.1.1 hn.1.2 rfl hn.2 rfl rfl
    · exact bnd_bad a b hl ha hl' hb hf hn
  · exact bnd_few a b hl ha hl' hb hf
end Go.Proofs.YtdjgckcninibhaaGreatDoor
