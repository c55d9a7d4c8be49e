/- The statement MatrixComputes: its code returns true. -/
import Derived.Test.YtdjgckcninibhaaGreatDoorL04e
import Derived.Test.YtdjgckcninibhaaGreatDoorMatB
set_option linter.unusedSimpArgs false
set_option linter.unusedVariables false
set_option linter.deprecated false
namespace Go.Proofs.YtdjgckcninibhaaGreatDoor
open Go Go.Ax
set_option maxRecDepth 100000
set_option maxHeartbeats 4000000

theorem same_nilV : CallOK Tryz.prog gl 46 [.v (.slice none 0 0), .v (.slice none 0 0)] (.v (.bool true)) := by
  have h := same_vec (n := 0) (k := 0) (a := []) rfl (by omega) (by omega) (fun i => Mg.zero _)
  exact h.le (.cons (Le.nil 3) (.cons (Le.nil 3) .nil)) (fun x hx => by
    simp only [List.mem_cons, List.not_mem_nil, or_false] at hx
    rcases hx with rfl | rfl <;> exact Cl.v _)
theorem add_pair {a b : List (List RD)} (ha : argM a) (hb : argM b) (fa : fewM a) (fb : fewM b) : ∃ v e, CallOK Tryz.prog gl 94 [.sl 1 (mrows a), .sl 1 (mrows b)] (.tup [v, .v (eV e)]) ∧ CallOK Tryz.prog gl 96 [.sl 1 (mrows a), .sl 1 (mrows b)] (.tup [v, .v (.int .i64 e)]) ∧ CallOK Tryz.prog gl 102 [v, v] (.v (.bool true)) := by
  have la := fa.1.1
  have lb := fb.1.1
  by_cases h : bothE a b (fitAdd a b) = 0
  · obtain ⟨oa, _⟩ := few_okM ha fa
    obtain ⟨ob, _⟩ := few_okM hb fb
    obtain ⟨h1, h2, h3⟩ := bothE_ok h
    obtain ⟨a1, a2, a3, a4, a5⟩ := ckM_ok h1
    have ra := rect_of h1
    exact ⟨_, 0, mat_Add a b 96 h oa ob, refm_Add a b 96 h oa ob, same_mat (rect_add (b := dyM b) ra a1) (by omega) (by omega) (by omega) (mg_addD ra a1 (mg_el_raw oa) (mg_el_raw ob))⟩
  · exact ⟨_, _, mat_Add_err a b (by omega) (by omega) h, refm_Add_err a b (by omega) (by omega) h, same_nil⟩
theorem mul_pair {a b : List (List RD)} (ha : argM a) (hb : argM b) (fa : fewM a) (fb : fewM b) : ∃ v e, CallOK Tryz.prog gl 92 [.sl 1 (mrows a), .sl 1 (mrows b)] (.tup [v, .v (eV e)]) ∧ CallOK Tryz.prog gl 97 [.sl 1 (mrows a), .sl 1 (mrows b)] (.tup [v, .v (.int .i64 e)]) ∧ CallOK Tryz.prog gl 102 [v, v] (.v (.bool true)) := by
  have la := fa.1.1
  have lb := fb.1.1
  by_cases h : bothE a b (fitMul a b) = 0
  · obtain ⟨oa, _⟩ := few_okM ha fa
    obtain ⟨ob, _⟩ := few_okM hb fb
    obtain ⟨h1, h2, h3⟩ := bothE_ok h
    obtain ⟨a1, a2, a3, a4, a5⟩ := ckM_ok h1
    obtain ⟨b1, b2, b3, b4, b5⟩ := ckM_ok h2
    have h4 : (a.getD 0 []).length = b.length := of_decide_eq_true h3
    have ra := rect_of h1
    have rb := rect_of h2
    rw [h4] at ra
    exact ⟨_, 0, mat_Mul a b 96 96 (by omega) h oa ob, refm_Mul a b 96 96 (by omega) h oa ob, same_mat (rect_mul ra rb b1) (by omega) (by omega) (by omega) (mg_mulD ra rb b1 (mg_el_raw oa) (mg_el_raw ob))⟩
  · exact ⟨_, _, mat_Mul_err a b (by omega) (by omega) h, refm_Mul_err a b (by omega) (by omega) h, same_nil⟩
theorem abs_pair {a : List (List RD)} (ha : argM a) (fa : fewM a) : ∃ v e, CallOK Tryz.prog gl 88 [.sl 1 (mrows a)] (.tup [v, .v (eV e)]) ∧ CallOK Tryz.prog gl 98 [.sl 1 (mrows a)] (.tup [v, .v (.int .i64 e)]) ∧ CallOK Tryz.prog gl 102 [v, v] (.v (.bool true)) := by
  have la := fa.1.1
  by_cases h : ckM a = 0
  · obtain ⟨oa, _⟩ := few_okM ha fa
    obtain ⟨a1, a2, a3, a4, a5⟩ := ckM_ok h
    have ra := rect_of h
    exact ⟨_, 0, mat_Abs a 96 h oa, refm_Abs a 96 h oa, same_mat (rect_abs ra a1) (by omega) (by omega) (by omega) (mg_absD ra a1 (mg_el_raw oa))⟩
  · exact ⟨_, _, mat_Abs_err a (by omega) h, refm_Abs_err a (by omega) h, same_nil⟩
theorem app_pair {a : List (List RD)} {x : List RD} (ha : argM a) (hx : argM [x]) (fa : fewM a) (fx : fewM [x]) : ∃ v e, CallOK Tryz.prog gl 87 [.sl 1 (mrows a), .sl 3 (vrows x)] (.tup [v, .v (eV e)]) ∧ CallOK Tryz.prog gl 99 [.sl 1 (mrows a), .sl 3 (vrows x)] (.tup [v, .v (.int .i64 e)]) ∧ CallOK Tryz.prog gl 46 [v, v] (.v (.bool true)) := by
  have la := fa.1.1
  by_cases h : ckM a = 0
  · by_cases hs : x.length = (a.getD 0 []).length
    · obtain ⟨oa, _⟩ := few_okM ha fa
      obtain ⟨ox', _⟩ := few_okM hx fx
      have ox : okV 96 x := ox' 0
      obtain ⟨a1, a2, a3, a4, a5⟩ := ckM_ok h
      have ra := rect_of h
      exact ⟨_, 0, mat_Apply a x 96 96 (by omega) h hs oa ox, refm_Apply a x 96 96 (by omega) h hs oa ox, same_vec (n := a.length) (k := 96 + 96 + (a.getD 0 []).length) (by rw [app_len, dyM_len]) (by omega) (by omega) (mg_appD ra (mg_el_raw oa) (fun i => by rw [dyV_get]; exact (ox i).2))⟩
    · exact ⟨_, 11, mat_Apply_shape a x h hs, refm_Apply_shape a x h hs, same_nilV⟩
  · exact ⟨_, _, mat_Apply_err a x (by omega) h, refm_Apply_err a x (by omega) h, same_nilV⟩
theorem le_pair {a b : List (List RD)} (ha : argM a) (hb : argM b) (fa : fewM a) (fb : fewM b) : ∃ z e, CallOK Tryz.prog gl 93 [.sl 1 (mrows a), .sl 1 (mrows b)] (.tup [.v (.bool z), .v (eV e)]) ∧ CallOK Tryz.prog gl 100 [.sl 1 (mrows a), .sl 1 (mrows b)] (.tup [.v (.bool z), .v (.int .i64 e)]) := by
  have la := fa.1.1
  have lb := fb.1.1
  by_cases h : bothE a b (fitAdd a b) = 0
  · obtain ⟨oa, _⟩ := few_okM ha fa
    obtain ⟨ob, _⟩ := few_okM hb fb
    exact ⟨_, 0, mat_Le a b 96 h oa ob, refm_Le a b 96 h oa ob⟩
  · exact ⟨_, _, mat_Le_err a b (by omega) (by omega) h, refm_Le_err a b (by omega) (by omega) h⟩
theorem norm_pair {a : List (List RD)} (ha : argM a) (fa : fewM a) : ∃ z e, CallOK Tryz.prog gl 89 [.sl 1 (mrows a)] (.tup [.agg (crow z), .v (eV e)]) ∧ CallOK Tryz.prog gl 42 [.sl 1 (mrows a)] (.tup [.agg (crow z), .v (.int .i64 e)]) ∧ CallOK Tryz.prog gl 74 [.agg (crow z), .agg (crow z)] (.v (.bool true)) := by
  have la := fa.1.1
  have sm : ∀ (k : Nat) (z : Dy), k ≤ 100000 → Mg k z → CallOK Tryz.prog gl 74 [.agg (crow z), .agg (crow z)] (.v (.bool true)) := fun k z hk g => by
    have hl := (Arg.of g (by omega)).len
    have := ref_Same z z (by omega) (by omega)
    rwa [decide_eq_true rfl] at this
  by_cases h : ckM a = 0
  · obtain ⟨oa, _⟩ := few_okM ha fa
    obtain ⟨a1, a2, a3, a4, a5⟩ := ckM_ok h
    have ra := rect_of h
    exact ⟨_, 0, mat_Norm a 96 (by omega) h oa, refm_Norm a 96 (by omega) h oa, sm (96 + (a.getD 0 []).length) _ (by omega) (mg_normD ra (mg_el_raw oa))⟩
  · exact ⟨_, _, mat_Norm_err a (by omega) h, refm_Norm_err a (by omega) h, sm 0 _ (by omega) (Mg.zero 0)⟩
theorem text_pair {a : List (List RD)} (ha : argM a) (fa : fewM a) : ∃ z e, CallOK Tryz.prog gl 95 [.sl 1 (mrows a)] (.tup [.v (.string z), .v (eV e)]) ∧ CallOK Tryz.prog gl 101 [.sl 1 (mrows a)] (.tup [.v (.string z), .v (.int .i64 e)]) := by
  have la := fa.1.1
  by_cases h : ckM a = 0
  · obtain ⟨oa, _⟩ := few_okM ha fa
    exact ⟨_, 0, mat_Text a 96 (by omega) h oa, refm_Text a 96 (by omega) h oa⟩
  · exact ⟨_, _, mat_Text_err a (by omega) h, refm_Text_err a (by omega) h⟩
theorem cmp_few (a b : List (List RD)) (x : List RD) (hl : a.length ≤ 9223372036854775807) (ha : argM a) (hl' : b.length ≤ 9223372036854775807) (hb : argM b) (hx : argM [x]) (hf : ¬ (fewM a ∧ fewM b ∧ fewM [x])) : CallOK Tryz.prog gl 13 [.sl 1 (mrows (a)), .sl 1 (mrows (b)), .sl 3 (vrows (x))] (.v (.bool (true))) := by
  refine call_ok (C := ⟨Tryz.prog, gl, ti, 207, false⟩) ti_ok mixed 3000 Tryz.call13 Tryz.func13 rfl Tryz.ntmps13 (by simp) byClL byCl ?_
  rw [Tryz.results13]
  have f1 := few_ok hl ha
  have f2 := few_ok hl' hb
  have f3 := few_ok (a := [x]) (by simp) hx
  by_cases h1 : fewM a
  · rw [decide_eq_true h1] at f1
    by_cases h2 : fewM b
    · rw [decide_eq_true h2] at f2
      rw [decide_eq_false (fun h => hf ⟨h1, h2, h⟩)] at f3
      have f3 : CallOK Tryz.prog gl 83 [.sl 1 [[.sl 3 (vrows x)]]] (.v (.bool false)) := f3
      clear hf h1 h2
      repeat' (first | (simp only [go_sem, Int.reduceAdd, Int.reduceEq, Int.reduceLE, Int.reduceLT, Int.reduceMul, Int.reduceNeg, Int.reducePow, Int.reduceSub, Int.reduceToNat, Nat.reduceAdd, Nat.reduceBEq, Nat.reduceEqDiff, Nat.reduceLT, Nat.reduceLeDiff, Nat.reduceMul, Nat.reducePow, Nat.reduceSub, reduceCtorEq, reduceIte, IntKind.bits.eq_def, ti, tin]) | (simp (disch := omega) only [w64, wu64, wu32, Nat.min_eq_left]) | (with_reducible first | refine cF (f1) ?_ | refine dF (f1) ?_) | (with_reducible first | refine cF (f2) ?_ | refine dF (f2) ?_) | (with_reducible first | refine cF (f3) ?_ | refine dF (f3) ?_) | (with_reducible first | refine cF (awake04) ?_ | refine dF (awake04) ?_) | (refine aL ti_ok ?_) | (refine dL ti_ok ?_) | (refine dE (by kernel_rfl) ?_) | ((first | refine cC ?_ ?_ | refine gS ?_ ?_ | refine dS ?_ ?_) <;> intro hc <;> first | (exfalso; simp only [dcT, dcF, bnT, bnF, bnU, bnV] at hc; omega) | (simp only [hc]; try simp only [dcT, dcF, bnT, bnF, bnU, bnV] at hc)) | (refine aN (by omega) ?_) | (refine dN (by omega) ?_))
      all_goals exact fin_same trivial rfl
    · rw [decide_eq_false h2] at f2
      clear hf h1 h2
      repeat' (first | (simp only [go_sem, Int.reduceAdd, Int.reduceEq, Int.reduceLE, Int.reduceLT, Int.reduceMul, Int.reduceNeg, Int.reducePow, Int.reduceSub, Int.reduceToNat, Nat.reduceAdd, Nat.reduceBEq, Nat.reduceEqDiff, Nat.reduceLT, Nat.reduceLeDiff, Nat.reduceMul, Nat.reducePow, Nat.reduceSub, reduceCtorEq, reduceIte, IntKind.bits.eq_def, ti, tin]) | (simp (disch := omega) only [w64, wu64, wu32, Nat.min_eq_left]) | (with_reducible first | refine cF (f1) ?_ | refine dF (f1) ?_) | (with_reducible first | refine cF (f2) ?_ | refine dF (f2) ?_) | (with_reducible first | refine cF (awake04) ?_ | refine dF (awake04) ?_) | (refine aL ti_ok ?_) | (refine dL ti_ok ?_) | (refine dE (by kernel_rfl) ?_) | ((first | refine cC ?_ ?_ | refine gS ?_ ?_ | refine dS ?_ ?_) <;> intro hc <;> first | (exfalso; simp only [dcT, dcF, bnT, bnF, bnU, bnV] at hc; omega) | (simp only [hc]; try simp only [dcT, dcF, bnT, bnF, bnU, bnV] at hc)) | (refine aN (by omega) ?_) | (refine dN (by omega) ?_))
      all_goals exact fin_same trivial rfl
  · rw [decide_eq_false h1] at f1
    clear hf h1
    repeat' (first | (simp only [go_sem, Int.reduceAdd, Int.reduceEq, Int.reduceLE, Int.reduceLT, Int.reduceMul, Int.reduceNeg, Int.reducePow, Int.reduceSub, Int.reduceToNat, Nat.reduceAdd, Nat.reduceBEq, Nat.reduceEqDiff, Nat.reduceLT, Nat.reduceLeDiff, Nat.reduceMul, Nat.reducePow, Nat.reduceSub, reduceCtorEq, reduceIte, IntKind.bits.eq_def, ti, tin]) | (simp (disch := omega) only [w64, wu64, wu32, Nat.min_eq_left]) | (with_reducible first | refine cF (f1) ?_ | refine dF (f1) ?_) | (with_reducible first | refine cF (awake04) ?_ | refine dF (awake04) ?_) | (refine aL ti_ok ?_) | (refine dL ti_ok ?_) | (refine dE (by kernel_rfl) ?_) | ((first | refine cC ?_ ?_ | refine gS ?_ ?_ | refine dS ?_ ?_) <;> intro hc <;> first | (exfalso; simp only [dcT, dcF, bnT, bnF, bnU, bnV] at hc; omega) | (simp only [hc]; try simp only [dcT, dcF, bnT, bnF, bnU, bnV] at hc)) | (refine aN (by omega) ?_) | (refine dN (by omega) ?_))
    all_goals exact fin_same trivial rfl
theorem cmp_in (a b : List (List RD)) (x : List RD) (hl : a.length ≤ 9223372036854775807) (ha : argM a) (hl' : b.length ≤ 9223372036854775807) (hb : argM b) (hx : argM [x]) (hf : fewM a ∧ fewM b ∧ fewM [x]) : CallOK Tryz.prog gl 13 [.sl 1 (mrows (a)), .sl 1 (mrows (b)), .sl 3 (vrows (x))] (.v (.bool (true))) := by
  refine call_ok (C := ⟨Tryz.prog, gl, ti, 207, false⟩) ti_ok mixed 3000 Tryz.call13 Tryz.func13 rfl Tryz.ntmps13 (by simp) byClL byCl ?_
  rw [Tryz.results13]
  have f1 := few_ok hl ha
  have f2 := few_ok hl' hb
  have f3 := few_ok (a := [x]) (by simp) hx
  rw [decide_eq_true hf.1] at f1
  rw [decide_eq_true hf.2.1] at f2
  rw [decide_eq_true hf.2.2] at f3
  have f3 : CallOK Tryz.prog gl 83 [.sl 1 [[.sl 3 (vrows x)]]] (.v (.bool true)) := f3
  obtain ⟨v1, e1, p1, q1, s1⟩ := add_pair ha hb hf.1 hf.2.1
  obtain ⟨v2, e2, p2, q2, s2⟩ := mul_pair ha hb hf.1 hf.2.1
  obtain ⟨v3, e3, p3, q3, s3⟩ := abs_pair ha hf.1
  obtain ⟨v4, e4, p4, q4, s4⟩ := app_pair ha hx hf.1 hf.2.2
  obtain ⟨z5, e5, p5, q5⟩ := le_pair ha hb hf.1 hf.2.1
  obtain ⟨z6, e6, p6, q6, s6⟩ := norm_pair ha hf.1
  obtain ⟨z7, e7, p7, q7⟩ := text_pair ha hf.1
  have n1 := base_NumE e1
  have n2 := base_NumE e2
  have n3 := base_NumE e3
  have n4 := base_NumE e4
  have n5 := base_NumE e5
  have n6 := base_NumE e6
  have n7 := base_NumE e7
  have hT : decide (z7 = z7) = true := decide_eq_true rfl
  clear hf ha hb hx
  cases z5 with
  | true =>
    repeat' (first | (simp only [go_sem, Int.reduceAdd, Int.reduceEq, Int.reduceLE, Int.reduceLT, Int.reduceMul, Int.reduceNeg, Int.reducePow, Int.reduceSub, Int.reduceToNat, Nat.reduceAdd, Nat.reduceBEq, Nat.reduceEqDiff, Nat.reduceLT, Nat.reduceLeDiff, Nat.reduceMul, Nat.reducePow, Nat.reduceSub, reduceCtorEq, reduceIte, IntKind.bits.eq_def, ti, tin, hT]) | (simp (disch := omega) only [w64, wu64, wu32, Nat.min_eq_left]) | (with_reducible first | refine cF (f1) ?_ | refine dF (f1) ?_) | (with_reducible first | refine cF (f2) ?_ | refine dF (f2) ?_) | (with_reducible first | refine cF (f3) ?_ | refine dF (f3) ?_) | (with_reducible first | refine cF (awake04) ?_ | refine dF (awake04) ?_) | (with_reducible first | refine cF (p1) ?_ | refine dF (p1) ?_) | (with_reducible first | refine cF (q1) ?_ | refine dF (q1) ?_) | (with_reducible first | refine cF (s1) ?_ | refine dF (s1) ?_) | (with_reducible first | refine cF (p2) ?_ | refine dF (p2) ?_) | (with_reducible first | refine cF (q2) ?_ | refine dF (q2) ?_) | (with_reducible first | refine cF (s2) ?_ | refine dF (s2) ?_) | (with_reducible first | refine cF (p3) ?_ | refine dF (p3) ?_) | (with_reducible first | refine cF (q3) ?_ | refine dF (q3) ?_) | (with_reducible first | refine cF (s3) ?_ | refine dF (s3) ?_) | (with_reducible first | refine cF (p4) ?_ | refine dF (p4) ?_) | (with_reducible first | refine cF (q4) ?_ | refine dF (q4) ?_) | (with_reducible first | refine cF (s4) ?_ | refine dF (s4) ?_) | (with_reducible first | refine cF (p5) ?_ | refine dF (p5) ?_) | (with_reducible first | refine cF (q5) ?_ | refine dF (q5) ?_) | (with_reducible first | refine cF (p6) ?_ | refine dF (p6) ?_) | (with_reducible first | refine cF (q6) ?_ | refine dF (q6) ?_) | (with_reducible first | refine cF (s6) ?_ | refine dF (s6) ?_) | (with_reducible first | refine cF (p7) ?_ | refine dF (p7) ?_) | (with_reducible first | refine cF (q7) ?_ | refine dF (q7) ?_) | (with_reducible first | refine cF (n1) ?_ | refine dF (n1) ?_) | (with_reducible first | refine cF (n2) ?_ | refine dF (n2) ?_) | (with_reducible first | refine cF (n3) ?_ | refine dF (n3) ?_) | (with_reducible first | refine cF (n4) ?_ | refine dF (n4) ?_) | (with_reducible first | refine cF (n5) ?_ | refine dF (n5) ?_) | (with_reducible first | refine cF (n6) ?_ | refine dF (n6) ?_) | (with_reducible first | refine cF (n7) ?_ | refine dF (n7) ?_) | (refine aL ti_ok ?_) | (refine dL ti_ok ?_) | (refine dE (by kernel_rfl) ?_) | ((first | refine cC ?_ ?_ | refine gS ?_ ?_ | refine dS ?_ ?_) <;> intro hc <;> first | (exfalso; simp only [dcT, dcF, bnT, bnF, bnU, bnV] at hc; omega) | (simp only [hc]; try simp only [dcT, dcF, bnT, bnF, bnU, bnV] at hc)) | (refine aN (by omega) ?_) | (refine dN (by omega) ?_))
    all_goals exact fin_same trivial rfl
  | false =>
    repeat' (first | (simp only [go_sem, Int.reduceAdd, Int.reduceEq, Int.reduceLE, Int.reduceLT, Int.reduceMul, Int.reduceNeg, Int.reducePow, Int.reduceSub, Int.reduceToNat, Nat.reduceAdd, Nat.reduceBEq, Nat.reduceEqDiff, Nat.reduceLT, Nat.reduceLeDiff, Nat.reduceMul, Nat.reducePow, Nat.reduceSub, reduceCtorEq, reduceIte, IntKind.bits.eq_def, ti, tin, hT]) | (simp (disch := omega) only [w64, wu64, wu32, Nat.min_eq_left]) | (with_reducible first | refine cF (f1) ?_ | refine dF (f1) ?_) | (with_reducible first | refine cF (f2) ?_ | refine dF (f2) ?_) | (with_reducible first | refine cF (f3) ?_ | refine dF (f3) ?_) | (with_reducible first | refine cF (awake04) ?_ | refine dF (awake04) ?_) | (with_reducible first | refine cF (p1) ?_ | refine dF (p1) ?_) | (with_reducible first | refine cF (q1) ?_ | refine dF (q1) ?_) | (with_reducible first | refine cF (s1) ?_ | refine dF (s1) ?_) | (with_reducible first | refine cF (p2) ?_ | refine dF (p2) ?_) | (with_reducible first | refine cF (q2) ?_ | refine dF (q2) ?_) | (with_reducible first | refine cF (s2) ?_ | refine dF (s2) ?_) | (with_reducible first | refine cF (p3) ?_ | refine dF (p3) ?_) | (with_reducible first | refine cF (q3) ?_ | refine dF (q3) ?_) | (with_reducible first | refine cF (s3) ?_ | refine dF (s3) ?_) | (with_reducible first | refine cF (p4) ?_ | refine dF (p4) ?_) | (with_reducible first | refine cF (q4) ?_ | refine dF (q4) ?_) | (with_reducible first | refine cF (s4) ?_ | refine dF (s4) ?_) | (with_reducible first | refine cF (p5) ?_ | refine dF (p5) ?_) | (with_reducible first | refine cF (q5) ?_ | refine dF (q5) ?_) | (with_reducible first | refine cF (p6) ?_ | refine dF (p6) ?_) | (with_reducible first | refine cF (q6) ?_ | refine dF (q6) ?_) | (with_reducible first | refine cF (s6) ?_ | refine dF (s6) ?_) | (with_reducible first | refine cF (p7) ?_ | refine dF (p7) ?_) | (with_reducible first | refine cF (q7) ?_ | refine dF (q7) ?_) | (with_reducible first | refine cF (n1) ?_ | refine dF (n1) ?_) | (with_reducible first | refine cF (n2) ?_ | refine dF (n2) ?_) | (with_reducible first | refine cF (n3) ?_ | refine dF (n3) ?_) | (with_reducible first | refine cF (n4) ?_ | refine dF (n4) ?_) | (with_reducible first | refine cF (n5) ?_ | refine dF (n5) ?_) | (with_reducible first | refine cF (n6) ?_ | refine dF (n6) ?_) | (with_reducible first | refine cF (n7) ?_ | refine dF (n7) ?_) | (refine aL ti_ok ?_) | (refine dL ti_ok ?_) | (refine dE (by kernel_rfl) ?_) | ((first | refine cC ?_ ?_ | refine gS ?_ ?_ | refine dS ?_ ?_) <;> intro hc <;> first | (exfalso; simp only [dcT, dcF, bnT, bnF, bnU, bnV] at hc; omega) | (simp only [hc]; try simp only [dcT, dcF, bnT, bnF, bnU, bnV] at hc)) | (refine aN (by omega) ?_) | (refine dN (by omega) ?_))
    all_goals exact fin_same trivial rfl
theorem computes_law04 (r r' r'' : List (List AV)) (hr : r.length ≤ maxLen) (fr : ∀ x ∈ r, FitL [.sl [.bool, .sl [.int .u32], .int .i64]] x) (hr' : r'.length ≤ maxLen) (fr' : ∀ x ∈ r', FitL [.sl [.bool, .sl [.int .u32], .int .i64]] x) (hr'' : r''.length ≤ maxLen) (fr'' : ∀ x ∈ r'', FitL [.bool, .sl [.int .u32], .int .i64] x) :
    CallOK Tryz.prog gl 13 [.sl 1 r, .sl 1 r', .sl 3 r''] (.v (.bool true)) := by
  have hm := hr''
  unfold maxLen at hr hr'
  obtain ⟨a, ha, rfl, h1⟩ := fit_mrows fr
  obtain ⟨b, hb, rfl, h2⟩ := fit_mrows fr'
  obtain ⟨x, hx, rfl, h3⟩ := fit_vrows fr''
  have hl : a.length ≤ 9223372036854775807 := by omega
  have hl' : b.length ≤ 9223372036854775807 := by omega
  have hX : argM [x] := argM_one (by omega) hx
  by_cases hf : fewM a ∧ fewM b ∧ fewM [x]
  · exact cmp_in a b x hl ha hl' hb hX hf
  · exact cmp_few a b x hl ha hl' hb hX hf
end Go.Proofs.YtdjgckcninibhaaGreatDoor
