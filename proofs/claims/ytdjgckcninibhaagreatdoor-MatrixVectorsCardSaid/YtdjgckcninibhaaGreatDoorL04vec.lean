/- The statement MatrixVectors: its code returns true. -/
import Derived.Test.YtdjgckcninibhaaGreatDoorL04e
set_option linter.unusedSimpArgs false
set_option linter.unusedVariables false
set_option linter.deprecated false
namespace Go.Proofs.YtdjgckcninibhaaGreatDoor
open Go Go.Ax
set_option maxRecDepth 100000
set_option maxHeartbeats 4000000

theorem vec_few (a : List (List RD)) (x : List RD) (hl : a.length ≤ 9223372036854775807) (ha : argM a) (hx : argM [x]) (hf : ¬ (fewM a ∧ fewM [x])) : CallOK Tryz.prog gl 11 [.sl 1 (mrows (a)), .sl 3 (vrows (x))] (.v (.bool (true))) := by
  refine call_ok (C := ⟨Tryz.prog, gl, ti, 141, false⟩) ti_ok mixed 3000 Tryz.call11 Tryz.func11 rfl Tryz.ntmps11 (by simp) byClL byCl ?_
  rw [Tryz.results11]
  have f1 := few_ok hl ha
  have f2 := few_ok (a := [x]) (by simp) hx
  by_cases h1 : fewM a
  · rw [decide_eq_true h1] at f1
    rw [decide_eq_false (fun h => hf ⟨h1, h⟩)] at f2
    have f2 : CallOK Tryz.prog gl 83 [.sl 1 [[.sl 3 (vrows x)]]] (.v (.bool false)) := f2
    clear hf h1
    repeat' (first | (simp only [go_sem, Int.reduceAdd, Int.reduceEq, Int.reduceLE, Int.reduceLT, Int.reduceMul, Int.reduceNeg, Int.reducePow, Int.reduceSub, Int.reduceToNat, Nat.reduceAdd, Nat.reduceBEq, Nat.reduceEqDiff, Nat.reduceLT, Nat.reduceLeDiff, Nat.reduceMul, Nat.reducePow, Nat.reduceSub, reduceCtorEq, reduceIte, IntKind.bits.eq_def, ti, tin]) | (simp (disch := omega) only [w64, wu64, wu32, Nat.min_eq_left]) | (with_reducible first | refine cF (f1) ?_ | refine dF (f1) ?_) | (with_reducible first | refine cF (f2) ?_ | refine dF (f2) ?_) | (with_reducible first | refine cF (awake04) ?_ | refine dF (awake04) ?_) | (refine aL ti_ok ?_) | (refine dL ti_ok ?_) | (refine dE (by kernel_rfl) ?_) | ((first | refine cC ?_ ?_ | refine gS ?_ ?_ | refine dS ?_ ?_) <;> intro hc <;> first | (exfalso; simp only [dcT, dcF, bnT, bnF, bnU, bnV] at hc; omega) | (simp only [hc]; try simp only [dcT, dcF, bnT, bnF, bnU, bnV] at hc)) | (refine aN (by omega) ?_) | (refine dN (by omega) ?_))
    all_goals exact fin_same trivial rfl
  · rw [decide_eq_false h1] at f1
    clear hf h1
    repeat' (first | (simp only [go_sem, Int.reduceAdd, Int.reduceEq, Int.reduceLE, Int.reduceLT, Int.reduceMul, Int.reduceNeg, Int.reducePow, Int.reduceSub, Int.reduceToNat, Nat.reduceAdd, Nat.reduceBEq, Nat.reduceEqDiff, Nat.reduceLT, Nat.reduceLeDiff, Nat.reduceMul, Nat.reducePow, Nat.reduceSub, reduceCtorEq, reduceIte, IntKind.bits.eq_def, ti, tin]) | (simp (disch := omega) only [w64, wu64, wu32, Nat.min_eq_left]) | (with_reducible first | refine cF (f1) ?_ | refine dF (f1) ?_) | (with_reducible first | refine cF (awake04) ?_ | refine dF (awake04) ?_) | (refine aL ti_ok ?_) | (refine dL ti_ok ?_) | (refine dE (by kernel_rfl) ?_) | ((first | refine cC ?_ ?_ | refine gS ?_ ?_ | refine dS ?_ ?_) <;> intro hc <;> first | (exfalso; simp only [dcT, dcF, bnT, bnF, bnU, bnV] at hc; omega) | (simp only [hc]; try simp only [dcT, dcF, bnT, bnF, bnU, bnV] at hc)) | (refine aN (by omega) ?_) | (refine dN (by omega) ?_))
    all_goals exact fin_same trivial rfl
theorem vec_bad (a : List (List RD)) (x : List RD) (hl : a.length ≤ 9223372036854775807) (ha : argM a) (hx : argM [x]) (hf : fewM a ∧ fewM [x]) (hn : ¬ (ckM a = 0 ∧ x.length = (a.getD 0 []).length)) : CallOK Tryz.prog gl 11 [.sl 1 (mrows (a)), .sl 3 (vrows (x))] (.v (.bool (true))) := by
  refine call_ok (C := ⟨Tryz.prog, gl, ti, 141, false⟩) ti_ok mixed 3000 Tryz.call11 Tryz.func11 rfl Tryz.ntmps11 (by simp) byClL byCl ?_
  rw [Tryz.results11]
  have f1 := few_ok hl ha
  have f2 := few_ok (a := [x]) (by simp) hx
  rw [decide_eq_true hf.1] at f1
  rw [decide_eq_true hf.2] at f2
  have f2 : CallOK Tryz.prog gl 83 [.sl 1 [[.sl 3 (vrows x)]]] (.v (.bool true)) := f2
  have c1 := ref_CheckM a (by have := hf.1.1.1; omega)
  have lx : x.length ≤ 10 := (hf.2.1.2 0 (by simp)).1
  clear hf
  by_cases k1 : ckM a = 0
  · rw [k1] at c1
    obtain ⟨a1, a2, a3, a4, a5⟩ := ckM_ok k1
    have r0 := mrows_getD (a := a) (i := 0) a1
    have l0 : (vrows (a.getD 0 [])).length = (a.getD 0 []).length := vrows_length _
    have hn2 : ¬ x.length = (a.getD 0 []).length := fun h => hn ⟨k1, h⟩
    clear hn a5
    generalize a.getD 0 [] = y at *
    repeat' (first | (simp only [go_sem, Int.reduceAdd, Int.reduceEq, Int.reduceLE, Int.reduceLT, Int.reduceMul, Int.reduceNeg, Int.reducePow, Int.reduceSub, Int.reduceToNat, Nat.reduceAdd, Nat.reduceBEq, Nat.reduceEqDiff, Nat.reduceLT, Nat.reduceLeDiff, Nat.reduceMul, Nat.reducePow, Nat.reduceSub, reduceCtorEq, reduceIte, IntKind.bits.eq_def, ti, tin, mrows_length, vrows_length, r0, l0]) | (simp (disch := omega) only [w64, wu64, wu32, Nat.min_eq_left]) | (with_reducible first | refine cF (f1) ?_ | refine dF (f1) ?_) | (with_reducible first | refine cF (f2) ?_ | refine dF (f2) ?_) | (with_reducible first | refine cF (c1) ?_ | refine dF (c1) ?_) | (with_reducible first | refine cF (awake04) ?_ | refine dF (awake04) ?_) | (refine aL ti_ok ?_) | (refine dL ti_ok ?_) | (refine dE (by kernel_rfl) ?_) | ((first | refine cC ?_ ?_ | refine gS ?_ ?_ | refine dS ?_ ?_) <;> intro hc <;> first | (exfalso; simp only [dcT, dcF, bnT, bnF, bnU, bnV] at hc; omega) | (simp only [hc]; try simp only [dcT, dcF, bnT, bnF, bnU, bnV] at hc)) | (refine aN (by omega) ?_) | (refine dN (by omega) ?_))
    all_goals exact fin_same trivial rfl
  · generalize ckM a = e at *
    repeat' (first | (simp only [go_sem, Int.reduceAdd, Int.reduceEq, Int.reduceLE, Int.reduceLT, Int.reduceMul, Int.reduceNeg, Int.reducePow, Int.reduceSub, Int.reduceToNat, Nat.reduceAdd, Nat.reduceBEq, Nat.reduceEqDiff, Nat.reduceLT, Nat.reduceLeDiff, Nat.reduceMul, Nat.reducePow, Nat.reduceSub, reduceCtorEq, reduceIte, IntKind.bits.eq_def, ti, tin]) | (simp (disch := omega) only [w64, wu64, wu32, Nat.min_eq_left]) | (with_reducible first | refine cF (f1) ?_ | refine dF (f1) ?_) | (with_reducible first | refine cF (f2) ?_ | refine dF (f2) ?_) | (with_reducible first | refine cF (c1) ?_ | refine dF (c1) ?_) | (with_reducible first | refine cF (awake04) ?_ | refine dF (awake04) ?_) | (refine aL ti_ok ?_) | (refine dL ti_ok ?_) | (refine dE (by kernel_rfl) ?_) | ((first | refine cC ?_ ?_ | refine gS ?_ ?_ | refine dS ?_ ?_) <;> intro hc <;> first | (exfalso; simp only [dcT, dcF, bnT, bnF, bnU, bnV] at hc; omega) | (simp only [hc]; try simp only [dcT, dcF, bnT, bnF, bnU, bnV] at hc)) | (refine aN (by omega) ?_) | (refine dN (by omega) ?_))
    all_goals exact fin_same trivial rfl
theorem tabV_map {x : List Dy} {g : Dy → Dy} {n : Nat} (h : x.length = n) : tabV n (fun k => g (x.getD k Dy.zero)) = x.map g := by
  subst h
  exact (map_tabS (d := Dy.zero)).symm
theorem vec_in (a : List (List RD)) (x : List RD) (n m : Nat) (hl : a.length ≤ 9223372036854775807) (ha : argM a) (hx : argM [x]) (hf : fewM a ∧ fewM [x]) (k1 : ckM a = 0) (n1 : a.length = n) (n2 : (a.getD 0 []).length = m) (n3 : x.length = m) : CallOK Tryz.prog gl 11 [.sl 1 (mrows (a)), .sl 3 (vrows (x))] (.v (.bool (true))) := by
  refine call_ok (C := ⟨Tryz.prog, gl, ti, 141, false⟩) ti_ok mixed 3000 Tryz.call11 Tryz.func11 rfl Tryz.ntmps11 (by simp) byClL byCl ?_
  rw [Tryz.results11]
  have f1 := few_ok hl ha
  have f2 := few_ok (a := [x]) (by simp) hx
  rw [decide_eq_true hf.1] at f1
  rw [decide_eq_true hf.2] at f2
  have f2 : CallOK Tryz.prog gl 83 [.sl 1 [[.sl 3 (vrows x)]]] (.v (.bool true)) := f2
  obtain ⟨a1, a2, a3, a4, a5⟩ := ckM_ok k1
  have c1 := ref_CheckM a (by omega)
  rw [k1] at c1
  obtain ⟨oa, fa⟩ := few_okM ha hf.1
  obtain ⟨ox', fx'⟩ := few_okM hx hf.2
  have ox : okV 96 x := ox' 0
  have ex : (dyM [x]).getD 0 [] = dyV x := rfl
  have fx : fineV 60 (dyV x) := fun i => fx' 0 i
  have ra := rect_of k1
  rw [n1, n2] at ra
  have hn : 0 < n := by omega
  have hm : 0 < m := by omega
  have hn8 : n ≤ 8 := by omega
  have hm8 : m ≤ 8 := by omega
  have ga := mg_el_raw oa
  have gx : ∀ i, Mg 96 ((dyV x).getD i Dy.zero) := fun i => by rw [dyV_get]; exact (ox i).2
  have rabs := rect_abs ra hn
  have gabs : ∀ i j, Mg 96 (el (absD (dyM a)) i j) := fun i j => by
    by_cases hij : i < n ∧ j < m
    · rw [el_abs ra hn hij.1 hij.2]; exact Mg.abs (ga i j)
    · rw [el_out rabs hij]; exact Mg.zero _
  let g : Nat → Dy := fun k => (x.getD k RD.zero).dy.abs
  have gg : ∀ k, Mg 96 (g k) := fun k => Mg.abs (ox k).2
  have eg : tabV m g = (dyV x).map Dy.abs := by
    rw [← tabV_map (g := Dy.abs) (x := dyV x) (by rw [dyV_len, n3])]
    exact tabV_congr fun j _ => by rw [dyV_get]
  have gs : ∀ i, Mg 96 ((tabV m g).getD i Dy.zero) := fun i => by
    by_cases h : i < m
    · rw [tabV_get h]; exact gg i
    · rw [List.getD, List.getElem?_eq_none (by rw [tabV_len]; omega)]; exact Mg.zero _
  have fs : fineV 60 (tabV m g) := fineV_of tabV_len fun i hi => by
    rw [tabV_get hi]
    have := fx i
    rw [dyV_get] at this
    exact this
  have m1 := mat_Apply a x 96 96 (by omega) k1 (by omega) oa ox
  have m2 := mat_Abs a 96 k1 oa
  have m3 := mat_Apply (crM (absD (dyM a))) ((tabV m g).map can) 96 96 (by omega) (ckM_rect rabs hn hn8 hm hm8) (by rw [List.length_map, tabV_len, crM_get, List.length_map, rabs.2 0 hn]) (okM_cr gabs (by omega)) (okV_can gs (by omega))
  rw [dyM_cr, dyV_can] at m3
  have m4 := mat_Norm a 96 (by omega) k1 oa
  have gn : Mg 200 (normD (dyM a)) := by
    rw [normD_raw a5, n1, n2]
    exact (mg_maxD (k := 96 + m) fun i _ => mg_sumD fun j _ => Mg.abs (oa i j).2).mono (by omega)
  have gy : ∀ i, Mg 300 ((appD (dyM a) (dyV x)).getD i Dy.zero) := fun i => (mg_appD ra ga gx i).mono (by omega)
  have gz : ∀ i, Mg 300 ((appD (absD (dyM a)) (tabV m g)).getD i Dy.zero) := fun i => (mg_appD rabs gabs gs i).mono (by omega)
  have gM : ∀ i, Mg 96 (maxD i g) := fun i => mg_maxD fun i _ => gg i
  have le1 : ∀ i, i < n → ((appD (dyM a) (dyV x)).getD i Dy.zero).abs.cmp ((appD (absD (dyM a)) (tabV m g)).getD i Dy.zero) ≤ 0 := fun i hi => by
    rw [eg]; exact app_abs ra hn fa fx (by rw [← eg]; exact fs) (by omega) hi
  have le2 : ∀ i, i < n → ((appD (dyM a) (dyV x)).getD i Dy.zero).abs.cmp ((normD (dyM a)).mul (maxD m g)) ≤ 0 := fun i hi => by
    rw [show maxD m g = maxD m fun k => ((dyV x).getD k Dy.zero).abs from maxD_congr fun k _ => by rw [dyV_get]]
    exact app_norm ra (by rw [dyV_len, n3]) fa fx (by omega) hi
  have ly : (appD (dyM a) (dyV x)).length = n := by rw [app_len, dyM_len, n1]
  have lz : (appD (absD (dyM a)) (tabV m g)).length = n := by rw [app_len, rabs.1]
  have r0 := mrows_getD (a := a) (i := 0) a1
  have l0 : (vrows (a.getD 0 [])).length = m := by rw [vrows_length, n2]
  clear hf oa fa ox' fx' ex fx ra rabs ga gabs gs fs eg a5 ha hx
  generalize appD (dyM a) (dyV x) = Y at *
  generalize appD (absD (dyM a)) (tabV m g) = Z at *
  generalize normD (dyM a) = N at *
  generalize absD (dyM a) = AB at *
  generalize a.getD 0 [] = y at *
  repeat' (first | (simp only [go_sem, Int.reduceAdd, Int.reduceEq, Int.reduceLE, Int.reduceLT, Int.reduceMul, Int.reduceNeg, Int.reducePow, Int.reduceSub, Int.reduceToNat, Nat.reduceAdd, Nat.reduceBEq, Nat.reduceEqDiff, Nat.reduceLT, Nat.reduceLeDiff, Nat.reduceMul, Nat.reducePow, Nat.reduceSub, reduceCtorEq, reduceIte, IntKind.bits.eq_def, ti, tin, mrows_length, vrows_length, r0, l0, n1, n3]) | (simp (disch := omega) only [w64, wu64, wu32, Nat.min_eq_left]) | (with_reducible first | refine cF (f1) ?_ | refine dF (f1) ?_) | (with_reducible first | refine cF (f2) ?_ | refine dF (f2) ?_) | (with_reducible first | refine cF (c1) ?_ | refine dF (c1) ?_) | (with_reducible first | refine cF (awake04) ?_ | refine dF (awake04) ?_) | (refine aL ti_ok ?_) | (refine dL ti_ok ?_) | (refine dE (by kernel_rfl) ?_) | ((first | refine cC ?_ ?_ | refine gS ?_ ?_ | refine dS ?_ ?_) <;> intro hc <;> first | (exfalso; simp only [dcT, dcF, bnT, bnF, bnU, bnV] at hc; omega) | (simp only [hc]; try simp only [dcT, dcF, bnT, bnF, bnU, bnV] at hc)) | (refine aN (by omega) ?_) | (refine dN (by omega) ?_))
  first | refine loop_weak (s' := ⟨[(0, .sl 1 (mrows (a))), (1, .sl 3 (vrows (x))), (5, .p 0 3 0 0), (6, .ps 1 3 0 ((0 : Nat))), (46, .sl 3 (vrows (x))), (47, .v (.int .i64 m)), (48, .v (.int .i64 (((0 : Nat) : Int))))], [(0, ⟨3, [crow (maxD 0 g)]⟩), (1, ⟨3, []⟩)], 2⟩) ?_ (by first | exact Nat.le_refl _ | exact Nat.le_of_ble_eq_true rfl) ?_ | refine loop_weak0 (s' := ⟨[(0, .sl 1 (mrows (a))), (1, .sl 3 (vrows (x))), (5, .p 0 3 0 0), (6, .ps 1 3 0 ((0 : Nat))), (46, .sl 3 (vrows (x))), (47, .v (.int .i64 m)), (48, .v (.int .i64 (((0 : Nat) : Int))))], [(0, ⟨3, [crow (maxD 0 g)]⟩), (1, ⟨3, []⟩)], 2⟩) ?_ (Nat.zero_lt_succ _) ?_
  · exact Weak.trans0 (Weak.trans0 (Weak.mle 0 ⟨3, [crow Dy.zero]⟩ rfl MLe.dy0) (Nat.zero_lt_succ _) (Weak.newnil 1 3 (Nat.le_refl _))) (Nat.zero_lt_succ _) byWeak
  refine l_loop (α := Nat) (fun i => ⟨[(0, .sl 1 (mrows (a))), (1, .sl 3 (vrows (x))), (5, .p 0 3 0 0), (6, .ps 1 3 0 i), (46, .sl 3 (vrows (x))), (47, .v (.int .i64 m)), (48, .v (.int .i64 i))], [(0, ⟨3, [crow (maxD i g)]⟩), (1, ⟨3, vrows ((tabV i g).map can)⟩)], 2⟩) (fun i => i ≤ m) (fun i => m - i) (0) _ byFresh (fun _ h => by first | (cases h; done) | exact Nat.le_of_ble_eq_true rfl) ?_ ?_ ?_
  · exact Nat.zero_le _
  · exact byWeak
  rintro i hi
  by_cases him : i < m
  ·
    have ri := vrows_getD (l := x) (i := i) (by omega)
    have hxi := ox i
    have ab := ref_Abs _ _ _ _ (RD.arg hxi.1)
    have mx := ref_Max _ _ _ _ _ _ _ _ ((gM i).arg) ((gg i).arg)
    have es : maxD (i + 1) g = (maxD i g).max (g i) := rfl
    have e4 : (vrows ((tabV i g).map can)).length = i := vtab_len
    have e5 := vtab_step (k := i) (f := g)
    have eg : (x.getD i RD.zero).dy.abs = g i := rfl
    rw [eg] at ab
    unfold vrow at ri
    clear hxi eg le1 le2 gy gz ly lz gM gg gx
    generalize hM2 : maxD i g = MX at *
    generalize hg2 : g i = G1 at *
    generalize x.getD i RD.zero = r at *
    repeat' (first | (simp only [go_sem, Int.reduceAdd, Int.reduceEq, Int.reduceLE, Int.reduceLT, Int.reduceMul, Int.reduceNeg, Int.reducePow, Int.reduceSub, Int.reduceToNat, Nat.reduceAdd, Nat.reduceBEq, Nat.reduceEqDiff, Nat.reduceLT, Nat.reduceLeDiff, Nat.reduceMul, Nat.reducePow, Nat.reduceSub, reduceCtorEq, reduceIte, IntKind.bits.eq_def, ti, tin, vrows_length, n3, ri, e4]) | (simp (disch := omega) only [w64, wu64, wu32, Nat.min_eq_left]) | (with_reducible first | refine cF (ab) ?_ | refine dF (ab) ?_) | (with_reducible first | refine cF (mx) ?_ | refine dF (mx) ?_) | (refine after_append_nil ti_ok rfl rfl rfl rfl ⟨rfl, by decide⟩ rfl ⟨trivial, by (try simp only [List.length_cons, List.length_nil, List.length_append, u32s_length, List.length_map, e4]); omega, by (try simp only [List.length_cons, List.length_nil, List.length_append, u32s_length, List.length_map, e4]); omega⟩ (fun _ => byRows) ?_) | (refine after_append_own ti_ok rfl rfl rfl rfl rfl ⟨rfl, rfl, by decide, Nat.le_of_ble_eq_true rfl⟩ (fun h => by first | (cases h; done) | decide) rfl ⟨trivial, by (try simp only [List.length_cons, List.length_nil, List.length_append, u32s_length, List.length_map, e4]); omega, by (try simp only [List.length_cons, List.length_nil, List.length_append, u32s_length, List.length_map, e4]); omega, by (try simp only [List.length_cons, List.length_nil, List.length_append, u32s_length, List.length_map, e4]); omega⟩ byRows byNoE byNoM ?_) | (refine aL ti_ok ?_) | (refine dL ti_ok ?_) | (refine dE (by kernel_rfl) ?_) | ((first | refine cC ?_ ?_ | refine gS ?_ ?_ | refine dS ?_ ?_) <;> intro hc <;> first | (exfalso; simp only [dcT, dcF, bnT, bnF, bnU, bnV] at hc; omega) | (simp only [hc]; try simp only [dcT, dcF, bnT, bnF, bnU, bnV] at hc)) | (refine aN (by omega) ?_) | (refine dN (by omega) ?_))
    refine roundEnd_of (α := Nat) (i + 1) (show i + 1 ≤ m by omega) (by omega) ?_
    simp only [es]
    rw [e5]
    exact byWeak
  ·
    have him2 : i = m := by omega
    subst him2
    have e4 : (vrows ((tabV i g).map can)).length = i := vtab_len
    have m3' : CallOK Tryz.prog gl 87 [.sl 1 (mrows (crM AB)), .sl 3 (((vrows ((tabV i g).map can)).drop 0).take i)] (.tup [.sl 3 (vrows (Z.map can)), .v .nilIface]) := by
      rw [List.drop_zero, List.take_of_length_le (by rw [e4]; exact Nat.le_refl _)]; exact m3
    have lY : (vrows (Y.map can)).length = n := by rw [crows_length, ly]
    have lZ : (vrows (Z.map can)).length = n := by rw [crows_length, lz]
    have gMi := gM i
    have mu := ref_Mul _ _ _ _ _ _ _ _ (gn.arg) (gMi.arg)
    have gm : Mg _ (N.mul (maxD i g)) := Mg.mul gn gMi
    repeat' (first | (simp only [go_sem, Int.reduceAdd, Int.reduceEq, Int.reduceLE, Int.reduceLT, Int.reduceMul, Int.reduceNeg, Int.reducePow, Int.reduceSub, Int.reduceToNat, Nat.reduceAdd, Nat.reduceBEq, Nat.reduceEqDiff, Nat.reduceLT, Nat.reduceLeDiff, Nat.reduceMul, Nat.reducePow, Nat.reduceSub, reduceCtorEq, reduceIte, IntKind.bits.eq_def, ti, tin, mrows_length, vrows_length, n1, e4, lY, lZ]) | (simp (disch := omega) only [w64, wu64, wu32, Nat.min_eq_left]) | (refine callF_frz 1 rfl (.cons .same (.cons (frz_ps rfl (by first | exact Nat.le_of_ble_eq_true rfl | ((try simp only [Nat.zero_add, mrows_length, vrows_length, n1, e4, lY, lZ]); omega))) .nil)) (.cons (.refl _) (.cons (.refl _) .nil)) (m3') ?_) | (with_reducible first | refine cF (m1) ?_ | refine dF (m1) ?_) | (with_reducible first | refine cF (m2) ?_ | refine dF (m2) ?_) | (with_reducible first | refine cF (m4) ?_ | refine dF (m4) ?_) | (refine aL ti_ok ?_) | (refine dL ti_ok ?_) | (refine dE (by kernel_rfl) ?_) | ((first | refine cC ?_ ?_ | refine gS ?_ ?_ | refine dS ?_ ?_) <;> intro hc <;> first | (exfalso; simp only [dcT, dcF, bnT, bnF, bnU, bnV] at hc; omega) | (simp only [hc]; try simp only [dcT, dcF, bnT, bnF, bnU, bnV] at hc)) | (refine aN (by omega) ?_) | (refine dN (by omega) ?_))
    refine l_loop (α := Nat) (fun k => ⟨[(0, .sl 1 (mrows (a))), (5, .p 0 3 0 0), (9, .sl 3 (vrows (Y.map can))), (13, .sl 3 (vrows (Z.map can))), (15, .p 2 3 0 0), (112, .sl 3 (vrows (Y.map can))), (113, .v (.int .i64 n)), (114, .v (.int .i64 k))], [(0, ⟨3, [crow (maxD i g)]⟩), (2, ⟨3, [crow N]⟩)], 3⟩) (fun k => k ≤ n) (fun k => n - k) (0) _ byFresh (fun _ h => by first | (cases h; done) | exact Nat.le_of_ble_eq_true rfl) ?_ ?_ ?_
    · exact Nat.zero_le _
    · exact byWeak
    rintro k hk
    by_cases hkn : k < n
    ·
      have ry := crows_getD (l := Y) (i := k) (by omega)
      have rz := crows_getD (l := Z) (i := k) (by omega)
      have ab := ref_Abs _ _ _ _ ((gy k).arg)
      have ca := ref_Cmp _ _ _ _ _ _ _ _ ((Mg.abs (gy k)).arg) ((gz k).arg)
      have cb := ref_Cmp _ _ _ _ _ _ _ _ ((Mg.abs (gy k)).arg) (gm.arg)
      have l1 := le1 k hkn
      have l2 := le2 k hkn
      clear le1 le2 gy gz
      generalize (Y.getD k Dy.zero).abs.cmp (Z.getD k Dy.zero) = v1 at *
      generalize (Y.getD k Dy.zero).abs.cmp (N.mul (maxD i g)) = v2 at *
      generalize (Y.getD k Dy.zero).abs = y1 at *
      generalize Y.getD k Dy.zero = y0 at *
      generalize Z.getD k Dy.zero = z0 at *
      generalize N.mul (maxD i g) = w0 at *
      repeat' (first | (simp only [go_sem, Int.reduceAdd, Int.reduceEq, Int.reduceLE, Int.reduceLT, Int.reduceMul, Int.reduceNeg, Int.reducePow, Int.reduceSub, Int.reduceToNat, Nat.reduceAdd, Nat.reduceBEq, Nat.reduceEqDiff, Nat.reduceLT, Nat.reduceLeDiff, Nat.reduceMul, Nat.reducePow, Nat.reduceSub, reduceCtorEq, reduceIte, IntKind.bits.eq_def, ti, tin, lY, lZ, ry, rz]) | (simp (disch := omega) only [w64, wu64, wu32, Nat.min_eq_left]) | (with_reducible first | refine cF (ab) ?_ | refine dF (ab) ?_) | (with_reducible first | refine cF (ca) ?_ | refine dF (ca) ?_) | (with_reducible first | refine cF (cb) ?_ | refine dF (cb) ?_) | (with_reducible first | refine cF (mu) ?_ | refine dF (mu) ?_) | (refine aL ti_ok ?_) | (refine dL ti_ok ?_) | (refine dE (by kernel_rfl) ?_) | ((first | refine cC ?_ ?_ | refine gS ?_ ?_ | refine dS ?_ ?_) <;> intro hc <;> first | (exfalso; simp only [dcT, dcF, bnT, bnF, bnU, bnV] at hc; omega) | (simp only [hc]; try simp only [dcT, dcF, bnT, bnF, bnU, bnV] at hc)) | (refine aN (by omega) ?_) | (refine dN (by omega) ?_))
      refine roundEnd_of (α := Nat) (k + 1) (show k + 1 ≤ n by omega) (by omega) ?_
      exact byWeak
    ·
      have hkn2 : k = n := by omega
      subst hkn2
      repeat' (first | (simp only [go_sem, Int.reduceAdd, Int.reduceEq, Int.reduceLE, Int.reduceLT, Int.reduceMul, Int.reduceNeg, Int.reducePow, Int.reduceSub, Int.reduceToNat, Nat.reduceAdd, Nat.reduceBEq, Nat.reduceEqDiff, Nat.reduceLT, Nat.reduceLeDiff, Nat.reduceMul, Nat.reducePow, Nat.reduceSub, reduceCtorEq, reduceIte, IntKind.bits.eq_def, ti, tin]) | (simp (disch := omega) only [w64, wu64, wu32, Nat.min_eq_left]) | (refine aL ti_ok ?_) | (refine dL ti_ok ?_) | (refine dE (by kernel_rfl) ?_) | ((first | refine cC ?_ ?_ | refine gS ?_ ?_ | refine dS ?_ ?_) <;> intro hc <;> first | (exfalso; simp only [dcT, dcF, bnT, bnF, bnU, bnV] at hc; omega) | (simp only [hc]; try simp only [dcT, dcF, bnT, bnF, bnU, bnV] at hc)) | (refine aN (by omega) ?_) | (refine dN (by omega) ?_))
      all_goals exact fin_same trivial rfl
theorem vectors_law (r r' : List (List AV)) (hr : r.length ≤ maxLen) (fr : ∀ x ∈ r, FitL [.sl [.bool, .sl [.int .u32], .int .i64]] x) (hr' : r'.length ≤ maxLen) (fr' : ∀ x ∈ r', FitL [.bool, .sl [.int .u32], .int .i64] x) :
    CallOK Tryz.prog gl 11 [.sl 1 r, .sl 3 r'] (.v (.bool true)) := by
  have hm := hr'
  unfold maxLen at hr
  obtain ⟨a, ha, rfl, h1⟩ := fit_mrows fr
  obtain ⟨x, hx, rfl, h2⟩ := fit_vrows fr'
  have hl : a.length ≤ 9223372036854775807 := by omega
  have hX : argM [x] := argM_one (by omega) hx
  by_cases hf : fewM a ∧ fewM [x]
  · by_cases hn : ckM a = 0 ∧ x.length = (a.getD 0 []).length
    · exact vec_in a x _ _ hl ha hX hf hn.1 rfl rfl hn.2
    · exact vec_bad a x hl ha hX hf hn
  · exact vec_few a x hl ha hX hf
end Go.Proofs.YtdjgckcninibhaaGreatDoor
