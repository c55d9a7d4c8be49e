/- Layer 4 (matrix): Apply, Le, Norm. -/
import Derived.Test.YtdjgckcninibhaaGreatDoorMat5
set_option linter.unusedSimpArgs false
set_option linter.unusedVariables false
set_option linter.deprecated false
namespace Go.Proofs.YtdjgckcninibhaaGreatDoor
open Go Go.Ax
set_option maxRecDepth 100000
set_option maxHeartbeats 4000000

theorem mat_app1 (k : Nat) (x : List RD) (hk : k < x.length) (hl : x.length ≤ 1000) : CallOK Tryz.prog gl 180 [.v (.int .i64 k), .rp [.sl 3 (vrows x)]] (.agg [.v (.bool (x.getD k RD.zero).s), .sl 1 (u32s (x.getD k RD.zero).ws), .v (.int .i64 (x.getD k RD.zero).d)]) := by
  refine call_ok (C := ⟨Tryz.prog, gl, ti, 8, false⟩) ti_ok mixed 3000 Tryz.call180 Tryz.func180 rfl Tryz.ntmps180 (by simp) byClL byCl ?_
  rw [Tryz.results180]
  have rk := vrows_getD hk
  unfold vrow at rk
  generalize x.getD k RD.zero = r at *
  repeat' (first | (simp only [go_sem, Int.reduceAdd, Int.reduceEq, Int.reduceLE, Int.reduceLT, Int.reduceMul, Int.reduceNeg, Int.reducePow, Int.reduceSub, Int.reduceToNat, Nat.reduceAdd, Nat.reduceBEq, Nat.reduceEqDiff, Nat.reduceLT, Nat.reduceLeDiff, Nat.reduceMul, Nat.reducePow, Nat.reduceSub, reduceCtorEq, reduceIte, IntKind.bits.eq_def, ti, tin, vrows_length, rk]) | (simp (disch := omega) only [w64, wu64, wu32, Nat.min_eq_left]) | (refine aL ti_ok ?_) | (refine dL ti_ok ?_) | (refine dE (by kernel_rfl) ?_) | ((first | refine cC ?_ ?_ | refine gS ?_ ?_ | refine dS ?_ ?_) <;> intro hc <;> first | (exfalso; simp only [dcT, dcF, bnT, bnF, bnU, bnV] at hc; omega) | (simp only [hc]; try simp only [dcT, dcF, bnT, bnF, bnU, bnV] at hc)) | (refine aN (by omega) ?_) | (refine dN (by omega) ?_))
  all_goals exact fin_same trivial rfl
theorem mat_Apply_err (a : List (List RD)) (x : List RD) (ha : a.length ≤ 1000) (h : ¬ ckM a = 0) : CallOK Tryz.prog gl 87 [.sl 1 (mrows (a)), .sl 3 (vrows (x))] (.tup [.v (.slice none 0 0), .v (eV (ckM a))]) := by
  refine call_ok (C := ⟨Tryz.prog, gl, ti, 37, false⟩) ti_ok mixed 3000 Tryz.call87 Tryz.func87 rfl Tryz.ntmps87 (by simp) byClL byCl ?_
  rw [Tryz.results87]
  have c1 := mat_Check a (by omega)
  rw [eV_ne h] at c1 ⊢
  generalize ckM a = e at *
  repeat' (first | (simp only [go_sem, Int.reduceAdd, Int.reduceEq, Int.reduceLE, Int.reduceLT, Int.reduceMul, Int.reduceNeg, Int.reducePow, Int.reduceSub, Int.reduceToNat, Nat.reduceAdd, Nat.reduceBEq, Nat.reduceEqDiff, Nat.reduceLT, Nat.reduceLeDiff, Nat.reduceMul, Nat.reducePow, Nat.reduceSub, reduceCtorEq, reduceIte, IntKind.bits.eq_def, ti, tin]) | (simp (disch := omega) only [w64, wu64, wu32, Nat.min_eq_left]) | (with_reducible first | refine cF (c1) ?_ | refine dF (c1) ?_) | (refine after_boxF rfl rfl ?_) | (refine aL ti_ok ?_) | (refine dL ti_ok ?_) | (refine dE (by kernel_rfl) ?_) | ((first | refine cC ?_ ?_ | refine gS ?_ ?_ | refine dS ?_ ?_) <;> intro hc <;> first | (exfalso; simp only [dcT, dcF, bnT, bnF, bnU, bnV] at hc; omega) | (simp only [hc]; try simp only [dcT, dcF, bnT, bnF, bnU, bnV] at hc)) | (refine aN (by omega) ?_) | (refine dN (by omega) ?_))
  all_goals exact fin_same trivial rfl
theorem mat_Apply_shape (a : List (List RD)) (x : List RD) (h : ckM a = 0) (hs : ¬ x.length = (a.getD 0 []).length) : CallOK Tryz.prog gl 87 [.sl 1 (mrows (a)), .sl 3 (vrows (x))] (.tup [.v (.slice none 0 0), .v (.iface 155 (.int .i64 11))]) := by
  refine call_ok (C := ⟨Tryz.prog, gl, ti, 37, false⟩) ti_ok mixed 3000 Tryz.call87 Tryz.func87 rfl Tryz.ntmps87 (by simp) byClL byCl ?_
  rw [Tryz.results87]
  obtain ⟨a1, a2, a3, a4, a5⟩ := ckM_ok h
  have c1 := mat_Check a (by omega)
  rw [h, eV_zero] at c1
  have r0 := mrows_getD (a := a) (i := 0) a1
  have l0 : (vrows (a.getD 0 [])).length = (a.getD 0 []).length := vrows_length _
  clear a5
  generalize a.getD 0 [] = y at *
  repeat' (first | (simp only [go_sem, Int.reduceAdd, Int.reduceEq, Int.reduceLE, Int.reduceLT, Int.reduceMul, Int.reduceNeg, Int.reducePow, Int.reduceSub, Int.reduceToNat, Nat.reduceAdd, Nat.reduceBEq, Nat.reduceEqDiff, Nat.reduceLT, Nat.reduceLeDiff, Nat.reduceMul, Nat.reducePow, Nat.reduceSub, reduceCtorEq, reduceIte, IntKind.bits.eq_def, ti, tin, mrows_length, vrows_length, r0, l0]) | (simp (disch := omega) only [w64, wu64, wu32, Nat.min_eq_left]) | (with_reducible first | refine cF (c1) ?_ | refine dF (c1) ?_) | (refine after_boxF rfl rfl ?_) | (refine aL ti_ok ?_) | (refine dL ti_ok ?_) | (refine dE (by kernel_rfl) ?_) | ((first | refine cC ?_ ?_ | refine gS ?_ ?_ | refine dS ?_ ?_) <;> intro hc <;> first | (exfalso; simp only [dcT, dcF, bnT, bnF, bnU, bnV] at hc; omega) | (simp only [hc]; try simp only [dcT, dcF, bnT, bnF, bnU, bnV] at hc)) | (refine aN (by omega) ?_) | (refine dN (by omega) ?_))
  all_goals exact fin_same trivial rfl
theorem appD_raw {a : List (List RD)} {x : List RD} {m : Nat} (h : ∀ i, i < a.length → (a.getD i []).length = m) : appD (dyM a) (dyV x) = tabV a.length fun i => sumD m fun k => ((a.getD i []).getD k RD.zero).dy.mul (x.getD k RD.zero).dy := by
  unfold appD
  rw [dyM_len]
  refine tabV_congr fun i hi => ?_
  unfold dotD
  rw [dyM_get, dyV_len, h i hi]
  exact sumD_congr fun k hk => by
    rw [dyV_get]
    show Dy.mul _ ((dyV x).getD k Dy.zero) = _
    rw [dyV_get]
theorem mat_Apply (a : List (List RD)) (x : List RD) (p q : Nat) (hp : p + q ≤ 1000000) (h : ckM a = 0) (hs : x.length = (a.getD 0 []).length) (oa : okM p a) (ox : okV q x) : CallOK Tryz.prog gl 87 [.sl 1 (mrows (a)), .sl 3 (vrows (x))] (.tup [.sl 3 (vrows ((appD (dyM a) (dyV x)).map can)), .v .nilIface]) := by
  refine call_ok (C := ⟨Tryz.prog, gl, ti, 37, false⟩) ti_ok mixed 3000 Tryz.call87 Tryz.func87 rfl Tryz.ntmps87 (by simp) byClL byCl ?_
  rw [Tryz.results87]
  obtain ⟨a1, a2, a3, a4, a5⟩ := ckM_ok h
  rw [appD_raw (fun i hi => (a5 i hi).trans hs.symm)]
  have c1 := mat_Check a (by omega)
  rw [h, eV_zero] at c1
  have r0 := mrows_getD (a := a) (i := 0) a1
  have l0 : (vrows (a.getD 0 [])).length = (a.getD 0 []).length := vrows_length _
  have c2 : ∀ i, i < a.length → CallOK Tryz.prog gl 179 [.sl 3 (vrows (a.getD i [])), .fn 180 [.rp [.sl 3 (vrows x)]]] (.agg (crow (sumD x.length fun k => ((a.getD i []).getD k RD.zero).dy.mul (x.getD k RD.zero).dy))) := fun i hi => by
    have := mat_dot 180 [.rp [.sl 3 (vrows x)]] (a.getD i []) (fun k => x.getD k RD.zero) p q (by rw [a5 i hi]; omega) hp (caps1 Cl.vec) (oa i) (fun k _ => ox k) (fun k hk => mat_app1 k x (by rw [a5 i hi] at hk; omega) (by omega))
    rwa [a5 i hi, ← hs] at this
  obtain ⟨n, hn⟩ : ∃ n, a.length = n := ⟨_, rfl⟩
  have hs2 : x.length = (a.getD 0 []).length := hs
  obtain ⟨m, hm⟩ : ∃ m, x.length = m := ⟨_, rfl⟩
  rw [hn] at c2 a1 a2 ⊢
  rw [hm] at c2 hs2 ⊢
  rw [← hs2] at l0
  have hm8 : m ≤ 8 := by omega
  clear oa ox a5 a3 a4
  generalize hg : (fun i => sumD m fun k => ((a.getD i []).getD k RD.zero).dy.mul (x.getD k RD.zero).dy) = g at *
  have c3 : ∀ i, i < n → CallOK Tryz.prog gl 179 [.sl 3 (vrows (a.getD i [])), .fn 180 [.rp [.sl 3 (vrows x)]]] (.agg (crow (g i))) := fun i hi => by rw [← hg]; exact c2 i hi
  clear c2 hg
  repeat' (first | (simp only [go_sem, Int.reduceAdd, Int.reduceEq, Int.reduceLE, Int.reduceLT, Int.reduceMul, Int.reduceNeg, Int.reducePow, Int.reduceSub, Int.reduceToNat, Nat.reduceAdd, Nat.reduceBEq, Nat.reduceEqDiff, Nat.reduceLT, Nat.reduceLeDiff, Nat.reduceMul, Nat.reducePow, Nat.reduceSub, reduceCtorEq, reduceIte, IntKind.bits.eq_def, ti, tin, mrows_length, vrows_length, r0, l0, hn, hm]) | (simp (disch := omega) only [w64, wu64, wu32, Nat.min_eq_left]) | (with_reducible first | refine cF (c1) ?_ | refine dF (c1) ?_) | (refine after_boxF rfl rfl ?_) | (refine aL ti_ok ?_) | (refine dL ti_ok ?_) | (refine dE (by kernel_rfl) ?_) | ((first | refine cC ?_ ?_ | refine gS ?_ ?_ | refine dS ?_ ?_) <;> intro hc <;> first | (exfalso; simp only [dcT, dcF, bnT, bnF, bnU, bnV] at hc; omega) | (simp only [hc]; try simp only [dcT, dcF, bnT, bnF, bnU, bnV] at hc)) | (refine aN (by omega) ?_) | (refine dN (by omega) ?_))
  first | refine loop_weak (s' := ⟨[(3, .rp [.sl 3 (vrows x)]), (7, .ps 1 3 0 ((0 : Nat))), (23, .sl 1 (mrows (a))), (24, .v (.int .i64 n)), (25, .v (.int .i64 (((0 : Nat) : Int))))], [(1, ⟨3, []⟩)], 2⟩) ?_ (by first | exact Nat.le_refl _ | exact Nat.le_of_ble_eq_true rfl) ?_ | refine loop_weak0 (s' := ⟨[(3, .rp [.sl 3 (vrows x)]), (7, .ps 1 3 0 ((0 : Nat))), (23, .sl 1 (mrows (a))), (24, .v (.int .i64 n)), (25, .v (.int .i64 (((0 : Nat) : Int))))], [(1, ⟨3, []⟩)], 2⟩) ?_ (Nat.zero_lt_succ _) ?_
  · exact Weak.nilStart 1 3 (by decide) (by repeat' (first | exact trivial | exact .inr ⟨_, _, _, rfl, rfl⟩ | exact .inl ⟨_, rfl, .refl _, Cl.v _⟩ | exact .inl ⟨_, rfl, .refl _, Cl.mat⟩ | exact .inl ⟨_, rfl, .refl _, Cl.rp1 Cl.vec⟩ | refine And.intro ?_ ?_))
  refine l_loop (α := Nat) (fun i => ⟨[(3, .rp [.sl 3 (vrows x)]), (7, .ps 1 3 0 i), (23, .sl 1 (mrows (a))), (24, .v (.int .i64 n)), (25, .v (.int .i64 i))], [(1, ⟨3, vrows ((tabV i g).map can)⟩)], 2⟩) (fun i => i ≤ n) (fun i => n - i) (0) _ byFresh (fun _ h => by first | (cases h; done) | exact Nat.le_of_ble_eq_true rfl) ?_ ?_ ?_
  · exact Nat.zero_le _
  · exact byWeak
  rintro i hi
  by_cases hin : i < n
  ·
    have ri := mrows_getD (a := a) (i := i) (by omega)
    have c4 := c3 i hin
    have e4 : (vrows ((tabV i g).map can)).length = i := vtab_len
    have e5 := vtab_step (k := i) (f := g)
    generalize g i = z at *
    have hfn : Cl (.fn 180 [.rp [.sl 3 (vrows x)]]) := Cl.fn (caps1 Cl.vec)
    repeat' (first | (simp only [go_sem, Int.reduceAdd, Int.reduceEq, Int.reduceLE, Int.reduceLT, Int.reduceMul, Int.reduceNeg, Int.reducePow, Int.reduceSub, Int.reduceToNat, Nat.reduceAdd, Nat.reduceBEq, Nat.reduceEqDiff, Nat.reduceLT, Nat.reduceLeDiff, Nat.reduceMul, Nat.reducePow, Nat.reduceSub, reduceCtorEq, reduceIte, IntKind.bits.eq_def, ti, tin, mrows_length, ri, e4]) | (simp (disch := omega) only [w64, wu64, wu32, Nat.min_eq_left]) | (with_reducible first | refine cF (c4) ?_ | refine dF (c4) ?_) | (refine after_append_nil ti_ok rfl rfl rfl rfl ⟨rfl, by decide⟩ rfl ⟨trivial, by (try simp only [List.length_cons, List.length_nil, List.length_append, u32s_length, List.length_map, e4]); omega, by (try simp only [List.length_cons, List.length_nil, List.length_append, u32s_length, List.length_map, e4]); omega⟩ (fun _ => byRows) ?_) | (refine after_append_own ti_ok rfl rfl rfl rfl rfl ⟨rfl, rfl, by decide, Nat.le_of_ble_eq_true rfl⟩ (fun h => by first | (cases h; done) | decide) rfl ⟨trivial, by (try simp only [List.length_cons, List.length_nil, List.length_append, u32s_length, List.length_map, e4]); omega, by (try simp only [List.length_cons, List.length_nil, List.length_append, u32s_length, List.length_map, e4]); omega, by (try simp only [List.length_cons, List.length_nil, List.length_append, u32s_length, List.length_map, e4]); omega⟩ byRows byNoE byNoM ?_) | (refine aL ti_ok ?_) | (refine dL ti_ok ?_) | (refine dE (by kernel_rfl) ?_) | ((first | refine cC ?_ ?_ | refine gS ?_ ?_ | refine dS ?_ ?_) <;> intro hc <;> first | (exfalso; simp only [dcT, dcF, bnT, bnF, bnU, bnV] at hc; omega) | (simp only [hc]; try simp only [dcT, dcF, bnT, bnF, bnU, bnV] at hc)) | (refine aN (by omega) ?_) | (refine dN (by omega) ?_))
    refine roundEnd_of (α := Nat) (i + 1) (show i + 1 ≤ n by omega) (by omega) ?_
    rw [← e5]
    exact byWeak
  ·
    have hin2 : i = n := by omega
    subst hin2
    repeat' (first | (simp only [go_sem, Int.reduceAdd, Int.reduceEq, Int.reduceLE, Int.reduceLT, Int.reduceMul, Int.reduceNeg, Int.reducePow, Int.reduceSub, Int.reduceToNat, Nat.reduceAdd, Nat.reduceBEq, Nat.reduceEqDiff, Nat.reduceLT, Nat.reduceLeDiff, Nat.reduceMul, Nat.reducePow, Nat.reduceSub, reduceCtorEq, reduceIte, IntKind.bits.eq_def, ti, tin, mrows_length]) | (simp (disch := omega) only [w64, wu64, wu32, Nat.min_eq_left]) | (refine aL ti_ok ?_) | (refine dL ti_ok ?_) | (refine dE (by kernel_rfl) ?_) | ((first | refine cC ?_ ?_ | refine gS ?_ ?_ | refine dS ?_ ?_) <;> intro hc <;> first | (exfalso; simp only [dcT, dcF, bnT, bnF, bnU, bnV] at hc; omega) | (simp only [hc]; try simp only [dcT, dcF, bnT, bnF, bnU, bnV] at hc)) | (refine aN (by omega) ?_) | (refine dN (by omega) ?_))
    all_goals (refine fin_pub trivial (.tup (.cons (.one (.ps rfl rfl (by show 0 + i ≤ _; rw [vtab_len]; omega))) (.cons (.one .same) .nil))) ?_; rw [List.drop_zero, List.take_of_length_le (by rw [vtab_len]; exact Nat.le_refl _)]; exact .refl _)

/-! ### comparison -/
theorem mat_Le_err (a b : List (List RD)) (ha : a.length ≤ 1000) (hb : b.length ≤ 1000) (h : ¬ bothE a b (fitAdd a b) = 0) : CallOK Tryz.prog gl 93 [.sl 1 (mrows (a)), .sl 1 (mrows (b))] (.tup [.v (.bool (false)), .v (eV (bothE a b (fitAdd a b)))]) := by
  refine call_ok (C := ⟨Tryz.prog, gl, ti, 46, false⟩) ti_ok mixed 3000 Tryz.call93 Tryz.func93 rfl Tryz.ntmps93 (by simp) byClL byCl ?_
  rw [Tryz.results93]
  have c0 := mat_sameSize a b
  have c1 := mat_both 229 [.rp [.sl 1 (mrows a)], .rp [.sl 1 (mrows b)]] a b (fitAdd a b) ha hb (caps2 Cl.mat Cl.mat) (fun h1 h2 => by
    obtain ⟨a1, a2, a3, a4, a5⟩ := ckM_ok h1
    obtain ⟨b1, b2, b3, b4, b5⟩ := ckM_ok h2
    exact mat_fitAdd a b a1 ha b1 hb (by omega) (by omega))
  rw [eV_ne h] at c1 ⊢
  generalize bothE a b (fitAdd a b) = e at *
  repeat' (first | (simp only [go_sem, Int.reduceAdd, Int.reduceEq, Int.reduceLE, Int.reduceLT, Int.reduceMul, Int.reduceNeg, Int.reducePow, Int.reduceSub, Int.reduceToNat, Nat.reduceAdd, Nat.reduceBEq, Nat.reduceEqDiff, Nat.reduceLT, Nat.reduceLeDiff, Nat.reduceMul, Nat.reducePow, Nat.reduceSub, reduceCtorEq, reduceIte, IntKind.bits.eq_def, ti, tin]) | (simp (disch := omega) only [w64, wu64, wu32, Nat.min_eq_left]) | (with_reducible first | refine cF (c0) ?_ | refine dF (c0) ?_) | (with_reducible first | refine cF (c1) ?_ | refine dF (c1) ?_) | (refine aL ti_ok ?_) | (refine dL ti_ok ?_) | (refine dE (by kernel_rfl) ?_) | ((first | refine cC ?_ ?_ | refine gS ?_ ?_ | refine dS ?_ ?_) <;> intro hc <;> first | (exfalso; simp only [dcT, dcF, bnT, bnF, bnU, bnV] at hc; omega) | (simp only [hc]; try simp only [dcT, dcF, bnT, bnF, bnU, bnV] at hc)) | (refine aN (by omega) ?_) | (refine dN (by omega) ?_))
  all_goals exact fin_same trivial rfl
theorem leD_spec {a b : List (List RD)} {m : Nat} (h : ∀ i, i < a.length → (a.getD i []).length = m) : leD (dyM a) (dyM b) = decide (∀ i, i < a.length → ∀ j, j < m → ((a.getD i []).getD j RD.zero).dy.cmp ((b.getD i []).getD j RD.zero).dy ≤ 0) := by
  unfold leD
  refine decide_eq_decide.2 ⟨fun k i hi j hj => ?_, fun k i hi j hj => ?_⟩
  · have := k i (by rw [dyM_len]; exact hi) j (by rw [dyM_get, dyV_len, h i hi]; exact hj)
    rwa [dyM_el, dyM_el] at this
  · rw [dyM_len] at hi
    rw [dyM_get, dyV_len, h i hi] at hj
    rw [dyM_el, dyM_el]; exact k i hi j hj
theorem mat_Le (a b : List (List RD)) (p : Nat) (h : bothE a b (fitAdd a b) = 0) (oa : okM p a) (ob : okM p b) : CallOK Tryz.prog gl 93 [.sl 1 (mrows (a)), .sl 1 (mrows (b))] (.tup [.v (.bool ((leD (dyM a) (dyM b)))), .v .nilIface]) := by
  refine call_ok (C := ⟨Tryz.prog, gl, ti, 46, false⟩) ti_ok mixed 3000 Tryz.call93 Tryz.func93 rfl Tryz.ntmps93 (by simp) byClL byCl ?_
  rw [Tryz.results93]
  obtain ⟨h1, h2, h3⟩ := bothE_ok h
  obtain ⟨a1, a2, a3, a4, a5⟩ := ckM_ok h1
  obtain ⟨b1, b2, b3, b4, b5⟩ := ckM_ok h2
  obtain ⟨h4, h5⟩ := of_decide_eq_true h3
  have c0 := mat_sameSize a b
  have c1 := mat_both 229 [.rp [.sl 1 (mrows a)], .rp [.sl 1 (mrows b)]] a b (fitAdd a b) (by omega) (by omega) (caps2 Cl.mat Cl.mat) (fun _ _ => mat_fitAdd a b a1 (by omega) b1 (by omega) (by omega) (by omega))
  rw [h, eV_zero] at c1
  rw [leD_spec a5]
  obtain ⟨z, hz⟩ : ∃ z, decide (∀ i, i < a.length → ∀ j, j < (a.getD 0 []).length → ((a.getD i []).getD j RD.zero).dy.cmp ((b.getD i []).getD j RD.zero).dy ≤ 0) = z := ⟨_, rfl⟩
  rw [hz]
  obtain ⟨n, hn⟩ : ∃ n, a.length = n := ⟨_, rfl⟩
  obtain ⟨m, hm⟩ : ∃ m, (a.getD 0 []).length = m := ⟨_, rfl⟩
  have hzT : (∀ i, i < n → ∀ j, j < m → ((a.getD i []).getD j RD.zero).dy.cmp ((b.getD i []).getD j RD.zero).dy ≤ 0) → z = true := fun h => by rw [← hz]; exact decide_eq_true (fun i hi j hj => h i (by omega) j (by omega))
  have hzF : ¬ (∀ i, i < n → ∀ j, j < m → ((a.getD i []).getD j RD.zero).dy.cmp ((b.getD i []).getD j RD.zero).dy ≤ 0) → z = false := fun h => by rw [← hz]; exact decide_eq_false (fun hh => h (fun i hi j hj => hh i (by omega) j (by omega)))
  clear hz
  rw [hm] at a5 h5 a3 a4
  rw [← h5] at b5
  rw [← h4] at b5
  rw [hn] at a5 a1 a2 h4 b5
  repeat' (first | (simp only [go_sem, Int.reduceAdd, Int.reduceEq, Int.reduceLE, Int.reduceLT, Int.reduceMul, Int.reduceNeg, Int.reducePow, Int.reduceSub, Int.reduceToNat, Nat.reduceAdd, Nat.reduceBEq, Nat.reduceEqDiff, Nat.reduceLT, Nat.reduceLeDiff, Nat.reduceMul, Nat.reducePow, Nat.reduceSub, reduceCtorEq, reduceIte, IntKind.bits.eq_def, ti, tin, mrows_length, hn]) | (simp (disch := omega) only [w64, wu64, wu32, Nat.min_eq_left]) | (with_reducible first | refine cF (c0) ?_ | refine dF (c0) ?_) | (with_reducible first | refine cF (c1) ?_ | refine dF (c1) ?_) | (refine aL ti_ok ?_) | (refine dL ti_ok ?_) | (refine dE (by kernel_rfl) ?_) | ((first | refine cC ?_ ?_ | refine gS ?_ ?_ | refine dS ?_ ?_) <;> intro hc <;> first | (exfalso; simp only [dcT, dcF, bnT, bnF, bnU, bnV] at hc; omega) | (simp only [hc]; try simp only [dcT, dcF, bnT, bnF, bnU, bnV] at hc)) | (refine aN (by omega) ?_) | (refine dN (by omega) ?_))
  refine l_loop (α := Nat) (fun i => ⟨[(0, .sl 1 (mrows (a))), (1, .sl 1 (mrows (b))), (20, .sl 1 (mrows (a))), (21, .v (.int .i64 n)), (22, .v (.int .i64 i))], [], 0⟩) (fun i => i ≤ n ∧ ∀ i', i' < i → ∀ j, j < m → ((a.getD i' []).getD j RD.zero).dy.cmp ((b.getD i' []).getD j RD.zero).dy ≤ 0) (fun i => n - i) (0) _ byFresh (fun _ h => by first | (cases h; done) | exact Nat.le_of_ble_eq_true rfl) ?_ ?_ ?_
  · exact ⟨Nat.zero_le _, fun i' h => by omega⟩
  · exact byWeak
  rintro i ⟨hi, hall⟩
  by_cases hin : i < n
  ·
    have ri := mrows_getD (a := a) (i := i) (by omega)
    have ri' := mrows_getD (a := b) (i := i) (by omega)
    have va : (vrows (a.getD i [])).length = m := by rw [vrows_length, a5 i hin]
    have vb : (vrows (b.getD i [])).length = m := by rw [vrows_length, b5 i hin]
    have la := a5 i hin
    have lb := b5 i hin
    have okA := oa i
    have okB := ob i
    have hz2 : ∀ j, j < m → ¬ ((a.getD i []).getD j RD.zero).dy.cmp ((b.getD i []).getD j RD.zero).dy ≤ 0 → z = false := fun j hj h => hzF (fun hh => h (hh i hin j hj))
    have hstep : (∀ j, j < m → ((a.getD i []).getD j RD.zero).dy.cmp ((b.getD i []).getD j RD.zero).dy ≤ 0) → ∀ i', i' < i + 1 → ∀ j, j < m → ((a.getD i' []).getD j RD.zero).dy.cmp ((b.getD i' []).getD j RD.zero).dy ≤ 0 := fun h i' hi' => by
      by_cases e : i' = i
      · rw [e]; exact h
      · exact hall i' (by omega)
    generalize hx : a.getD i [] = x at *
    generalize hy : b.getD i [] = y at *
    repeat' (first | (simp only [go_sem, Int.reduceAdd, Int.reduceEq, Int.reduceLE, Int.reduceLT, Int.reduceMul, Int.reduceNeg, Int.reducePow, Int.reduceSub, Int.reduceToNat, Nat.reduceAdd, Nat.reduceBEq, Nat.reduceEqDiff, Nat.reduceLT, Nat.reduceLeDiff, Nat.reduceMul, Nat.reducePow, Nat.reduceSub, reduceCtorEq, reduceIte, IntKind.bits.eq_def, ti, tin, mrows_length, hn, ri, va]) | (simp (disch := omega) only [w64, wu64, wu32, Nat.min_eq_left]) | (refine aL ti_ok ?_) | (refine dL ti_ok ?_) | (refine dE (by kernel_rfl) ?_) | ((first | refine cC ?_ ?_ | refine gS ?_ ?_ | refine dS ?_ ?_) <;> intro hc <;> first | (exfalso; simp only [dcT, dcF, bnT, bnF, bnU, bnV] at hc; omega) | (simp only [hc]; try simp only [dcT, dcF, bnT, bnF, bnU, bnV] at hc)) | (refine aN (by omega) ?_) | (refine dN (by omega) ?_))
    refine l_loop (α := Nat) (fun j => ⟨[(0, .sl 1 (mrows (a))), (1, .sl 1 (mrows (b))), (7, .v (.int .i64 i)), (20, .sl 1 (mrows (a))), (21, .v (.int .i64 n)), (22, .v (.int .i64 i)), (27, .sl 3 (vrows (x))), (28, .v (.int .i64 m)), (29, .v (.int .i64 j))], [], 0⟩) (fun j => j ≤ m ∧ ∀ j', j' < j → (x.getD j' RD.zero).dy.cmp (y.getD j' RD.zero).dy ≤ 0) (fun j => m - j) (0) _ byFresh (fun _ h => by first | (cases h; done) | exact Nat.le_of_ble_eq_true rfl) ?_ ?_ ?_
    · exact ⟨Nat.zero_le _, fun i' h => by omega⟩
    · exact byWeak
    rintro j ⟨hj, hrow⟩
    by_cases hjm : j < m
    ·
      have rj := vrows_getD (l := x) (i := j) (by omega)
      have rj' := vrows_getD (l := y) (i := j) (by omega)
      have cm := Cmp_ok _ _ _ _ _ _ _ _ (RD.arg (okA j).1) (RD.arg (okB j).1)
      have hz3 := hz2 j hjm
      have hstep2 : (x.getD j RD.zero).dy.cmp (y.getD j RD.zero).dy ≤ 0 → ∀ j', j' < j + 1 → (x.getD j' RD.zero).dy.cmp (y.getD j' RD.zero).dy ≤ 0 := fun h j' hj' => by
        by_cases e : j' = j
        · rw [e]; exact h
        · exact hrow j' (by omega)
      clear hrow hstep hz2 hzT hzF hall okA okB oa ob a5 b5
      unfold vrow at rj rj'
      generalize hc : (x.getD j RD.zero).dy.cmp (y.getD j RD.zero).dy = c at *
      clear hc
      generalize x.getD j RD.zero = r at *
      generalize y.getD j RD.zero = r' at *
      by_cases hc0 : c ≤ 0
      ·
        have hrow2 := hstep2 hc0
        clear hstep2 hz3
        repeat' (first | (simp only [go_sem, Int.reduceAdd, Int.reduceEq, Int.reduceLE, Int.reduceLT, Int.reduceMul, Int.reduceNeg, Int.reducePow, Int.reduceSub, Int.reduceToNat, Nat.reduceAdd, Nat.reduceBEq, Nat.reduceEqDiff, Nat.reduceLT, Nat.reduceLeDiff, Nat.reduceMul, Nat.reducePow, Nat.reduceSub, reduceCtorEq, reduceIte, IntKind.bits.eq_def, ti, tin, mrows_length, ri', va, vb, rj, rj']) | (simp (disch := omega) only [w64, wu64, wu32, Nat.min_eq_left]) | (with_reducible first | refine cF (cm) ?_ | refine dF (cm) ?_) | (refine aL ti_ok ?_) | (refine dL ti_ok ?_) | (refine dE (by kernel_rfl) ?_) | ((first | refine cC ?_ ?_ | refine gS ?_ ?_ | refine dS ?_ ?_) <;> intro hc <;> first | (exfalso; simp only [dcT, dcF, bnT, bnF, bnU, bnV] at hc; omega) | (simp only [hc]; try simp only [dcT, dcF, bnT, bnF, bnU, bnV] at hc)) | (refine aN (by omega) ?_) | (refine dN (by omega) ?_))
        refine roundEnd_of (α := Nat) (j + 1) ⟨by omega, hrow2⟩ (by omega) ?_
        exact byWeak
      ·
        have hz4 := hz3 hc0
        subst hz4
        clear hstep2 hz3
        repeat' (first | (simp only [go_sem, Int.reduceAdd, Int.reduceEq, Int.reduceLE, Int.reduceLT, Int.reduceMul, Int.reduceNeg, Int.reducePow, Int.reduceSub, Int.reduceToNat, Nat.reduceAdd, Nat.reduceBEq, Nat.reduceEqDiff, Nat.reduceLT, Nat.reduceLeDiff, Nat.reduceMul, Nat.reducePow, Nat.reduceSub, reduceCtorEq, reduceIte, IntKind.bits.eq_def, ti, tin, mrows_length, ri', va, vb, rj, rj']) | (simp (disch := omega) only [w64, wu64, wu32, Nat.min_eq_left]) | (with_reducible first | refine cF (cm) ?_ | refine dF (cm) ?_) | (refine aL ti_ok ?_) | (refine dL ti_ok ?_) | (refine dE (by kernel_rfl) ?_) | ((first | refine cC ?_ ?_ | refine gS ?_ ?_ | refine dS ?_ ?_) <;> intro hc <;> first | (exfalso; simp only [dcT, dcF, bnT, bnF, bnU, bnV] at hc; omega) | (simp only [hc]; try simp only [dcT, dcF, bnT, bnF, bnU, bnV] at hc)) | (refine aN (by omega) ?_) | (refine dN (by omega) ?_))
        all_goals exact fin_same trivial rfl
    ·
      have hjm2 : j = m := by omega
      have hrow2 := hstep (fun j' h => hrow j' (by omega))
      clear hrow hstep hz2 hzT hzF hall
      repeat' (first | (simp only [go_sem, Int.reduceAdd, Int.reduceEq, Int.reduceLE, Int.reduceLT, Int.reduceMul, Int.reduceNeg, Int.reducePow, Int.reduceSub, Int.reduceToNat, Nat.reduceAdd, Nat.reduceBEq, Nat.reduceEqDiff, Nat.reduceLT, Nat.reduceLeDiff, Nat.reduceMul, Nat.reducePow, Nat.reduceSub, reduceCtorEq, reduceIte, IntKind.bits.eq_def, ti, tin, mrows_length]) | (simp (disch := omega) only [w64, wu64, wu32, Nat.min_eq_left]) | (refine aL ti_ok ?_) | (refine dL ti_ok ?_) | (refine dE (by kernel_rfl) ?_) | ((first | refine cC ?_ ?_ | refine gS ?_ ?_ | refine dS ?_ ?_) <;> intro hc <;> first | (exfalso; simp only [dcT, dcF, bnT, bnF, bnU, bnV] at hc; omega) | (simp only [hc]; try simp only [dcT, dcF, bnT, bnF, bnU, bnV] at hc)) | (refine aN (by omega) ?_) | (refine dN (by omega) ?_))
      refine roundEnd_of (α := Nat) (i + 1) ⟨by omega, hrow2⟩ (by omega) ?_
      exact byWeak
  ·
    have hz2 : z = true := hzT (fun i' h => hall i' (by omega))
    subst hz2
    repeat' (first | (simp only [go_sem, Int.reduceAdd, Int.reduceEq, Int.reduceLE, Int.reduceLT, Int.reduceMul, Int.reduceNeg, Int.reducePow, Int.reduceSub, Int.reduceToNat, Nat.reduceAdd, Nat.reduceBEq, Nat.reduceEqDiff, Nat.reduceLT, Nat.reduceLeDiff, Nat.reduceMul, Nat.reducePow, Nat.reduceSub, reduceCtorEq, reduceIte, IntKind.bits.eq_def, ti, tin, mrows_length]) | (simp (disch := omega) only [w64, wu64, wu32, Nat.min_eq_left]) | (refine aL ti_ok ?_) | (refine dL ti_ok ?_) | (refine dE (by kernel_rfl) ?_) | ((first | refine cC ?_ ?_ | refine gS ?_ ?_ | refine dS ?_ ?_) <;> intro hc <;> first | (exfalso; simp only [dcT, dcF, bnT, bnF, bnU, bnV] at hc; omega) | (simp only [hc]; try simp only [dcT, dcF, bnT, bnF, bnU, bnV] at hc)) | (refine aN (by omega) ?_) | (refine dN (by omega) ?_))
    all_goals exact fin_same trivial rfl
end Go.Proofs.YtdjgckcninibhaaGreatDoor
