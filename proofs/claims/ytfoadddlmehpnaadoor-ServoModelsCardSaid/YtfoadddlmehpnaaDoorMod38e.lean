/- The statement ServoModels: its code returns true. -/
import Derived.Test.YtfoadddlmehpnaaDoorMod38d
import Derived.Test.YtfoadddlmehpnaaDoorSteps38
set_option linter.unusedSimpArgs false
set_option linter.unusedVariables false
set_option linter.deprecated false
namespace Go.Proofs.YtfoadddlmehpnaaDoor
open Go Go.Ax
set_option maxRecDepth 100000
set_option maxHeartbeats 8000000

theorem nonneg_of {l : List Dy} (h : ∀ x ∈ l, 0 ≤ x.v) : nonneg (l.map can) := fun i hi => by
  rw [List.length_map] at hi
  have e : (l.map can).getD i RD.zero = can (l.getD i Dy.zero) := by simp [List.getD, hi]
  rw [e, can_dy, Dy.sign_v, if_neg (by have := h _ (mem_getD (d := Dy.zero) hi); grind)]
  split <;> omega
theorem nrm_nn {z : Int} {d : Nat} (hz : 0 ≤ z) : 0 ≤ (nrm z d).n := by
  unfold nrm
  simp only [decide_eq_false (show ¬ z < 0 by omega), sgn, cond_false]
  omega
theorem v_nn {x : Dy} : 0 ≤ x.v ↔ 0 ≤ x.n := by
  have := Dy.v_neg_iff x
  constructor
  · intro h
    by_cases q : x.n < 0
    · exact absurd (this.2 q) (by grind)
    · omega
  · intro h
    by_cases q : x.v < 0
    · exact absurd (this.1 q) (by omega)
    · grind
theorem v_mul_nn {x y : Dy} (hx : 0 ≤ x.v) (hy : 0 ≤ y.v) : 0 ≤ (x.mul y).v := v_nn.2 (nrm_nn (Int.mul_nonneg (v_nn.1 hx) (v_nn.1 hy)))
theorem v_fold_nn : ∀ (l : List Dy) (a : Dy), 0 ≤ a.v → (∀ x ∈ l, 0 ≤ x.v) → 0 ≤ (l.foldl Dy.mul a).v
  | [], a, h, _ => h
  | x :: l, a, h, hl => v_fold_nn l (a.mul x) (v_mul_nn h (hl x (List.mem_cons_self ..))) (fun y hy => hl y (List.mem_cons_of_mem _ hy))
theorem v_tms_nn {l : List Dy} (h : ∀ x ∈ l, 0 ≤ x.v) : 0 ≤ (tms l).v := v_fold_nn l _ (by rw [Dy.v_int]; decide +kernel) h
theorem v_nrm_nn {z : Int} {d : Nat} (hz : 0 ≤ z) : 0 ≤ (nrm z d).v := v_nn.2 (nrm_nn hz)
theorem v_add_nn {x y : Dy} (hx : 0 ≤ x.v) (hy : 0 ≤ y.v) : 0 ≤ (x.add y).v := by rw [Dy.v_add]; grind
theorem v_sh_nn {x : Dy} {sh : Int} (hx : 0 ≤ x.v) (hs : 0 ≤ sh ∧ sh ≤ 30) : 0 ≤ (x.shift (sh + 1)).v := by
  obtain ⟨n, rfl⟩ : ∃ n : Nat, sh = n := ⟨sh.toNat, by omega⟩
  have e := v_shift_pos (x := x) (j := n + 1) (by omega)
  rw [show ((n + 1 : Nat) : Int) = (n : Int) + 1 by omega] at e
  rw [e]
  exact Rat.mul_nonneg hx (by have := p2pos (n + 1); grind)
theorem v_t2_nn {x y : Dy} (hx : 0 ≤ x.v) (hy : 0 ≤ y.v) : 0 ≤ (tms [x, y]).v := v_tms_nn (by simp only [List.mem_cons, List.not_mem_nil, or_false]; rintro z (rfl | rfl) <;> assumption)
theorem v_t3_nn {x y z : Dy} (hx : 0 ≤ x.v) (hy : 0 ≤ y.v) (hz : 0 ≤ z.v) : 0 ≤ (tms [x, y, z]).v := v_tms_nn (by simp only [List.mem_cons, List.not_mem_nil, or_false]; rintro w (rfl | rfl | rfl) <;> assumption)
theorem v_int_nn {n : Int} (h : 0 ≤ n) : 0 ≤ (Dy.int n).v := v_nn.2 h
theorem m38_ok {g hh a b k : Dy} {sh ds : Int} (vg : 0 ≤ g.v) (vh : 0 ≤ hh.v) (va : 0 ≤ a.v) (vb : 0 ≤ b.v) (vk : 0 ≤ k.v) (hs : 0 ≤ sh ∧ sh ≤ 30) (hd : 0 ≤ ds) : ckT (cM (m38A g a b k)) (cM (m38D hh a k)) ((m38W g hh a b sh ds).map can) = 0 := by
  have i1 : 0 ≤ (Dy.int 1).v := v_int_nn (by omega)
  have w0 : 0 ≤ (m38w g hh a sh ds).v := v_add_nn (v_t2_nn (v_add_nn vg vh) (v_add_nn (v_sh_nn va hs) i1)) (v_int_nn hd)
  have n1 : nonneg ((m38W g hh a b sh ds).map can) := nonneg_of fun x hx => by
    simp only [m38W, List.mem_cons, List.not_mem_nil, or_false] at hx
    rcases hx with rfl | rfl | rfl
    · exact w0
    · exact w0
    · exact v_sh_nn vb hs
  have r1 : nonneg ([tms [hh, a, k], tms [hh, a], hh].map can) := nonneg_of fun x hx => by
    simp only [List.mem_cons, List.not_mem_nil, or_false] at hx
    rcases hx with rfl | rfl | rfl
    · exact v_t3_nn vh va vk
    · exact v_t2_nn vh va
    · exact vh
  have r2 : nonneg ([Dy.zero, Dy.zero, Dy.zero].map can) := nonneg_of fun x hx => by
    simp only [List.mem_cons, List.not_mem_nil, or_false, or_self] at hx
    subst hx
    rw [Dy.v_zero]; decide +kernel
  have n3 : nonnegM (cM (m38D hh a k)) := fun i hi => by
    simp only [m38D, List.map_cons, List.map_nil, List.length_cons, List.length_nil] at hi
    match i, hi with
    | 0, _ => exact r1
    | 1, _ => exact r1
    | 2, _ => exact r2
  have k1 : ckM (cM (m38A g a b k)) = 0 := by
    unfold ckM m38A
    simp only [List.map_cons, List.map_nil, List.length_cons, List.length_nil, List.getD_cons_zero]
    rw [if_neg (by omega), if_neg (by omega), if_neg (by omega), if_neg (by omega), if_pos]
    intro i hi
    match i, hi with
    | 0, _ => rfl
    | 1, _ => rfl
    | 2, _ => rfl
  have k2 : ckM (cM (m38D hh a k)) = 0 := by
    unfold ckM m38D
    simp only [List.map_cons, List.map_nil, List.length_cons, List.length_nil, List.getD_cons_zero]
    rw [if_neg (by omega), if_neg (by omega), if_neg (by omega), if_neg (by omega), if_pos]
    intro i hi
    match i, hi with
    | 0, _ => rfl
    | 1, _ => rfl
    | 2, _ => rfl
  unfold ckT
  rw [if_neg (by omega), if_neg (by simp [m38A]), if_neg (by simp [m38A]), if_neg (by omega), if_neg (by simp [m38A, m38D, m38W]), if_pos ⟨n3, n1⟩]
/-- The numbers of the model are small. -/
theorem m38_mg {g hh a b k : Dy} {sh ds : Int} (gg : Mg 64 g) (gh : Mg 64 hh) (ga : Mg 64 a) (gb : Mg 64 b) (gk : Mg 64 k) (hs : 0 ≤ sh ∧ sh ≤ 30) (hd : 0 ≤ ds ∧ ds ≤ 1099511627776) :
    ((∀ r ∈ m38A g a b k, r.length ≤ 8 ∧ ∀ x ∈ r, Mg 2048 x) ∧ (∀ r ∈ m38D hh a k, r.length ≤ 8 ∧ ∀ x ∈ r, Mg 2048 x)) ∧ ∀ x ∈ m38W g hh a b sh ds, Mg 2048 x := by
  have u {x : Dy} (q : Mg 64 x) : Mg 128 x := q.mono (by omega)
  have U {j : Nat} {x : Dy} (q : Mg j x) (hj : j ≤ 2048) : Mg 2048 x := q.mono hj
  have g1 : Mg 64 (Dy.int 1) := Mg.int (by decide)
  have m1 := mg_t3 (u gg) (u ga) (u gk)
  have m2 := mg_t2 (u gg) (u ga)
  have m4 := mg_t2 (u gb) (u gk)
  have m6 := mg_t3 (u gh) (u ga) (u gk)
  have m7 := mg_t2 (u gh) (u ga)
  have ma1 := gg.add gh
  have ma2 := (mg_sh ga (sh := sh) (by omega)).add (g1.mono (show 64 ≤ 96 by omega))
  have m9 := mg_t2 (ma1.mono (show 64 + 1 ≤ 128 by omega)) (ma2.mono (show 96 + 1 ≤ 128 by omega))
  have g3 : Mg 1024 (Dy.int ds) := (Mg.int (k := 64) (by omega)).mono (by omega)
  have mw : Mg (1024 + 1) (m38w g hh a sh ds) := m9.add g3
  have o1 : Mg 1024 (Dy.int 1) := g1.mono (by omega)
  refine ⟨⟨fun r hr => ?_, fun r hr => ?_⟩, fun x hx => ?_⟩
  · simp only [m38A, List.mem_cons, List.not_mem_nil, or_false] at hr
    rcases hr with rfl | rfl | rfl
    · refine ⟨by simp, fun x hx => ?_⟩
      simp only [List.mem_cons, List.not_mem_nil, or_false] at hx
      rcases hx with rfl | rfl | rfl
      · exact U (o1.sub m1) (by omega)
      · exact U (o1.sub m2) (by omega)
      · exact U gg (by omega)
    · refine ⟨by simp, fun x hx => ?_⟩
      simp only [List.mem_cons, List.not_mem_nil, or_false] at hx
      rcases hx with rfl | rfl | rfl
      · exact U m1.neg (by omega)
      · exact U (o1.sub m2) (by omega)
      · exact U gg (by omega)
    · refine ⟨by simp, fun x hx => ?_⟩
      simp only [List.mem_cons, List.not_mem_nil, or_false] at hx
      rcases hx with rfl | rfl | rfl
      · exact U m4.neg (by omega)
      · exact U gb.neg (by omega)
      · exact U g1 (by omega)
  · simp only [m38D, List.mem_cons, List.not_mem_nil, or_false] at hr
    rcases hr with rfl | rfl | rfl
    · refine ⟨by simp, fun x hx => ?_⟩
      simp only [List.mem_cons, List.not_mem_nil, or_false] at hx
      rcases hx with rfl | rfl | rfl
      · exact U m6 (by omega)
      · exact U m7 (by omega)
      · exact U gh (by omega)
    · refine ⟨by simp, fun x hx => ?_⟩
      simp only [List.mem_cons, List.not_mem_nil, or_false] at hx
      rcases hx with rfl | rfl | rfl
      · exact U m6 (by omega)
      · exact U m7 (by omega)
      · exact U gh (by omega)
    · refine ⟨by simp, fun x hx => ?_⟩
      simp only [List.mem_cons, List.not_mem_nil, or_false, or_self] at hx
      subst hx
      exact Mg.zero _
  · simp only [m38W, List.mem_cons, List.not_mem_nil, or_false] at hx
    rcases hx with rfl | rfl | rfl
    · exact U mw (by omega)
    · exact U mw (by omega)
    · exact U (mg_sh gb (by omega)) (by omega)
theorem same38_nil  : CallOK Tryd.prog gl 30 [.agg [.v (.slice none 0 0), .v (.slice none 0 0), .v (.slice none 0 0)], .agg [.v (.slice none 0 0), .v (.slice none 0 0), .v (.slice none 0 0)]] (.v (.bool (true))) := by
  refine call_ok (C := ⟨Tryd.prog, gl, ti, 24, false⟩) ti_ok mixed 3000 Tryd.call30 Tryd.func30 rfl Tryd.ntmps30 (by simp) byClL byCl ?_
  rw [Tryd.results30]
  repeat' (first
    | (simp only [go_sem, Int.reduceAdd, Int.reduceEq, Int.reduceLE, Int.reduceLT, Int.reduceMul, Int.reduceNeg, Int.reducePow, Int.reduceSub, Int.reduceToNat, Nat.reduceAdd, Nat.reduceBEq, Nat.reduceEqDiff, Nat.reduceLT, Nat.reduceLeDiff, Nat.reduceMul, Nat.reducePow, Nat.reduceSub, reduceCtorEq, reduceIte, IntKind.bits.eq_def, ti, tin])
    | (simp (disch := omega) only [w64, wu64, wu32, Nat.min_eq_left])
    | (with_reducible refine callF_of (nil_SameM) ?_)
    | (with_reducible refine drawF_of (nil_SameM) ?_)
    | (with_reducible refine callF_of (nil_SameRow) ?_)
    | (with_reducible refine drawF_of (nil_SameRow) ?_)
    | (refine after_lit ti_ok ?_)
    | (refine drawAfter_lit ti_ok ?_)
    | (refine drawEnd_of (by kernel_rfl) ?_)
    | ((first | refine cond_cases (fun hc => ?_) (fun hc => ?_) | refine guard_split (fun hc => ?_) (fun hc => ?_) | refine drawGuard_split (fun hc => ?_) (fun hc => ?_)) <;> first | (exfalso; simp only [decide_eq_true_eq, decide_eq_false_iff_not, Bool.not_eq_true, Bool.not_eq_false, Bool.not_eq_true', Bool.not_eq_false'] at hc; omega) | (simp only [hc]; try simp only [decide_eq_true_eq, decide_eq_false_iff_not, Bool.not_eq_true, Bool.not_eq_false, Bool.not_eq_true', Bool.not_eq_false'] at hc))
    | (refine after_need (by omega) ?_)
    | (refine drawAfter_need (by omega) ?_))
  all_goals exact fin_same trivial rfl
theorem same38 (a d : List (List Dy)) (w : List Dy) (ha : a.length ≤ 8) (ka : ∀ r ∈ a, r.length ≤ 8 ∧ ∀ x ∈ r, (ms x).length ≤ 4611686018427387904) (hd : d.length ≤ 8) (kd : ∀ r ∈ d, r.length ≤ 8 ∧ ∀ x ∈ r, (ms x).length ≤ 4611686018427387904) (hw : w.length ≤ 8) (kw : ∀ x ∈ w, (ms x).length ≤ 4611686018427387904) : CallOK Tryd.prog gl 30 [.agg [.sl 1 (mrows (cM a)), .sl 1 (mrows (cM d)), .sl 3 (vrows (w.map can))], .agg [.sl 1 (mrows (cM a)), .sl 1 (mrows (cM d)), .sl 3 (vrows (w.map can))]] (.v (.bool (true))) := by
  refine call_ok (C := ⟨Tryd.prog, gl, ti, 24, false⟩) ti_ok mixed 3000 Tryd.call30 Tryd.func30 rfl Tryd.ntmps30 (by simp) byClL byCl ?_
  rw [Tryd.results30]
  have sA := same_SameM ha ka
  have sD := same_SameM hd kd
  have sW := same_SameRow hw kw
  clear ha ka hd kd hw kw
  generalize mrows (cM a) = A at *
  generalize mrows (cM d) = B at *
  generalize vrows (w.map can) = W at *
  repeat' (first
    | (simp only [go_sem, Int.reduceAdd, Int.reduceEq, Int.reduceLE, Int.reduceLT, Int.reduceMul, Int.reduceNeg, Int.reducePow, Int.reduceSub, Int.reduceToNat, Nat.reduceAdd, Nat.reduceBEq, Nat.reduceEqDiff, Nat.reduceLT, Nat.reduceLeDiff, Nat.reduceMul, Nat.reducePow, Nat.reduceSub, reduceCtorEq, reduceIte, IntKind.bits.eq_def, ti, tin])
    | (simp (disch := omega) only [w64, wu64, wu32, Nat.min_eq_left])
    | (with_reducible refine callF_of (sA) ?_)
    | (with_reducible refine drawF_of (sA) ?_)
    | (with_reducible refine callF_of (sD) ?_)
    | (with_reducible refine drawF_of (sD) ?_)
    | (with_reducible refine callF_of (sW) ?_)
    | (with_reducible refine drawF_of (sW) ?_)
    | (refine after_lit ti_ok ?_)
    | (refine drawAfter_lit ti_ok ?_)
    | (refine drawEnd_of (by kernel_rfl) ?_)
    | ((first | refine cond_cases (fun hc => ?_) (fun hc => ?_) | refine guard_split (fun hc => ?_) (fun hc => ?_) | refine drawGuard_split (fun hc => ?_) (fun hc => ?_)) <;> first | (exfalso; simp only [decide_eq_true_eq, decide_eq_false_iff_not, Bool.not_eq_true, Bool.not_eq_false, Bool.not_eq_true', Bool.not_eq_false'] at hc; omega) | (simp only [hc]; try simp only [decide_eq_true_eq, decide_eq_false_iff_not, Bool.not_eq_true, Bool.not_eq_false, Bool.not_eq_true', Bool.not_eq_false'] at hc))
    | (refine after_need (by omega) ?_)
    | (refine drawAfter_need (by omega) ?_))
  all_goals exact fin_same trivial rfl
theorem models38_bad (kv sh kp ki lo hi gn dv ds : Int) (h : svBad kv sh kp ki lo hi) : CallOK Tryd.prog gl 5 [.agg [.v (.int .i64 kv), .v (.int .i64 sh), .v (.int .i64 kp), .v (.int .i64 ki), .v (.int .i64 lo), .v (.int .i64 hi)], .agg [.v (.int .i64 gn), .v (.int .i64 dv), .v (.int .i64 ds)]] (.v (.bool (true))) := by
  refine call_ok (C := ⟨Tryd.prog, gl, ti, 51, false⟩) ti_ok mixed 3000 Tryd.call5 Tryd.func5 rfl Tryd.ntmps5 (by simp) byClL byCl ?_
  rw [Tryd.results5]
  repeat' (first
    | (simp only [go_sem, Int.reduceAdd, Int.reduceEq, Int.reduceLE, Int.reduceLT, Int.reduceMul, Int.reduceNeg, Int.reducePow, Int.reduceSub, Int.reduceToNat, Nat.reduceAdd, Nat.reduceBEq, Nat.reduceEqDiff, Nat.reduceLT, Nat.reduceLeDiff, Nat.reduceMul, Nat.reducePow, Nat.reduceSub, reduceCtorEq, reduceIte, IntKind.bits.eq_def, ti, tin])
    | (simp (disch := omega) only [w64, wu64, wu32, Nat.min_eq_left])
    | (with_reducible refine callF_of (awake38) ?_)
    | (with_reducible refine drawF_of (awake38) ?_)
    | (with_reducible refine callF_of (sv_Model_bad _ _ _ _ _ _ _ _ _ h) ?_)
    | (with_reducible refine drawF_of (sv_Model_bad _ _ _ _ _ _ _ _ _ h) ?_)
    | (with_reducible refine callF_of (ref38_Model_bad _ _ _ _ _ _ _ _ _ h) ?_)
    | (with_reducible refine drawF_of (ref38_Model_bad _ _ _ _ _ _ _ _ _ h) ?_)
    | (with_reducible refine callF_of (base_Num 3) ?_)
    | (with_reducible refine drawF_of (base_Num 3) ?_)
    | (with_reducible refine callF_of (same38_nil) ?_)
    | (with_reducible refine drawF_of (same38_nil) ?_)
    | (refine after_lit ti_ok ?_)
    | (refine drawAfter_lit ti_ok ?_)
    | (refine drawEnd_of (by kernel_rfl) ?_)
    | ((first | refine cond_cases (fun hc => ?_) (fun hc => ?_) | refine guard_split (fun hc => ?_) (fun hc => ?_) | refine drawGuard_split (fun hc => ?_) (fun hc => ?_)) <;> first | (exfalso; simp only [decide_eq_true_eq, decide_eq_false_iff_not, Bool.not_eq_true, Bool.not_eq_false, Bool.not_eq_true', Bool.not_eq_false'] at hc; omega) | (simp only [hc]; try simp only [decide_eq_true_eq, decide_eq_false_iff_not, Bool.not_eq_true, Bool.not_eq_false, Bool.not_eq_true', Bool.not_eq_false'] at hc))
    | (refine after_need (by omega) ?_)
    | (refine drawAfter_need (by omega) ?_))
  all_goals exact fin_same trivial rfl
theorem models38_bad2 (kv sh kp ki lo hi gn dv ds : Int) (h : ¬ svBad kv sh kp ki lo hi) (h2 : mdBad gn dv ds) : CallOK Tryd.prog gl 5 [.agg [.v (.int .i64 kv), .v (.int .i64 sh), .v (.int .i64 kp), .v (.int .i64 ki), .v (.int .i64 lo), .v (.int .i64 hi)], .agg [.v (.int .i64 gn), .v (.int .i64 dv), .v (.int .i64 ds)]] (.v (.bool (true))) := by
  refine call_ok (C := ⟨Tryd.prog, gl, ti, 51, false⟩) ti_ok mixed 3000 Tryd.call5 Tryd.func5 rfl Tryd.ntmps5 (by simp) byClL byCl ?_
  rw [Tryd.results5]
  repeat' (first
    | (simp only [go_sem, Int.reduceAdd, Int.reduceEq, Int.reduceLE, Int.reduceLT, Int.reduceMul, Int.reduceNeg, Int.reducePow, Int.reduceSub, Int.reduceToNat, Nat.reduceAdd, Nat.reduceBEq, Nat.reduceEqDiff, Nat.reduceLT, Nat.reduceLeDiff, Nat.reduceMul, Nat.reducePow, Nat.reduceSub, reduceCtorEq, reduceIte, IntKind.bits.eq_def, ti, tin])
    | (simp (disch := omega) only [w64, wu64, wu32, Nat.min_eq_left])
    | (with_reducible refine callF_of (awake38) ?_)
    | (with_reducible refine drawF_of (awake38) ?_)
    | (with_reducible refine callF_of (sv_Model_bad2 _ _ _ _ _ _ _ _ _ h h2) ?_)
    | (with_reducible refine drawF_of (sv_Model_bad2 _ _ _ _ _ _ _ _ _ h h2) ?_)
    | (with_reducible refine callF_of (ref38_Model_bad2 _ _ _ _ _ _ _ _ _ h h2) ?_)
    | (with_reducible refine drawF_of (ref38_Model_bad2 _ _ _ _ _ _ _ _ _ h h2) ?_)
    | (with_reducible refine callF_of (base_Num 3) ?_)
    | (with_reducible refine drawF_of (base_Num 3) ?_)
    | (with_reducible refine callF_of (same38_nil) ?_)
    | (with_reducible refine drawF_of (same38_nil) ?_)
    | (refine after_lit ti_ok ?_)
    | (refine drawAfter_lit ti_ok ?_)
    | (refine drawEnd_of (by kernel_rfl) ?_)
    | ((first | refine cond_cases (fun hc => ?_) (fun hc => ?_) | refine guard_split (fun hc => ?_) (fun hc => ?_) | refine drawGuard_split (fun hc => ?_) (fun hc => ?_)) <;> first | (exfalso; simp only [decide_eq_true_eq, decide_eq_false_iff_not, Bool.not_eq_true, Bool.not_eq_false, Bool.not_eq_true', Bool.not_eq_false'] at hc; omega) | (simp only [hc]; try simp only [decide_eq_true_eq, decide_eq_false_iff_not, Bool.not_eq_true, Bool.not_eq_false, Bool.not_eq_true', Bool.not_eq_false'] at hc))
    | (refine after_need (by omega) ?_)
    | (refine drawAfter_need (by omega) ?_))
  all_goals exact fin_same trivial rfl
theorem models38_ok (kv sh kp ki lo hi gn dv ds : Int) (h : ¬ svBad kv sh kp ki lo hi) (h2 : ¬ mdBad gn dv ds) : CallOK Tryd.prog gl 5 [.agg [.v (.int .i64 kv), .v (.int .i64 sh), .v (.int .i64 kp), .v (.int .i64 ki), .v (.int .i64 lo), .v (.int .i64 hi)], .agg [.v (.int .i64 gn), .v (.int .i64 dv), .v (.int .i64 ds)]] (.v (.bool (true))) := by
  refine call_ok (C := ⟨Tryd.prog, gl, ti, 51, false⟩) ti_ok mixed 3000 Tryd.call5 Tryd.func5 rfl Tryd.ntmps5 (by simp) byClL byCl ?_
  rw [Tryd.results5]
  obtain ⟨g, eg⟩ : ∃ g, nrm gn 16 = g := ⟨_, rfl⟩
  obtain ⟨hh, eh⟩ : ∃ g, nrm dv 16 = g := ⟨_, rfl⟩
  obtain ⟨k, ek⟩ : ∃ g, nrm kv 12 = g := ⟨_, rfl⟩
  obtain ⟨a, ea⟩ : ∃ g, nrm (kp + ki) (12 + sh).toNat = g := ⟨_, rfl⟩
  obtain ⟨b, eb⟩ : ∃ g, nrm ki (12 + sh).toNat = g := ⟨_, rfl⟩
  have m1 := sv_Model kv sh kp ki lo hi gn dv ds h h2 g hh k a b eg eh ek ea eb
  have m2 := ref38_Model kv sh kp ki lo hi gn dv ds h h2 g hh k a b eg eh ek ea eb
  unfold svBad piBad at h
  unfold mdBad at h2
  have gg : Mg 64 g := by rw [← eg]; exact mg_make (by omega)
  have gh : Mg 64 hh := by rw [← eh]; exact mg_make (by omega)
  have gk : Mg 64 k := by rw [← ek]; exact mg_make (by omega)
  have ga : Mg 64 a := by rw [← ea]; exact mg_make (by omega)
  have gb : Mg 64 b := by rw [← eb]; exact mg_make (by omega)
  obtain ⟨⟨mA, mD⟩, mW⟩ := m38_mg (sh := sh) (ds := ds) gg gh ga gb gk (by omega) (by omega)
  have ck := m38_ok (sh := sh) (ds := ds) (show 0 ≤ g.v by rw [← eg]; exact v_nrm_nn (by omega)) (show 0 ≤ hh.v by rw [← eh]; exact v_nrm_nn (by omega)) (show 0 ≤ a.v by rw [← ea]; exact v_nrm_nn (by omega)) (show 0 ≤ b.v by rw [← eb]; exact v_nrm_nn (by omega)) (show 0 ≤ k.v by rw [← ek]; exact v_nrm_nn (by omega)) (by omega) (by omega)
  have sm := same38 (m38A g a b k) (m38D hh a k) (m38W g hh a b sh ds) (by simp [m38A]) (fun r hr => ⟨(mA r hr).1, fun x hx => mg_len ((mA r hr).2 x hx)⟩) (by simp [m38D]) (fun r hr => ⟨(mD r hr).1, fun x hx => mg_len ((mD r hr).2 x hx)⟩) (by simp [m38W]) (fun x hx => mg_len (mW x hx))
  have tc := tub_Check (cM (m38A g a b k)) (cM (m38D hh a k)) ((m38W g hh a b sh ds).map can) (by simp [m38A]) (by simp [m38D]) (by simp [m38W])
    (fun l hl => by
      obtain ⟨r, hr, rfl⟩ := List.mem_map.1 hl
      refine ⟨by have := (mD r hr).1; simp; omega, fun y hy => ?_⟩
      obtain ⟨x, hx, rfl⟩ := List.mem_map.1 hy
      exact ((mD r hr).2 x hx).ok (by omega))
    (fun r hr => by
      obtain ⟨x, hx, rfl⟩ := List.mem_map.1 hr
      exact (mW x hx).ok (by omega))
  rw [ck, eV_zero] at tc
  clear ck mA mD mW gg gh gk ga gb eg eh ek ea eb h h2
  generalize mrows (cM (m38A g a b k)) = A at *
  generalize mrows (cM (m38D hh a k)) = B at *
  generalize vrows ((m38W g hh a b sh ds).map can) = W at *
  repeat' (first
    | (simp only [go_sem, Int.reduceAdd, Int.reduceEq, Int.reduceLE, Int.reduceLT, Int.reduceMul, Int.reduceNeg, Int.reducePow, Int.reduceSub, Int.reduceToNat, Nat.reduceAdd, Nat.reduceBEq, Nat.reduceEqDiff, Nat.reduceLT, Nat.reduceLeDiff, Nat.reduceMul, Nat.reducePow, Nat.reduceSub, reduceCtorEq, reduceIte, IntKind.bits.eq_def, ti, tin])
    | (simp (disch := omega) only [w64, wu64, wu32, Nat.min_eq_left])
    | (with_reducible refine callF_of (awake38) ?_)
    | (with_reducible refine drawF_of (awake38) ?_)
    | (with_reducible refine callF_of (m1) ?_)
    | (with_reducible refine drawF_of (m1) ?_)
    | (with_reducible refine callF_of (m2) ?_)
    | (with_reducible refine drawF_of (m2) ?_)
    | (with_reducible refine callF_of (sm) ?_)
    | (with_reducible refine drawF_of (sm) ?_)
    | (with_reducible refine callF_of (tc) ?_)
    | (with_reducible refine drawF_of (tc) ?_)
    | (with_reducible refine callF_of (base_Num_nil) ?_)
    | (with_reducible refine drawF_of (base_Num_nil) ?_)
    | (refine after_lit ti_ok ?_)
    | (refine drawAfter_lit ti_ok ?_)
    | (refine drawEnd_of (by kernel_rfl) ?_)
    | ((first | refine cond_cases (fun hc => ?_) (fun hc => ?_) | refine guard_split (fun hc => ?_) (fun hc => ?_) | refine drawGuard_split (fun hc => ?_) (fun hc => ?_)) <;> first | (exfalso; simp only [decide_eq_true_eq, decide_eq_false_iff_not, Bool.not_eq_true, Bool.not_eq_false, Bool.not_eq_true', Bool.not_eq_false'] at hc; omega) | (simp only [hc]; try simp only [decide_eq_true_eq, decide_eq_false_iff_not, Bool.not_eq_true, Bool.not_eq_false, Bool.not_eq_true', Bool.not_eq_false'] at hc))
    | (refine after_need (by omega) ?_)
    | (refine drawAfter_need (by omega) ?_))
  all_goals exact fin_same trivial rfl
theorem models38 (kv sh kp ki lo hi gn dv ds : Int) : CallOK Tryd.prog gl 5 [.agg [.v (.int .i64 kv), .v (.int .i64 sh), .v (.int .i64 kp), .v (.int .i64 ki), .v (.int .i64 lo), .v (.int .i64 hi)], .agg [.v (.int .i64 gn), .v (.int .i64 dv), .v (.int .i64 ds)]] (.v (.bool true)) := by
  by_cases h : svBad kv sh kp ki lo hi
  · exact models38_bad kv sh kp ki lo hi gn dv ds h
  · by_cases h2 : mdBad gn dv ds
    · exact models38_bad2 kv sh kp ki lo hi gn dv ds h h2
    · exact models38_ok kv sh kp ki lo hi gn dv ds h h2
end Go.Proofs.YtfoadddlmehpnaaDoor
