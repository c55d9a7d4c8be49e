/- The statement ObserverTracks: its code returns true. -/
import Derived.Test.YtfoadddlmehpnaaDoorObM
set_option linter.unusedSimpArgs false
set_option linter.unusedVariables false
set_option linter.deprecated false
namespace Go.Proofs.YtfoadddlmehpnaaDoor
open Go Go.Ax
set_option maxRecDepth 100000
set_option maxHeartbeats 4000000

theorem ob_Track_bad (R L lk kp ki fa fb an sp m : Int) (h : obBad R L lk kp ki) : CallOK Tryd.prog gl 7 [.agg [.v (.int .i64 R), .v (.int .i64 L), .v (.int .i64 lk), .v (.int .i64 kp), .v (.int .i64 ki)], .agg [.v (.int .i64 fa), .v (.int .i64 fb), .v (.int .i64 an), .v (.int .i64 sp)], .v (.int .i64 m)] (.tup [.agg [.v (.int .i64 0), .v (.int .i64 0), .v (.int .i64 0), .v (.int .i64 0)], .v (.iface 71 (.int .i64 3))]) := by
  refine call_ok (C := ⟨Tryd.prog, gl, ti, 19, false⟩) ti_ok mixed 3000 Tryd.call7 Tryd.func7 rfl Tryd.ntmps7 (by simp) byClL byCl ?_
  rw [Tryd.results7]
  repeat' (first
    | (simp only [go_sem, Int.reduceAdd, Int.reduceEq, Int.reduceLE, Int.reduceLT, Int.reduceMul, Int.reduceNeg, Int.reducePow, Int.reduceSub, Int.reduceToNat, Nat.reduceAdd, Nat.reduceBEq, Nat.reduceEqDiff, Nat.reduceLT, Nat.reduceLeDiff, Nat.reduceMul, Nat.reducePow, Nat.reduceSub, reduceCtorEq, reduceIte, IntKind.bits.eq_def, ti, tin])
    | (simp (disch := omega) only [w64, wu64, wu32, Nat.min_eq_left])
    | (with_reducible refine callF_of (ob_Check_bad _ _ _ _ _ h) ?_)
    | (with_reducible refine drawF_of (ob_Check_bad _ _ _ _ _ h) ?_)
    | (refine after_lit ti_ok ?_)
    | (refine drawAfter_lit ti_ok ?_)
    | (refine drawEnd_of (by kernel_rfl) ?_)
    | ((first | refine cond_cases (fun hc => ?_) (fun hc => ?_) | refine guard_split (fun hc => ?_) (fun hc => ?_) | refine drawGuard_split (fun hc => ?_) (fun hc => ?_)) <;> first | (exfalso; simp only [decide_eq_true_eq, decide_eq_false_iff_not, Bool.not_eq_true, Bool.not_eq_false, Bool.not_eq_true', Bool.not_eq_false'] at hc; omega) | (simp only [hc]; try simp only [decide_eq_true_eq, decide_eq_false_iff_not, Bool.not_eq_true, Bool.not_eq_false, Bool.not_eq_true', Bool.not_eq_false'] at hc))
    | (refine after_need (by omega) ?_)
    | (refine drawAfter_need (by omega) ?_))
  exact fin_same trivial rfl
theorem ref39_Track_bad (R L lk kp ki fa fb an sp m : Int) (h : obBad R L lk kp ki) : CallOK Tryd.prog gl 9 [.agg [.v (.int .i64 R), .v (.int .i64 L), .v (.int .i64 lk), .v (.int .i64 kp), .v (.int .i64 ki)], .agg [.v (.int .i64 fa), .v (.int .i64 fb), .v (.int .i64 an), .v (.int .i64 sp)], .v (.int .i64 m)] (.tup [.agg [.v (.int .i64 0), .v (.int .i64 0), .v (.int .i64 0), .v (.int .i64 0)], .v (.int .i64 3)]) := by
  refine call_ok (C := ⟨Tryd.prog, gl, ti, 46, false⟩) ti_ok mixed 3000 Tryd.call9 Tryd.func9 rfl Tryd.ntmps9 (by simp) byClL byCl ?_
  rw [Tryd.results9]
  repeat' (first
    | (simp only [go_sem, Int.reduceAdd, Int.reduceEq, Int.reduceLE, Int.reduceLT, Int.reduceMul, Int.reduceNeg, Int.reducePow, Int.reduceSub, Int.reduceToNat, Nat.reduceAdd, Nat.reduceBEq, Nat.reduceEqDiff, Nat.reduceLT, Nat.reduceLeDiff, Nat.reduceMul, Nat.reducePow, Nat.reduceSub, reduceCtorEq, reduceIte, IntKind.bits.eq_def, ti, tin])
    | (simp (disch := omega) only [w64, wu64, wu32, Nat.min_eq_left])
    | (with_reducible refine callF_of (ref39_Check_bad _ _ _ _ _ h) ?_)
    | (with_reducible refine drawF_of (ref39_Check_bad _ _ _ _ _ h) ?_)
    | (refine after_lit ti_ok ?_)
    | (refine drawAfter_lit ti_ok ?_)
    | (refine drawEnd_of (by kernel_rfl) ?_)
    | ((first | refine cond_cases (fun hc => ?_) (fun hc => ?_) | refine guard_split (fun hc => ?_) (fun hc => ?_) | refine drawGuard_split (fun hc => ?_) (fun hc => ?_)) <;> first | (exfalso; simp only [decide_eq_true_eq, decide_eq_false_iff_not, Bool.not_eq_true, Bool.not_eq_false, Bool.not_eq_true', Bool.not_eq_false'] at hc; omega) | (simp only [hc]; try simp only [decide_eq_true_eq, decide_eq_false_iff_not, Bool.not_eq_true, Bool.not_eq_false, Bool.not_eq_true', Bool.not_eq_false'] at hc))
    | (refine after_need (by omega) ?_)
    | (refine drawAfter_need (by omega) ?_))
  exact fin_same trivial rfl
theorem mg_len {k : Nat} {x : Dy} (h : Mg k x) (hk : k ≤ 1099511627776 := by omega) : (ms x).length ≤ 4611686018427387904 := by have := (Arg.of h hk).len; omega
theorem nil_SameM : CallOK Tryd.prog gl 12 [.v (.slice none 0 0), .v (.slice none 0 0)] (.v (.bool true)) := by
  have h := ref_SameM [] [] (by simp) (by simp) (fun r hr => by cases hr) (fun r hr => by cases hr)
  rw [decide_eq_true rfl] at h
  exact h.le (.cons (Le.nil 1) (.cons (Le.nil 1) .nil)) (fun x hx => by
    simp only [List.mem_cons, List.not_mem_nil, or_false] at hx
    rcases hx with rfl | rfl <;> exact Cl.v _)
theorem nil_SameRow : CallOK Tryd.prog gl 13 [.v (.slice none 0 0), .v (.slice none 0 0)] (.v (.bool true)) := by
  have h := ref_SameRow [] [] (by simp) (by simp) (fun r hr => by cases hr) (fun r hr => by cases hr)
  rw [decide_eq_true rfl] at h
  exact h.le (.cons (Le.nil 3) (.cons (Le.nil 3) .nil)) (fun x hx => by
    simp only [List.mem_cons, List.not_mem_nil, or_false] at hx
    rcases hx with rfl | rfl <;> exact Cl.v _)
theorem same_SameM {a : List (List Dy)} (ha : a.length ≤ 8) (hr : ∀ r ∈ a, r.length ≤ 8 ∧ ∀ x ∈ r, (ms x).length ≤ 4611686018427387904) : CallOK Tryd.prog gl 12 [.sl 1 (mrows (cM a)), .sl 1 (mrows (cM a))] (.v (.bool true)) := by
  have h := ref_SameM a a (by omega) (by omega) (fun r h => ⟨by have := (hr r h).1; omega, (hr r h).2⟩) (fun r h => ⟨by have := (hr r h).1; omega, (hr r h).2⟩)
  rwa [decide_eq_true rfl] at h
theorem same_SameRow {a : List Dy} (ha : a.length ≤ 8) (hr : ∀ x ∈ a, (ms x).length ≤ 4611686018427387904) : CallOK Tryd.prog gl 13 [.sl 3 (vrows (a.map can)), .sl 3 (vrows (a.map can))] (.v (.bool true)) := by
  have h := ref_SameRow a a (by omega) (by omega) hr hr
  rwa [decide_eq_true rfl] at h

theorem tracks39_bad (R L lk kp ki fa fb an sp m nz ac : Int) (h : obBad R L lk kp ki) : CallOK Tryd.prog gl 3 [.agg [.v (.int .i64 R), .v (.int .i64 L), .v (.int .i64 lk), .v (.int .i64 kp), .v (.int .i64 ki)], .agg [.v (.int .i64 fa), .v (.int .i64 fb), .v (.int .i64 an), .v (.int .i64 sp)], .agg [.v (.int .i64 m), .v (.int .i64 nz), .v (.int .i64 ac)]] (.v (.bool (true))) := by
  refine call_ok (C := ⟨Tryd.prog, gl, ti, 96, false⟩) ti_ok mixed 3000 Tryd.call3 Tryd.func3 rfl Tryd.ntmps3 (by simp) byClL byCl ?_
  rw [Tryd.results3]
  repeat' (first
    | (simp only [go_sem, Int.reduceAdd, Int.reduceEq, Int.reduceLE, Int.reduceLT, Int.reduceMul, Int.reduceNeg, Int.reducePow, Int.reduceSub, Int.reduceToNat, Nat.reduceAdd, Nat.reduceBEq, Nat.reduceEqDiff, Nat.reduceLT, Nat.reduceLeDiff, Nat.reduceMul, Nat.reducePow, Nat.reduceSub, reduceCtorEq, reduceIte, IntKind.bits.eq_def, ti, tin])
    | (simp (disch := omega) only [w64, wu64, wu32, Nat.min_eq_left])
    | (with_reducible refine callF_of (awake39) ?_)
    | (with_reducible refine drawF_of (awake39) ?_)
    | (with_reducible refine callF_of (ob_Track_bad _ _ _ _ _ _ _ _ _ _ h) ?_)
    | (with_reducible refine drawF_of (ob_Track_bad _ _ _ _ _ _ _ _ _ _ h) ?_)
    | (with_reducible refine callF_of (ref39_Track_bad _ _ _ _ _ _ _ _ _ _ h) ?_)
    | (with_reducible refine drawF_of (ref39_Track_bad _ _ _ _ _ _ _ _ _ _ h) ?_)
    | (with_reducible refine callF_of (ob_Model_bad _ _ _ _ _ _ _ h) ?_)
    | (with_reducible refine drawF_of (ob_Model_bad _ _ _ _ _ _ _ h) ?_)
    | (with_reducible refine callF_of (ref39_Model_bad _ _ _ _ _ _ _ h) ?_)
    | (with_reducible refine drawF_of (ref39_Model_bad _ _ _ _ _ _ _ h) ?_)
    | (with_reducible refine callF_of (base_Num 3) ?_)
    | (with_reducible refine drawF_of (base_Num 3) ?_)
    | (with_reducible refine callF_of (nil_SameM) ?_)
    | (with_reducible refine drawF_of (nil_SameM) ?_)
    | (with_reducible refine callF_of (nil_SameRow) ?_)
    | (with_reducible refine drawF_of (nil_SameRow) ?_)
    | (refine after_sem (sem_eql eq_ObserverState rfl rfl rfl rfl rfl rfl) ?_)
    | (refine after_sem (sem_neq eq_ObserverState rfl rfl rfl rfl rfl rfl) ?_)
    | (refine drawAfter_sem (sem_eql eq_ObserverState rfl rfl rfl rfl rfl rfl) ?_)
    | (refine drawAfter_sem (sem_neq eq_ObserverState rfl rfl rfl rfl rfl rfl) ?_)
    | (refine after_lit ti_ok ?_)
    | (refine drawAfter_lit ti_ok ?_)
    | (refine drawEnd_of (by kernel_rfl) ?_)
    | ((first | refine cond_cases (fun hc => ?_) (fun hc => ?_) | refine guard_split (fun hc => ?_) (fun hc => ?_) | refine drawGuard_split (fun hc => ?_) (fun hc => ?_)) <;> first | (exfalso; simp only [decide_eq_true_eq, decide_eq_false_iff_not, Bool.not_eq_true, Bool.not_eq_false, Bool.not_eq_true', Bool.not_eq_false'] at hc; omega) | (simp only [hc]; try simp only [decide_eq_true_eq, decide_eq_false_iff_not, Bool.not_eq_true, Bool.not_eq_false, Bool.not_eq_true', Bool.not_eq_false'] at hc))
    | (refine after_need (by omega) ?_)
    | (refine drawAfter_need (by omega) ?_))
  all_goals exact fin_same trivial rfl
theorem tracks39_bad2 (R L lk kp ki fa fb an sp m nz ac : Int) (h : ¬ obBad R L lk kp ki) (h2 : nzBad nz ac) : CallOK Tryd.prog gl 3 [.agg [.v (.int .i64 R), .v (.int .i64 L), .v (.int .i64 lk), .v (.int .i64 kp), .v (.int .i64 ki)], .agg [.v (.int .i64 fa), .v (.int .i64 fb), .v (.int .i64 an), .v (.int .i64 sp)], .agg [.v (.int .i64 m), .v (.int .i64 nz), .v (.int .i64 ac)]] (.v (.bool (true))) := by
  refine call_ok (C := ⟨Tryd.prog, gl, ti, 96, false⟩) ti_ok mixed 3000 Tryd.call3 Tryd.func3 rfl Tryd.ntmps3 (by simp) byClL byCl ?_
  rw [Tryd.results3]
  have t1 := ob_Track R L lk kp ki fa fb an sp m h
  have t2 := ref39_Track R L lk kp ki fa fb an sp m h
  have m1 := ob_Model_bad2 R L lk kp ki nz ac h h2
  have m2 := ref39_Model_bad2 R L lk kp ki nz ac h h2
  clear h h2
  repeat' (first
    | (simp only [go_sem, Int.reduceAdd, Int.reduceEq, Int.reduceLE, Int.reduceLT, Int.reduceMul, Int.reduceNeg, Int.reducePow, Int.reduceSub, Int.reduceToNat, Nat.reduceAdd, Nat.reduceBEq, Nat.reduceEqDiff, Nat.reduceLT, Nat.reduceLeDiff, Nat.reduceMul, Nat.reducePow, Nat.reduceSub, reduceCtorEq, reduceIte, IntKind.bits.eq_def, ti, tin])
    | (simp (disch := omega) only [w64, wu64, wu32, Nat.min_eq_left])
    | (with_reducible refine callF_of (awake39) ?_)
    | (with_reducible refine drawF_of (awake39) ?_)
    | (with_reducible refine callF_of (t1) ?_)
    | (with_reducible refine drawF_of (t1) ?_)
    | (with_reducible refine callF_of (t2) ?_)
    | (with_reducible refine drawF_of (t2) ?_)
    | (with_reducible refine callF_of (m1) ?_)
    | (with_reducible refine drawF_of (m1) ?_)
    | (with_reducible refine callF_of (m2) ?_)
    | (with_reducible refine drawF_of (m2) ?_)
    | (with_reducible refine callF_of (base_Num 3) ?_)
    | (with_reducible refine drawF_of (base_Num 3) ?_)
    | (with_reducible refine callF_of (base_Num_nil) ?_)
    | (with_reducible refine drawF_of (base_Num_nil) ?_)
    | (with_reducible refine callF_of (nil_SameM) ?_)
    | (with_reducible refine drawF_of (nil_SameM) ?_)
    | (with_reducible refine callF_of (nil_SameRow) ?_)
    | (with_reducible refine drawF_of (nil_SameRow) ?_)
    | (refine after_sem (sem_eql eq_ObserverState rfl rfl rfl rfl rfl rfl) ?_)
    | (refine after_sem (sem_neq eq_ObserverState rfl rfl rfl rfl rfl rfl) ?_)
    | (refine drawAfter_sem (sem_eql eq_ObserverState rfl rfl rfl rfl rfl rfl) ?_)
    | (refine drawAfter_sem (sem_neq eq_ObserverState rfl rfl rfl rfl rfl rfl) ?_)
    | (refine after_lit ti_ok ?_)
    | (refine drawAfter_lit ti_ok ?_)
    | (refine drawEnd_of (by kernel_rfl) ?_)
    | ((first | refine cond_cases (fun hc => ?_) (fun hc => ?_) | refine guard_split (fun hc => ?_) (fun hc => ?_) | refine drawGuard_split (fun hc => ?_) (fun hc => ?_)) <;> first | (exfalso; simp only [decide_eq_true_eq, decide_eq_false_iff_not, Bool.not_eq_true, Bool.not_eq_false, Bool.not_eq_true', Bool.not_eq_false'] at hc; omega) | (simp only [hc]; try simp only [decide_eq_true_eq, decide_eq_false_iff_not, Bool.not_eq_true, Bool.not_eq_false, Bool.not_eq_true', Bool.not_eq_false'] at hc))
    | (refine after_need (by omega) ?_)
    | (refine drawAfter_need (by omega) ?_))
  all_goals exact fin_same trivial rfl
theorem model_ok (kp ki nz ac : Int) (hk : 0 ≤ kp ∧ kp ≤ 65536) (hi : 0 ≤ ki ∧ ki ≤ 65536) (hz : 0 ≤ nz ∧ nz ≤ 16384) (ha : 0 ≤ ac ∧ ac ≤ 1099511627776) : ckT (cM (modA kp ki)) (cM modD) ((modW kp ki nz ac).map can) = 0 := by
  have b1 : 0 ≤ (kp + ki) * (nz + 1) := Int.mul_nonneg (by omega) (by omega)
  have b2 : 0 ≤ ki * (nz + 1) := Int.mul_nonneg (by omega) (by omega)
  have s0 : Dy.zero.sign = 0 := by decide +kernel
  have sn : ∀ n : Int, 0 ≤ n → ¬ (Dy.int n).sign < 0 := fun n hn => by
    unfold Dy.sign Dy.int
    simp only
    split
    · omega
    · split <;> omega
  have n1 : nonneg ((modW kp ki nz ac).map can) := fun i hi => by
    simp only [modW, List.map_cons, List.map_nil, List.length_cons, List.length_nil] at hi
    match i, hi with
    | 0, _ => show ¬ (can _).dy.sign < 0; rw [can_dy]; exact sn _ (by omega)
    | 1, _ => show ¬ (can _).dy.sign < 0; rw [can_dy]; exact sn _ (by omega)
  have n2 : nonneg [can Dy.zero, can Dy.zero] := fun i hi => by
    simp only [List.length_cons, List.length_nil] at hi
    match i, hi with
    | 0, _ => show ¬ (can _).dy.sign < 0; rw [can_dy, s0]; omega
    | 1, _ => show ¬ (can _).dy.sign < 0; rw [can_dy, s0]; omega
  have n3 : nonnegM (cM modD) := fun i hi => by
    simp only [modD, List.map_cons, List.map_nil, List.length_cons, List.length_nil] at hi
    match i, hi with
    | 0, _ => exact n2
    | 1, _ => exact n2
  have k1 : ckM (cM (modA kp ki)) = 0 := by
    unfold ckM modA
    simp only [List.map_cons, List.map_nil, List.length_cons, List.length_nil, List.getD_cons_zero]
    rw [if_neg (by omega), if_neg (by omega), if_neg (by omega), if_neg (by omega), if_pos]
    intro i hi
    match i, hi with
    | 0, _ => rfl
    | 1, _ => rfl
  have k2 : ckM (cM modD) = 0 := by
    unfold ckM modD
    simp only [List.map_cons, List.map_nil, List.length_cons, List.length_nil, List.getD_cons_zero]
    rw [if_neg (by omega), if_neg (by omega), if_neg (by omega), if_neg (by omega), if_pos]
    intro i hi
    match i, hi with
    | 0, _ => rfl
    | 1, _ => rfl
  unfold ckT
  rw [if_neg (by omega), if_neg (by simp [modA]), if_neg (by simp [modA]), if_neg (by omega), if_neg (by simp [modA, modD, modW]), if_pos ⟨n3, n1⟩]
theorem tracks39_ok (R L lk kp ki fa fb an sp m nz ac : Int) (h : ¬ obBad R L lk kp ki) (hz : 0 ≤ nz ∧ nz ≤ 16384) (ha : 0 ≤ ac ∧ ac ≤ 1099511627776) : CallOK Tryd.prog gl 3 [.agg [.v (.int .i64 R), .v (.int .i64 L), .v (.int .i64 lk), .v (.int .i64 kp), .v (.int .i64 ki)], .agg [.v (.int .i64 fa), .v (.int .i64 fb), .v (.int .i64 an), .v (.int .i64 sp)], .agg [.v (.int .i64 m), .v (.int .i64 nz), .v (.int .i64 ac)]] (.v (.bool (true))) := by
  refine call_ok (C := ⟨Tryd.prog, gl, ti, 96, false⟩) ti_ok mixed 3000 Tryd.call3 Tryd.func3 rfl Tryd.ntmps3 (by simp) byClL byCl ?_
  rw [Tryd.results3]
  have t1 := ob_Track R L lk kp ki fa fb an sp m h
  have t2 := ref39_Track R L lk kp ki fa fb an sp m h
  have m1 := ob_Model R L lk kp ki nz ac h hz ha
  have m2 := ref39_Model R L lk kp ki nz ac h hz ha
  unfold obBad at h
  have b1 := mul_bd (a := kp + ki) (b := nz + 1) (A := 131072) (B := 16385) (by omega) (by omega)
  have b2 := mul_bd (a := ki) (b := nz + 1) (A := 65536) (B := 16385) (by omega) (by omega)
  have i1 : Mg 64 (Dy.int 1) := Mg.int (by decide)
  have i2 : Mg 64 (Dy.int (ac + (kp + ki) * (nz + 1))) := Mg.int (by omega)
  have i3 : Mg 64 (Dy.int (ac + ki * (nz + 1))) := Mg.int (by omega)
  have i4 : Mg 64 (nrm (65536 - (kp + ki)) 16) := mg_make (by omega)
  have i5 : Mg 64 (nrm (0 - ki) 16) := mg_make (by omega)
  have kW : ∀ x ∈ modW kp ki nz ac, (ms x).length ≤ 4611686018427387904 := fun x hx => by
    simp only [modW, List.mem_cons, List.not_mem_nil, or_false] at hx
    rcases hx with rfl | rfl
    · exact mg_len i2
    · exact mg_len i3
  have sA := same_SameM (a := modA kp ki) (by simp [modA]) (fun r hr => by
    simp only [modA, List.mem_cons, List.not_mem_nil, or_false] at hr
    rcases hr with rfl | rfl
    · refine ⟨by simp, fun x hx => ?_⟩
      simp only [List.mem_cons, List.not_mem_nil, or_false] at hx
      rcases hx with rfl | rfl
      · exact mg_len i4
      · exact mg_len i1
    · refine ⟨by simp, fun x hx => ?_⟩
      simp only [List.mem_cons, List.not_mem_nil, or_false] at hx
      rcases hx with rfl | rfl
      · exact mg_len i5
      · exact mg_len i1)
  have sD := same_SameM (a := modD) (by simp [modD]) (fun r hr => by
    simp only [modD, List.mem_cons, List.not_mem_nil, or_false] at hr
    rcases hr with rfl | rfl <;>
    · refine ⟨by simp, fun x hx => ?_⟩
      simp only [List.mem_cons, List.not_mem_nil, or_false] at hx
      rcases hx with rfl | rfl <;> exact mg_len (Mg.zero 0))
  have sW := same_SameRow (a := modW kp ki nz ac) (by simp [modW]) kW
  have tc := tub_Check (cM (modA kp ki)) (cM modD) ((modW kp ki nz ac).map can) (by simp [modA]) (by simp [modD]) (by simp [modW])
    (fun l hl => by
      simp only [modD, List.map_cons, List.map_nil, List.mem_cons, List.not_mem_nil, or_false] at hl
      rcases hl with rfl | rfl <;>
      · refine ⟨by simp, fun r hr => ?_⟩
        simp only [List.mem_cons, List.not_mem_nil, or_false] at hr
        rcases hr with rfl | rfl <;> exact (Mg.zero 0).ok (by omega))
    (fun r hr => by
      simp only [modW, List.map_cons, List.map_nil, List.mem_cons, List.not_mem_nil, or_false] at hr
      rcases hr with rfl | rfl
      · exact i2.ok (by omega)
      · exact i3.ok (by omega))
  rw [model_ok kp ki nz ac (by omega) (by omega) hz ha, eV_zero] at tc
  clear h i1 i2 i3 i4 i5 kW b1 b2
  repeat' (first
    | (simp only [go_sem, Int.reduceAdd, Int.reduceEq, Int.reduceLE, Int.reduceLT, Int.reduceMul, Int.reduceNeg, Int.reducePow, Int.reduceSub, Int.reduceToNat, Nat.reduceAdd, Nat.reduceBEq, Nat.reduceEqDiff, Nat.reduceLT, Nat.reduceLeDiff, Nat.reduceMul, Nat.reducePow, Nat.reduceSub, reduceCtorEq, reduceIte, IntKind.bits.eq_def, ti, tin])
    | (simp (disch := omega) only [w64, wu64, wu32, Nat.min_eq_left])
    | (with_reducible refine callF_of (awake39) ?_)
    | (with_reducible refine drawF_of (awake39) ?_)
    | (with_reducible refine callF_of (t1) ?_)
    | (with_reducible refine drawF_of (t1) ?_)
    | (with_reducible refine callF_of (t2) ?_)
    | (with_reducible refine drawF_of (t2) ?_)
    | (with_reducible refine callF_of (m1) ?_)
    | (with_reducible refine drawF_of (m1) ?_)
    | (with_reducible refine callF_of (m2) ?_)
    | (with_reducible refine drawF_of (m2) ?_)
    | (with_reducible refine callF_of (sA) ?_)
    | (with_reducible refine drawF_of (sA) ?_)
    | (with_reducible refine callF_of (sD) ?_)
    | (with_reducible refine drawF_of (sD) ?_)
    | (with_reducible refine callF_of (sW) ?_)
    | (with_reducible refine drawF_of (sW) ?_)
    | (with_reducible refine callF_of (tc) ?_)
    | (with_reducible refine drawF_of (tc) ?_)
    | (with_reducible refine callF_of (base_Num_nil) ?_)
    | (with_reducible refine drawF_of (base_Num_nil) ?_)
    | (refine after_sem (sem_eql eq_ObserverState rfl rfl rfl rfl rfl rfl) ?_)
    | (refine after_sem (sem_neq eq_ObserverState rfl rfl rfl rfl rfl rfl) ?_)
    | (refine drawAfter_sem (sem_eql eq_ObserverState rfl rfl rfl rfl rfl rfl) ?_)
    | (refine drawAfter_sem (sem_neq eq_ObserverState rfl rfl rfl rfl rfl rfl) ?_)
    | (refine after_lit ti_ok ?_)
    | (refine drawAfter_lit ti_ok ?_)
    | (refine drawEnd_of (by kernel_rfl) ?_)
    | ((first | refine cond_cases (fun hc => ?_) (fun hc => ?_) | refine guard_split (fun hc => ?_) (fun hc => ?_) | refine drawGuard_split (fun hc => ?_) (fun hc => ?_)) <;> first | (exfalso; simp only [decide_eq_true_eq, decide_eq_false_iff_not, Bool.not_eq_true, Bool.not_eq_false, Bool.not_eq_true', Bool.not_eq_false'] at hc; omega) | (simp only [hc]; try simp only [decide_eq_true_eq, decide_eq_false_iff_not, Bool.not_eq_true, Bool.not_eq_false, Bool.not_eq_true', Bool.not_eq_false'] at hc))
    | (refine after_need (by omega) ?_)
    | (refine drawAfter_need (by omega) ?_))
  all_goals exact fin_same trivial rfl
theorem tracks39 (R L lk kp ki fa fb an sp m nz ac : Int) : CallOK Tryd.prog gl 3 [.agg [.v (.int .i64 R), .v (.int .i64 L), .v (.int .i64 lk), .v (.int .i64 kp), .v (.int .i64 ki)], .agg [.v (.int .i64 fa), .v (.int .i64 fb), .v (.int .i64 an), .v (.int .i64 sp)], .agg [.v (.int .i64 m), .v (.int .i64 nz), .v (.int .i64 ac)]] (.v (.bool true)) := by
  by_cases h : obBad R L lk kp ki
  · exact tracks39_bad R L lk kp ki fa fb an sp m nz ac h
  · by_cases h2 : nzBad nz ac
    · exact tracks39_bad2 R L lk kp ki fa fb an sp m nz ac h h2
    · unfold nzBad at h2
      exact tracks39_ok R L lk kp ki fa fb an sp m nz ac h (by omega) (by omega)
end Go.Proofs.YtfoadddlmehpnaaDoor
