/- Layer 39 (observer): the model of the loop's error, and the statement ObserverTracks. -/
import Derived.Test.YtfoadddlmehpnaaDoorObs2
import Derived.Test.YtfoadddlmehpnaaDoorTub1
import Derived.Test.YtfoadddlmehpnaaDoorMat2
import Derived.Test.YtfoadddlmehpnaaDoorRef8
import Derived.Test.YtfoadddlmehpnaaDoorDy4
import Derived.Test.YtfoadddlmehpnaaDoorU2
import Derived.Test.YtfoadddlmehpnaaDoorU3
set_option linter.unusedSimpArgs false
set_option linter.unusedVariables false
set_option linter.deprecated false
namespace Go.Proofs.YtfoadddlmehpnaaDoor
open Go Go.Ax
set_option maxRecDepth 100000
set_option maxHeartbeats 4000000

abbrev cM (a : List (List Dy)) : List (List RD) := a.map fun r => r.map can
def modA (kp ki : Int) : List (List Dy) := [[nrm (65536 - (kp + ki)) 16, Dy.int 1], [nrm (0 - ki) 16, Dy.int 1]]
def modD : List (List Dy) := [[Dy.zero, Dy.zero], [Dy.zero, Dy.zero]]
def modW (kp ki nz ac : Int) : List Dy := [Dy.int (ac + (kp + ki) * (nz + 1)), Dy.int (ac + ki * (nz + 1))]
theorem mod_sub (n : Int) : (Dy.int 1).sub (nrm n 16) = nrm (65536 - n) 16 := by
  apply Dy.ext_v
  rw [Dy.v_sub, Dy.v_int, v_nrm (by omega), v_nrm (by omega), Rat.intCast_sub]
  have : (2 : Rat) ^ 16 = 65536 := by decide +kernel
  rw [this]
  grind
def nzBad (nz ac : Int) : Prop := nz < 0 ∨ 16384 < nz ∨ ac < 0 ∨ 1099511627776 < ac
theorem dyz : LeL [.v (.bool false), .v (.slice none 0 0), .v (.int .i64 0)] (vrow (can Dy.zero)) := by rw [can_zero]; exact LeL.dy0
theorem ob_part (n : Int) (hn : -9223372036854775808 ≤ n ∧ n ≤ 9223372036854775807) : CallOK Tryd.prog gl 34 [.v (.int .i64 n)] (.agg [.v (.bool (sg (nrm n 16))), .sl 1 (u32s (ms (nrm n 16))), .v (.int .i64 (dn (nrm n 16)))]) := by
  refine call_ok (C := ⟨Tryd.prog, gl, ti, 11, false⟩) ti_ok mixed 3000 Tryd.call34 Tryd.func34 rfl Tryd.ntmps34 (by simp) byClL byCl ?_
  rw [Tryd.results34]
  have mk := Make_ok n 16 hn (by omega)
  rw [show ((16 : Nat) : Int) = 16 from rfl] at mk
  repeat' (first
    | (simp only [go_sem, Int.reduceAdd, Int.reduceEq, Int.reduceLE, Int.reduceLT, Int.reduceMul, Int.reduceNeg, Int.reducePow, Int.reduceSub, Int.reduceToNat, Nat.reduceAdd, Nat.reduceBEq, Nat.reduceEqDiff, Nat.reduceLT, Nat.reduceLeDiff, Nat.reduceMul, Nat.reducePow, Nat.reduceSub, reduceCtorEq, reduceIte, IntKind.bits.eq_def, ti, tin])
    | (simp (disch := omega) only [w64, wu64, wu32, Nat.min_eq_left])
    | (with_reducible refine callF_of (mk) ?_)
    | (with_reducible refine drawF_of (mk) ?_)
    | (refine after_lit ti_ok ?_)
    | (refine drawAfter_lit ti_ok ?_)
    | (refine drawEnd_of (by kernel_rfl) ?_)
    | ((first | refine cond_cases (fun hc => ?_) (fun hc => ?_) | refine guard_split (fun hc => ?_) (fun hc => ?_) | refine drawGuard_split (fun hc => ?_) (fun hc => ?_)) <;> first | (exfalso; simp only [decide_eq_true_eq, decide_eq_false_iff_not, Bool.not_eq_true, Bool.not_eq_false, Bool.not_eq_true', Bool.not_eq_false'] at hc; omega) | (simp only [hc]; try simp only [decide_eq_true_eq, decide_eq_false_iff_not, Bool.not_eq_true, Bool.not_eq_false, Bool.not_eq_true', Bool.not_eq_false'] at hc))
    | (refine after_need (by omega) ?_)
    | (refine drawAfter_need (by omega) ?_))
  exact fin_same trivial rfl
theorem ob_Model_bad (R L lk kp ki nz ac : Int) (h : obBad R L lk kp ki) : CallOK Tryd.prog gl 8 [.agg [.v (.int .i64 R), .v (.int .i64 L), .v (.int .i64 lk), .v (.int .i64 kp), .v (.int .i64 ki)], .v (.int .i64 nz), .v (.int .i64 ac)] (.tup [.agg [.v (.slice none 0 0), .v (.slice none 0 0), .v (.slice none 0 0)], .v (.iface 71 (.int .i64 3))]) := by
  refine call_ok (C := ⟨Tryd.prog, gl, ti, 72, false⟩) ti_ok mixed 3000 Tryd.call8 Tryd.func8 rfl Tryd.ntmps8 (by simp) byClL byCl ?_
  rw [Tryd.results8]
  repeat' (first
    | (simp only [go_sem, Int.reduceAdd, Int.reduceEq, Int.reduceLE, Int.reduceLT, Int.reduceMul, Int.reduceNeg, Int.reducePow, Int.reduceSub, Int.reduceToNat, Nat.reduceAdd, Nat.reduceBEq, Nat.reduceEqDiff, Nat.reduceLT, Nat.reduceLeDiff, Nat.reduceMul, Nat.reducePow, Nat.reduceSub, reduceCtorEq, reduceIte, IntKind.bits.eq_def, ti, tin])
    | (simp (disch := omega) only [w64, wu64, wu32, Nat.min_eq_left])
    | (with_reducible refine callF_of (ob_Check_bad _ _ _ _ _ h) ?_)
    | (with_reducible refine drawF_of (ob_Check_bad _ _ _ _ _ h) ?_)
    | (refine after_lit ti_ok ?_)
    | (refine drawAfter_lit ti_ok ?_)
    | (refine drawEnd_of (by kernel_rfl) ?_)
    | ((first | refine cond_cases (fun hc => ?_) (fun hc => ?_) | refine guard_split (fun hc => ?_) (fun hc => ?_) | refine drawGuard_split (fun hc => ?_) (fun hc => ?_)) <;> first | (exfalso; simp only [decide_eq_true_eq, decide_eq_false_iff_not, Bool.not_eq_true, Bool.not_eq_false, Bool.not_eq_true', Bool.not_eq_false'] at hc; omega) | (simp only [hc]; try simp only [decide_eq_true_eq, decide_eq_false_iff_not, Bool.not_eq_true, Bool.not_eq_false, Bool.not_eq_true', Bool.not_eq_false'] at hc))
    | (refine after_need (by omega) ?_)
    | (refine drawAfter_need (by omega) ?_))
  exact fin_same trivial rfl
theorem ob_Model_bad2 (R L lk kp ki nz ac : Int) (h : ¬ obBad R L lk kp ki) (h2 : nzBad nz ac) : CallOK Tryd.prog gl 8 [.agg [.v (.int .i64 R), .v (.int .i64 L), .v (.int .i64 lk), .v (.int .i64 kp), .v (.int .i64 ki)], .v (.int .i64 nz), .v (.int .i64 ac)] (.tup [.agg [.v (.slice none 0 0), .v (.slice none 0 0), .v (.slice none 0 0)], .v (.iface 71 (.int .i64 3))]) := by
  refine call_ok (C := ⟨Tryd.prog, gl, ti, 72, false⟩) ti_ok mixed 3000 Tryd.call8 Tryd.func8 rfl Tryd.ntmps8 (by simp) byClL byCl ?_
  rw [Tryd.results8]
  have ck := ob_Check _ _ _ _ _ h
  unfold nzBad at h2
  clear h
  by_cases h3 : nz < 0
  ·
    repeat' (first
      | (simp only [go_sem, Int.reduceAdd, Int.reduceEq, Int.reduceLE, Int.reduceLT, Int.reduceMul, Int.reduceNeg, Int.reducePow, Int.reduceSub, Int.reduceToNat, Nat.reduceAdd, Nat.reduceBEq, Nat.reduceEqDiff, Nat.reduceLT, Nat.reduceLeDiff, Nat.reduceMul, Nat.reducePow, Nat.reduceSub, reduceCtorEq, reduceIte, IntKind.bits.eq_def, ti, tin])
      | (simp (disch := omega) only [w64, wu64, wu32, Nat.min_eq_left])
      | (with_reducible refine callF_of (ck) ?_)
      | (with_reducible refine drawF_of (ck) ?_)
      | (refine after_lit ti_ok ?_)
      | (refine drawAfter_lit ti_ok ?_)
      | (refine drawEnd_of (by kernel_rfl) ?_)
      | ((first | refine cond_cases (fun hc => ?_) (fun hc => ?_) | refine guard_split (fun hc => ?_) (fun hc => ?_) | refine drawGuard_split (fun hc => ?_) (fun hc => ?_)) <;> first | (exfalso; simp only [decide_eq_true_eq, decide_eq_false_iff_not, Bool.not_eq_true, Bool.not_eq_false, Bool.not_eq_true', Bool.not_eq_false'] at hc; omega) | (simp only [hc]; try simp only [decide_eq_true_eq, decide_eq_false_iff_not, Bool.not_eq_true, Bool.not_eq_false, Bool.not_eq_true', Bool.not_eq_false'] at hc))
      | (refine after_need (by omega) ?_)
      | (refine drawAfter_need (by omega) ?_))
    all_goals exact fin_same trivial rfl
  by_cases h4 : 16384 < nz
  ·
    repeat' (first
      | (simp only [go_sem, Int.reduceAdd, Int.reduceEq, Int.reduceLE, Int.reduceLT, Int.reduceMul, Int.reduceNeg, Int.reducePow, Int.reduceSub, Int.reduceToNat, Nat.reduceAdd, Nat.reduceBEq, Nat.reduceEqDiff, Nat.reduceLT, Nat.reduceLeDiff, Nat.reduceMul, Nat.reducePow, Nat.reduceSub, reduceCtorEq, reduceIte, IntKind.bits.eq_def, ti, tin])
      | (simp (disch := omega) only [w64, wu64, wu32, Nat.min_eq_left])
      | (with_reducible refine callF_of (ck) ?_)
      | (with_reducible refine drawF_of (ck) ?_)
      | (refine after_lit ti_ok ?_)
      | (refine drawAfter_lit ti_ok ?_)
      | (refine drawEnd_of (by kernel_rfl) ?_)
      | ((first | refine cond_cases (fun hc => ?_) (fun hc => ?_) | refine guard_split (fun hc => ?_) (fun hc => ?_) | refine drawGuard_split (fun hc => ?_) (fun hc => ?_)) <;> first | (exfalso; simp only [decide_eq_true_eq, decide_eq_false_iff_not, Bool.not_eq_true, Bool.not_eq_false, Bool.not_eq_true', Bool.not_eq_false'] at hc; omega) | (simp only [hc]; try simp only [decide_eq_true_eq, decide_eq_false_iff_not, Bool.not_eq_true, Bool.not_eq_false, Bool.not_eq_true', Bool.not_eq_false'] at hc))
      | (refine after_need (by omega) ?_)
      | (refine drawAfter_need (by omega) ?_))
    all_goals exact fin_same trivial rfl
  by_cases h5 : ac < 0
  ·
    repeat' (first
      | (simp only [go_sem, Int.reduceAdd, Int.reduceEq, Int.reduceLE, Int.reduceLT, Int.reduceMul, Int.reduceNeg, Int.reducePow, Int.reduceSub, Int.reduceToNat, Nat.reduceAdd, Nat.reduceBEq, Nat.reduceEqDiff, Nat.reduceLT, Nat.reduceLeDiff, Nat.reduceMul, Nat.reducePow, Nat.reduceSub, reduceCtorEq, reduceIte, IntKind.bits.eq_def, ti, tin])
      | (simp (disch := omega) only [w64, wu64, wu32, Nat.min_eq_left])
      | (with_reducible refine callF_of (ck) ?_)
      | (with_reducible refine drawF_of (ck) ?_)
      | (refine after_lit ti_ok ?_)
      | (refine drawAfter_lit ti_ok ?_)
      | (refine drawEnd_of (by kernel_rfl) ?_)
      | ((first | refine cond_cases (fun hc => ?_) (fun hc => ?_) | refine guard_split (fun hc => ?_) (fun hc => ?_) | refine drawGuard_split (fun hc => ?_) (fun hc => ?_)) <;> first | (exfalso; simp only [decide_eq_true_eq, decide_eq_false_iff_not, Bool.not_eq_true, Bool.not_eq_false, Bool.not_eq_true', Bool.not_eq_false'] at hc; omega) | (simp only [hc]; try simp only [decide_eq_true_eq, decide_eq_false_iff_not, Bool.not_eq_true, Bool.not_eq_false, Bool.not_eq_true', Bool.not_eq_false'] at hc))
      | (refine after_need (by omega) ?_)
      | (refine drawAfter_need (by omega) ?_))
    all_goals exact fin_same trivial rfl
  have h6 : 1099511627776 < ac := by omega
  clear h2
  repeat' (first
    | (simp only [go_sem, Int.reduceAdd, Int.reduceEq, Int.reduceLE, Int.reduceLT, Int.reduceMul, Int.reduceNeg, Int.reducePow, Int.reduceSub, Int.reduceToNat, Nat.reduceAdd, Nat.reduceBEq, Nat.reduceEqDiff, Nat.reduceLT, Nat.reduceLeDiff, Nat.reduceMul, Nat.reducePow, Nat.reduceSub, reduceCtorEq, reduceIte, IntKind.bits.eq_def, ti, tin])
    | (simp (disch := omega) only [w64, wu64, wu32, Nat.min_eq_left])
    | (with_reducible refine callF_of (ck) ?_)
    | (with_reducible refine drawF_of (ck) ?_)
    | (refine after_lit ti_ok ?_)
    | (refine drawAfter_lit ti_ok ?_)
    | (refine drawEnd_of (by kernel_rfl) ?_)
    | ((first | refine cond_cases (fun hc => ?_) (fun hc => ?_) | refine guard_split (fun hc => ?_) (fun hc => ?_) | refine drawGuard_split (fun hc => ?_) (fun hc => ?_)) <;> first | (exfalso; simp only [decide_eq_true_eq, decide_eq_false_iff_not, Bool.not_eq_true, Bool.not_eq_false, Bool.not_eq_true', Bool.not_eq_false'] at hc; omega) | (simp only [hc]; try simp only [decide_eq_true_eq, decide_eq_false_iff_not, Bool.not_eq_true, Bool.not_eq_false, Bool.not_eq_true', Bool.not_eq_false'] at hc))
    | (refine after_need (by omega) ?_)
    | (refine drawAfter_need (by omega) ?_))
  all_goals exact fin_same trivial rfl
theorem ob_Model (R L lk kp ki nz ac : Int) (h : ¬ obBad R L lk kp ki) (hz : 0 ≤ nz ∧ nz ≤ 16384) (ha : 0 ≤ ac ∧ ac ≤ 1099511627776) : CallOK Tryd.prog gl 8 [.agg [.v (.int .i64 R), .v (.int .i64 L), .v (.int .i64 lk), .v (.int .i64 kp), .v (.int .i64 ki)], .v (.int .i64 nz), .v (.int .i64 ac)] (.tup [.agg [.sl 1 (mrows (cM (modA kp ki))), .sl 1 (mrows (cM modD)), .sl 3 (vrows ((modW kp ki nz ac).map can))], .v .nilIface]) := by
  refine call_ok (C := ⟨Tryd.prog, gl, ti, 72, false⟩) ti_ok mixed 3000 Tryd.call8 Tryd.func8 rfl Tryd.ntmps8 (by simp) byClL byCl ?_
  rw [Tryd.results8]
  have ck := ob_Check _ _ _ _ _ h
  unfold obBad at h
  have b1 := mul_bd (a := kp + ki) (b := nz + 1) (A := 131072) (B := 16385) (by omega) (by omega)
  have b2 := mul_bd (a := ki) (b := nz + 1) (A := 65536) (B := 16385) (by omega) (by omega)
  have p1 := ob_part (65536 - (kp + ki)) (by omega)
  have p2 := ob_part (0 - ki) (by omega)
  have o1 := Of_ok 1 (by omega)
  have o2 := Of_ok (ac + (kp + ki) * (nz + 1)) (by omega)
  have o3 := Of_ok (ac + ki * (nz + 1)) (by omega)
  repeat' (first
    | (simp only [go_sem, Int.reduceAdd, Int.reduceEq, Int.reduceLE, Int.reduceLT, Int.reduceMul, Int.reduceNeg, Int.reducePow, Int.reduceSub, Int.reduceToNat, Nat.reduceAdd, Nat.reduceBEq, Nat.reduceEqDiff, Nat.reduceLT, Nat.reduceLeDiff, Nat.reduceMul, Nat.reducePow, Nat.reduceSub, reduceCtorEq, reduceIte, IntKind.bits.eq_def, ti, tin])
    | (simp (disch := omega) only [w64, wu64, wu32, Nat.min_eq_left])
    | (with_reducible refine callF_of (ck) ?_)
    | (with_reducible refine drawF_of (ck) ?_)
    | (with_reducible refine callF_of (p1) ?_)
    | (with_reducible refine drawF_of (p1) ?_)
    | (with_reducible refine callF_of (p2) ?_)
    | (with_reducible refine drawF_of (p2) ?_)
    | (with_reducible refine callF_of (o1) ?_)
    | (with_reducible refine drawF_of (o1) ?_)
    | (with_reducible refine callF_of (o2) ?_)
    | (with_reducible refine drawF_of (o2) ?_)
    | (with_reducible refine callF_of (o3) ?_)
    | (with_reducible refine drawF_of (o3) ?_)
    | (refine after_lit ti_ok ?_)
    | (refine drawAfter_lit ti_ok ?_)
    | (refine drawEnd_of (by kernel_rfl) ?_)
    | ((first | refine cond_cases (fun hc => ?_) (fun hc => ?_) | refine guard_split (fun hc => ?_) (fun hc => ?_) | refine drawGuard_split (fun hc => ?_) (fun hc => ?_)) <;> first | (exfalso; simp only [decide_eq_true_eq, decide_eq_false_iff_not, Bool.not_eq_true, Bool.not_eq_false, Bool.not_eq_true', Bool.not_eq_false'] at hc; omega) | (simp only [hc]; try simp only [decide_eq_true_eq, decide_eq_false_iff_not, Bool.not_eq_true, Bool.not_eq_false, Bool.not_eq_true', Bool.not_eq_false'] at hc))
    | (refine after_need (by omega) ?_)
    | (refine drawAfter_need (by omega) ?_))
  exact fin_pub trivial (.tup (.cons (.agg (.cons .same (.cons (.sl (.cons (.cons (.ps rfl rfl (by decide)) .nil) (.cons (.cons (.ps rfl rfl (by decide)) .nil) .nil))) (.cons .same .nil)))) (.cons (.one .same) .nil)))
    (Le.tup (.cons (Le.agg (.cons (Le.of_eq rfl) (.cons (Le.sl (.cons (.cons (Le.sl (.cons dyz (.cons dyz .nil))) .nil) (.cons (.cons (Le.sl (.cons dyz (.cons dyz .nil))) .nil) .nil))) (.cons (Le.of_eq rfl) .nil)))) (.cons (.refl _) .nil)))
theorem ref39_Model_bad (R L lk kp ki nz ac : Int) (h : obBad R L lk kp ki) : CallOK Tryd.prog gl 10 [.agg [.v (.int .i64 R), .v (.int .i64 L), .v (.int .i64 lk), .v (.int .i64 kp), .v (.int .i64 ki)], .v (.int .i64 nz), .v (.int .i64 ac)] (.tup [.agg [.v (.slice none 0 0), .v (.slice none 0 0), .v (.slice none 0 0)], .v (.int .i64 3)]) := by
  refine call_ok (C := ⟨Tryd.prog, gl, ti, 89, false⟩) ti_ok mixed 3000 Tryd.call10 Tryd.func10 rfl Tryd.ntmps10 (by simp) byClL byCl ?_
  rw [Tryd.results10]
  repeat' (first
    | (simp only [go_sem, Int.reduceAdd, Int.reduceEq, Int.reduceLE, Int.reduceLT, Int.reduceMul, Int.reduceNeg, Int.reducePow, Int.reduceSub, Int.reduceToNat, Nat.reduceAdd, Nat.reduceBEq, Nat.reduceEqDiff, Nat.reduceLT, Nat.reduceLeDiff, Nat.reduceMul, Nat.reducePow, Nat.reduceSub, reduceCtorEq, reduceIte, IntKind.bits.eq_def, ti, tin])
    | (simp (disch := omega) only [w64, wu64, wu32, Nat.min_eq_left])
    | (with_reducible refine callF_of (ref39_Check_bad _ _ _ _ _ h) ?_)
    | (with_reducible refine drawF_of (ref39_Check_bad _ _ _ _ _ h) ?_)
    | (refine after_lit ti_ok ?_)
    | (refine drawAfter_lit ti_ok ?_)
    | (refine drawEnd_of (by kernel_rfl) ?_)
    | ((first | refine cond_cases (fun hc => ?_) (fun hc => ?_) | refine guard_split (fun hc => ?_) (fun hc => ?_) | refine drawGuard_split (fun hc => ?_) (fun hc => ?_)) <;> first | (exfalso; simp only [decide_eq_true_eq, decide_eq_false_iff_not, Bool.not_eq_true, Bool.not_eq_false, Bool.not_eq_true', Bool.not_eq_false'] at hc; omega) | (simp only [hc]; try simp only [decide_eq_true_eq, decide_eq_false_iff_not, Bool.not_eq_true, Bool.not_eq_false, Bool.not_eq_true', Bool.not_eq_false'] at hc))
    | (refine after_need (by omega) ?_)
    | (refine drawAfter_need (by omega) ?_))
  exact fin_same trivial rfl
theorem ref39_Model_bad2 (R L lk kp ki nz ac : Int) (h : ¬ obBad R L lk kp ki) (h2 : nzBad nz ac) : CallOK Tryd.prog gl 10 [.agg [.v (.int .i64 R), .v (.int .i64 L), .v (.int .i64 lk), .v (.int .i64 kp), .v (.int .i64 ki)], .v (.int .i64 nz), .v (.int .i64 ac)] (.tup [.agg [.v (.slice none 0 0), .v (.slice none 0 0), .v (.slice none 0 0)], .v (.int .i64 3)]) := by
  refine call_ok (C := ⟨Tryd.prog, gl, ti, 89, false⟩) ti_ok mixed 3000 Tryd.call10 Tryd.func10 rfl Tryd.ntmps10 (by simp) byClL byCl ?_
  rw [Tryd.results10]
  have ck := ref39_Check _ _ _ _ _ h
  unfold nzBad at h2
  clear h
  by_cases h3 : nz < 0
  ·
    repeat' (first
      | (simp only [go_sem, Int.reduceAdd, Int.reduceEq, Int.reduceLE, Int.reduceLT, Int.reduceMul, Int.reduceNeg, Int.reducePow, Int.reduceSub, Int.reduceToNat, Nat.reduceAdd, Nat.reduceBEq, Nat.reduceEqDiff, Nat.reduceLT, Nat.reduceLeDiff, Nat.reduceMul, Nat.reducePow, Nat.reduceSub, reduceCtorEq, reduceIte, IntKind.bits.eq_def, ti, tin])
      | (simp (disch := omega) only [w64, wu64, wu32, Nat.min_eq_left])
      | (with_reducible refine callF_of (ck) ?_)
      | (with_reducible refine drawF_of (ck) ?_)
      | (refine after_lit ti_ok ?_)
      | (refine drawAfter_lit ti_ok ?_)
      | (refine drawEnd_of (by kernel_rfl) ?_)
      | ((first | refine cond_cases (fun hc => ?_) (fun hc => ?_) | refine guard_split (fun hc => ?_) (fun hc => ?_) | refine drawGuard_split (fun hc => ?_) (fun hc => ?_)) <;> first | (exfalso; simp only [decide_eq_true_eq, decide_eq_false_iff_not, Bool.not_eq_true, Bool.not_eq_false, Bool.not_eq_true', Bool.not_eq_false'] at hc; omega) | (simp only [hc]; try simp only [decide_eq_true_eq, decide_eq_false_iff_not, Bool.not_eq_true, Bool.not_eq_false, Bool.not_eq_true', Bool.not_eq_false'] at hc))
      | (refine after_need (by omega) ?_)
      | (refine drawAfter_need (by omega) ?_))
    all_goals exact fin_same trivial rfl
  by_cases h4 : 16384 < nz
  ·
    repeat' (first
      | (simp only [go_sem, Int.reduceAdd, Int.reduceEq, Int.reduceLE, Int.reduceLT, Int.reduceMul, Int.reduceNeg, Int.reducePow, Int.reduceSub, Int.reduceToNat, Nat.reduceAdd, Nat.reduceBEq, Nat.reduceEqDiff, Nat.reduceLT, Nat.reduceLeDiff, Nat.reduceMul, Nat.reducePow, Nat.reduceSub, reduceCtorEq, reduceIte, IntKind.bits.eq_def, ti, tin])
      | (simp (disch := omega) only [w64, wu64, wu32, Nat.min_eq_left])
      | (with_reducible refine callF_of (ck) ?_)
      | (with_reducible refine drawF_of (ck) ?_)
      | (refine after_lit ti_ok ?_)
      | (refine drawAfter_lit ti_ok ?_)
      | (refine drawEnd_of (by kernel_rfl) ?_)
      | ((first | refine cond_cases (fun hc => ?_) (fun hc => ?_) | refine guard_split (fun hc => ?_) (fun hc => ?_) | refine drawGuard_split (fun hc => ?_) (fun hc => ?_)) <;> first | (exfalso; simp only [decide_eq_true_eq, decide_eq_false_iff_not, Bool.not_eq_true, Bool.not_eq_false, Bool.not_eq_true', Bool.not_eq_false'] at hc; omega) | (simp only [hc]; try simp only [decide_eq_true_eq, decide_eq_false_iff_not, Bool.not_eq_true, Bool.not_eq_false, Bool.not_eq_true', Bool.not_eq_false'] at hc))
      | (refine after_need (by omega) ?_)
      | (refine drawAfter_need (by omega) ?_))
    all_goals exact fin_same trivial rfl
  by_cases h5 : ac < 0
  ·
    repeat' (first
      | (simp only [go_sem, Int.reduceAdd, Int.reduceEq, Int.reduceLE, Int.reduceLT, Int.reduceMul, Int.reduceNeg, Int.reducePow, Int.reduceSub, Int.reduceToNat, Nat.reduceAdd, Nat.reduceBEq, Nat.reduceEqDiff, Nat.reduceLT, Nat.reduceLeDiff, Nat.reduceMul, Nat.reducePow, Nat.reduceSub, reduceCtorEq, reduceIte, IntKind.bits.eq_def, ti, tin])
      | (simp (disch := omega) only [w64, wu64, wu32, Nat.min_eq_left])
      | (with_reducible refine callF_of (ck) ?_)
      | (with_reducible refine drawF_of (ck) ?_)
      | (refine after_lit ti_ok ?_)
      | (refine drawAfter_lit ti_ok ?_)
      | (refine drawEnd_of (by kernel_rfl) ?_)
      | ((first | refine cond_cases (fun hc => ?_) (fun hc => ?_) | refine guard_split (fun hc => ?_) (fun hc => ?_) | refine drawGuard_split (fun hc => ?_) (fun hc => ?_)) <;> first | (exfalso; simp only [decide_eq_true_eq, decide_eq_false_iff_not, Bool.not_eq_true, Bool.not_eq_false, Bool.not_eq_true', Bool.not_eq_false'] at hc; omega) | (simp only [hc]; try simp only [decide_eq_true_eq, decide_eq_false_iff_not, Bool.not_eq_true, Bool.not_eq_false, Bool.not_eq_true', Bool.not_eq_false'] at hc))
      | (refine after_need (by omega) ?_)
      | (refine drawAfter_need (by omega) ?_))
    all_goals exact fin_same trivial rfl
  have h6 : 1099511627776 < ac := by omega
  clear h2
  repeat' (first
    | (simp only [go_sem, Int.reduceAdd, Int.reduceEq, Int.reduceLE, Int.reduceLT, Int.reduceMul, Int.reduceNeg, Int.reducePow, Int.reduceSub, Int.reduceToNat, Nat.reduceAdd, Nat.reduceBEq, Nat.reduceEqDiff, Nat.reduceLT, Nat.reduceLeDiff, Nat.reduceMul, Nat.reducePow, Nat.reduceSub, reduceCtorEq, reduceIte, IntKind.bits.eq_def, ti, tin])
    | (simp (disch := omega) only [w64, wu64, wu32, Nat.min_eq_left])
    | (with_reducible refine callF_of (ck) ?_)
    | (with_reducible refine drawF_of (ck) ?_)
    | (refine after_lit ti_ok ?_)
    | (refine drawAfter_lit ti_ok ?_)
    | (refine drawEnd_of (by kernel_rfl) ?_)
    | ((first | refine cond_cases (fun hc => ?_) (fun hc => ?_) | refine guard_split (fun hc => ?_) (fun hc => ?_) | refine drawGuard_split (fun hc => ?_) (fun hc => ?_)) <;> first | (exfalso; simp only [decide_eq_true_eq, decide_eq_false_iff_not, Bool.not_eq_true, Bool.not_eq_false, Bool.not_eq_true', Bool.not_eq_false'] at hc; omega) | (simp only [hc]; try simp only [decide_eq_true_eq, decide_eq_false_iff_not, Bool.not_eq_true, Bool.not_eq_false, Bool.not_eq_true', Bool.not_eq_false'] at hc))
    | (refine after_need (by omega) ?_)
    | (refine drawAfter_need (by omega) ?_))
  all_goals exact fin_same trivial rfl
theorem ref39_Model (R L lk kp ki nz ac : Int) (h : ¬ obBad R L lk kp ki) (hz : 0 ≤ nz ∧ nz ≤ 16384) (ha : 0 ≤ ac ∧ ac ≤ 1099511627776) : CallOK Tryd.prog gl 10 [.agg [.v (.int .i64 R), .v (.int .i64 L), .v (.int .i64 lk), .v (.int .i64 kp), .v (.int .i64 ki)], .v (.int .i64 nz), .v (.int .i64 ac)] (.tup [.agg [.sl 1 (mrows (cM (modA kp ki))), .sl 1 (mrows (cM modD)), .sl 3 (vrows ((modW kp ki nz ac).map can))], .v (.int .i64 0)]) := by
  refine call_ok (C := ⟨Tryd.prog, gl, ti, 89, false⟩) ti_ok mixed 3000 Tryd.call10 Tryd.func10 rfl Tryd.ntmps10 (by simp) byClL byCl ?_
  rw [Tryd.results10]
  have ck := ref39_Check _ _ _ _ _ h
  unfold obBad at h
  have b1 := mul_bd (a := kp + ki) (b := nz + 1) (A := 131072) (B := 16385) (by omega) (by omega)
  have b2 := mul_bd (a := ki) (b := nz + 1) (A := 65536) (B := 16385) (by omega) (by omega)
  have p1 := ref_Make (kp + ki) 16 (by omega) (by omega)
  have p2 := ref_Make (0 - ki) 16 (by omega) (by omega)
  rw [show ((16 : Nat) : Int) = 16 from rfl] at p1 p2
  have o1 := ref_Of 1 (by omega)
  have o2 := ref_Of (ac + (kp + ki) * (nz + 1)) (by omega)
  have o3 := ref_Of (ac + ki * (nz + 1)) (by omega)
  have g1 : Mg 64 (Dy.int 1) := Mg.int (by decide)
  have g2 : Mg 64 (nrm (kp + ki) 16) := mg_make (by omega)
  have s1 := ref_Sub _ _ _ _ _ _ _ _ g1.arg g2.arg
  rw [mod_sub] at s1
  repeat' (first
    | (simp only [go_sem, Int.reduceAdd, Int.reduceEq, Int.reduceLE, Int.reduceLT, Int.reduceMul, Int.reduceNeg, Int.reducePow, Int.reduceSub, Int.reduceToNat, Nat.reduceAdd, Nat.reduceBEq, Nat.reduceEqDiff, Nat.reduceLT, Nat.reduceLeDiff, Nat.reduceMul, Nat.reducePow, Nat.reduceSub, reduceCtorEq, reduceIte, IntKind.bits.eq_def, ti, tin])
    | (simp (disch := omega) only [w64, wu64, wu32, Nat.min_eq_left])
    | (with_reducible refine callF_of (ck) ?_)
    | (with_reducible refine drawF_of (ck) ?_)
    | (with_reducible refine callF_of (p1) ?_)
    | (with_reducible refine drawF_of (p1) ?_)
    | (with_reducible refine callF_of (p2) ?_)
    | (with_reducible refine drawF_of (p2) ?_)
    | (with_reducible refine callF_of (o1) ?_)
    | (with_reducible refine drawF_of (o1) ?_)
    | (with_reducible refine callF_of (o2) ?_)
    | (with_reducible refine drawF_of (o2) ?_)
    | (with_reducible refine callF_of (o3) ?_)
    | (with_reducible refine drawF_of (o3) ?_)
    | (with_reducible refine callF_of (s1) ?_)
    | (with_reducible refine drawF_of (s1) ?_)
    | (refine after_lit ti_ok ?_)
    | (refine drawAfter_lit ti_ok ?_)
    | (refine drawEnd_of (by kernel_rfl) ?_)
    | ((first | refine cond_cases (fun hc => ?_) (fun hc => ?_) | refine guard_split (fun hc => ?_) (fun hc => ?_) | refine drawGuard_split (fun hc => ?_) (fun hc => ?_)) <;> first | (exfalso; simp only [decide_eq_true_eq, decide_eq_false_iff_not, Bool.not_eq_true, Bool.not_eq_false, Bool.not_eq_true', Bool.not_eq_false'] at hc; omega) | (simp only [hc]; try simp only [decide_eq_true_eq, decide_eq_false_iff_not, Bool.not_eq_true, Bool.not_eq_false, Bool.not_eq_true', Bool.not_eq_false'] at hc))
    | (refine after_need (by omega) ?_)
    | (refine drawAfter_need (by omega) ?_))
  exact fin_le trivial (Le.tup (.cons (Le.agg (.cons (Le.of_eq rfl) (.cons (Le.sl (.cons (.cons (Le.sl (.cons dyz (.cons dyz .nil))) .nil) (.cons (.cons (Le.sl (.cons dyz (.cons dyz .nil))) .nil) .nil))) (.cons (Le.of_eq rfl) .nil)))) (.cons (.refl _) .nil)))
end Go.Proofs.YtfoadddlmehpnaaDoor
