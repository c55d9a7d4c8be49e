/- The statement DyadicFloors: its code returns true. -/
import Derived.Test.YtppdgooakleakaaDoorL02b
import Derived.Test.YtppdgooakleakaaDoorU3
set_option linter.unusedSimpArgs false
set_option linter.unusedVariables false
set_option linter.deprecated false
namespace Go.Proofs.YtppdgooakleakaaDoor
open Go Go.Ax
set_option maxRecDepth 100000
set_option maxHeartbeats 4000000
theorem neg_neg (x : Dy) : x.neg.neg = x := Dy.ext_v (by rw [Dy.v_neg, Dy.v_neg]; grind)

theorem floors_out (s : Bool) (ws : List Nat) (d : Int) (den : Int) (hl : ws.length ≤ 9223372036854775807) (hf : ¬ (fewR ⟨s, ws, d⟩)) : CallOK Tryd.prog gl 5 [.agg [.v (.bool s), .sl 1 (u32s ws), .v (.int .i64 d)], .v (.int .i64 den)] (.v (.bool (true))) := by
  refine call_ok (C := ⟨Tryd.prog, gl, ti, 149, false⟩) ti_ok mixed 3000 Tryd.call5 Tryd.func5 rfl Tryd.ntmps5 (by simp) byClL byCl ?_
  rw [Tryd.results5]
  have fw := few02_1 s ws d hl
  rw [decide_eq_false hf] at fw
  clear hf
  repeat' (first
    | (simp only [go_sem, Int.reduceAdd, Int.reduceEq, Int.reduceLE, Int.reduceLT, Int.reduceMul, Int.reduceNeg, Int.reducePow, Int.reduceSub, Int.reduceToNat, Nat.reduceAdd, Nat.reduceBEq, Nat.reduceEqDiff, Nat.reduceLT, Nat.reduceLeDiff, Nat.reduceMul, Nat.reducePow, Nat.reduceSub, reduceCtorEq, reduceIte, IntKind.bits.eq_def, ti, tin])
    | (simp (disch := omega) only [w64, wu64, wu32, Nat.min_eq_left])
    | (with_reducible refine callF_of (fw) ?_)
    | (with_reducible refine drawF_of (fw) ?_)
    | (with_reducible refine callF_of (awake02) ?_)
    | (with_reducible refine drawF_of (awake02) ?_)
    | (refine after_lit ti_ok ?_)
    | (refine drawAfter_lit ti_ok ?_)
    | (refine drawEnd_of (by kernel_rfl) ?_)
    | ((first | refine cond_cases (fun hc => ?_) (fun hc => ?_) | refine guard_split (fun hc => ?_) (fun hc => ?_) | refine drawGuard_split (fun hc => ?_) (fun hc => ?_)) <;> first | (exfalso; simp only [decide_eq_true_eq, decide_eq_false_iff_not, Bool.not_eq_true, Bool.not_eq_false, Bool.not_eq_true', Bool.not_eq_false'] at hc; omega) | (simp only [hc]; try simp only [decide_eq_true_eq, decide_eq_false_iff_not, Bool.not_eq_true, Bool.not_eq_false, Bool.not_eq_true', Bool.not_eq_false'] at hc))
    | (refine after_need (by omega) ?_)
    | (refine drawAfter_need (by omega) ?_))
  all_goals exact fin_same trivial rfl

theorem floors_err (s : Bool) (ws : List Nat) (d : Int) (den : Int) (x : Dy) (h : Arg s ws d x) (gx : Mg 512 x) (dx : x.d ≤ 300) (hf : fewR ⟨s, ws, d⟩) (hd : den < 0 ∨ 65536 < den) : CallOK Tryd.prog gl 5 [.agg [.v (.bool s), .sl 1 (u32s ws), .v (.int .i64 d)], .v (.int .i64 den)] (.v (.bool (true))) := by
  refine call_ok (C := ⟨Tryd.prog, gl, ti, 149, false⟩) ti_ok mixed 3000 Tryd.call5 Tryd.func5 rfl Tryd.ntmps5 (by simp) byClL byCl ?_
  rw [Tryd.results5]
  have fw := few02_1 s ws d (by have := h.len; omega)
  rw [decide_eq_true hf] at fw
  clear hf
  have f1 := Floor_err s ws d den hd
  have f2 := Ceil_err s ws d den x h hd
  have s1 := (same_ok (Mg.zero 0)).zlit2
  repeat' (first
    | (simp only [go_sem, Int.reduceAdd, Int.reduceEq, Int.reduceLE, Int.reduceLT, Int.reduceMul, Int.reduceNeg, Int.reducePow, Int.reduceSub, Int.reduceToNat, Nat.reduceAdd, Nat.reduceBEq, Nat.reduceEqDiff, Nat.reduceLT, Nat.reduceLeDiff, Nat.reduceMul, Nat.reducePow, Nat.reduceSub, reduceCtorEq, reduceIte, IntKind.bits.eq_def, ti, tin])
    | (simp (disch := omega) only [w64, wu64, wu32, Nat.min_eq_left])
    | (with_reducible refine callF_of (fw) ?_)
    | (with_reducible refine drawF_of (fw) ?_)
    | (with_reducible refine callF_of (awake02) ?_)
    | (with_reducible refine drawF_of (awake02) ?_)
    | (with_reducible refine callF_of (base_Is3) ?_)
    | (with_reducible refine drawF_of (base_Is3) ?_)
    | (with_reducible refine callF_of (f1) ?_)
    | (with_reducible refine drawF_of (f1) ?_)
    | (with_reducible refine callF_of (f2) ?_)
    | (with_reducible refine drawF_of (f2) ?_)
    | (with_reducible refine callF_of (s1) ?_)
    | (with_reducible refine drawF_of (s1) ?_)
    | (refine after_lit ti_ok ?_)
    | (refine drawAfter_lit ti_ok ?_)
    | (refine drawEnd_of (by kernel_rfl) ?_)
    | ((first | refine cond_cases (fun hc => ?_) (fun hc => ?_) | refine guard_split (fun hc => ?_) (fun hc => ?_) | refine drawGuard_split (fun hc => ?_) (fun hc => ?_)) <;> first | (exfalso; simp only [decide_eq_true_eq, decide_eq_false_iff_not, Bool.not_eq_true, Bool.not_eq_false, Bool.not_eq_true', Bool.not_eq_false'] at hc; omega) | (simp only [hc]; try simp only [decide_eq_true_eq, decide_eq_false_iff_not, Bool.not_eq_true, Bool.not_eq_false, Bool.not_eq_true', Bool.not_eq_false'] at hc))
    | (refine after_need (by omega) ?_)
    | (refine drawAfter_need (by omega) ?_))
  all_goals exact fin_same trivial rfl

theorem floors_far (s : Bool) (ws : List Nat) (d : Int) (den : Int) (x : Dy) (h : Arg s ws d x) (gx : Mg 512 x) (dx : x.d ≤ 300) (hf : fewR ⟨s, ws, d⟩) (hd : 400 < den) (hd2 : den ≤ 65536) : CallOK Tryd.prog gl 5 [.agg [.v (.bool s), .sl 1 (u32s ws), .v (.int .i64 d)], .v (.int .i64 den)] (.v (.bool (true))) := by
  refine call_ok (C := ⟨Tryd.prog, gl, ti, 149, false⟩) ti_ok mixed 3000 Tryd.call5 Tryd.func5 rfl Tryd.ntmps5 (by simp) byClL byCl ?_
  rw [Tryd.results5]
  have fw := few02_1 s ws d (by have := h.len; omega)
  rw [decide_eq_true hf] at fw
  clear hf
  have f1 := awake02
  repeat' (first
    | (simp only [go_sem, Int.reduceAdd, Int.reduceEq, Int.reduceLE, Int.reduceLT, Int.reduceMul, Int.reduceNeg, Int.reducePow, Int.reduceSub, Int.reduceToNat, Nat.reduceAdd, Nat.reduceBEq, Nat.reduceEqDiff, Nat.reduceLT, Nat.reduceLeDiff, Nat.reduceMul, Nat.reducePow, Nat.reduceSub, reduceCtorEq, reduceIte, IntKind.bits.eq_def, ti, tin])
    | (simp (disch := omega) only [w64, wu64, wu32, Nat.min_eq_left])
    | (with_reducible refine callF_of (fw) ?_)
    | (with_reducible refine drawF_of (fw) ?_)
    | (with_reducible refine callF_of (awake02) ?_)
    | (with_reducible refine drawF_of (awake02) ?_)
    | (refine after_lit ti_ok ?_)
    | (refine drawAfter_lit ti_ok ?_)
    | (refine drawEnd_of (by kernel_rfl) ?_)
    | ((first | refine cond_cases (fun hc => ?_) (fun hc => ?_) | refine guard_split (fun hc => ?_) (fun hc => ?_) | refine drawGuard_split (fun hc => ?_) (fun hc => ?_)) <;> first | (exfalso; simp only [decide_eq_true_eq, decide_eq_false_iff_not, Bool.not_eq_true, Bool.not_eq_false, Bool.not_eq_true', Bool.not_eq_false'] at hc; omega) | (simp only [hc]; try simp only [decide_eq_true_eq, decide_eq_false_iff_not, Bool.not_eq_true, Bool.not_eq_false, Bool.not_eq_true', Bool.not_eq_false'] at hc))
    | (refine after_need (by omega) ?_)
    | (refine drawAfter_need (by omega) ?_))
  all_goals exact fin_same trivial rfl

theorem floors_ok (s : Bool) (ws : List Nat) (d : Int) (den : Nat) (x : Dy) (h : Arg s ws d x) (gx : Mg 512 x) (dx : x.d ≤ 300) (hf : fewR ⟨s, ws, d⟩) (hd : den ≤ 400) : CallOK Tryd.prog gl 5 [.agg [.v (.bool s), .sl 1 (u32s ws), .v (.int .i64 d)], .v (.int .i64 den)] (.v (.bool (true))) := by
  refine call_ok (C := ⟨Tryd.prog, gl, ti, 149, false⟩) ti_ok mixed 3000 Tryd.call5 Tryd.func5 rfl Tryd.ntmps5 (by simp) byClL byCl ?_
  rw [Tryd.results5]
  have fw := few02_1 s ws d (by have := h.len; omega)
  rw [decide_eq_true hf] at fw
  clear hf
  have f1 := Floor_ok _ _ _ den _ h (by omega)
  have f2 := Ceil_ok _ _ _ den _ 512 h gx (by omega) (by omega)
  have f3 := ref_Floor _ _ _ den _ h (by omega)
  have k1 := Make_ok 1 den (by omega) (by omega)
  have ng := Neg_ok _ _ _ _ h
  have f4 := Ceil_ok _ _ _ den _ 512 gx.neg.arg gx.neg (by omega) (by omega)
  have gf : Mg 513 (x.floor den) := gx.floor
  have gc : Mg 513 (x.ceil den) := (gx.neg.floor (den := den)).neg
  have gg : Mg 1 (nrm 1 den) := mg_nrm (by simp)
  have gb : Mg 513 (x.neg.ceil den) := (gx.neg.neg.floor (den := den)).neg
  have e1 : x.neg.ceil den = (x.floor den).neg := by unfold Dy.ceil; rw [neg_neg]
  have s1 := same_ok gf
  have c1 := Cmp_ok _ _ _ _ _ _ _ _ gf.arg h
  have a1 := Add_ok _ _ _ _ _ _ _ _ gf.arg gg.arg
  have c2 := Cmp_ok _ _ _ _ _ _ _ _ h (gf.add (gg.mono (by omega))).arg
  have c3 := Cmp_ok _ _ _ _ _ _ _ _ gc.arg h
  have b1 := Sub_ok _ _ _ _ _ _ _ _ gc.arg gg.arg
  have c4 := Cmp_ok _ _ _ _ _ _ _ _ (gc.sub (gg.mono (by omega))).arg h
  have n2 := Neg_ok _ _ _ _ gb.arg
  rw [e1, neg_neg] at n2
  rw [e1] at f4
  have hg : (nrm 1 den).v = 1 / 2 ^ den := by rw [v_nrm (by omega)]; rfl
  obtain ⟨u1, u2⟩ := x.v_floor (den := den) (by omega)
  obtain ⟨u3, u4⟩ := x.neg.v_floor (den := den) (by omega)
  rw [Dy.v_neg] at u3 u4
  have w1 := (cmp_le (x.floor den) x).2 u1
  have w2 := (cmp_lt x ((x.floor den).add (nrm 1 den))).2 (by rw [Dy.v_add, hg]; exact u2)
  have w3 := (cmp_ge (x.ceil den) x).2 (by unfold Dy.ceil; rw [Dy.v_neg]; grind)
  have w4 := (cmp_lt ((x.ceil den).sub (nrm 1 den)) x).2 (by unfold Dy.ceil; rw [Dy.v_sub, Dy.v_neg, hg]; grind)
  have v1 : dn (x.floor den) ≤ den := by have := Dy.d_nrm (z := (x.v * 2 ^ den).floor) (d := den) (by omega); show (((nrm (x.v * 2 ^ den).floor den).d : Nat) : Int) ≤ _; omega
  have v2 : dn (x.ceil den) ≤ den := by have := Dy.d_nrm (z := (x.neg.v * 2 ^ den).floor) (d := den) (by omega); show (((nrm (x.neg.v * 2 ^ den).floor den).d : Nat) : Int) ≤ _; omega
  clear u1 u2 u3 u4 hg e1 gf gc gg gb gx
  generalize (x.floor den).cmp x = n1 at *
  generalize x.cmp ((x.floor den).add (nrm 1 den)) = n3 at *
  generalize (x.ceil den).cmp x = n4 at *
  generalize ((x.ceil den).sub (nrm 1 den)).cmp x = n5 at *
  generalize (x.floor den).add (nrm 1 den) = z3 at *
  generalize (x.ceil den).sub (nrm 1 den) = z4 at *
  generalize (x.floor den).neg = z5 at *
  generalize x.floor den = z1 at *
  generalize x.ceil den = z2 at *
  generalize nrm 1 den = z6 at *
  generalize x.neg = z7 at *
  repeat' (first
    | (simp only [go_sem, Int.reduceAdd, Int.reduceEq, Int.reduceLE, Int.reduceLT, Int.reduceMul, Int.reduceNeg, Int.reducePow, Int.reduceSub, Int.reduceToNat, Nat.reduceAdd, Nat.reduceBEq, Nat.reduceEqDiff, Nat.reduceLT, Nat.reduceLeDiff, Nat.reduceMul, Nat.reducePow, Nat.reduceSub, reduceCtorEq, reduceIte, IntKind.bits.eq_def, ti, tin])
    | (simp (disch := omega) only [w64, wu64, wu32, Nat.min_eq_left])
    | (with_reducible refine callF_of (fw) ?_)
    | (with_reducible refine drawF_of (fw) ?_)
    | (with_reducible refine callF_of (awake02) ?_)
    | (with_reducible refine drawF_of (awake02) ?_)
    | (with_reducible refine callF_of (f1) ?_)
    | (with_reducible refine drawF_of (f1) ?_)
    | (with_reducible refine callF_of (f2) ?_)
    | (with_reducible refine drawF_of (f2) ?_)
    | (with_reducible refine callF_of (f3) ?_)
    | (with_reducible refine drawF_of (f3) ?_)
    | (with_reducible refine callF_of (f4) ?_)
    | (with_reducible refine drawF_of (f4) ?_)
    | (with_reducible refine callF_of (k1) ?_)
    | (with_reducible refine drawF_of (k1) ?_)
    | (with_reducible refine callF_of (ng) ?_)
    | (with_reducible refine drawF_of (ng) ?_)
    | (with_reducible refine callF_of (s1) ?_)
    | (with_reducible refine drawF_of (s1) ?_)
    | (with_reducible refine callF_of (c1) ?_)
    | (with_reducible refine drawF_of (c1) ?_)
    | (with_reducible refine callF_of (a1) ?_)
    | (with_reducible refine drawF_of (a1) ?_)
    | (with_reducible refine callF_of (c2) ?_)
    | (with_reducible refine drawF_of (c2) ?_)
    | (with_reducible refine callF_of (c3) ?_)
    | (with_reducible refine drawF_of (c3) ?_)
    | (with_reducible refine callF_of (b1) ?_)
    | (with_reducible refine drawF_of (b1) ?_)
    | (with_reducible refine callF_of (c4) ?_)
    | (with_reducible refine drawF_of (c4) ?_)
    | (with_reducible refine callF_of (n2) ?_)
    | (with_reducible refine drawF_of (n2) ?_)
    | (refine after_lit ti_ok ?_)
    | (refine drawAfter_lit ti_ok ?_)
    | (refine drawEnd_of (by kernel_rfl) ?_)
    | ((first | refine cond_cases (fun hc => ?_) (fun hc => ?_) | refine guard_split (fun hc => ?_) (fun hc => ?_) | refine drawGuard_split (fun hc => ?_) (fun hc => ?_)) <;> first | (exfalso; simp only [decide_eq_true_eq, decide_eq_false_iff_not, Bool.not_eq_true, Bool.not_eq_false, Bool.not_eq_true', Bool.not_eq_false'] at hc; omega) | (simp only [hc]; try simp only [decide_eq_true_eq, decide_eq_false_iff_not, Bool.not_eq_true, Bool.not_eq_false, Bool.not_eq_true', Bool.not_eq_false'] at hc))
    | (refine after_need (by omega) ?_)
    | (refine drawAfter_need (by omega) ?_))
  all_goals exact fin_same trivial rfl

theorem floors_law (s : Bool) (r : List (List AV)) (d : Int) (den : Int) (hr : r.length ≤ maxLen) (fr : ∀ x ∈ r, FitL [.int .u32] x) (hden : -9223372036854775808 ≤ den ∧ den ≤ 9223372036854775807) : CallOK Tryd.prog gl 5 [.agg [.v (.bool s), .sl 1 r, .v (.int .i64 d)], .v (.int .i64 den)] (.v (.bool true)) := by
  unfold maxLen at *
  obtain ⟨ws, hW, rfl, h1⟩ := fit_u32s fr
  by_cases hf : fewR ⟨s, ws, d⟩
  ·
    obtain ⟨x, h, gx, dx⟩ := few_arg hW hf
    by_cases hd : den < 0 ∨ 65536 < den
    · exact floors_err s ws d den x h gx dx hf hd
    · by_cases hd2 : 400 < den
      · exact floors_far s ws d den x h gx dx hf hd2 (by omega)
      · obtain ⟨e, rfl⟩ : ∃ e : Nat, den = e := ⟨den.toNat, by omega⟩
        exact floors_ok s ws d e x h gx dx hf (by omega)
  · exact floors_out s ws d den (by omega) hf
end Go.Proofs.YtppdgooakleakaaDoor
