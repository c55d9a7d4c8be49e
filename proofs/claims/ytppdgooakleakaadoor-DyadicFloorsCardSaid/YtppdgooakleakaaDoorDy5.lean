/- Layer 2 (dyadic.go), part 5: Make, Floor, Ceil, Int. -/
import Derived.Test.YtppdgooakleakaaDoorDy4
import Derived.Test.YtppdgooakleakaaDoorU2
set_option linter.unusedSimpArgs false
set_option linter.unusedVariables false
set_option linter.deprecated false
namespace Go.Proofs.YtppdgooakleakaaDoor
open Go Go.Ax
set_option maxRecDepth 100000
set_option maxHeartbeats 4000000

theorem Make_err (n den : Int) (hd : den < 0 ∨ 65536 < den) : CallOK Tryd.prog gl 13 [.v (.int .i64 n), .v (.int .i64 den)] (.tup [.agg [.v (.bool (sg (Dy.zero))), .sl 1 (u32s (ms (Dy.zero))), .v (.int .i64 (dn (Dy.zero)))], .v (.iface 39 (.int .i64 3))]) := by
  refine call_ok (C := ⟨Tryd.prog, gl, ti, 23, false⟩) ti_ok mixed 3000 Tryd.call13 Tryd.func13 rfl Tryd.ntmps13 (by simp) byClL byCl ?_
  rw [Tryd.results13]
  by_cases h0 : den < 0
  ·
    repeat' (first
      | (simp only [go_sem, Int.reduceAdd, Int.reduceEq, Int.reduceLE, Int.reduceLT, Int.reduceMul, Int.reduceNeg, Int.reducePow, Int.reduceSub, Int.reduceToNat, Nat.reduceAdd, Nat.reduceBEq, Nat.reduceEqDiff, Nat.reduceLT, Nat.reduceLeDiff, Nat.reduceMul, Nat.reducePow, Nat.reduceSub, reduceCtorEq, reduceIte, IntKind.bits.eq_def, ti, tin])
      | (simp (disch := omega) only [w64, wu64, wu32, Nat.min_eq_left])
      | (refine after_lit ti_ok ?_)
      | (refine drawAfter_lit ti_ok ?_)
      | (refine drawEnd_of (by kernel_rfl) ?_)
      | ((first | refine cond_cases (fun hc => ?_) (fun hc => ?_) | refine guard_split (fun hc => ?_) (fun hc => ?_) | refine drawGuard_split (fun hc => ?_) (fun hc => ?_)) <;> first | (exfalso; simp only [decide_eq_true_eq, decide_eq_false_iff_not, Bool.not_eq_true, Bool.not_eq_false, Bool.not_eq_true', Bool.not_eq_false'] at hc; omega) | (simp only [hc]; try simp only [decide_eq_true_eq, decide_eq_false_iff_not, Bool.not_eq_true, Bool.not_eq_false, Bool.not_eq_true', Bool.not_eq_false'] at hc))
      | (refine after_need (by omega) ?_)
      | (refine drawAfter_need (by omega) ?_))
    all_goals exact fin_le trivial (Le.tup (.cons Le.dy0 (.cons (.refl _) .nil)))
  ·
    have h1 : 65536 < den := by omega
    repeat' (first
      | (simp only [go_sem, Int.reduceAdd, Int.reduceEq, Int.reduceLE, Int.reduceLT, Int.reduceMul, Int.reduceNeg, Int.reducePow, Int.reduceSub, Int.reduceToNat, Nat.reduceAdd, Nat.reduceBEq, Nat.reduceEqDiff, Nat.reduceLT, Nat.reduceLeDiff, Nat.reduceMul, Nat.reducePow, Nat.reduceSub, reduceCtorEq, reduceIte, IntKind.bits.eq_def, ti, tin])
      | (simp (disch := omega) only [w64, wu64, wu32, Nat.min_eq_left])
      | (refine after_lit ti_ok ?_)
      | (refine drawAfter_lit ti_ok ?_)
      | (refine drawEnd_of (by kernel_rfl) ?_)
      | ((first | refine cond_cases (fun hc => ?_) (fun hc => ?_) | refine guard_split (fun hc => ?_) (fun hc => ?_) | refine drawGuard_split (fun hc => ?_) (fun hc => ?_)) <;> first | (exfalso; simp only [decide_eq_true_eq, decide_eq_false_iff_not, Bool.not_eq_true, Bool.not_eq_false, Bool.not_eq_true', Bool.not_eq_false'] at hc; omega) | (simp only [hc]; try simp only [decide_eq_true_eq, decide_eq_false_iff_not, Bool.not_eq_true, Bool.not_eq_false, Bool.not_eq_true', Bool.not_eq_false'] at hc))
      | (refine after_need (by omega) ?_)
      | (refine drawAfter_need (by omega) ?_))
    all_goals exact fin_le trivial (Le.tup (.cons Le.dy0 (.cons (.refl _) .nil)))
theorem Make_ok (n : Int) (den : Nat) (hn : -9223372036854775808 ≤ n ∧ n ≤ 9223372036854775807) (hd : den ≤ 65536) : CallOK Tryd.prog gl 13 [.v (.int .i64 n), .v (.int .i64 den)] (.tup [.agg [.v (.bool (sg (nrm n den))), .sl 1 (u32s (ms (nrm n den))), .v (.int .i64 (dn (nrm n den)))], .v .nilIface]) := by
  refine call_ok (C := ⟨Tryd.prog, gl, ti, 23, false⟩) ti_ok mixed 3000 Tryd.call13 Tryd.func13 rfl Tryd.ntmps13 (by simp) byClL byCl ?_
  rw [Tryd.results13]
  have oo := Of_ok n hn
  have hl : (ms (Dy.int n)).length ≤ 2 := words_length_le (by show n.natAbs < _; omega)
  have rs := result_ok (sg (Dy.int n)) (ms (Dy.int n)) den (ms_wd _) (by omega) (by omega) (by omega)
  rw [Int.toNat_natCast, res_make] at rs
  repeat' (first
    | (simp only [go_sem, Int.reduceAdd, Int.reduceEq, Int.reduceLE, Int.reduceLT, Int.reduceMul, Int.reduceNeg, Int.reducePow, Int.reduceSub, Int.reduceToNat, Nat.reduceAdd, Nat.reduceBEq, Nat.reduceEqDiff, Nat.reduceLT, Nat.reduceLeDiff, Nat.reduceMul, Nat.reducePow, Nat.reduceSub, reduceCtorEq, reduceIte, IntKind.bits.eq_def, ti, tin])
    | (simp (disch := omega) only [w64, wu64, wu32, Nat.min_eq_left])
    | (with_reducible refine callF_of (oo) ?_)
    | (with_reducible refine drawF_of (oo) ?_)
    | (with_reducible refine callF_of (rs) ?_)
    | (with_reducible refine drawF_of (rs) ?_)
    | (refine after_lit ti_ok ?_)
    | (refine drawAfter_lit ti_ok ?_)
    | (refine drawEnd_of (by kernel_rfl) ?_)
    | ((first | refine cond_cases (fun hc => ?_) (fun hc => ?_) | refine guard_split (fun hc => ?_) (fun hc => ?_) | refine drawGuard_split (fun hc => ?_) (fun hc => ?_)) <;> first | (exfalso; simp only [decide_eq_true_eq, decide_eq_false_iff_not, Bool.not_eq_true, Bool.not_eq_false, Bool.not_eq_true', Bool.not_eq_false'] at hc; omega) | (simp only [hc]; try simp only [decide_eq_true_eq, decide_eq_false_iff_not, Bool.not_eq_true, Bool.not_eq_false, Bool.not_eq_true', Bool.not_eq_false'] at hc))
    | (refine after_need (by omega) ?_)
    | (refine drawAfter_need (by omega) ?_))
  exact fin_same trivial rfl

theorem Floor_err (s : Bool) (ws : List Nat) (d : Int) (den : Int) (hd : den < 0 ∨ 65536 < den) : CallOK Tryd.prog gl 23 [.agg [.v (.bool s), .sl 1 (u32s ws), .v (.int .i64 d)], .v (.int .i64 den)] (.tup [.agg [.v (.bool (sg (Dy.zero))), .sl 1 (u32s (ms (Dy.zero))), .v (.int .i64 (dn (Dy.zero)))], .v (.iface 39 (.int .i64 3))]) := by
  refine call_ok (C := ⟨Tryd.prog, gl, ti, 43, false⟩) ti_ok mixed 3000 Tryd.call23 Tryd.func23 rfl Tryd.ntmps23 (by simp) byClL byCl ?_
  rw [Tryd.results23]
  by_cases h0 : den < 0
  ·
    repeat' (first
      | (simp only [go_sem, Int.reduceAdd, Int.reduceEq, Int.reduceLE, Int.reduceLT, Int.reduceMul, Int.reduceNeg, Int.reducePow, Int.reduceSub, Int.reduceToNat, Nat.reduceAdd, Nat.reduceBEq, Nat.reduceEqDiff, Nat.reduceLT, Nat.reduceLeDiff, Nat.reduceMul, Nat.reducePow, Nat.reduceSub, reduceCtorEq, reduceIte, IntKind.bits.eq_def, ti, tin])
      | (simp (disch := omega) only [w64, wu64, wu32, Nat.min_eq_left])
      | (refine after_lit ti_ok ?_)
      | (refine drawAfter_lit ti_ok ?_)
      | (refine drawEnd_of (by kernel_rfl) ?_)
      | ((first | refine cond_cases (fun hc => ?_) (fun hc => ?_) | refine guard_split (fun hc => ?_) (fun hc => ?_) | refine drawGuard_split (fun hc => ?_) (fun hc => ?_)) <;> first | (exfalso; simp only [decide_eq_true_eq, decide_eq_false_iff_not, Bool.not_eq_true, Bool.not_eq_false, Bool.not_eq_true', Bool.not_eq_false'] at hc; omega) | (simp only [hc]; try simp only [decide_eq_true_eq, decide_eq_false_iff_not, Bool.not_eq_true, Bool.not_eq_false, Bool.not_eq_true', Bool.not_eq_false'] at hc))
      | (refine after_need (by omega) ?_)
      | (refine drawAfter_need (by omega) ?_))
    all_goals exact fin_le trivial (Le.tup (.cons Le.dy0 (.cons (.refl _) .nil)))
  ·
    have h1 : 65536 < den := by omega
    repeat' (first
      | (simp only [go_sem, Int.reduceAdd, Int.reduceEq, Int.reduceLE, Int.reduceLT, Int.reduceMul, Int.reduceNeg, Int.reducePow, Int.reduceSub, Int.reduceToNat, Nat.reduceAdd, Nat.reduceBEq, Nat.reduceEqDiff, Nat.reduceLT, Nat.reduceLeDiff, Nat.reduceMul, Nat.reducePow, Nat.reduceSub, reduceCtorEq, reduceIte, IntKind.bits.eq_def, ti, tin])
      | (simp (disch := omega) only [w64, wu64, wu32, Nat.min_eq_left])
      | (refine after_lit ti_ok ?_)
      | (refine drawAfter_lit ti_ok ?_)
      | (refine drawEnd_of (by kernel_rfl) ?_)
      | ((first | refine cond_cases (fun hc => ?_) (fun hc => ?_) | refine guard_split (fun hc => ?_) (fun hc => ?_) | refine drawGuard_split (fun hc => ?_) (fun hc => ?_)) <;> first | (exfalso; simp only [decide_eq_true_eq, decide_eq_false_iff_not, Bool.not_eq_true, Bool.not_eq_false, Bool.not_eq_true', Bool.not_eq_false'] at hc; omega) | (simp only [hc]; try simp only [decide_eq_true_eq, decide_eq_false_iff_not, Bool.not_eq_true, Bool.not_eq_false, Bool.not_eq_true', Bool.not_eq_false'] at hc))
      | (refine after_need (by omega) ?_)
      | (refine drawAfter_need (by omega) ?_))
    all_goals exact fin_le trivial (Le.tup (.cons Le.dy0 (.cons (.refl _) .nil)))
theorem Floor_ok (s : Bool) (ws : List Nat) (d : Int) (den : Nat) (x : Dy) (h : Arg s ws d x) (hd : den ≤ 65536) : CallOK Tryd.prog gl 23 [.agg [.v (.bool s), .sl 1 (u32s ws), .v (.int .i64 d)], .v (.int .i64 den)] (.tup [.agg [.v (.bool (sg (x.floor den))), .sl 1 (u32s (ms (x.floor den))), .v (.int .i64 (dn (x.floor den)))], .v .nilIface]) := by
  refine call_ok (C := ⟨Tryd.prog, gl, ti, 43, false⟩) ti_ok mixed 3000 Tryd.call23 Tryd.func23 rfl Tryd.ntmps23 (by simp) byClL byCl ?_
  rw [Tryd.results23]
  have pa := parts_ok s ws d x h
  have hl : (words x.n.natAbs).length ≤ _ := h.mlen
  have hl2 := h.mlen
  have hdn := dn_nn x
  have hdd : dn x = (x.d : Int) := rfl
  by_cases hc1 : x.d ≤ den
  · have rs := result_ok (sg x) (ms x) (dn x) (ms_wd x) (by omega) (by omega) (by omega)
    rw [res_self] at rs
    rw [Dy.floor_fine hc1 hd]
    repeat' (first
      | (simp only [go_sem, Int.reduceAdd, Int.reduceEq, Int.reduceLE, Int.reduceLT, Int.reduceMul, Int.reduceNeg, Int.reducePow, Int.reduceSub, Int.reduceToNat, Nat.reduceAdd, Nat.reduceBEq, Nat.reduceEqDiff, Nat.reduceLT, Nat.reduceLeDiff, Nat.reduceMul, Nat.reducePow, Nat.reduceSub, reduceCtorEq, reduceIte, IntKind.bits.eq_def, ti, tin])
      | (simp (disch := omega) only [w64, wu64, wu32, Nat.min_eq_left])
      | (with_reducible refine callF_of (pa) ?_)
      | (with_reducible refine drawF_of (pa) ?_)
      | (with_reducible refine callF_of (rs) ?_)
      | (with_reducible refine drawF_of (rs) ?_)
      | (refine after_lit ti_ok ?_)
      | (refine drawAfter_lit ti_ok ?_)
      | (refine drawEnd_of (by kernel_rfl) ?_)
      | ((first | refine cond_cases (fun hc => ?_) (fun hc => ?_) | refine guard_split (fun hc => ?_) (fun hc => ?_) | refine drawGuard_split (fun hc => ?_) (fun hc => ?_)) <;> first | (exfalso; simp only [decide_eq_true_eq, decide_eq_false_iff_not, Bool.not_eq_true, Bool.not_eq_false, Bool.not_eq_true', Bool.not_eq_false'] at hc; omega) | (simp only [hc]; try simp only [decide_eq_true_eq, decide_eq_false_iff_not, Bool.not_eq_true, Bool.not_eq_false, Bool.not_eq_true', Bool.not_eq_false'] at hc))
      | (refine after_need (by omega) ?_)
      | (refine drawAfter_need (by omega) ?_))
    exact fin_same trivial rfl
  · have key := res_floor (x := x) (den := den) (by omega)
    have ri := nat_right x.n.natAbs (x.d - den) (by omega) (by omega)
    have ld := words_div_len (a := x.n.natAbs) (b := 2 ^ (x.d - den)) (k := 68719476736) (by omega)
    have e1 : dn x - (den : Int) = ((x.d - den : Nat) : Int) := by omega
    generalize x.n.natAbs / 2 ^ (x.d - den) = m at *
    generalize x.d - den = k at *
    generalize x.floor den = y at *
    cases hs : sg x
    · rw [hs] at key pa
      rw [if_neg (by simp)] at key
      have rs := result_ok false (words m) den (Wd.words _) (by omega) (by omega) (by omega)
      rw [key] at rs
      repeat' (first
        | (simp only [go_sem, Int.reduceAdd, Int.reduceEq, Int.reduceLE, Int.reduceLT, Int.reduceMul, Int.reduceNeg, Int.reducePow, Int.reduceSub, Int.reduceToNat, Nat.reduceAdd, Nat.reduceBEq, Nat.reduceEqDiff, Nat.reduceLT, Nat.reduceLeDiff, Nat.reduceMul, Nat.reducePow, Nat.reduceSub, reduceCtorEq, reduceIte, IntKind.bits.eq_def, ti, tin, e1])
        | (simp (disch := omega) only [w64, wu64, wu32, Nat.min_eq_left])
        | (with_reducible refine callF_of (pa) ?_)
        | (with_reducible refine drawF_of (pa) ?_)
        | (with_reducible refine callF_of (ri) ?_)
        | (with_reducible refine drawF_of (ri) ?_)
        | (with_reducible refine callF_of (rs) ?_)
        | (with_reducible refine drawF_of (rs) ?_)
        | (refine after_lit ti_ok ?_)
        | (refine drawAfter_lit ti_ok ?_)
        | (refine drawEnd_of (by kernel_rfl) ?_)
        | ((first | refine cond_cases (fun hc => ?_) (fun hc => ?_) | refine guard_split (fun hc => ?_) (fun hc => ?_) | refine drawGuard_split (fun hc => ?_) (fun hc => ?_)) <;> first | (exfalso; simp only [decide_eq_true_eq, decide_eq_false_iff_not, Bool.not_eq_true, Bool.not_eq_false, Bool.not_eq_true', Bool.not_eq_false'] at hc; omega) | (simp only [hc]; try simp only [decide_eq_true_eq, decide_eq_false_iff_not, Bool.not_eq_true, Bool.not_eq_false, Bool.not_eq_true', Bool.not_eq_false'] at hc))
        | (refine after_need (by omega) ?_)
        | (refine drawAfter_need (by omega) ?_))
      exact fin_same trivial rfl
    · rw [hs] at key pa
      rw [if_pos rfl] at key
      have ad := nat_add m 1 (by omega) (by rw [words_one]; simp)
      have la := words_add_len (a := m) (b := 1) (k := 68719476736) (by omega) (by rw [words_one]; simp)
      have rs := result_ok true (words (m + 1)) den (Wd.words _) (by omega) (by omega) (by omega)
      rw [key] at rs
      rw [u32s_one] at ad
      repeat' (first
        | (simp only [go_sem, Int.reduceAdd, Int.reduceEq, Int.reduceLE, Int.reduceLT, Int.reduceMul, Int.reduceNeg, Int.reducePow, Int.reduceSub, Int.reduceToNat, Nat.reduceAdd, Nat.reduceBEq, Nat.reduceEqDiff, Nat.reduceLT, Nat.reduceLeDiff, Nat.reduceMul, Nat.reducePow, Nat.reduceSub, reduceCtorEq, reduceIte, IntKind.bits.eq_def, ti, tin, e1])
        | (simp (disch := omega) only [w64, wu64, wu32, Nat.min_eq_left])
        | (with_reducible refine callF_of (pa) ?_)
        | (with_reducible refine drawF_of (pa) ?_)
        | (with_reducible refine callF_of (ri) ?_)
        | (with_reducible refine drawF_of (ri) ?_)
        | (with_reducible refine callF_of (ad) ?_)
        | (with_reducible refine drawF_of (ad) ?_)
        | (with_reducible refine callF_of (rs) ?_)
        | (with_reducible refine drawF_of (rs) ?_)
        | (refine after_lit ti_ok ?_)
        | (refine drawAfter_lit ti_ok ?_)
        | (refine drawEnd_of (by kernel_rfl) ?_)
        | ((first | refine cond_cases (fun hc => ?_) (fun hc => ?_) | refine guard_split (fun hc => ?_) (fun hc => ?_) | refine drawGuard_split (fun hc => ?_) (fun hc => ?_)) <;> first | (exfalso; simp only [decide_eq_true_eq, decide_eq_false_iff_not, Bool.not_eq_true, Bool.not_eq_false, Bool.not_eq_true', Bool.not_eq_false'] at hc; omega) | (simp only [hc]; try simp only [decide_eq_true_eq, decide_eq_false_iff_not, Bool.not_eq_true, Bool.not_eq_false, Bool.not_eq_true', Bool.not_eq_false'] at hc))
        | (refine after_need (by omega) ?_)
        | (refine drawAfter_need (by omega) ?_))
      exact fin_same trivial rfl

theorem Ceil_err (s : Bool) (ws : List Nat) (d : Int) (den : Int) (x : Dy) (h : Arg s ws d x) (hd : den < 0 ∨ 65536 < den) : CallOK Tryd.prog gl 24 [.agg [.v (.bool s), .sl 1 (u32s ws), .v (.int .i64 d)], .v (.int .i64 den)] (.tup [.agg [.v (.bool (sg (Dy.zero))), .sl 1 (u32s (ms (Dy.zero))), .v (.int .i64 (dn (Dy.zero)))], .v (.iface 39 (.int .i64 3))]) := by
  refine call_ok (C := ⟨Tryd.prog, gl, ti, 18, false⟩) ti_ok mixed 3000 Tryd.call24 Tryd.func24 rfl Tryd.ntmps24 (by simp) byClL byCl ?_
  rw [Tryd.results24]
  have ne := Neg_ok s ws d x h
  have fl := Floor_err (sg x.neg) (ms x.neg) (dn x.neg) den hd
  have nf := Neg_ok _ _ _ Dy.zero (Arg.of (Mg.zero 0) (by omega))
  rw [dy_neg_zero] at nf
  repeat' (first
    | (simp only [go_sem, Int.reduceAdd, Int.reduceEq, Int.reduceLE, Int.reduceLT, Int.reduceMul, Int.reduceNeg, Int.reducePow, Int.reduceSub, Int.reduceToNat, Nat.reduceAdd, Nat.reduceBEq, Nat.reduceEqDiff, Nat.reduceLT, Nat.reduceLeDiff, Nat.reduceMul, Nat.reducePow, Nat.reduceSub, reduceCtorEq, reduceIte, IntKind.bits.eq_def, ti, tin])
    | (simp (disch := omega) only [w64, wu64, wu32, Nat.min_eq_left])
    | (with_reducible refine callF_of (ne) ?_)
    | (with_reducible refine drawF_of (ne) ?_)
    | (with_reducible refine callF_of (fl) ?_)
    | (with_reducible refine drawF_of (fl) ?_)
    | (with_reducible refine callF_of (nf) ?_)
    | (with_reducible refine drawF_of (nf) ?_)
    | (refine after_lit ti_ok ?_)
    | (refine drawAfter_lit ti_ok ?_)
    | (refine drawEnd_of (by kernel_rfl) ?_)
    | ((first | refine cond_cases (fun hc => ?_) (fun hc => ?_) | refine guard_split (fun hc => ?_) (fun hc => ?_) | refine drawGuard_split (fun hc => ?_) (fun hc => ?_)) <;> first | (exfalso; simp only [decide_eq_true_eq, decide_eq_false_iff_not, Bool.not_eq_true, Bool.not_eq_false, Bool.not_eq_true', Bool.not_eq_false'] at hc; omega) | (simp only [hc]; try simp only [decide_eq_true_eq, decide_eq_false_iff_not, Bool.not_eq_true, Bool.not_eq_false, Bool.not_eq_true', Bool.not_eq_false'] at hc))
    | (refine after_need (by omega) ?_)
    | (refine drawAfter_need (by omega) ?_))
  exact fin_same trivial rfl
theorem Ceil_ok (s : Bool) (ws : List Nat) (d : Int) (den : Nat) (x : Dy) (k : Nat) (h : Arg s ws d x) (hk : Mg k x) (hk2 : k ≤ 1099511627775) (hd : den ≤ 65536) : CallOK Tryd.prog gl 24 [.agg [.v (.bool s), .sl 1 (u32s ws), .v (.int .i64 d)], .v (.int .i64 den)] (.tup [.agg [.v (.bool (sg (x.ceil den))), .sl 1 (u32s (ms (x.ceil den))), .v (.int .i64 (dn (x.ceil den)))], .v .nilIface]) := by
  refine call_ok (C := ⟨Tryd.prog, gl, ti, 18, false⟩) ti_ok mixed 3000 Tryd.call24 Tryd.func24 rfl Tryd.ntmps24 (by simp) byClL byCl ?_
  rw [Tryd.results24]
  have ne := Neg_ok s ws d x h
  have fl := Floor_ok (sg x.neg) (ms x.neg) (dn x.neg) den x.neg h.neg_of hd
  have nf := Neg_ok _ _ _ (x.neg.floor den) (Arg.of (Mg.floor hk.neg) (by omega))
  repeat' (first
    | (simp only [go_sem, Int.reduceAdd, Int.reduceEq, Int.reduceLE, Int.reduceLT, Int.reduceMul, Int.reduceNeg, Int.reducePow, Int.reduceSub, Int.reduceToNat, Nat.reduceAdd, Nat.reduceBEq, Nat.reduceEqDiff, Nat.reduceLT, Nat.reduceLeDiff, Nat.reduceMul, Nat.reducePow, Nat.reduceSub, reduceCtorEq, reduceIte, IntKind.bits.eq_def, ti, tin])
    | (simp (disch := omega) only [w64, wu64, wu32, Nat.min_eq_left])
    | (with_reducible refine callF_of (ne) ?_)
    | (with_reducible refine drawF_of (ne) ?_)
    | (with_reducible refine callF_of (fl) ?_)
    | (with_reducible refine drawF_of (fl) ?_)
    | (with_reducible refine callF_of (nf) ?_)
    | (with_reducible refine drawF_of (nf) ?_)
    | (refine after_lit ti_ok ?_)
    | (refine drawAfter_lit ti_ok ?_)
    | (refine drawEnd_of (by kernel_rfl) ?_)
    | ((first | refine cond_cases (fun hc => ?_) (fun hc => ?_) | refine guard_split (fun hc => ?_) (fun hc => ?_) | refine drawGuard_split (fun hc => ?_) (fun hc => ?_)) <;> first | (exfalso; simp only [decide_eq_true_eq, decide_eq_false_iff_not, Bool.not_eq_true, Bool.not_eq_false, Bool.not_eq_true', Bool.not_eq_false'] at hc; omega) | (simp only [hc]; try simp only [decide_eq_true_eq, decide_eq_false_iff_not, Bool.not_eq_true, Bool.not_eq_false, Bool.not_eq_true', Bool.not_eq_false'] at hc))
    | (refine after_need (by omega) ?_)
    | (refine drawAfter_need (by omega) ?_))
  exact fin_same trivial rfl

theorem uint_ok (ws : List Nat) (hW : Wd ws) (hl : ws.length ≤ 2) : CallOK Tryd.prog gl 73 [.sl 1 (u32s (ws))] (.v (.int .u64 ((val ws : Nat)))) := by
  refine call_ok (C := ⟨Tryd.prog, gl, ti, 21, false⟩) ti_ok mixed 3000 Tryd.call73 Tryd.func73 rfl Tryd.ntmps73 (by simp) byClL byCl ?_
  rw [Tryd.results73]
  rcases ws with _ | ⟨w, _ | ⟨v, _ | ⟨u, ws⟩⟩⟩
  ·
    repeat' (first
      | (simp only [go_sem, Int.reduceAdd, Int.reduceEq, Int.reduceLE, Int.reduceLT, Int.reduceMul, Int.reduceNeg, Int.reducePow, Int.reduceSub, Int.reduceToNat, Nat.reduceAdd, Nat.reduceBEq, Nat.reduceEqDiff, Nat.reduceLT, Nat.reduceLeDiff, Nat.reduceMul, Nat.reducePow, Nat.reduceSub, reduceCtorEq, reduceIte, IntKind.bits.eq_def, ti, tin, u32s_nil])
      | (simp (disch := omega) only [w64, wu64, wu32, Nat.min_eq_left])
      | (refine l_unroll 1 _ rfl ?_)
      | (refine after_lit ti_ok ?_)
      | (refine drawAfter_lit ti_ok ?_)
      | (refine drawEnd_of (by kernel_rfl) ?_)
      | ((first | refine cond_cases (fun hc => ?_) (fun hc => ?_) | refine guard_split (fun hc => ?_) (fun hc => ?_) | refine drawGuard_split (fun hc => ?_) (fun hc => ?_)) <;> first | (exfalso; simp only [decide_eq_true_eq, decide_eq_false_iff_not, Bool.not_eq_true, Bool.not_eq_false, Bool.not_eq_true', Bool.not_eq_false'] at hc; omega) | (simp only [hc]; try simp only [decide_eq_true_eq, decide_eq_false_iff_not, Bool.not_eq_true, Bool.not_eq_false, Bool.not_eq_true', Bool.not_eq_false'] at hc))
      | (refine after_need (by omega) ?_)
      | (refine drawAfter_need (by omega) ?_))
    exact fin_same trivial rfl
  ·
    have hw : w < 4294967296 := hW w (by simp)
    have e := or_word (a := 0) (b := w) (by omega) hw
    rw [Nat.zero_mul, Nat.zero_add] at e
    have e : bOr .u64 0 (w : Int) = (w : Int) := e
    have ev : val [w] = w := by simp [val]
    rw [ev]
    repeat' (first
      | (simp only [go_sem, Int.reduceAdd, Int.reduceEq, Int.reduceLE, Int.reduceLT, Int.reduceMul, Int.reduceNeg, Int.reducePow, Int.reduceSub, Int.reduceToNat, Nat.reduceAdd, Nat.reduceBEq, Nat.reduceEqDiff, Nat.reduceLT, Nat.reduceLeDiff, Nat.reduceMul, Nat.reducePow, Nat.reduceSub, reduceCtorEq, reduceIte, IntKind.bits.eq_def, ti, tin, u32s, u32, e, Int.natCast_one, Int.cast_ofNat_Int])
      | (simp (disch := omega) only [w64, wu64, wu32, Nat.min_eq_left])
      | (refine l_unroll 2 _ rfl ?_)
      | (refine after_lit ti_ok ?_)
      | (refine drawAfter_lit ti_ok ?_)
      | (refine drawEnd_of (by kernel_rfl) ?_)
      | ((first | refine cond_cases (fun hc => ?_) (fun hc => ?_) | refine guard_split (fun hc => ?_) (fun hc => ?_) | refine drawGuard_split (fun hc => ?_) (fun hc => ?_)) <;> first | (exfalso; simp only [decide_eq_true_eq, decide_eq_false_iff_not, Bool.not_eq_true, Bool.not_eq_false, Bool.not_eq_true', Bool.not_eq_false'] at hc; omega) | (simp only [hc]; try simp only [decide_eq_true_eq, decide_eq_false_iff_not, Bool.not_eq_true, Bool.not_eq_false, Bool.not_eq_true', Bool.not_eq_false'] at hc))
      | (refine after_need (by omega) ?_)
      | (refine drawAfter_need (by omega) ?_))
    exact fin_same trivial rfl
  ·
    have hw : w < 4294967296 := hW w (by simp)
    have hv : v < 4294967296 := hW v (by simp)
    have e := or_word (a := 0) (b := v) (by omega) hv
    rw [Nat.zero_mul, Nat.zero_add] at e
    have e : bOr .u64 0 (v : Int) = (v : Int) := e
    have e2 := or_word (a := v) (b := w) hv hw
    have e3 : (v : Int) * 4294967296 = ((v * 4294967296 : Nat) : Int) := by omega
    have ev : val [w, v] = v * 4294967296 + w := by simp only [val]; omega
    rw [ev]
    repeat' (first
      | (simp only [go_sem, Int.reduceAdd, Int.reduceEq, Int.reduceLE, Int.reduceLT, Int.reduceMul, Int.reduceNeg, Int.reducePow, Int.reduceSub, Int.reduceToNat, Nat.reduceAdd, Nat.reduceBEq, Nat.reduceEqDiff, Nat.reduceLT, Nat.reduceLeDiff, Nat.reduceMul, Nat.reducePow, Nat.reduceSub, reduceCtorEq, reduceIte, IntKind.bits.eq_def, ti, tin, u32s, u32, e, e2, e3, Int.natCast_one, Int.cast_ofNat_Int])
      | (simp (disch := omega) only [w64, wu64, wu32, Nat.min_eq_left])
      | (refine l_unroll 3 _ rfl ?_)
      | (refine after_lit ti_ok ?_)
      | (refine drawAfter_lit ti_ok ?_)
      | (refine drawEnd_of (by kernel_rfl) ?_)
      | ((first | refine cond_cases (fun hc => ?_) (fun hc => ?_) | refine guard_split (fun hc => ?_) (fun hc => ?_) | refine drawGuard_split (fun hc => ?_) (fun hc => ?_)) <;> first | (exfalso; simp only [decide_eq_true_eq, decide_eq_false_iff_not, Bool.not_eq_true, Bool.not_eq_false, Bool.not_eq_true', Bool.not_eq_false'] at hc; omega) | (simp only [hc]; try simp only [decide_eq_true_eq, decide_eq_false_iff_not, Bool.not_eq_true, Bool.not_eq_false, Bool.not_eq_true', Bool.not_eq_false'] at hc))
      | (refine after_need (by omega) ?_)
      | (refine drawAfter_need (by omega) ?_))
    exact fin_same trivial rfl
  · simp at hl

theorem Int_ok (s : Bool) (ws : List Nat) (d : Int) (x : Dy) (h : Arg s ws d x) : CallOK Tryd.prog gl 46 [.agg [.v (.bool s), .sl 1 (u32s ws), .v (.int .i64 d)]] (.tup [.v (.int .i64 (x.toInt)), .v (.bool (x.fits))]) := by
  refine call_ok (C := ⟨Tryd.prog, gl, ti, 41, false⟩) ti_ok mixed 3000 Tryd.call46 Tryd.func46 rfl Tryd.ntmps46 (by simp) byClL byCl ?_
  rw [Tryd.results46]
  have pa := parts_ok s ws d x h
  have hl2 := h.mlen
  have hdn := dn_nn x
  have hdd : dn x = (x.d : Int) := rfl
  by_cases h0 : x.d = 0
  · have ed : dn x = 0 := by omega
    rw [ed] at pa
    by_cases h2 : (ms x).length ≤ 2
    · have ui := uint_ok (ms x) (ms_wd x) h2
      rw [ms_val] at ui
      have hu : x.n.natAbs < 18446744073709551616 := by
        have h1 := lt_words x.n.natAbs
        have h3 : 4294967296 ^ (words x.n.natAbs).length ≤ 4294967296 ^ 2 := Nat.pow_le_pow_right (by omega) h2
        omega
      have hlen : ((ms x).length : Int) ≤ 2 := by omega
      have hsg : sg x = decide (x.n < 0) := rfl
      by_cases hn : x.n < 0
      · rw [decide_eq_true hn] at hsg
        rw [hsg] at pa
        have e1 : IntKind.u64.wrap (0 - (x.n.natAbs : Int)) = 18446744073709551616 - (x.n.natAbs : Int) := by simp only [IntKind.wrap, IntKind.bits, IntKind.signed]; simp; omega
        by_cases hf : -9223372036854775808 ≤ x.n
        · have e2 : IntKind.i64.wrap (18446744073709551616 - (x.n.natAbs : Int)) = x.n := by simp only [IntKind.wrap, IntKind.bits, IntKind.signed]; simp; omega
          have ef : x.fits = true := by unfold Dy.fits; exact decide_eq_true ⟨h0, hf, by omega⟩
          rw [Dy.toInt, if_pos ef, ef]
          repeat' (first
            | (simp only [go_sem, Int.reduceAdd, Int.reduceEq, Int.reduceLE, Int.reduceLT, Int.reduceMul, Int.reduceNeg, Int.reducePow, Int.reduceSub, Int.reduceToNat, Nat.reduceAdd, Nat.reduceBEq, Nat.reduceEqDiff, Nat.reduceLT, Nat.reduceLeDiff, Nat.reduceMul, Nat.reducePow, Nat.reduceSub, reduceCtorEq, reduceIte, IntKind.bits.eq_def, ti, tin, u32s_length, e1, e2])
            | (simp (disch := omega) only [w64, wu64, wu32, Nat.min_eq_left])
            | (with_reducible refine callF_of (pa) ?_)
            | (with_reducible refine drawF_of (pa) ?_)
            | (with_reducible refine callF_of (ui) ?_)
            | (with_reducible refine drawF_of (ui) ?_)
            | (refine after_lit ti_ok ?_)
            | (refine drawAfter_lit ti_ok ?_)
            | (refine drawEnd_of (by kernel_rfl) ?_)
            | ((first | refine cond_cases (fun hc => ?_) (fun hc => ?_) | refine guard_split (fun hc => ?_) (fun hc => ?_) | refine drawGuard_split (fun hc => ?_) (fun hc => ?_)) <;> first | (exfalso; simp only [decide_eq_true_eq, decide_eq_false_iff_not, Bool.not_eq_true, Bool.not_eq_false, Bool.not_eq_true', Bool.not_eq_false'] at hc; omega) | (simp only [hc]; try simp only [decide_eq_true_eq, decide_eq_false_iff_not, Bool.not_eq_true, Bool.not_eq_false, Bool.not_eq_true', Bool.not_eq_false'] at hc))
            | (refine after_need (by omega) ?_)
            | (refine drawAfter_need (by omega) ?_))
          exact fin_same trivial rfl
        · have ef : x.fits = false := by unfold Dy.fits; exact decide_eq_false (by omega)
          rw [Dy.toInt, if_neg (by rw [ef]; simp), ef]
          repeat' (first
            | (simp only [go_sem, Int.reduceAdd, Int.reduceEq, Int.reduceLE, Int.reduceLT, Int.reduceMul, Int.reduceNeg, Int.reducePow, Int.reduceSub, Int.reduceToNat, Nat.reduceAdd, Nat.reduceBEq, Nat.reduceEqDiff, Nat.reduceLT, Nat.reduceLeDiff, Nat.reduceMul, Nat.reducePow, Nat.reduceSub, reduceCtorEq, reduceIte, IntKind.bits.eq_def, ti, tin, u32s_length, e1])
            | (simp (disch := omega) only [w64, wu64, wu32, Nat.min_eq_left])
            | (with_reducible refine callF_of (pa) ?_)
            | (with_reducible refine drawF_of (pa) ?_)
            | (with_reducible refine callF_of (ui) ?_)
            | (with_reducible refine drawF_of (ui) ?_)
            | (refine after_lit ti_ok ?_)
            | (refine drawAfter_lit ti_ok ?_)
            | (refine drawEnd_of (by kernel_rfl) ?_)
            | ((first | refine cond_cases (fun hc => ?_) (fun hc => ?_) | refine guard_split (fun hc => ?_) (fun hc => ?_) | refine drawGuard_split (fun hc => ?_) (fun hc => ?_)) <;> first | (exfalso; simp only [decide_eq_true_eq, decide_eq_false_iff_not, Bool.not_eq_true, Bool.not_eq_false, Bool.not_eq_true', Bool.not_eq_false'] at hc; omega) | (simp only [hc]; try simp only [decide_eq_true_eq, decide_eq_false_iff_not, Bool.not_eq_true, Bool.not_eq_false, Bool.not_eq_true', Bool.not_eq_false'] at hc))
            | (refine after_need (by omega) ?_)
            | (refine drawAfter_need (by omega) ?_))
          all_goals exact fin_same trivial rfl
      · rw [decide_eq_false hn] at hsg
        rw [hsg] at pa
        have en : (x.n.natAbs : Int) = x.n := by omega
        rw [en] at ui
        by_cases hf : x.n ≤ 9223372036854775807
        · have e2 : IntKind.i64.wrap x.n = x.n := w64 (by omega)
          have ef : x.fits = true := by unfold Dy.fits; exact decide_eq_true ⟨h0, by omega, hf⟩
          rw [Dy.toInt, if_pos ef, ef]
          repeat' (first
            | (simp only [go_sem, Int.reduceAdd, Int.reduceEq, Int.reduceLE, Int.reduceLT, Int.reduceMul, Int.reduceNeg, Int.reducePow, Int.reduceSub, Int.reduceToNat, Nat.reduceAdd, Nat.reduceBEq, Nat.reduceEqDiff, Nat.reduceLT, Nat.reduceLeDiff, Nat.reduceMul, Nat.reducePow, Nat.reduceSub, reduceCtorEq, reduceIte, IntKind.bits.eq_def, ti, tin, u32s_length, e2])
            | (simp (disch := omega) only [w64, wu64, wu32, Nat.min_eq_left])
            | (with_reducible refine callF_of (pa) ?_)
            | (with_reducible refine drawF_of (pa) ?_)
            | (with_reducible refine callF_of (ui) ?_)
            | (with_reducible refine drawF_of (ui) ?_)
            | (refine after_lit ti_ok ?_)
            | (refine drawAfter_lit ti_ok ?_)
            | (refine drawEnd_of (by kernel_rfl) ?_)
            | ((first | refine cond_cases (fun hc => ?_) (fun hc => ?_) | refine guard_split (fun hc => ?_) (fun hc => ?_) | refine drawGuard_split (fun hc => ?_) (fun hc => ?_)) <;> first | (exfalso; simp only [decide_eq_true_eq, decide_eq_false_iff_not, Bool.not_eq_true, Bool.not_eq_false, Bool.not_eq_true', Bool.not_eq_false'] at hc; omega) | (simp only [hc]; try simp only [decide_eq_true_eq, decide_eq_false_iff_not, Bool.not_eq_true, Bool.not_eq_false, Bool.not_eq_true', Bool.not_eq_false'] at hc))
            | (refine after_need (by omega) ?_)
            | (refine drawAfter_need (by omega) ?_))
          exact fin_same trivial rfl
        · have ef : x.fits = false := by unfold Dy.fits; exact decide_eq_false (by omega)
          rw [Dy.toInt, if_neg (by rw [ef]; simp), ef]
          repeat' (first
            | (simp only [go_sem, Int.reduceAdd, Int.reduceEq, Int.reduceLE, Int.reduceLT, Int.reduceMul, Int.reduceNeg, Int.reducePow, Int.reduceSub, Int.reduceToNat, Nat.reduceAdd, Nat.reduceBEq, Nat.reduceEqDiff, Nat.reduceLT, Nat.reduceLeDiff, Nat.reduceMul, Nat.reducePow, Nat.reduceSub, reduceCtorEq, reduceIte, IntKind.bits.eq_def, ti, tin, u32s_length])
            | (simp (disch := omega) only [w64, wu64, wu32, Nat.min_eq_left])
            | (with_reducible refine callF_of (pa) ?_)
            | (with_reducible refine drawF_of (pa) ?_)
            | (with_reducible refine callF_of (ui) ?_)
            | (with_reducible refine drawF_of (ui) ?_)
            | (refine after_lit ti_ok ?_)
            | (refine drawAfter_lit ti_ok ?_)
            | (refine drawEnd_of (by kernel_rfl) ?_)
            | ((first | refine cond_cases (fun hc => ?_) (fun hc => ?_) | refine guard_split (fun hc => ?_) (fun hc => ?_) | refine drawGuard_split (fun hc => ?_) (fun hc => ?_)) <;> first | (exfalso; simp only [decide_eq_true_eq, decide_eq_false_iff_not, Bool.not_eq_true, Bool.not_eq_false, Bool.not_eq_true', Bool.not_eq_false'] at hc; omega) | (simp only [hc]; try simp only [decide_eq_true_eq, decide_eq_false_iff_not, Bool.not_eq_true, Bool.not_eq_false, Bool.not_eq_true', Bool.not_eq_false'] at hc))
            | (refine after_need (by omega) ?_)
            | (refine drawAfter_need (by omega) ?_))
          all_goals exact fin_same trivial rfl
    · have ef : x.fits = false := by
        unfold Dy.fits
        refine decide_eq_false fun ⟨_, h3, h4⟩ => ?_
        exact h2 (words_length_le (by omega))
      rw [Dy.toInt, if_neg (by rw [ef]; simp), ef]
      repeat' (first
        | (simp only [go_sem, Int.reduceAdd, Int.reduceEq, Int.reduceLE, Int.reduceLT, Int.reduceMul, Int.reduceNeg, Int.reducePow, Int.reduceSub, Int.reduceToNat, Nat.reduceAdd, Nat.reduceBEq, Nat.reduceEqDiff, Nat.reduceLT, Nat.reduceLeDiff, Nat.reduceMul, Nat.reducePow, Nat.reduceSub, reduceCtorEq, reduceIte, IntKind.bits.eq_def, ti, tin, u32s_length])
        | (simp (disch := omega) only [w64, wu64, wu32, Nat.min_eq_left])
        | (with_reducible refine callF_of (pa) ?_)
        | (with_reducible refine drawF_of (pa) ?_)
        | (refine after_lit ti_ok ?_)
        | (refine drawAfter_lit ti_ok ?_)
        | (refine drawEnd_of (by kernel_rfl) ?_)
        | ((first | refine cond_cases (fun hc => ?_) (fun hc => ?_) | refine guard_split (fun hc => ?_) (fun hc => ?_) | refine drawGuard_split (fun hc => ?_) (fun hc => ?_)) <;> first | (exfalso; simp only [decide_eq_true_eq, decide_eq_false_iff_not, Bool.not_eq_true, Bool.not_eq_false, Bool.not_eq_true', Bool.not_eq_false'] at hc; omega) | (simp only [hc]; try simp only [decide_eq_true_eq, decide_eq_false_iff_not, Bool.not_eq_true, Bool.not_eq_false, Bool.not_eq_true', Bool.not_eq_false'] at hc))
        | (refine after_need (by omega) ?_)
        | (refine drawAfter_need (by omega) ?_))
      all_goals exact fin_same trivial rfl
  · have ef : x.fits = false := by unfold Dy.fits; exact decide_eq_false (by omega)
    rw [Dy.toInt, if_neg (by rw [ef]; simp), ef]
    repeat' (first
      | (simp only [go_sem, Int.reduceAdd, Int.reduceEq, Int.reduceLE, Int.reduceLT, Int.reduceMul, Int.reduceNeg, Int.reducePow, Int.reduceSub, Int.reduceToNat, Nat.reduceAdd, Nat.reduceBEq, Nat.reduceEqDiff, Nat.reduceLT, Nat.reduceLeDiff, Nat.reduceMul, Nat.reducePow, Nat.reduceSub, reduceCtorEq, reduceIte, IntKind.bits.eq_def, ti, tin, u32s_length])
      | (simp (disch := omega) only [w64, wu64, wu32, Nat.min_eq_left])
      | (with_reducible refine callF_of (pa) ?_)
      | (with_reducible refine drawF_of (pa) ?_)
      | (refine after_lit ti_ok ?_)
      | (refine drawAfter_lit ti_ok ?_)
      | (refine drawEnd_of (by kernel_rfl) ?_)
      | ((first | refine cond_cases (fun hc => ?_) (fun hc => ?_) | refine guard_split (fun hc => ?_) (fun hc => ?_) | refine drawGuard_split (fun hc => ?_) (fun hc => ?_)) <;> first | (exfalso; simp only [decide_eq_true_eq, decide_eq_false_iff_not, Bool.not_eq_true, Bool.not_eq_false, Bool.not_eq_true', Bool.not_eq_false'] at hc; omega) | (simp only [hc]; try simp only [decide_eq_true_eq, decide_eq_false_iff_not, Bool.not_eq_true, Bool.not_eq_false, Bool.not_eq_true', Bool.not_eq_false'] at hc))
      | (refine after_need (by omega) ?_)
      | (refine drawAfter_need (by omega) ?_))
    all_goals exact fin_same trivial rfl
end Go.Proofs.YtppdgooakleakaaDoor
