/- The statement DyadicValid: its code returns true. -/
import Derived.Test.YtppdgooakleakaaDoorL02b
import Derived.Test.YtppdgooakleakaaDoorU3
set_option linter.unusedSimpArgs false
set_option linter.unusedVariables false
set_option linter.deprecated false
namespace Go.Proofs.YtppdgooakleakaaDoor
open Go Go.Ax
set_option maxRecDepth 100000
set_option maxHeartbeats 4000000

theorem quo_mg {x y : Dy} (gx : Mg 512 x) (gy : Mg 512 y) (h0 : y.n ≠ 0) (dx : x.d ≤ 300) (dy : y.d ≤ 300) {den : Nat} : Mg 813 (x.quo y den) := (gx.quo h0).mono (by omega)

theorem valid_out (s : Bool) (ws : List Nat) (d : Int) (s' : Bool) (ws' : List Nat) (d' : Int) (hl : ws.length ≤ 9223372036854775807) (hl' : ws'.length ≤ 9223372036854775807) (hf : ¬ (fewR ⟨s, ws, d⟩ ∧ fewR ⟨s', ws', d'⟩)) : CallOK Tryd.prog gl 11 [.agg [.v (.bool s), .sl 1 (u32s ws), .v (.int .i64 d)], .agg [.v (.bool s'), .sl 1 (u32s ws'), .v (.int .i64 d')]] (.v (.bool (true))) := by
  refine call_ok (C := ⟨Tryd.prog, gl, ti, 200, false⟩) ti_ok mixed 3000 Tryd.call11 Tryd.func11 rfl Tryd.ntmps11 (by simp) byClL byCl ?_
  rw [Tryd.results11]
  have fw := few02_2 s ws d s' ws' d' hl hl'
  rw [decide_eq_false hf] at fw
  clear hf
  repeat' (first
    | (simp only [go_sem, Int.reduceAdd, Int.reduceEq, Int.reduceLE, Int.reduceLT, Int.reduceMul, Int.reduceNeg, Int.reducePow, Int.reduceSub, Int.reduceToNat, Nat.reduceAdd, Nat.reduceBEq, Nat.reduceEqDiff, Nat.reduceLT, Nat.reduceLeDiff, Nat.reduceMul, Nat.reducePow, Nat.reduceSub, reduceCtorEq, reduceIte, IntKind.bits.eq_def, ti, tin])
    | (simp (disch := omega) only [w64, wu64, wu32, Nat.min_eq_left])
    | (with_reducible refine callF_of (fw) ?_)
    | (with_reducible refine drawF_of (fw) ?_)
    | (with_reducible refine callF_of (awake02) ?_)
    | (with_reducible refine drawF_of (awake02) ?_)
    | (refine after_lit ti_ok ?_)
    | (refine drawAfter_lit ti_ok ?_)
    | (refine drawEnd_of (by kernel_rfl) ?_)
    | ((first | refine cond_cases (fun hc => ?_) (fun hc => ?_) | refine guard_split (fun hc => ?_) (fun hc => ?_) | refine drawGuard_split (fun hc => ?_) (fun hc => ?_)) <;> first | (exfalso; simp only [decide_eq_true_eq, decide_eq_false_iff_not, Bool.not_eq_true, Bool.not_eq_false, Bool.not_eq_true', Bool.not_eq_false'] at hc; omega) | (simp only [hc]; try simp only [decide_eq_true_eq, decide_eq_false_iff_not, Bool.not_eq_true, Bool.not_eq_false, Bool.not_eq_true', Bool.not_eq_false'] at hc))
    | (refine after_need (by omega) ?_)
    | (refine drawAfter_need (by omega) ?_))
  all_goals exact fin_same trivial rfl

theorem valid_zero (s : Bool) (ws : List Nat) (d : Int) (s' : Bool) (ws' : List Nat) (d' : Int) (x : Dy) (y : Dy) (h : Arg s ws d x) (h' : Arg s' ws' d' y) (gx : Mg 512 x) (gy : Mg 512 y) (dx : x.d ≤ 300) (dy : y.d ≤ 300) (hf : fewR ⟨s, ws, d⟩ ∧ fewR ⟨s', ws', d'⟩) (h0 : y.n = 0) : CallOK Tryd.prog gl 11 [.agg [.v (.bool s), .sl 1 (u32s ws), .v (.int .i64 d)], .agg [.v (.bool s'), .sl 1 (u32s ws'), .v (.int .i64 d')]] (.v (.bool (true))) := by
  refine call_ok (C := ⟨Tryd.prog, gl, ti, 200, false⟩) ti_ok mixed 3000 Tryd.call11 Tryd.func11 rfl Tryd.ntmps11 (by simp) byClL byCl ?_
  rw [Tryd.results11]
  have fw := few02_2 s ws d s' ws' d' (by have := h.len; omega) (by have := h'.len; omega)
  rw [decide_eq_true hf] at fw
  clear hf
  have cx : Arg _ _ _ x := gx.arg
  have cy : Arg _ _ _ y := gy.arg
  have va := Valid_ok s ws d (by have := h.len; omega)
  have va' := Valid_ok s' ws' d' (by have := h'.len; omega)
  have vr := ref_Valid s ws d (by have := h.len; omega)
  have vr' := ref_Valid s' ws' d' (by have := h'.len; omega)
  have na := ref_Norm _ _ _ _ h
  have nb := ref_Norm _ _ _ _ h'
  have neg1 := Neg_ok _ _ _ _ h
  have neg2 := Neg_ok _ _ _ _ cx
  have abs1 := Abs_ok _ _ _ _ h
  have abs2 := Abs_ok _ _ _ _ cx
  have sign1 := Sign_ok _ _ _ _ h
  have sign2 := Sign_ok _ _ _ _ cx
  have int1 := Int_ok _ _ _ _ h
  have int2 := Int_ok _ _ _ _ cx
  have text1 := Text_ok _ _ _ _ h
  have text2 := Text_ok _ _ _ _ cx
  have cmp1 := Cmp_ok _ _ _ _ _ _ _ _ h h'
  have cmp2 := Cmp_ok _ _ _ _ _ _ _ _ cx cy
  have min1 := Min_ok _ _ _ _ _ _ _ _ h h'
  have min2 := Min_ok _ _ _ _ _ _ _ _ cx cy
  have max1 := Max_ok _ _ _ _ _ _ _ _ h h'
  have max2 := Max_ok _ _ _ _ _ _ _ _ cx cy
  have add1 := Add_ok _ _ _ _ _ _ _ _ h h'
  have add2 := Add_ok _ _ _ _ _ _ _ _ cx cy
  have sub1 := Sub_ok _ _ _ _ _ _ _ _ h h'
  have sub2 := Sub_ok _ _ _ _ _ _ _ _ cx cy
  have mul1 := Mul_ok _ _ _ _ _ _ _ _ h h'
  have mul2 := Mul_ok _ _ _ _ _ _ _ _ cx cy
  have sh1 := Shift_ok _ _ _ 5 _ h
  have sh2 := Shift_ok _ _ _ 5 _ cx
  have fl1 := Floor_ok _ _ _ 3 _ h (by omega)
  have fl2 := Floor_ok _ _ _ 3 _ cx (by omega)
  rw [c3] at fl1 fl2
  have qu1 := Quo_zero _ _ _ _ _ _ 3 (by omega) _ _ h h' h0
  have qu2 := Quo_zero _ _ _ _ _ _ 3 (by omega) _ _ cx cy h0
  rw [c3] at qu1 qu2
  have s1 := same_ok (gx.neg)
  have s2 := same_ok (gx.abs)
  have s3 := same_ok (gx.min gy)
  have s4 := same_ok (gx.max gy)
  have s5 := same_ok (gx.add gy)
  have s6 := same_ok (gx.sub gy)
  have s7 := same_ok (gx.mul gy)
  have s8 := same_ok (gx.shift 5) (by decide)
  have s9 := same_ok (gx.floor (den := 3))
  have s10 := same_ok (Mg.zero 0)
  have hT : decide ((⟨(dyText x).toArray⟩ : ByteArray) = ⟨(dyText x).toArray⟩) = true := decide_eq_true rfl
  clear gx gy cx cy
  generalize x.neg = z0 at *
  generalize x.abs = z1 at *
  generalize x.min y = z2 at *
  generalize x.max y = z3 at *
  generalize x.add y = z4 at *
  generalize x.sub y = z5 at *
  generalize x.mul y = z6 at *
  generalize x.shift 5 = z7 at *
  generalize x.floor 3 = z8 at *
  generalize x.sign = n0 at *
  generalize x.cmp y = n1 at *
  generalize x.toInt = n2 at *
  generalize x.fits = b1 at *
  generalize validR s ws d = b2 at *
  generalize validR s' ws' d' = b3 at *
  generalize dyText x = T1 at *
  repeat' (first
    | (simp only [go_sem, Int.reduceAdd, Int.reduceEq, Int.reduceLE, Int.reduceLT, Int.reduceMul, Int.reduceNeg, Int.reducePow, Int.reduceSub, Int.reduceToNat, Nat.reduceAdd, Nat.reduceBEq, Nat.reduceEqDiff, Nat.reduceLT, Nat.reduceLeDiff, Nat.reduceMul, Nat.reducePow, Nat.reduceSub, reduceCtorEq, reduceIte, IntKind.bits.eq_def, ti, tin, hT])
    | (simp (disch := omega) only [w64, wu64, wu32, Nat.min_eq_left])
    | (with_reducible refine callF_of (fw) ?_)
    | (with_reducible refine drawF_of (fw) ?_)
    | (with_reducible refine callF_of (awake02) ?_)
    | (with_reducible refine drawF_of (awake02) ?_)
    | (with_reducible refine callF_of (va) ?_)
    | (with_reducible refine drawF_of (va) ?_)
    | (with_reducible refine callF_of (va') ?_)
    | (with_reducible refine drawF_of (va') ?_)
    | (with_reducible refine callF_of (vr) ?_)
    | (with_reducible refine drawF_of (vr) ?_)
    | (with_reducible refine callF_of (vr') ?_)
    | (with_reducible refine drawF_of (vr') ?_)
    | (with_reducible refine callF_of (na) ?_)
    | (with_reducible refine drawF_of (na) ?_)
    | (with_reducible refine callF_of (nb) ?_)
    | (with_reducible refine drawF_of (nb) ?_)
    | (with_reducible refine callF_of (neg1) ?_)
    | (with_reducible refine drawF_of (neg1) ?_)
    | (with_reducible refine callF_of (neg2) ?_)
    | (with_reducible refine drawF_of (neg2) ?_)
    | (with_reducible refine callF_of (abs1) ?_)
    | (with_reducible refine drawF_of (abs1) ?_)
    | (with_reducible refine callF_of (abs2) ?_)
    | (with_reducible refine drawF_of (abs2) ?_)
    | (with_reducible refine callF_of (sign1) ?_)
    | (with_reducible refine drawF_of (sign1) ?_)
    | (with_reducible refine callF_of (sign2) ?_)
    | (with_reducible refine drawF_of (sign2) ?_)
    | (with_reducible refine callF_of (int1) ?_)
    | (with_reducible refine drawF_of (int1) ?_)
    | (with_reducible refine callF_of (int2) ?_)
    | (with_reducible refine drawF_of (int2) ?_)
    | (with_reducible refine callF_of (text1) ?_)
    | (with_reducible refine drawF_of (text1) ?_)
    | (with_reducible refine callF_of (text2) ?_)
    | (with_reducible refine drawF_of (text2) ?_)
    | (with_reducible refine callF_of (cmp1) ?_)
    | (with_reducible refine drawF_of (cmp1) ?_)
    | (with_reducible refine callF_of (cmp2) ?_)
    | (with_reducible refine drawF_of (cmp2) ?_)
    | (with_reducible refine callF_of (min1) ?_)
    | (with_reducible refine drawF_of (min1) ?_)
    | (with_reducible refine callF_of (min2) ?_)
    | (with_reducible refine drawF_of (min2) ?_)
    | (with_reducible refine callF_of (max1) ?_)
    | (with_reducible refine drawF_of (max1) ?_)
    | (with_reducible refine callF_of (max2) ?_)
    | (with_reducible refine drawF_of (max2) ?_)
    | (with_reducible refine callF_of (add1) ?_)
    | (with_reducible refine drawF_of (add1) ?_)
    | (with_reducible refine callF_of (add2) ?_)
    | (with_reducible refine drawF_of (add2) ?_)
    | (with_reducible refine callF_of (sub1) ?_)
    | (with_reducible refine drawF_of (sub1) ?_)
    | (with_reducible refine callF_of (sub2) ?_)
    | (with_reducible refine drawF_of (sub2) ?_)
    | (with_reducible refine callF_of (mul1) ?_)
    | (with_reducible refine drawF_of (mul1) ?_)
    | (with_reducible refine callF_of (mul2) ?_)
    | (with_reducible refine drawF_of (mul2) ?_)
    | (with_reducible refine callF_of (sh1) ?_)
    | (with_reducible refine drawF_of (sh1) ?_)
    | (with_reducible refine callF_of (sh2) ?_)
    | (with_reducible refine drawF_of (sh2) ?_)
    | (with_reducible refine callF_of (fl1) ?_)
    | (with_reducible refine drawF_of (fl1) ?_)
    | (with_reducible refine callF_of (fl2) ?_)
    | (with_reducible refine drawF_of (fl2) ?_)
    | (with_reducible refine callF_of (qu1) ?_)
    | (with_reducible refine drawF_of (qu1) ?_)
    | (with_reducible refine callF_of (qu2) ?_)
    | (with_reducible refine drawF_of (qu2) ?_)
    | (with_reducible refine callF_of (s1) ?_)
    | (with_reducible refine drawF_of (s1) ?_)
    | (with_reducible refine callF_of (s2) ?_)
    | (with_reducible refine drawF_of (s2) ?_)
    | (with_reducible refine callF_of (s3) ?_)
    | (with_reducible refine drawF_of (s3) ?_)
    | (with_reducible refine callF_of (s4) ?_)
    | (with_reducible refine drawF_of (s4) ?_)
    | (with_reducible refine callF_of (s5) ?_)
    | (with_reducible refine drawF_of (s5) ?_)
    | (with_reducible refine callF_of (s6) ?_)
    | (with_reducible refine drawF_of (s6) ?_)
    | (with_reducible refine callF_of (s7) ?_)
    | (with_reducible refine drawF_of (s7) ?_)
    | (with_reducible refine callF_of (s8) ?_)
    | (with_reducible refine drawF_of (s8) ?_)
    | (with_reducible refine callF_of (s9) ?_)
    | (with_reducible refine drawF_of (s9) ?_)
    | (with_reducible refine callF_of (s10) ?_)
    | (with_reducible refine drawF_of (s10) ?_)
    | (with_reducible refine callF_of (base_Num_nil) ?_)
    | (with_reducible refine drawF_of (base_Num_nil) ?_)
    | (with_reducible refine callF_of (base_Num 8) ?_)
    | (with_reducible refine drawF_of (base_Num 8) ?_)
    | (refine after_lit ti_ok ?_)
    | (refine drawAfter_lit ti_ok ?_)
    | (refine drawEnd_of (by kernel_rfl) ?_)
    | ((first | refine cond_cases (fun hc => ?_) (fun hc => ?_) | refine guard_split (fun hc => ?_) (fun hc => ?_) | refine drawGuard_split (fun hc => ?_) (fun hc => ?_)) <;> first | (exfalso; simp only [decide_eq_true_eq, decide_eq_false_iff_not, Bool.not_eq_true, Bool.not_eq_false, Bool.not_eq_true', Bool.not_eq_false'] at hc; omega) | (simp only [hc]; try simp only [decide_eq_true_eq, decide_eq_false_iff_not, Bool.not_eq_true, Bool.not_eq_false, Bool.not_eq_true', Bool.not_eq_false'] at hc))
    | (refine after_need (by omega) ?_)
    | (refine drawAfter_need (by omega) ?_))
  all_goals exact fin_same trivial rfl

theorem valid_nz (s : Bool) (ws : List Nat) (d : Int) (s' : Bool) (ws' : List Nat) (d' : Int) (x : Dy) (y : Dy) (h : Arg s ws d x) (h' : Arg s' ws' d' y) (gx : Mg 512 x) (gy : Mg 512 y) (dx : x.d ≤ 300) (dy : y.d ≤ 300) (hf : fewR ⟨s, ws, d⟩ ∧ fewR ⟨s', ws', d'⟩) (h0 : y.n ≠ 0) : CallOK Tryd.prog gl 11 [.agg [.v (.bool s), .sl 1 (u32s ws), .v (.int .i64 d)], .agg [.v (.bool s'), .sl 1 (u32s ws'), .v (.int .i64 d')]] (.v (.bool (true))) := by
  refine call_ok (C := ⟨Tryd.prog, gl, ti, 200, false⟩) ti_ok mixed 3000 Tryd.call11 Tryd.func11 rfl Tryd.ntmps11 (by simp) byClL byCl ?_
  rw [Tryd.results11]
  have fw := few02_2 s ws d s' ws' d' (by have := h.len; omega) (by have := h'.len; omega)
  rw [decide_eq_true hf] at fw
  clear hf
  have cx : Arg _ _ _ x := gx.arg
  have cy : Arg _ _ _ y := gy.arg
  have va := Valid_ok s ws d (by have := h.len; omega)
  have va' := Valid_ok s' ws' d' (by have := h'.len; omega)
  have vr := ref_Valid s ws d (by have := h.len; omega)
  have vr' := ref_Valid s' ws' d' (by have := h'.len; omega)
  have na := ref_Norm _ _ _ _ h
  have nb := ref_Norm _ _ _ _ h'
  have neg1 := Neg_ok _ _ _ _ h
  have neg2 := Neg_ok _ _ _ _ cx
  have abs1 := Abs_ok _ _ _ _ h
  have abs2 := Abs_ok _ _ _ _ cx
  have sign1 := Sign_ok _ _ _ _ h
  have sign2 := Sign_ok _ _ _ _ cx
  have int1 := Int_ok _ _ _ _ h
  have int2 := Int_ok _ _ _ _ cx
  have text1 := Text_ok _ _ _ _ h
  have text2 := Text_ok _ _ _ _ cx
  have cmp1 := Cmp_ok _ _ _ _ _ _ _ _ h h'
  have cmp2 := Cmp_ok _ _ _ _ _ _ _ _ cx cy
  have min1 := Min_ok _ _ _ _ _ _ _ _ h h'
  have min2 := Min_ok _ _ _ _ _ _ _ _ cx cy
  have max1 := Max_ok _ _ _ _ _ _ _ _ h h'
  have max2 := Max_ok _ _ _ _ _ _ _ _ cx cy
  have add1 := Add_ok _ _ _ _ _ _ _ _ h h'
  have add2 := Add_ok _ _ _ _ _ _ _ _ cx cy
  have sub1 := Sub_ok _ _ _ _ _ _ _ _ h h'
  have sub2 := Sub_ok _ _ _ _ _ _ _ _ cx cy
  have mul1 := Mul_ok _ _ _ _ _ _ _ _ h h'
  have mul2 := Mul_ok _ _ _ _ _ _ _ _ cx cy
  have sh1 := Shift_ok _ _ _ 5 _ h
  have sh2 := Shift_ok _ _ _ 5 _ cx
  have fl1 := Floor_ok _ _ _ 3 _ h (by omega)
  have fl2 := Floor_ok _ _ _ 3 _ cx (by omega)
  rw [c3] at fl1 fl2
  have qu1 := Quo_ok _ _ _ _ _ _ 3 (by omega) _ _ h h' h0
  have qu2 := Quo_ok _ _ _ _ _ _ 3 (by omega) _ _ cx cy h0
  rw [c3] at qu1 qu2
  have s1 := same_ok (gx.neg)
  have s2 := same_ok (gx.abs)
  have s3 := same_ok (gx.min gy)
  have s4 := same_ok (gx.max gy)
  have s5 := same_ok (gx.add gy)
  have s6 := same_ok (gx.sub gy)
  have s7 := same_ok (gx.mul gy)
  have s8 := same_ok (gx.shift 5) (by decide)
  have s9 := same_ok (gx.floor (den := 3))
  have s10 := same_ok (quo_mg gx gy h0 dx dy (den := 3))
  have hT : decide ((⟨(dyText x).toArray⟩ : ByteArray) = ⟨(dyText x).toArray⟩) = true := decide_eq_true rfl
  clear gx gy cx cy
  generalize x.neg = z0 at *
  generalize x.abs = z1 at *
  generalize x.min y = z2 at *
  generalize x.max y = z3 at *
  generalize x.add y = z4 at *
  generalize x.sub y = z5 at *
  generalize x.mul y = z6 at *
  generalize x.shift 5 = z7 at *
  generalize x.floor 3 = z8 at *
  generalize x.quo y 3 = z9 at *
  generalize x.sign = n0 at *
  generalize x.cmp y = n1 at *
  generalize x.toInt = n2 at *
  generalize x.fits = b1 at *
  generalize validR s ws d = b2 at *
  generalize validR s' ws' d' = b3 at *
  generalize dyText x = T1 at *
  repeat' (first
    | (simp only [go_sem, Int.reduceAdd, Int.reduceEq, Int.reduceLE, Int.reduceLT, Int.reduceMul, Int.reduceNeg, Int.reducePow, Int.reduceSub, Int.reduceToNat, Nat.reduceAdd, Nat.reduceBEq, Nat.reduceEqDiff, Nat.reduceLT, Nat.reduceLeDiff, Nat.reduceMul, Nat.reducePow, Nat.reduceSub, reduceCtorEq, reduceIte, IntKind.bits.eq_def, ti, tin, hT])
    | (simp (disch := omega) only [w64, wu64, wu32, Nat.min_eq_left])
    | (with_reducible refine callF_of (fw) ?_)
    | (with_reducible refine drawF_of (fw) ?_)
    | (with_reducible refine callF_of (awake02) ?_)
    | (with_reducible refine drawF_of (awake02) ?_)
    | (with_reducible refine callF_of (va) ?_)
    | (with_reducible refine drawF_of (va) ?_)
    | (with_reducible refine callF_of (va') ?_)
    | (with_reducible refine drawF_of (va') ?_)
    | (with_reducible refine callF_of (vr) ?_)
    | (with_reducible refine drawF_of (vr) ?_)
    | (with_reducible refine callF_of (vr') ?_)
    | (with_reducible refine drawF_of (vr') ?_)
    | (with_reducible refine callF_of (na) ?_)
    | (with_reducible refine drawF_of (na) ?_)
    | (with_reducible refine callF_of (nb) ?_)
    | (with_reducible refine drawF_of (nb) ?_)
    | (with_reducible refine callF_of (neg1) ?_)
    | (with_reducible refine drawF_of (neg1) ?_)
    | (with_reducible refine callF_of (neg2) ?_)
    | (with_reducible refine drawF_of (neg2) ?_)
    | (with_reducible refine callF_of (abs1) ?_)
    | (with_reducible refine drawF_of (abs1) ?_)
    | (with_reducible refine callF_of (abs2) ?_)
    | (with_reducible refine drawF_of (abs2) ?_)
    | (with_reducible refine callF_of (sign1) ?_)
    | (with_reducible refine drawF_of (sign1) ?_)
    | (with_reducible refine callF_of (sign2) ?_)
    | (with_reducible refine drawF_of (sign2) ?_)
    | (with_reducible refine callF_of (int1) ?_)
    | (with_reducible refine drawF_of (int1) ?_)
    | (with_reducible refine callF_of (int2) ?_)
    | (with_reducible refine drawF_of (int2) ?_)
    | (with_reducible refine callF_of (text1) ?_)
    | (with_reducible refine drawF_of (text1) ?_)
    | (with_reducible refine callF_of (text2) ?_)
    | (with_reducible refine drawF_of (text2) ?_)
    | (with_reducible refine callF_of (cmp1) ?_)
    | (with_reducible refine drawF_of (cmp1) ?_)
    | (with_reducible refine callF_of (cmp2) ?_)
    | (with_reducible refine drawF_of (cmp2) ?_)
    | (with_reducible refine callF_of (min1) ?_)
    | (with_reducible refine drawF_of (min1) ?_)
    | (with_reducible refine callF_of (min2) ?_)
    | (with_reducible refine drawF_of (min2) ?_)
    | (with_reducible refine callF_of (max1) ?_)
    | (with_reducible refine drawF_of (max1) ?_)
    | (with_reducible refine callF_of (max2) ?_)
    | (with_reducible refine drawF_of (max2) ?_)
    | (with_reducible refine callF_of (add1) ?_)
    | (with_reducible refine drawF_of (add1) ?_)
    | (with_reducible refine callF_of (add2) ?_)
    | (with_reducible refine drawF_of (add2) ?_)
    | (with_reducible refine callF_of (sub1) ?_)
    | (with_reducible refine drawF_of (sub1) ?_)
    | (with_reducible refine callF_of (sub2) ?_)
    | (with_reducible refine drawF_of (sub2) ?_)
    | (with_reducible refine callF_of (mul1) ?_)
    | (with_reducible refine drawF_of (mul1) ?_)
    | (with_reducible refine callF_of (mul2) ?_)
    | (with_reducible refine drawF_of (mul2) ?_)
    | (with_reducible refine callF_of (sh1) ?_)
    | (with_reducible refine drawF_of (sh1) ?_)
    | (with_reducible refine callF_of (sh2) ?_)
    | (with_reducible refine drawF_of (sh2) ?_)
    | (with_reducible refine callF_of (fl1) ?_)
    | (with_reducible refine drawF_of (fl1) ?_)
    | (with_reducible refine callF_of (fl2) ?_)
    | (with_reducible refine drawF_of (fl2) ?_)
    | (with_reducible refine callF_of (qu1) ?_)
    | (with_reducible refine drawF_of (qu1) ?_)
    | (with_reducible refine callF_of (qu2) ?_)
    | (with_reducible refine drawF_of (qu2) ?_)
    | (with_reducible refine callF_of (s1) ?_)
    | (with_reducible refine drawF_of (s1) ?_)
    | (with_reducible refine callF_of (s2) ?_)
    | (with_reducible refine drawF_of (s2) ?_)
    | (with_reducible refine callF_of (s3) ?_)
    | (with_reducible refine drawF_of (s3) ?_)
    | (with_reducible refine callF_of (s4) ?_)
    | (with_reducible refine drawF_of (s4) ?_)
    | (with_reducible refine callF_of (s5) ?_)
    | (with_reducible refine drawF_of (s5) ?_)
    | (with_reducible refine callF_of (s6) ?_)
    | (with_reducible refine drawF_of (s6) ?_)
    | (with_reducible refine callF_of (s7) ?_)
    | (with_reducible refine drawF_of (s7) ?_)
    | (with_reducible refine callF_of (s8) ?_)
    | (with_reducible refine drawF_of (s8) ?_)
    | (with_reducible refine callF_of (s9) ?_)
    | (with_reducible refine drawF_of (s9) ?_)
    | (with_reducible refine callF_of (s10) ?_)
    | (with_reducible refine drawF_of (s10) ?_)
    | (with_reducible refine callF_of (base_Num_nil) ?_)
    | (with_reducible refine drawF_of (base_Num_nil) ?_)
    | (refine after_lit ti_ok ?_)
    | (refine drawAfter_lit ti_ok ?_)
    | (refine drawEnd_of (by kernel_rfl) ?_)
    | ((first | refine cond_cases (fun hc => ?_) (fun hc => ?_) | refine guard_split (fun hc => ?_) (fun hc => ?_) | refine drawGuard_split (fun hc => ?_) (fun hc => ?_)) <;> first | (exfalso; simp only [decide_eq_true_eq, decide_eq_false_iff_not, Bool.not_eq_true, Bool.not_eq_false, Bool.not_eq_true', Bool.not_eq_false'] at hc; omega) | (simp only [hc]; try simp only [decide_eq_true_eq, decide_eq_false_iff_not, Bool.not_eq_true, Bool.not_eq_false, Bool.not_eq_true', Bool.not_eq_false'] at hc))
    | (refine after_need (by omega) ?_)
    | (refine drawAfter_need (by omega) ?_))
  all_goals exact fin_same trivial rfl

theorem valid_law (s : Bool) (r : List (List AV)) (d : Int) (s' : Bool) (r' : List (List AV)) (d' : Int) (hr : r.length ≤ maxLen) (fr : ∀ x ∈ r, FitL [.int .u32] x) (hr' : r'.length ≤ maxLen) (fr' : ∀ x ∈ r', FitL [.int .u32] x) : CallOK Tryd.prog gl 11 [.agg [.v (.bool s), .sl 1 r, .v (.int .i64 d)], .agg [.v (.bool s'), .sl 1 r', .v (.int .i64 d')]] (.v (.bool true)) := by
  unfold maxLen at *
  obtain ⟨ws, hW, rfl, h1⟩ := fit_u32s fr
  obtain ⟨ws', hW', rfl, h1'⟩ := fit_u32s fr'
  by_cases hf : fewR ⟨s, ws, d⟩ ∧ fewR ⟨s', ws', d'⟩
  ·
    obtain ⟨x, h, gx, dx⟩ := few_arg hW hf.1
    obtain ⟨y, h', gy, dy⟩ := few_arg hW' hf.2
    by_cases h0 : y.n = 0
    · exact valid_zero s ws d s' ws' d' x y h h' gx gy dx dy hf h0
    · exact valid_nz s ws d s' ws' d' x y h h' gx gy dx dy hf h0
  · exact valid_out s ws d s' ws' d' (by omega) (by omega) hf
end Go.Proofs.YtppdgooakleakaaDoor
