/- The statement DyadicInts: its code returns true. -/
import Derived.Test.YtppdgooakleakaaDoorL02b
import Derived.Test.YtppdgooakleakaaDoorRefE
import Derived.Test.YtppdgooakleakaaDoorU3
set_option linter.unusedSimpArgs false
set_option linter.unusedVariables false
set_option linter.deprecated false
namespace Go.Proofs.YtppdgooakleakaaDoor
open Go Go.Ax
set_option maxRecDepth 100000
set_option maxHeartbeats 4000000

theorem tdiv2 {x : Int} (h : -9223372036854775808 ≤ x ∧ x ≤ 9223372036854775807) : -4611686018427387904 ≤ x.tdiv 2 ∧ x.tdiv 2 ≤ 4611686018427387903 := by
  by_cases h0 : 0 ≤ x
  · rw [tdiv_nn h0]; omega
  · have h1 : (-x).tdiv 2 = -(x.tdiv 2) := Int.neg_tdiv ..
    rw [tdiv_nn (by omega)] at h1
    omega
theorem int_mg {n : Int} (h : -9223372036854775808 ≤ n ∧ n ≤ 9223372036854775807) : Mg 64 (Dy.int n) := Mg.int (by omega)
theorem int_int (n : Int) (h : -9223372036854775808 ≤ n ∧ n ≤ 9223372036854775807) : CallOK Tryd.prog gl 46 [.agg [.v (.bool (sg (Dy.int n))), .sl 1 (u32s (ms (Dy.int n))), .v (.int .i64 (dn (Dy.int n)))]] (.tup [.v (.int .i64 n), .v (.bool true)]) := by
  have := Int_ok _ _ _ _ (int_mg h).arg
  rw [Dy.toInt, if_pos (Dy.fits_int h), Dy.fits_int h] at this
  exact this
theorem make_shift (x : Int) {e : Nat} (he : e ≤ 65536) : (nrm x e).shift (e : Int) = Dy.int x := by
  apply Dy.ext_v
  rw [v_shift_pos he, v_nrm_mul he, Dy.v_int]
theorem ints_far (x y den : Int) (hd : 400 < den) (hd2 : den ≤ 65536) : CallOK Tryd.prog gl 10 [.v (.int .i64 x), .v (.int .i64 y), .v (.int .i64 den)] (.v (.bool (true))) := by
  refine call_ok (C := ⟨Tryd.prog, gl, ti, 159, false⟩) ti_ok mixed 3000 Tryd.call10 Tryd.func10 rfl Tryd.ntmps10 (by simp) byClL byCl ?_
  rw [Tryd.results10]
  repeat' (first
    | (simp only [go_sem, Int.reduceAdd, Int.reduceEq, Int.reduceLE, Int.reduceLT, Int.reduceMul, Int.reduceNeg, Int.reducePow, Int.reduceSub, Int.reduceToNat, Nat.reduceAdd, Nat.reduceBEq, Nat.reduceEqDiff, Nat.reduceLT, Nat.reduceLeDiff, Nat.reduceMul, Nat.reducePow, Nat.reduceSub, reduceCtorEq, reduceIte, IntKind.bits.eq_def, ti, tin])
    | (simp (disch := omega) only [w64, wu64, wu32, Nat.min_eq_left])
    | (with_reducible refine callF_of (awake02) ?_)
    | (with_reducible refine drawF_of (awake02) ?_)
    | (refine after_lit ti_ok ?_)
    | (refine drawAfter_lit ti_ok ?_)
    | (refine drawEnd_of (by kernel_rfl) ?_)
    | ((first | refine cond_cases (fun hc => ?_) (fun hc => ?_) | refine guard_split (fun hc => ?_) (fun hc => ?_) | refine drawGuard_split (fun hc => ?_) (fun hc => ?_)) <;> first | (exfalso; simp only [decide_eq_true_eq, decide_eq_false_iff_not, Bool.not_eq_true, Bool.not_eq_false, Bool.not_eq_true', Bool.not_eq_false'] at hc; omega) | (simp only [hc]; try simp only [decide_eq_true_eq, decide_eq_false_iff_not, Bool.not_eq_true, Bool.not_eq_false, Bool.not_eq_true', Bool.not_eq_false'] at hc))
    | (refine after_need (by omega) ?_)
    | (refine drawAfter_need (by omega) ?_))
  all_goals exact fin_same trivial rfl
theorem ints_err (x y den : Int) (hx : -9223372036854775808 ≤ x ∧ x ≤ 9223372036854775807) (hy : -9223372036854775808 ≤ y ∧ y ≤ 9223372036854775807) (hd : den < 0 ∨ 65536 < den) : CallOK Tryd.prog gl 10 [.v (.int .i64 x), .v (.int .i64 y), .v (.int .i64 den)] (.v (.bool (true))) := by
  refine call_ok (C := ⟨Tryd.prog, gl, ti, 159, false⟩) ti_ok mixed 3000 Tryd.call10 Tryd.func10 rfl Tryd.ntmps10 (by simp) byClL byCl ?_
  rw [Tryd.results10]
  have o1 := Of_ok x hx
  have i1 := int_int x hx
  have hx2 := tdiv_bd (a := x) (b := 2) (by omega) hx
  have hy2 := tdiv_bd (a := y) (b := 2) (by omega) hy
  have hxm := tmod_bd x (b := 2147483648) (by omega)
  have hym := tmod_bd y (b := 2147483648) (by omega)
  have hxh : -4611686018427387904 ≤ x.tdiv 2 ∧ x.tdiv 2 ≤ 4611686018427387903 := tdiv2 hx
  have hyh : -4611686018427387904 ≤ y.tdiv 2 ∧ y.tdiv 2 ≤ 4611686018427387903 := tdiv2 hy
  have o2 := Of_ok (x.tdiv 2) (by omega)
  have o3 := Of_ok (y.tdiv 2) (by omega)
  have a1 := Add_ok _ _ _ _ _ _ _ _ (int_mg (n := x.tdiv 2) (by omega)).arg (int_mg (n := y.tdiv 2) (by omega)).arg
  rw [v_int_add] at a1
  have i2 := int_int (x.tdiv 2 + y.tdiv 2) (by omega)
  have o4 := Of_ok (x.tmod 2147483648) (by omega)
  have o5 := Of_ok (y.tmod 2147483648) (by omega)
  have m1 := Mul_ok _ _ _ _ _ _ _ _ (int_mg (n := x.tmod 2147483648) (by omega)).arg (int_mg (n := y.tmod 2147483648) (by omega)).arg
  rw [v_int_mul] at m1
  have hpb := mul_bd (a := x.tmod 2147483648) (b := y.tmod 2147483648) (A := 2147483648) (B := 2147483648) (by omega) (by omega)
  have i3 := int_int (x.tmod 2147483648 * y.tmod 2147483648) (by omega)
  have k1 := Make_err x den hd
  have k2 := ref_Make_err x den hd
  have s1 := same_ok (Mg.zero 0)
  have z1 := int_int 0 (by omega)
  rw [show Dy.int 0 = Dy.zero from rfl] at z1
  obtain ⟨v, hv, z2⟩ := ref_Int_ok _ _ _ _ (Mg.zero 0).arg
  have hf : Dy.zero.fits = true := by decide +kernel
  rw [hf] at z2 hv
  have hv0 : v = 0 := hv rfl
  subst hv0
  clear hv hf
  obtain ⟨u1, hu1⟩ : ∃ u, x.tdiv 2 = u := ⟨_, rfl⟩
  obtain ⟨u2, hu2⟩ : ∃ u, y.tdiv 2 = u := ⟨_, rfl⟩
  obtain ⟨u3, hu3⟩ : ∃ u, x.tmod 2147483648 = u := ⟨_, rfl⟩
  obtain ⟨u4, hu4⟩ : ∃ u, y.tmod 2147483648 = u := ⟨_, rfl⟩
  rw [hu1] at hx2 hxh o2 a1 i2
  rw [hu2] at hy2 hyh o3 a1 i2
  rw [hu3] at hxm o4 m1 i3 hpb
  rw [hu4] at hym o5 m1 i3 hpb
  obtain ⟨u5, hu5⟩ : ∃ u, u3 * u4 = u := ⟨_, rfl⟩
  rw [hu5] at m1 i3 hpb
  repeat' (first
    | (simp only [go_sem, Int.reduceAdd, Int.reduceEq, Int.reduceLE, Int.reduceLT, Int.reduceMul, Int.reduceNeg, Int.reducePow, Int.reduceSub, Int.reduceToNat, Nat.reduceAdd, Nat.reduceBEq, Nat.reduceEqDiff, Nat.reduceLT, Nat.reduceLeDiff, Nat.reduceMul, Nat.reducePow, Nat.reduceSub, reduceCtorEq, reduceIte, IntKind.bits.eq_def, ti, tin, hu1, hu2, hu3, hu4, hu5])
    | (simp (disch := omega) only [w64, wu64, wu32, Nat.min_eq_left])
    | (with_reducible refine callF_of (awake02) ?_)
    | (with_reducible refine drawF_of (awake02) ?_)
    | (with_reducible refine callF_of (o1) ?_)
    | (with_reducible refine drawF_of (o1) ?_)
    | (with_reducible refine callF_of (o2) ?_)
    | (with_reducible refine drawF_of (o2) ?_)
    | (with_reducible refine callF_of (o3) ?_)
    | (with_reducible refine drawF_of (o3) ?_)
    | (with_reducible refine callF_of (o4) ?_)
    | (with_reducible refine drawF_of (o4) ?_)
    | (with_reducible refine callF_of (o5) ?_)
    | (with_reducible refine drawF_of (o5) ?_)
    | (with_reducible refine callF_of (a1) ?_)
    | (with_reducible refine drawF_of (a1) ?_)
    | (with_reducible refine callF_of (m1) ?_)
    | (with_reducible refine drawF_of (m1) ?_)
    | (with_reducible refine callF_of (i1) ?_)
    | (with_reducible refine drawF_of (i1) ?_)
    | (with_reducible refine callF_of (i2) ?_)
    | (with_reducible refine drawF_of (i2) ?_)
    | (with_reducible refine callF_of (i3) ?_)
    | (with_reducible refine drawF_of (i3) ?_)
    | (with_reducible refine callF_of (k1) ?_)
    | (with_reducible refine drawF_of (k1) ?_)
    | (with_reducible refine callF_of (k2) ?_)
    | (with_reducible refine drawF_of (k2) ?_)
    | (with_reducible refine callF_of (base_Num 3) ?_)
    | (with_reducible refine drawF_of (base_Num 3) ?_)
    | (with_reducible refine callF_of (s1) ?_)
    | (with_reducible refine drawF_of (s1) ?_)
    | (with_reducible refine callF_of (z1) ?_)
    | (with_reducible refine drawF_of (z1) ?_)
    | (with_reducible refine callF_of (z2) ?_)
    | (with_reducible refine drawF_of (z2) ?_)
    | (refine after_lit ti_ok ?_)
    | (refine drawAfter_lit ti_ok ?_)
    | (refine drawEnd_of (by kernel_rfl) ?_)
    | ((first | refine cond_cases (fun hc => ?_) (fun hc => ?_) | refine guard_split (fun hc => ?_) (fun hc => ?_) | refine drawGuard_split (fun hc => ?_) (fun hc => ?_)) <;> first | (exfalso; simp only [decide_eq_true_eq, decide_eq_false_iff_not, Bool.not_eq_true, Bool.not_eq_false, Bool.not_eq_true', Bool.not_eq_false'] at hc; omega) | (simp only [hc]; try simp only [decide_eq_true_eq, decide_eq_false_iff_not, Bool.not_eq_true, Bool.not_eq_false, Bool.not_eq_true', Bool.not_eq_false'] at hc))
    | (refine after_need (by omega) ?_)
    | (refine drawAfter_need (by omega) ?_))
  all_goals exact fin_same trivial rfl
theorem ints_ok (x y : Int) (e : Nat) (hx : -9223372036854775808 ≤ x ∧ x ≤ 9223372036854775807) (hy : -9223372036854775808 ≤ y ∧ y ≤ 9223372036854775807) (hd : e ≤ 400) : CallOK Tryd.prog gl 10 [.v (.int .i64 x), .v (.int .i64 y), .v (.int .i64 e)] (.v (.bool (true))) := by
  refine call_ok (C := ⟨Tryd.prog, gl, ti, 159, false⟩) ti_ok mixed 3000 Tryd.call10 Tryd.func10 rfl Tryd.ntmps10 (by simp) byClL byCl ?_
  rw [Tryd.results10]
  have o1 := Of_ok x hx
  have i1 := int_int x hx
  have hx2 := tdiv_bd (a := x) (b := 2) (by omega) hx
  have hy2 := tdiv_bd (a := y) (b := 2) (by omega) hy
  have hxm := tmod_bd x (b := 2147483648) (by omega)
  have hym := tmod_bd y (b := 2147483648) (by omega)
  have hxh : -4611686018427387904 ≤ x.tdiv 2 ∧ x.tdiv 2 ≤ 4611686018427387903 := tdiv2 hx
  have hyh : -4611686018427387904 ≤ y.tdiv 2 ∧ y.tdiv 2 ≤ 4611686018427387903 := tdiv2 hy
  have o2 := Of_ok (x.tdiv 2) (by omega)
  have o3 := Of_ok (y.tdiv 2) (by omega)
  have a1 := Add_ok _ _ _ _ _ _ _ _ (int_mg (n := x.tdiv 2) (by omega)).arg (int_mg (n := y.tdiv 2) (by omega)).arg
  rw [v_int_add] at a1
  have i2 := int_int (x.tdiv 2 + y.tdiv 2) (by omega)
  have o4 := Of_ok (x.tmod 2147483648) (by omega)
  have o5 := Of_ok (y.tmod 2147483648) (by omega)
  have m1 := Mul_ok _ _ _ _ _ _ _ _ (int_mg (n := x.tmod 2147483648) (by omega)).arg (int_mg (n := y.tmod 2147483648) (by omega)).arg
  rw [v_int_mul] at m1
  have hpb := mul_bd (a := x.tmod 2147483648) (b := y.tmod 2147483648) (A := 2147483648) (B := 2147483648) (by omega) (by omega)
  have i3 := int_int (x.tmod 2147483648 * y.tmod 2147483648) (by omega)
  have k1 := Make_ok x e hx (by omega)
  have k2 := ref_Make x e hx (by omega)
  have gm : Mg 64 (nrm x e) := mg_make hx
  have s1 := same_ok gm
  have z1 := Int_ok _ _ _ _ gm.arg
  obtain ⟨v, hv, z2⟩ := ref_Int_ok _ _ _ _ gm.arg
  have f1 := Shift_ok _ _ _ e _ gm.arg
  rw [make_shift x (by omega)] at f1
  have c1 := Cmp_ok _ _ _ _ _ _ _ _ (int_mg hx).arg (int_mg hx).arg
  rw [cmp_self] at c1
  clear gm
  generalize hm : nrm x e = m at *
  clear hm
  rw [Dy.toInt] at z1
  obtain ⟨u1, hu1⟩ : ∃ u, x.tdiv 2 = u := ⟨_, rfl⟩
  obtain ⟨u2, hu2⟩ : ∃ u, y.tdiv 2 = u := ⟨_, rfl⟩
  obtain ⟨u3, hu3⟩ : ∃ u, x.tmod 2147483648 = u := ⟨_, rfl⟩
  obtain ⟨u4, hu4⟩ : ∃ u, y.tmod 2147483648 = u := ⟨_, rfl⟩
  rw [hu1] at hx2 hxh o2 a1 i2
  rw [hu2] at hy2 hyh o3 a1 i2
  rw [hu3] at hxm o4 m1 i3 hpb
  rw [hu4] at hym o5 m1 i3 hpb
  obtain ⟨u5, hu5⟩ : ∃ u, u3 * u4 = u := ⟨_, rfl⟩
  rw [hu5] at m1 i3 hpb
  cases hf : m.fits with
  | true =>
    have hv0 := hv hf
    subst hv0
    rw [hf] at z1 z2
    rw [if_pos rfl] at z1
    clear hf hv
    repeat' (first
      | (simp only [go_sem, Int.reduceAdd, Int.reduceEq, Int.reduceLE, Int.reduceLT, Int.reduceMul, Int.reduceNeg, Int.reducePow, Int.reduceSub, Int.reduceToNat, Nat.reduceAdd, Nat.reduceBEq, Nat.reduceEqDiff, Nat.reduceLT, Nat.reduceLeDiff, Nat.reduceMul, Nat.reducePow, Nat.reduceSub, reduceCtorEq, reduceIte, IntKind.bits.eq_def, ti, tin, hu1, hu2, hu3, hu4, hu5])
      | (simp (disch := omega) only [w64, wu64, wu32, Nat.min_eq_left])
      | (with_reducible refine callF_of (awake02) ?_)
      | (with_reducible refine drawF_of (awake02) ?_)
      | (with_reducible refine callF_of (o1) ?_)
      | (with_reducible refine drawF_of (o1) ?_)
      | (with_reducible refine callF_of (o2) ?_)
      | (with_reducible refine drawF_of (o2) ?_)
      | (with_reducible refine callF_of (o3) ?_)
      | (with_reducible refine drawF_of (o3) ?_)
      | (with_reducible refine callF_of (o4) ?_)
      | (with_reducible refine drawF_of (o4) ?_)
      | (with_reducible refine callF_of (o5) ?_)
      | (with_reducible refine drawF_of (o5) ?_)
      | (with_reducible refine callF_of (a1) ?_)
      | (with_reducible refine drawF_of (a1) ?_)
      | (with_reducible refine callF_of (m1) ?_)
      | (with_reducible refine drawF_of (m1) ?_)
      | (with_reducible refine callF_of (i1) ?_)
      | (with_reducible refine drawF_of (i1) ?_)
      | (with_reducible refine callF_of (i2) ?_)
      | (with_reducible refine drawF_of (i2) ?_)
      | (with_reducible refine callF_of (i3) ?_)
      | (with_reducible refine drawF_of (i3) ?_)
      | (with_reducible refine callF_of (k1) ?_)
      | (with_reducible refine drawF_of (k1) ?_)
      | (with_reducible refine callF_of (k2) ?_)
      | (with_reducible refine drawF_of (k2) ?_)
      | (with_reducible refine callF_of (base_Num_nil) ?_)
      | (with_reducible refine drawF_of (base_Num_nil) ?_)
      | (with_reducible refine callF_of (s1) ?_)
      | (with_reducible refine drawF_of (s1) ?_)
      | (with_reducible refine callF_of (z1) ?_)
      | (with_reducible refine drawF_of (z1) ?_)
      | (with_reducible refine callF_of (z2) ?_)
      | (with_reducible refine drawF_of (z2) ?_)
      | (with_reducible refine callF_of (f1) ?_)
      | (with_reducible refine drawF_of (f1) ?_)
      | (with_reducible refine callF_of (c1) ?_)
      | (with_reducible refine drawF_of (c1) ?_)
      | (refine after_lit ti_ok ?_)
      | (refine drawAfter_lit ti_ok ?_)
      | (refine drawEnd_of (by kernel_rfl) ?_)
      | ((first | refine cond_cases (fun hc => ?_) (fun hc => ?_) | refine guard_split (fun hc => ?_) (fun hc => ?_) | refine drawGuard_split (fun hc => ?_) (fun hc => ?_)) <;> first | (exfalso; simp only [decide_eq_true_eq, decide_eq_false_iff_not, Bool.not_eq_true, Bool.not_eq_false, Bool.not_eq_true', Bool.not_eq_false'] at hc; omega) | (simp only [hc]; try simp only [decide_eq_true_eq, decide_eq_false_iff_not, Bool.not_eq_true, Bool.not_eq_false, Bool.not_eq_true', Bool.not_eq_false'] at hc))
      | (refine after_need (by omega) ?_)
      | (refine drawAfter_need (by omega) ?_))
    all_goals exact fin_same trivial rfl
  | false =>
    rw [hf] at z1 z2
    rw [if_neg (by simp)] at z1
    clear hf hv
    repeat' (first
      | (simp only [go_sem, Int.reduceAdd, Int.reduceEq, Int.reduceLE, Int.reduceLT, Int.reduceMul, Int.reduceNeg, Int.reducePow, Int.reduceSub, Int.reduceToNat, Nat.reduceAdd, Nat.reduceBEq, Nat.reduceEqDiff, Nat.reduceLT, Nat.reduceLeDiff, Nat.reduceMul, Nat.reducePow, Nat.reduceSub, reduceCtorEq, reduceIte, IntKind.bits.eq_def, ti, tin, hu1, hu2, hu3, hu4, hu5])
      | (simp (disch := omega) only [w64, wu64, wu32, Nat.min_eq_left])
      | (with_reducible refine callF_of (awake02) ?_)
      | (with_reducible refine drawF_of (awake02) ?_)
      | (with_reducible refine callF_of (o1) ?_)
      | (with_reducible refine drawF_of (o1) ?_)
      | (with_reducible refine callF_of (o2) ?_)
      | (with_reducible refine drawF_of (o2) ?_)
      | (with_reducible refine callF_of (o3) ?_)
      | (with_reducible refine drawF_of (o3) ?_)
      | (with_reducible refine callF_of (o4) ?_)
      | (with_reducible refine drawF_of (o4) ?_)
      | (with_reducible refine callF_of (o5) ?_)
      | (with_reducible refine drawF_of (o5) ?_)
      | (with_reducible refine callF_of (a1) ?_)
      | (with_reducible refine drawF_of (a1) ?_)
      | (with_reducible refine callF_of (m1) ?_)
      | (with_reducible refine drawF_of (m1) ?_)
      | (with_reducible refine callF_of (i1) ?_)
      | (with_reducible refine drawF_of (i1) ?_)
      | (with_reducible refine callF_of (i2) ?_)
      | (with_reducible refine drawF_of (i2) ?_)
      | (with_reducible refine callF_of (i3) ?_)
      | (with_reducible refine drawF_of (i3) ?_)
      | (with_reducible refine callF_of (k1) ?_)
      | (with_reducible refine drawF_of (k1) ?_)
      | (with_reducible refine callF_of (k2) ?_)
      | (with_reducible refine drawF_of (k2) ?_)
      | (with_reducible refine callF_of (base_Num_nil) ?_)
      | (with_reducible refine drawF_of (base_Num_nil) ?_)
      | (with_reducible refine callF_of (s1) ?_)
      | (with_reducible refine drawF_of (s1) ?_)
      | (with_reducible refine callF_of (z1) ?_)
      | (with_reducible refine drawF_of (z1) ?_)
      | (with_reducible refine callF_of (z2) ?_)
      | (with_reducible refine drawF_of (z2) ?_)
      | (with_reducible refine callF_of (f1) ?_)
      | (with_reducible refine drawF_of (f1) ?_)
      | (with_reducible refine callF_of (c1) ?_)
      | (with_reducible refine drawF_of (c1) ?_)
      | (refine after_lit ti_ok ?_)
      | (refine drawAfter_lit ti_ok ?_)
      | (refine drawEnd_of (by kernel_rfl) ?_)
      | ((first | refine cond_cases (fun hc => ?_) (fun hc => ?_) | refine guard_split (fun hc => ?_) (fun hc => ?_) | refine drawGuard_split (fun hc => ?_) (fun hc => ?_)) <;> first | (exfalso; simp only [decide_eq_true_eq, decide_eq_false_iff_not, Bool.not_eq_true, Bool.not_eq_false, Bool.not_eq_true', Bool.not_eq_false'] at hc; omega) | (simp only [hc]; try simp only [decide_eq_true_eq, decide_eq_false_iff_not, Bool.not_eq_true, Bool.not_eq_false, Bool.not_eq_true', Bool.not_eq_false'] at hc))
      | (refine after_need (by omega) ?_)
      | (refine drawAfter_need (by omega) ?_))
    all_goals exact fin_same trivial rfl
theorem ints_law (x y den : Int) (hx : -9223372036854775808 ≤ x ∧ x ≤ 9223372036854775807) (hy : -9223372036854775808 ≤ y ∧ y ≤ 9223372036854775807) : CallOK Tryd.prog gl 10 [.v (.int .i64 x), .v (.int .i64 y), .v (.int .i64 den)] (.v (.bool true)) := by
  by_cases hd : den < 0 ∨ 65536 < den
  · exact ints_err x y den hx hy hd
  · by_cases hd2 : 400 < den
    · exact ints_far x y den hd2 (by omega)
    · obtain ⟨e, rfl⟩ : ∃ e : Nat, den = e := ⟨den.toNat, by omega⟩
      exact ints_ok x y e hx hy (by omega)
end Go.Proofs.YtppdgooakleakaaDoor
