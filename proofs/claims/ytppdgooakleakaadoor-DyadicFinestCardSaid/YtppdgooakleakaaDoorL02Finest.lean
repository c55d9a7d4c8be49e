/- The statement DyadicFinest: its code returns true. -/
import Derived.Test.YtppdgooakleakaaDoorL02b
import Derived.Test.YtppdgooakleakaaDoorU3
set_option linter.unusedSimpArgs false
set_option linter.unusedVariables false
set_option linter.deprecated false
namespace Go.Proofs.YtppdgooakleakaaDoor
open Go Go.Ax
set_option maxRecDepth 100000
set_option maxHeartbeats 4000000

theorem finest_zero (n : Int) (hn : -9223372036854775808 ≤ n ∧ n ≤ 9223372036854775807) : (nrm n 65536).shift (-65536) = Dy.zero := by
  have hc : clipD (-65536) = -65536 := by decide
  obtain ⟨h1, h2⟩ := nrm_spec (z := n) (d := 65536) (by omega)
  generalize nrm n 65536 = x at *
  have h3 : n.natAbs = x.n.natAbs * 2 ^ (65536 - x.d) := by rw [h2, Int.natAbs_mul, Int.natAbs_pow]; rfl
  unfold Dy.shift
  rw [hc, if_pos (by omega)]
  by_cases h0 : x.n = 0
  · rw [h0, nrm_zero]
  obtain ⟨e, he⟩ : ∃ e : Nat, 65536 - x.d = e := ⟨_, rfl⟩
  rw [he] at h3
  have hp : 0 < 2 ^ e := Nat.pow_pos (by omega)
  have h4 : x.n.natAbs * 1 ≤ x.n.natAbs * 2 ^ e := Nat.mul_le_mul_left _ hp
  have h5 : 1 * 2 ^ e ≤ x.n.natAbs * 2 ^ e := Nat.mul_le_mul_right _ (by omega)
  have h6 : e < 64 := by
    rcases Nat.lt_or_ge e 64 with h | h
    · exact h
    · have h7 : 2 ^ 64 ≤ 2 ^ e := Nat.pow_le_pow_right (by omega) h
      have h8 : (2 : Nat) ^ 64 = 18446744073709551616 := by decide
      omega
  have h9 : ((x.d : Int) - -65536).toNat = x.d + 65536 := by omega
  rw [h9]
  have h10 : 2 ^ 64 ≤ 2 ^ x.d := Nat.pow_le_pow_right (by omega) (by omega)
  have h8 : (2 : Nat) ^ 64 = 18446744073709551616 := by decide
  have hz : x.n.natAbs / 2 ^ (x.d + 65536 - 65536) = 0 := by
    rw [Nat.add_sub_cancel]
    exact Nat.div_eq_of_lt (by omega)
  have hs : strip (x.n.natAbs / 2 ^ (x.d + 65536 - 65536)) (min (x.d + 65536) 65536) = (0, 0) := by rw [hz]; exact strip_zero _
  refine Dy.eq ?_ ?_
  · rw [nrm_n, hs]
    cases decide (x.n < 0) <;> rfl
  · rw [nrm_d, hs]; rfl
theorem finest_ok (n b : Int) (hn : -9223372036854775808 ≤ n ∧ n ≤ 9223372036854775807) (hb : -9223372036854775808 ≤ b ∧ b ≤ 9223372036854775807) : CallOK Tryd.prog gl 3 [.v (.int .i64 n), .v (.int .i64 b)] (.v (.bool (true))) := by
  refine call_ok (C := ⟨Tryd.prog, gl, ti, 54, false⟩) ti_ok mixed 3000 Tryd.call3 Tryd.func3 rfl Tryd.ntmps3 (by simp) byClL byCl ?_
  rw [Tryd.results3]
  have k1 := Make_ok n 65536 hn (by omega)
  rw [show ((65536 : Nat) : Int) = 65536 from rfl] at k1
  have k2 := Make_ok b 3 hb (by omega)
  rw [c3] at k2
  have ga : Mg 64 (nrm n 65536) := mg_make hn
  have gb : Mg 64 (nrm b 3) := mg_make hb
  have a1 := (ref_Add _ _ _ _ _ _ _ _ ga.arg (Mg.zero 0).arg).zlit2
  rw [add_zero] at a1
  have s1 := same_ok ga
  have m1 := Mul_ok _ _ _ _ _ _ _ _ ga.arg gb.arg
  have m2 := ref_Mul _ _ _ _ _ _ _ _ ga.arg gb.arg
  have s2 := same_ok (ga.mul gb)
  have f1 := Shift_ok _ _ _ (-2) _ ga.arg
  have f2 := ref_Shift _ _ _ (-2) _ ga.arg
  have s3 := same_ok (ga.shift (-2)) (by decide)
  have f3 := Shift_ok _ _ _ (-65536) _ ga.arg
  have e0 : (nrm n 65536).shift (-65536) = Dy.zero := finest_zero n hn
  rw [e0] at f3
  have s4 := (same_ok (Mg.zero 0)).zlit2
  clear e0 ga gb
  generalize (nrm n 65536).mul (nrm b 3) = z1 at *
  generalize (nrm n 65536).shift (-2) = z2 at *
  generalize nrm n 65536 = z3 at *
  generalize nrm b 3 = z4 at *
  repeat' (first
    | (simp only [go_sem, Int.reduceAdd, Int.reduceEq, Int.reduceLE, Int.reduceLT, Int.reduceMul, Int.reduceNeg, Int.reducePow, Int.reduceSub, Int.reduceToNat, Nat.reduceAdd, Nat.reduceBEq, Nat.reduceEqDiff, Nat.reduceLT, Nat.reduceLeDiff, Nat.reduceMul, Nat.reducePow, Nat.reduceSub, reduceCtorEq, reduceIte, IntKind.bits.eq_def, ti, tin])
    | (simp (disch := omega) only [w64, wu64, wu32, Nat.min_eq_left])
    | (with_reducible refine callF_of (awake02) ?_)
    | (with_reducible refine drawF_of (awake02) ?_)
    | (with_reducible refine callF_of (k1) ?_)
    | (with_reducible refine drawF_of (k1) ?_)
    | (with_reducible refine callF_of (k2) ?_)
    | (with_reducible refine drawF_of (k2) ?_)
    | (with_reducible refine callF_of (a1) ?_)
    | (with_reducible refine drawF_of (a1) ?_)
    | (with_reducible refine callF_of (s1) ?_)
    | (with_reducible refine drawF_of (s1) ?_)
    | (with_reducible refine callF_of (m1) ?_)
    | (with_reducible refine drawF_of (m1) ?_)
    | (with_reducible refine callF_of (m2) ?_)
    | (with_reducible refine drawF_of (m2) ?_)
    | (with_reducible refine callF_of (s2) ?_)
    | (with_reducible refine drawF_of (s2) ?_)
    | (with_reducible refine callF_of (f1) ?_)
    | (with_reducible refine drawF_of (f1) ?_)
    | (with_reducible refine callF_of (f2) ?_)
    | (with_reducible refine drawF_of (f2) ?_)
    | (with_reducible refine callF_of (s3) ?_)
    | (with_reducible refine drawF_of (s3) ?_)
    | (with_reducible refine callF_of (f3) ?_)
    | (with_reducible refine drawF_of (f3) ?_)
    | (with_reducible refine callF_of (s4) ?_)
    | (with_reducible refine drawF_of (s4) ?_)
    | (refine after_lit ti_ok ?_)
    | (refine drawAfter_lit ti_ok ?_)
    | (refine drawEnd_of (by kernel_rfl) ?_)
    | ((first | refine cond_cases (fun hc => ?_) (fun hc => ?_) | refine guard_split (fun hc => ?_) (fun hc => ?_) | refine drawGuard_split (fun hc => ?_) (fun hc => ?_)) <;> first | (exfalso; simp only [decide_eq_true_eq, decide_eq_false_iff_not, Bool.not_eq_true, Bool.not_eq_false, Bool.not_eq_true', Bool.not_eq_false'] at hc; omega) | (simp only [hc]; try simp only [decide_eq_true_eq, decide_eq_false_iff_not, Bool.not_eq_true, Bool.not_eq_false, Bool.not_eq_true', Bool.not_eq_false'] at hc))
    | (refine after_need (by omega) ?_)
    | (refine drawAfter_need (by omega) ?_))
  all_goals exact fin_same trivial rfl
end Go.Proofs.YtppdgooakleakaaDoor
