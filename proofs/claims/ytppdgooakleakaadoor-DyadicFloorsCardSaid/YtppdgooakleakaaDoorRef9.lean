/- The plain arithmetic of the reference (ref02), part 9: Shift, Same. -/
import Derived.Test.YtppdgooakleakaaDoorRef8
set_option linter.unusedSimpArgs false
set_option linter.unusedVariables false
set_option linter.deprecated false
namespace Go.Proofs.YtppdgooakleakaaDoor
open Go Go.Ax
set_option maxRecDepth 100000
set_option maxHeartbeats 4000000

theorem res_shift_up {x : Dy} {c : Nat} (h : c ≤ 65536) : nrm (sgn (sg x) (x.n.natAbs * 2 ^ c)) x.d = x.shift (c : Int) := by
  refine Dy.ext_v ?_
  rw [v_shift_pos h, sgn_mul_nat, sgn_sg]
  have h1 := v_nrm_mul (z := x.n * ((2 ^ c : Nat) : Int)) (d := x.d) x.ok.1
  have h2 := x.v_mul
  refine v_of_mul (d := x.d) ?_
  rw [h1, Rat.intCast_mul, ← h2, ← p2int, ← p2nat]
  grind

theorem ref_Shift (s : Bool) (ws : List Nat) (d : Int) (k : Int) (x : Dy) (h : Arg s ws d x) : CallOK Tryd.prog gl 19 [.agg [.v (.bool s), .sl 1 (u32s ws), .v (.int .i64 d)], .v (.int .i64 k)] (.agg [.v (.bool (sg (x.shift k))), .sl 1 (u32s (ms (x.shift k))), .v (.int .i64 (dn (x.shift k)))]) := by
  refine call_ok (C := ⟨Tryd.prog, gl, ti, 30, false⟩) ti_ok mixed 3000 Tryd.call19 Tryd.func19 rfl Tryd.ntmps19 (by simp) byClL byCl ?_
  rw [Tryd.results19]
  have pa := ref_Norm s ws d x h
  have hl : (words x.n.natAbs).length ≤ _ := h.mlen
  have hd := dn_nn x
  have hl2 := h.mlen
  have hc1 := clipD_bd k
  have e1 : max (-65536) (min k 65536) = clipD k := rfl
  by_cases hk : clipD k < 0
  · have rs := ref_num (sg x) (ms x) (dn x - clipD k) (ms_wd x) (by omega) (by omega) (by omega)
    rw [res_shift (by omega)] at rs
    generalize clipD k = c at *
    repeat' (first
      | (simp only [go_sem, Int.reduceAdd, Int.reduceEq, Int.reduceLE, Int.reduceLT, Int.reduceMul, Int.reduceNeg, Int.reducePow, Int.reduceSub, Int.reduceToNat, Nat.reduceAdd, Nat.reduceBEq, Nat.reduceEqDiff, Nat.reduceLT, Nat.reduceLeDiff, Nat.reduceMul, Nat.reducePow, Nat.reduceSub, reduceCtorEq, reduceIte, IntKind.bits.eq_def, ti, tin, e1])
      | (simp (disch := omega) only [w64, wu64, wu32, Nat.min_eq_left])
      | (with_reducible refine callF_of (pa) ?_)
      | (with_reducible refine drawF_of (pa) ?_)
      | (with_reducible refine callF_of (rs) ?_)
      | (with_reducible refine drawF_of (rs) ?_)
      | (refine after_lit ti_ok ?_)
      | (refine drawAfter_lit ti_ok ?_)
      | (refine drawEnd_of (by kernel_rfl) ?_)
      | ((first | refine cond_cases (fun hc => ?_) (fun hc => ?_) | refine guard_split (fun hc => ?_) (fun hc => ?_) | refine drawGuard_split (fun hc => ?_) (fun hc => ?_)) <;> first | (exfalso; simp only [decide_eq_true_eq, decide_eq_false_iff_not, Bool.not_eq_true, Bool.not_eq_false, Bool.not_eq_true', Bool.not_eq_false'] at hc; omega) | (simp only [hc]; try simp only [decide_eq_true_eq, decide_eq_false_iff_not, Bool.not_eq_true, Bool.not_eq_false, Bool.not_eq_true', Bool.not_eq_false'] at hc))
      | (refine after_need (by omega) ?_)
      | (refine drawAfter_need (by omega) ?_))
    exact fin_same trivial rfl
  · obtain ⟨c, hc⟩ : ∃ c : Nat, clipD k = c := ⟨(clipD k).toNat, by omega⟩
    have lf := ref_left x.n.natAbs c (by omega) (by omega)
    have ll := words_shl_len (a := x.n.natAbs) (n := c) (by omega)
    have rs := ref_num (sg x) (words (x.n.natAbs * 2 ^ c)) (dn x) (Wd.words _) (by omega) (by omega) (by omega)
    rw [val_words, dn_toNat, res_shift_up (by omega)] at rs
    have e0 : x.shift k = x.shift (c : Int) := by
      have : clipD (c : Int) = clipD k := by rw [hc]; unfold clipD; omega
      unfold Dy.shift; rw [this]
    rw [e0]
    rw [hc] at e1 hk hc1
    generalize x.n.natAbs * 2 ^ c = m at *
    repeat' (first
      | (simp only [go_sem, Int.reduceAdd, Int.reduceEq, Int.reduceLE, Int.reduceLT, Int.reduceMul, Int.reduceNeg, Int.reducePow, Int.reduceSub, Int.reduceToNat, Nat.reduceAdd, Nat.reduceBEq, Nat.reduceEqDiff, Nat.reduceLT, Nat.reduceLeDiff, Nat.reduceMul, Nat.reducePow, Nat.reduceSub, reduceCtorEq, reduceIte, IntKind.bits.eq_def, ti, tin, e1])
      | (simp (disch := omega) only [w64, wu64, wu32, Nat.min_eq_left])
      | (with_reducible refine callF_of (pa) ?_)
      | (with_reducible refine drawF_of (pa) ?_)
      | (with_reducible refine callF_of (lf) ?_)
      | (with_reducible refine drawF_of (lf) ?_)
      | (with_reducible refine callF_of (rs) ?_)
      | (with_reducible refine drawF_of (rs) ?_)
      | (refine after_lit ti_ok ?_)
      | (refine drawAfter_lit ti_ok ?_)
      | (refine drawEnd_of (by kernel_rfl) ?_)
      | ((first | refine cond_cases (fun hc => ?_) (fun hc => ?_) | refine guard_split (fun hc => ?_) (fun hc => ?_) | refine drawGuard_split (fun hc => ?_) (fun hc => ?_)) <;> first | (exfalso; simp only [decide_eq_true_eq, decide_eq_false_iff_not, Bool.not_eq_true, Bool.not_eq_false, Bool.not_eq_true', Bool.not_eq_false'] at hc; omega) | (simp only [hc]; try simp only [decide_eq_true_eq, decide_eq_false_iff_not, Bool.not_eq_true, Bool.not_eq_false, Bool.not_eq_true', Bool.not_eq_false'] at hc))
      | (refine after_need (by omega) ?_)
      | (refine drawAfter_need (by omega) ?_))
    exact fin_same trivial rfl
end Go.Proofs.YtppdgooakleakaaDoor
