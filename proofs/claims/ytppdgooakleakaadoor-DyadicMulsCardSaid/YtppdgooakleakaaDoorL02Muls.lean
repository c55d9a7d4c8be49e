/- The statement DyadicMuls: its code returns true. -/
import Derived.Test.YtppdgooakleakaaDoorL02b
import Derived.Test.YtppdgooakleakaaDoorU3
set_option linter.unusedSimpArgs false
set_option linter.unusedVariables false
set_option linter.deprecated false
namespace Go.Proofs.YtppdgooakleakaaDoor
open Go Go.Ax
set_option maxRecDepth 100000
set_option maxHeartbeats 4000000

theorem muls_out (s : Bool) (ws : List Nat) (d : Int) (s' : Bool) (ws' : List Nat) (d' : Int) (n : Int) (hl : ws.length ≤ 9223372036854775807) (hl' : ws'.length ≤ 9223372036854775807) (hf : ¬ (fewR ⟨s, ws, d⟩ ∧ fewR ⟨s', ws', d'⟩)) : CallOK Tryd.prog gl 4 [.agg [.v (.bool s), .sl 1 (u32s ws), .v (.int .i64 d)], .agg [.v (.bool s'), .sl 1 (u32s ws'), .v (.int .i64 d')], .v (.int .i64 n)] (.v (.bool (true))) := by
  refine call_ok (C := ⟨Tryd.prog, gl, ti, 56, false⟩) ti_ok mixed 3000 Tryd.call4 Tryd.func4 rfl Tryd.ntmps4 (by simp) byClL byCl ?_
  rw [Tryd.results4]
  have fw := few02_2 s ws d s' ws' d' hl hl'
  rw [decide_eq_false hf] at fw
  clear hf
  repeat' (first
    | (simp only [go_sem, Int.reduceAdd, Int.reduceEq, Int.reduceLE, Int.reduceLT, Int.reduceMul, Int.reduceNeg, Int.reducePow, Int.reduceSub, Int.reduceToNat, Nat.reduceAdd, Nat.reduceBEq, Nat.reduceEqDiff, Nat.reduceLT, Nat.reduceLeDiff, Nat.reduceMul, Nat.reducePow, Nat.reduceSub, reduceCtorEq, reduceIte, IntKind.bits.eq_def, ti, tin])
    | (simp (disch := omega) only [w64, wu64, wu32, Nat.min_eq_left])
    | (with_reducible refine callF_of (fw) ?_)
    | (with_reducible refine drawF_of (fw) ?_)
    | (with_reducible refine callF_of (awake02) ?_)
    | (with_reducible refine drawF_of (awake02) ?_)
    | (refine after_lit ti_ok ?_)
    | (refine drawAfter_lit ti_ok ?_)
    | (refine drawEnd_of (by kernel_rfl) ?_)
    | ((first | refine cond_cases (fun hc => ?_) (fun hc => ?_) | refine guard_split (fun hc => ?_) (fun hc => ?_) | refine drawGuard_split (fun hc => ?_) (fun hc => ?_)) <;> first | (exfalso; simp only [decide_eq_true_eq, decide_eq_false_iff_not, Bool.not_eq_true, Bool.not_eq_false, Bool.not_eq_true', Bool.not_eq_false'] at hc; omega) | (simp only [hc]; try simp only [decide_eq_true_eq, decide_eq_false_iff_not, Bool.not_eq_true, Bool.not_eq_false, Bool.not_eq_true', Bool.not_eq_false'] at hc))
    | (refine after_need (by omega) ?_)
    | (refine drawAfter_need (by omega) ?_))
  all_goals exact fin_same trivial rfl

theorem muls_in (s : Bool) (ws : List Nat) (d : Int) (s' : Bool) (ws' : List Nat) (d' : Int) (n : Int) (x : Dy) (y : Dy) (h : Arg s ws d x) (h' : Arg s' ws' d' y) (gx : Mg 512 x) (gy : Mg 512 y) (dx : x.d ≤ 300) (dy : y.d ≤ 300) (hf : fewR ⟨s, ws, d⟩ ∧ fewR ⟨s', ws', d'⟩) : CallOK Tryd.prog gl 4 [.agg [.v (.bool s), .sl 1 (u32s ws), .v (.int .i64 d)], .agg [.v (.bool s'), .sl 1 (u32s ws'), .v (.int .i64 d')], .v (.int .i64 n)] (.v (.bool (true))) := by
  refine call_ok (C := ⟨Tryd.prog, gl, ti, 56, false⟩) ti_ok mixed 3000 Tryd.call4 Tryd.func4 rfl Tryd.ntmps4 (by simp) byClL byCl ?_
  rw [Tryd.results4]
  have fw := few02_2 s ws d s' ws' d' (by have := h.len; omega) (by have := h'.len; omega)
  rw [decide_eq_true hf] at fw
  clear hf
  have m1 := Mul_ok _ _ _ _ _ _ _ _ h h'
  have m2 := ref_Mul _ _ _ _ _ _ _ _ h h'
  have s1 := same_ok (gx.mul gy)
  have f1 := Shift_ok _ _ _ n _ h
  have f2 := ref_Shift _ _ _ n _ h
  have s2 := same_ok (gx.shift n) (by have := clipD_bd n; omega)
  have b1 := Bits_ok _ _ _ _ h
  have b2 := ref_Bits _ _ _ _ h
  generalize x.mul y = z1 at *
  generalize x.shift n = z2 at *
  generalize blen x.n.natAbs = k at *
  repeat' (first
    | (simp only [go_sem, Int.reduceAdd, Int.reduceEq, Int.reduceLE, Int.reduceLT, Int.reduceMul, Int.reduceNeg, Int.reducePow, Int.reduceSub, Int.reduceToNat, Nat.reduceAdd, Nat.reduceBEq, Nat.reduceEqDiff, Nat.reduceLT, Nat.reduceLeDiff, Nat.reduceMul, Nat.reducePow, Nat.reduceSub, reduceCtorEq, reduceIte, IntKind.bits.eq_def, ti, tin])
    | (simp (disch := omega) only [w64, wu64, wu32, Nat.min_eq_left])
    | (with_reducible refine callF_of (fw) ?_)
    | (with_reducible refine drawF_of (fw) ?_)
    | (with_reducible refine callF_of (awake02) ?_)
    | (with_reducible refine drawF_of (awake02) ?_)
    | (with_reducible refine callF_of (m1) ?_)
    | (with_reducible refine drawF_of (m1) ?_)
    | (with_reducible refine callF_of (m2) ?_)
    | (with_reducible refine drawF_of (m2) ?_)
    | (with_reducible refine callF_of (s1) ?_)
    | (with_reducible refine drawF_of (s1) ?_)
    | (with_reducible refine callF_of (f1) ?_)
    | (with_reducible refine drawF_of (f1) ?_)
    | (with_reducible refine callF_of (f2) ?_)
    | (with_reducible refine drawF_of (f2) ?_)
    | (with_reducible refine callF_of (s2) ?_)
    | (with_reducible refine drawF_of (s2) ?_)
    | (with_reducible refine callF_of (b1) ?_)
    | (with_reducible refine drawF_of (b1) ?_)
    | (with_reducible refine callF_of (b2) ?_)
    | (with_reducible refine drawF_of (b2) ?_)
    | (refine after_lit ti_ok ?_)
    | (refine drawAfter_lit ti_ok ?_)
    | (refine drawEnd_of (by kernel_rfl) ?_)
    | ((first | refine cond_cases (fun hc => ?_) (fun hc => ?_) | refine guard_split (fun hc => ?_) (fun hc => ?_) | refine drawGuard_split (fun hc => ?_) (fun hc => ?_)) <;> first | (exfalso; simp only [decide_eq_true_eq, decide_eq_false_iff_not, Bool.not_eq_true, Bool.not_eq_false, Bool.not_eq_true', Bool.not_eq_false'] at hc; omega) | (simp only [hc]; try simp only [decide_eq_true_eq, decide_eq_false_iff_not, Bool.not_eq_true, Bool.not_eq_false, Bool.not_eq_true', Bool.not_eq_false'] at hc))
    | (refine after_need (by omega) ?_)
    | (refine drawAfter_need (by omega) ?_))
  all_goals exact fin_same trivial rfl

theorem muls_law (s : Bool) (r : List (List AV)) (d : Int) (s' : Bool) (r' : List (List AV)) (d' : Int) (n : Int) (hr : r.length ≤ maxLen) (fr : ∀ x ∈ r, FitL [.int .u32] x) (hr' : r'.length ≤ maxLen) (fr' : ∀ x ∈ r', FitL [.int .u32] x) (hn : -9223372036854775808 ≤ n ∧ n ≤ 9223372036854775807) : CallOK Tryd.prog gl 4 [.agg [.v (.bool s), .sl 1 r, .v (.int .i64 d)], .agg [.v (.bool s'), .sl 1 r', .v (.int .i64 d')], .v (.int .i64 n)] (.v (.bool true)) := by
  unfold maxLen at *
  obtain ⟨ws, hW, rfl, h1⟩ := fit_u32s fr
  obtain ⟨ws', hW', rfl, h1'⟩ := fit_u32s fr'
  by_cases hf : fewR ⟨s, ws, d⟩ ∧ fewR ⟨s', ws', d'⟩
  ·
    obtain ⟨x, h, gx, dx⟩ := few_arg hW hf.1
    obtain ⟨y, h', gy, dy⟩ := few_arg hW' hf.2
    exact muls_in s ws d s' ws' d' n x y h h' gx gy dx dy hf
  · exact muls_out s ws d s' ws' d' n (by omega) (by omega) hf
end Go.Proofs.YtppdgooakleakaaDoor
