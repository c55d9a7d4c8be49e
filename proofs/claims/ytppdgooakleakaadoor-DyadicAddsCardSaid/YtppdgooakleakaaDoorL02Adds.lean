/- The statement DyadicAdds: its code returns true. -/
import Derived.Test.YtppdgooakleakaaDoorL02b
import Derived.Test.YtppdgooakleakaaDoorU3
set_option linter.unusedSimpArgs false
set_option linter.unusedVariables false
set_option linter.deprecated false
namespace Go.Proofs.YtppdgooakleakaaDoor
open Go Go.Ax
set_option maxRecDepth 100000
set_option maxHeartbeats 4000000

theorem adds_out (s : Bool) (ws : List Nat) (d : Int) (s' : Bool) (ws' : List Nat) (d' : Int) (hl : ws.length ≤ 9223372036854775807) (hl' : ws'.length ≤ 9223372036854775807) (hf : ¬ (fewR ⟨s, ws, d⟩ ∧ fewR ⟨s', ws', d'⟩)) : CallOK Tryd.prog gl 7 [.agg [.v (.bool s), .sl 1 (u32s ws), .v (.int .i64 d)], .agg [.v (.bool s'), .sl 1 (u32s ws'), .v (.int .i64 d')]] (.v (.bool (true))) := by
  refine call_ok (C := ⟨Tryd.prog, gl, ti, 79, false⟩) ti_ok mixed 3000 Tryd.call7 Tryd.func7 rfl Tryd.ntmps7 (by simp) byClL byCl ?_
  rw [Tryd.results7]
  have fw := few02_2 s ws d s' ws' d' hl hl'
  rw [decide_eq_false hf] at fw
  clear hf
  repeat' (first
    | (simp only [go_sem, Int.reduceAdd, Int.reduceEq, Int.reduceLE, Int.reduceLT, Int.reduceMul, Int.reduceNeg, Int.reducePow, Int.reduceSub, Int.reduceToNat, Nat.reduceAdd, Nat.reduceBEq, Nat.reduceEqDiff, Nat.reduceLT, Nat.reduceLeDiff, Nat.reduceMul, Nat.reducePow, Nat.reduceSub, reduceCtorEq, reduceIte, IntKind.bits.eq_def, ti, tin])
    | (simp (disch := omega) only [w64, wu64, wu32, Nat.min_eq_left])
    | (with_reducible refine callF_of (fw) ?_)
    | (with_reducible refine drawF_of (fw) ?_)
    | (with_reducible refine callF_of (awake02) ?_)
    | (with_reducible refine drawF_of (awake02) ?_)
    | (refine after_lit ti_ok ?_)
    | (refine drawAfter_lit ti_ok ?_)
    | (refine drawEnd_of (by kernel_rfl) ?_)
    | ((first | refine cond_cases (fun hc => ?_) (fun hc => ?_) | refine guard_split (fun hc => ?_) (fun hc => ?_) | refine drawGuard_split (fun hc => ?_) (fun hc => ?_)) <;> first | (exfalso; simp only [decide_eq_true_eq, decide_eq_false_iff_not, Bool.not_eq_true, Bool.not_eq_false, Bool.not_eq_true', Bool.not_eq_false'] at hc; omega) | (simp only [hc]; try simp only [decide_eq_true_eq, decide_eq_false_iff_not, Bool.not_eq_true, Bool.not_eq_false, Bool.not_eq_true', Bool.not_eq_false'] at hc))
    | (refine after_need (by omega) ?_)
    | (refine drawAfter_need (by omega) ?_))
  all_goals exact fin_same trivial rfl

theorem adds_in (s : Bool) (ws : List Nat) (d : Int) (s' : Bool) (ws' : List Nat) (d' : Int) (x : Dy) (y : Dy) (h : Arg s ws d x) (h' : Arg s' ws' d' y) (gx : Mg 512 x) (gy : Mg 512 y) (dx : x.d ≤ 300) (dy : y.d ≤ 300) (hf : fewR ⟨s, ws, d⟩ ∧ fewR ⟨s', ws', d'⟩) : CallOK Tryd.prog gl 7 [.agg [.v (.bool s), .sl 1 (u32s ws), .v (.int .i64 d)], .agg [.v (.bool s'), .sl 1 (u32s ws'), .v (.int .i64 d')]] (.v (.bool (true))) := by
  refine call_ok (C := ⟨Tryd.prog, gl, ti, 79, false⟩) ti_ok mixed 3000 Tryd.call7 Tryd.func7 rfl Tryd.ntmps7 (by simp) byClL byCl ?_
  rw [Tryd.results7]
  have fw := few02_2 s ws d s' ws' d' (by have := h.len; omega) (by have := h'.len; omega)
  rw [decide_eq_true hf] at fw
  clear hf
  have p1 := Add_ok _ _ _ _ _ _ _ _ h h'
  have p2 := ref_Add _ _ _ _ _ _ _ _ h h'
  have p3 := same_ok (gx.add gy)
  have p4 := Sub_ok _ _ _ _ _ _ _ _ h h'
  have p5 := ref_Sub _ _ _ _ _ _ _ _ h h'
  have p6 := same_ok (gx.sub gy)
  have p7 := Neg_ok _ _ _ _ h
  have p8 := ref_Neg _ _ _ _ h
  have p9 := same_ok gx.neg
  have q1 := Abs_ok _ _ _ _ h
  have q2 := ref_Abs _ _ _ _ h
  have q3 := same_ok gx.abs
  have q4 := Sign_ok _ _ _ _ h
  have q5 := ref_Sign _ _ _ _ h
  have q6 := Cmp_ok _ _ _ _ _ _ _ _ h h'
  have q7 := ref_Cmp _ _ _ _ _ _ _ _ h h'
  have q8 := Min_ok _ _ _ _ _ _ _ _ h h'
  have q9 := ref_Min _ _ _ _ _ _ _ _ h h'
  have r1 := same_ok (gx.min gy)
  have r2 := Max_ok _ _ _ _ _ _ _ _ h h'
  have r3 := ref_Max _ _ _ _ _ _ _ _ h h'
  have r4 := same_ok (gx.max gy)
  generalize x.add y = z1 at *
  generalize x.sub y = z2 at *
  generalize x.neg = z3 at *
  generalize x.abs = z4 at *
  generalize x.min y = z5 at *
  generalize x.max y = z6 at *
  generalize x.sign = n1 at *
  generalize x.cmp y = n2 at *
  repeat' (first
    | (simp only [go_sem, Int.reduceAdd, Int.reduceEq, Int.reduceLE, Int.reduceLT, Int.reduceMul, Int.reduceNeg, Int.reducePow, Int.reduceSub, Int.reduceToNat, Nat.reduceAdd, Nat.reduceBEq, Nat.reduceEqDiff, Nat.reduceLT, Nat.reduceLeDiff, Nat.reduceMul, Nat.reducePow, Nat.reduceSub, reduceCtorEq, reduceIte, IntKind.bits.eq_def, ti, tin])
    | (simp (disch := omega) only [w64, wu64, wu32, Nat.min_eq_left])
    | (with_reducible refine callF_of (fw) ?_)
    | (with_reducible refine drawF_of (fw) ?_)
    | (with_reducible refine callF_of (awake02) ?_)
    | (with_reducible refine drawF_of (awake02) ?_)
    | (with_reducible refine callF_of (p1) ?_)
    | (with_reducible refine drawF_of (p1) ?_)
    | (with_reducible refine callF_of (p2) ?_)
    | (with_reducible refine drawF_of (p2) ?_)
    | (with_reducible refine callF_of (p3) ?_)
    | (with_reducible refine drawF_of (p3) ?_)
    | (with_reducible refine callF_of (p4) ?_)
    | (with_reducible refine drawF_of (p4) ?_)
    | (with_reducible refine callF_of (p5) ?_)
    | (with_reducible refine drawF_of (p5) ?_)
    | (with_reducible refine callF_of (p6) ?_)
    | (with_reducible refine drawF_of (p6) ?_)
    | (with_reducible refine callF_of (p7) ?_)
    | (with_reducible refine drawF_of (p7) ?_)
    | (with_reducible refine callF_of (p8) ?_)
    | (with_reducible refine drawF_of (p8) ?_)
    | (with_reducible refine callF_of (p9) ?_)
    | (with_reducible refine drawF_of (p9) ?_)
    | (with_reducible refine callF_of (q1) ?_)
    | (with_reducible refine drawF_of (q1) ?_)
    | (with_reducible refine callF_of (q2) ?_)
    | (with_reducible refine drawF_of (q2) ?_)
    | (with_reducible refine callF_of (q3) ?_)
    | (with_reducible refine drawF_of (q3) ?_)
    | (with_reducible refine callF_of (q4) ?_)
    | (with_reducible refine drawF_of (q4) ?_)
    | (with_reducible refine callF_of (q5) ?_)
    | (with_reducible refine drawF_of (q5) ?_)
    | (with_reducible refine callF_of (q6) ?_)
    | (with_reducible refine drawF_of (q6) ?_)
    | (with_reducible refine callF_of (q7) ?_)
    | (with_reducible refine drawF_of (q7) ?_)
    | (with_reducible refine callF_of (q8) ?_)
    | (with_reducible refine drawF_of (q8) ?_)
    | (with_reducible refine callF_of (q9) ?_)
    | (with_reducible refine drawF_of (q9) ?_)
    | (with_reducible refine callF_of (r1) ?_)
    | (with_reducible refine drawF_of (r1) ?_)
    | (with_reducible refine callF_of (r2) ?_)
    | (with_reducible refine drawF_of (r2) ?_)
    | (with_reducible refine callF_of (r3) ?_)
    | (with_reducible refine drawF_of (r3) ?_)
    | (with_reducible refine callF_of (r4) ?_)
    | (with_reducible refine drawF_of (r4) ?_)
    | (refine after_lit ti_ok ?_)
    | (refine drawAfter_lit ti_ok ?_)
    | (refine drawEnd_of (by kernel_rfl) ?_)
    | ((first | refine cond_cases (fun hc => ?_) (fun hc => ?_) | refine guard_split (fun hc => ?_) (fun hc => ?_) | refine drawGuard_split (fun hc => ?_) (fun hc => ?_)) <;> first | (exfalso; simp only [decide_eq_true_eq, decide_eq_false_iff_not, Bool.not_eq_true, Bool.not_eq_false, Bool.not_eq_true', Bool.not_eq_false'] at hc; omega) | (simp only [hc]; try simp only [decide_eq_true_eq, decide_eq_false_iff_not, Bool.not_eq_true, Bool.not_eq_false, Bool.not_eq_true', Bool.not_eq_false'] at hc))
    | (refine after_need (by omega) ?_)
    | (refine drawAfter_need (by omega) ?_))
  all_goals exact fin_same trivial rfl

theorem adds_law (s : Bool) (r : List (List AV)) (d : Int) (s' : Bool) (r' : List (List AV)) (d' : Int) (hr : r.length ≤ maxLen) (fr : ∀ x ∈ r, FitL [.int .u32] x) (hr' : r'.length ≤ maxLen) (fr' : ∀ x ∈ r', FitL [.int .u32] x) : CallOK Tryd.prog gl 7 [.agg [.v (.bool s), .sl 1 r, .v (.int .i64 d)], .agg [.v (.bool s'), .sl 1 r', .v (.int .i64 d')]] (.v (.bool true)) := by
  unfold maxLen at *
  obtain ⟨ws, hW, rfl, h1⟩ := fit_u32s fr
  obtain ⟨ws', hW', rfl, h1'⟩ := fit_u32s fr'
  by_cases hf : fewR ⟨s, ws, d⟩ ∧ fewR ⟨s', ws', d'⟩
  ·
    obtain ⟨x, h, gx, dx⟩ := few_arg hW hf.1
    obtain ⟨y, h', gy, dy⟩ := few_arg hW' hf.2
    exact adds_in s ws d s' ws' d' x y h h' gx gy dx dy hf
  · exact adds_out s ws d s' ws' d' (by omega) (by omega) hf
end Go.Proofs.YtppdgooakleakaaDoor
