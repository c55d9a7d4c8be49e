/- The statement DyadicRings: its code returns true. -/
import Derived.Test.YtppdgooakleakaaDoorL02b
import Derived.Test.YtppdgooakleakaaDoorU3
set_option linter.unusedSimpArgs false
set_option linter.unusedVariables false
set_option linter.deprecated false
namespace Go.Proofs.YtppdgooakleakaaDoor
open Go Go.Ax
set_option maxRecDepth 100000
set_option maxHeartbeats 4000000

theorem rings_out (s : Bool) (ws : List Nat) (d : Int) (s' : Bool) (ws' : List Nat) (d' : Int) (s'' : Bool) (ws'' : List Nat) (d'' : Int) (hl : ws.length ≤ 9223372036854775807) (hl' : ws'.length ≤ 9223372036854775807) (hl'' : ws''.length ≤ 9223372036854775807) (hf : ¬ (fewR ⟨s, ws, d⟩ ∧ fewR ⟨s', ws', d'⟩ ∧ fewR ⟨s'', ws'', d''⟩)) : CallOK Tryd.prog gl 8 [.agg [.v (.bool s), .sl 1 (u32s ws), .v (.int .i64 d)], .agg [.v (.bool s'), .sl 1 (u32s ws'), .v (.int .i64 d')], .agg [.v (.bool s''), .sl 1 (u32s ws''), .v (.int .i64 d'')]] (.v (.bool (true))) := by
  refine call_ok (C := ⟨Tryd.prog, gl, ti, 93, false⟩) ti_ok mixed 3000 Tryd.call8 Tryd.func8 rfl Tryd.ntmps8 (by simp) byClL byCl ?_
  rw [Tryd.results8]
  have fw := few02_3 s ws d s' ws' d' s'' ws'' d'' hl hl' hl''
  rw [decide_eq_false hf] at fw
  clear hf
  repeat' (first
    | (simp only [go_sem, Int.reduceAdd, Int.reduceEq, Int.reduceLE, Int.reduceLT, Int.reduceMul, Int.reduceNeg, Int.reducePow, Int.reduceSub, Int.reduceToNat, Nat.reduceAdd, Nat.reduceBEq, Nat.reduceEqDiff, Nat.reduceLT, Nat.reduceLeDiff, Nat.reduceMul, Nat.reducePow, Nat.reduceSub, reduceCtorEq, reduceIte, IntKind.bits.eq_def, ti, tin])
    | (simp (disch := omega) only [w64, wu64, wu32, Nat.min_eq_left])
    | (with_reducible refine callF_of (fw) ?_)
    | (with_reducible refine drawF_of (fw) ?_)
    | (with_reducible refine callF_of (awake02) ?_)
    | (with_reducible refine drawF_of (awake02) ?_)
    | (refine after_lit ti_ok ?_)
    | (refine drawAfter_lit ti_ok ?_)
    | (refine drawEnd_of (by kernel_rfl) ?_)
    | ((first | refine cond_cases (fun hc => ?_) (fun hc => ?_) | refine guard_split (fun hc => ?_) (fun hc => ?_) | refine drawGuard_split (fun hc => ?_) (fun hc => ?_)) <;> first | (exfalso; simp only [decide_eq_true_eq, decide_eq_false_iff_not, Bool.not_eq_true, Bool.not_eq_false, Bool.not_eq_true', Bool.not_eq_false'] at hc; omega) | (simp only [hc]; try simp only [decide_eq_true_eq, decide_eq_false_iff_not, Bool.not_eq_true, Bool.not_eq_false, Bool.not_eq_true', Bool.not_eq_false'] at hc))
    | (refine after_need (by omega) ?_)
    | (refine drawAfter_need (by omega) ?_))
  all_goals exact fin_same trivial rfl

theorem rings_in (s : Bool) (ws : List Nat) (d : Int) (s' : Bool) (ws' : List Nat) (d' : Int) (s'' : Bool) (ws'' : List Nat) (d'' : Int) (x : Dy) (y : Dy) (z : Dy) (h : Arg s ws d x) (h' : Arg s' ws' d' y) (h'' : Arg s'' ws'' d'' z) (gx : Mg 512 x) (gy : Mg 512 y) (gz : Mg 512 z) (dx : x.d ≤ 300) (dy : y.d ≤ 300) (dz : z.d ≤ 300) (hf : fewR ⟨s, ws, d⟩ ∧ fewR ⟨s', ws', d'⟩ ∧ fewR ⟨s'', ws'', d''⟩) : CallOK Tryd.prog gl 8 [.agg [.v (.bool s), .sl 1 (u32s ws), .v (.int .i64 d)], .agg [.v (.bool s'), .sl 1 (u32s ws'), .v (.int .i64 d')], .agg [.v (.bool s''), .sl 1 (u32s ws''), .v (.int .i64 d'')]] (.v (.bool (true))) := by
  refine call_ok (C := ⟨Tryd.prog, gl, ti, 93, false⟩) ti_ok mixed 3000 Tryd.call8 Tryd.func8 rfl Tryd.ntmps8 (by simp) byClL byCl ?_
  rw [Tryd.results8]
  have fw := few02_3 s ws d s' ws' d' s'' ws'' d'' (by have := h.len; omega) (by have := h'.len; omega) (by have := h''.len; omega)
  rw [decide_eq_true hf] at fw
  clear hf
  have p1 := Add_ok _ _ _ _ _ _ _ _ h h'
  have p2 := Add_ok _ _ _ _ _ _ _ _ h' h
  rw [Dy.add_comm y x] at p2
  have m1 := Mul_ok _ _ _ _ _ _ _ _ h h'
  have m2 := Mul_ok _ _ _ _ _ _ _ _ h' h
  rw [Dy.mul_comm y x] at m2
  have gxy := gx.add gy
  have gmxy := gx.mul gy
  have p3 := Add_ok _ _ _ _ _ _ _ _ gxy.arg h''
  have gyz := gy.add gz
  have gmyz := gy.mul gz
  have p4 := Add_ok _ _ _ _ _ _ _ _ h' h''
  have p5 := Add_ok _ _ _ _ _ _ _ _ h gyz.arg
  rw [← Dy.add_assoc] at p5
  have m3 := Mul_ok _ _ _ _ _ _ _ _ gmxy.arg h''
  have m4 := Mul_ok _ _ _ _ _ _ _ _ h' h''
  have m5 := Mul_ok _ _ _ _ _ _ _ _ h gmyz.arg
  rw [← Dy.mul_assoc (by omega)] at m5
  have m6 := Mul_ok _ _ _ _ _ _ _ _ h gyz.arg
  rw [Dy.mul_add (by omega)] at m6
  have m7 := Mul_ok _ _ _ _ _ _ _ _ h h''
  have gmxz := gx.mul gz
  have p6 := Add_ok _ _ _ _ _ _ _ _ gmxy.arg gmxz.arg
  have s1 := same_ok gxy
  have s2 := same_ok gmxy
  have s3 := same_ok (gxy.add (gz.mono (by omega)))
  have s4 := same_ok (gmxy.mul gz)
  have s5 := same_ok (gmxy.add gmxz)
  have b1 := Sub_ok _ _ _ _ _ _ _ _ gxy.arg h'
  rw [Dy.add_sub_cancel] at b1
  have c1 := Cmp_ok _ _ _ _ _ _ _ _ gx.arg h
  rw [cmp_self] at c1
  have sh1 := Shift_ok _ _ _ (-7) _ h
  have gs := gx.shift (-7)
  have hk : (clipD (-7)).toNat = 0 := by decide
  rw [hk] at gs
  have sh2 := Shift_ok _ _ _ 7 _ gs.arg
  have e7 : (x.shift (-7)).shift 7 = x := Dy.shift_back (j := 7) (by omega)
  rw [e7] at sh2
  clear e7 gs hk gxy gmxy gyz gmyz gmxz gx gy gz
  generalize x.shift (-7) = z0 at *
  generalize (x.mul y).mul z = z6 at *
  generalize (x.mul y).add (x.mul z) = z7 at *
  generalize (x.add y).add z = z5 at *
  generalize x.mul y = z1 at *
  generalize x.mul z = z2 at *
  generalize y.mul z = z3 at *
  generalize x.add y = z4 at *
  generalize y.add z = z8 at *
  repeat' (first
    | (simp only [go_sem, Int.reduceAdd, Int.reduceEq, Int.reduceLE, Int.reduceLT, Int.reduceMul, Int.reduceNeg, Int.reducePow, Int.reduceSub, Int.reduceToNat, Nat.reduceAdd, Nat.reduceBEq, Nat.reduceEqDiff, Nat.reduceLT, Nat.reduceLeDiff, Nat.reduceMul, Nat.reducePow, Nat.reduceSub, reduceCtorEq, reduceIte, IntKind.bits.eq_def, ti, tin])
    | (simp (disch := omega) only [w64, wu64, wu32, Nat.min_eq_left])
    | (with_reducible refine callF_of (fw) ?_)
    | (with_reducible refine drawF_of (fw) ?_)
    | (with_reducible refine callF_of (awake02) ?_)
    | (with_reducible refine drawF_of (awake02) ?_)
    | (with_reducible refine callF_of (p1) ?_)
    | (with_reducible refine drawF_of (p1) ?_)
    | (with_reducible refine callF_of (p2) ?_)
    | (with_reducible refine drawF_of (p2) ?_)
    | (with_reducible refine callF_of (p3) ?_)
    | (with_reducible refine drawF_of (p3) ?_)
    | (with_reducible refine callF_of (p4) ?_)
    | (with_reducible refine drawF_of (p4) ?_)
    | (with_reducible refine callF_of (p5) ?_)
    | (with_reducible refine drawF_of (p5) ?_)
    | (with_reducible refine callF_of (p6) ?_)
    | (with_reducible refine drawF_of (p6) ?_)
    | (with_reducible refine callF_of (m1) ?_)
    | (with_reducible refine drawF_of (m1) ?_)
    | (with_reducible refine callF_of (m2) ?_)
    | (with_reducible refine drawF_of (m2) ?_)
    | (with_reducible refine callF_of (m3) ?_)
    | (with_reducible refine drawF_of (m3) ?_)
    | (with_reducible refine callF_of (m4) ?_)
    | (with_reducible refine drawF_of (m4) ?_)
    | (with_reducible refine callF_of (m5) ?_)
    | (with_reducible refine drawF_of (m5) ?_)
    | (with_reducible refine callF_of (m6) ?_)
    | (with_reducible refine drawF_of (m6) ?_)
    | (with_reducible refine callF_of (m7) ?_)
    | (with_reducible refine drawF_of (m7) ?_)
    | (with_reducible refine callF_of (s1) ?_)
    | (with_reducible refine drawF_of (s1) ?_)
    | (with_reducible refine callF_of (s2) ?_)
    | (with_reducible refine drawF_of (s2) ?_)
    | (with_reducible refine callF_of (s3) ?_)
    | (with_reducible refine drawF_of (s3) ?_)
    | (with_reducible refine callF_of (s4) ?_)
    | (with_reducible refine drawF_of (s4) ?_)
    | (with_reducible refine callF_of (s5) ?_)
    | (with_reducible refine drawF_of (s5) ?_)
    | (with_reducible refine callF_of (b1) ?_)
    | (with_reducible refine drawF_of (b1) ?_)
    | (with_reducible refine callF_of (c1) ?_)
    | (with_reducible refine drawF_of (c1) ?_)
    | (with_reducible refine callF_of (sh1) ?_)
    | (with_reducible refine drawF_of (sh1) ?_)
    | (with_reducible refine callF_of (sh2) ?_)
    | (with_reducible refine drawF_of (sh2) ?_)
    | (refine after_lit ti_ok ?_)
    | (refine drawAfter_lit ti_ok ?_)
    | (refine drawEnd_of (by kernel_rfl) ?_)
    | ((first | refine cond_cases (fun hc => ?_) (fun hc => ?_) | refine guard_split (fun hc => ?_) (fun hc => ?_) | refine drawGuard_split (fun hc => ?_) (fun hc => ?_)) <;> first | (exfalso; simp only [decide_eq_true_eq, decide_eq_false_iff_not, Bool.not_eq_true, Bool.not_eq_false, Bool.not_eq_true', Bool.not_eq_false'] at hc; omega) | (simp only [hc]; try simp only [decide_eq_true_eq, decide_eq_false_iff_not, Bool.not_eq_true, Bool.not_eq_false, Bool.not_eq_true', Bool.not_eq_false'] at hc))
    | (refine after_need (by omega) ?_)
    | (refine drawAfter_need (by omega) ?_))
  all_goals exact fin_same trivial rfl

theorem rings_law (s : Bool) (r : List (List AV)) (d : Int) (s' : Bool) (r' : List (List AV)) (d' : Int) (s'' : Bool) (r'' : List (List AV)) (d'' : Int) (hr : r.length ≤ maxLen) (fr : ∀ x ∈ r, FitL [.int .u32] x) (hr' : r'.length ≤ maxLen) (fr' : ∀ x ∈ r', FitL [.int .u32] x) (hr'' : r''.length ≤ maxLen) (fr'' : ∀ x ∈ r'', FitL [.int .u32] x) : CallOK Tryd.prog gl 8 [.agg [.v (.bool s), .sl 1 r, .v (.int .i64 d)], .agg [.v (.bool s'), .sl 1 r', .v (.int .i64 d')], .agg [.v (.bool s''), .sl 1 r'', .v (.int .i64 d'')]] (.v (.bool true)) := by
  unfold maxLen at *
  obtain ⟨ws, hW, rfl, h1⟩ := fit_u32s fr
  obtain ⟨ws', hW', rfl, h1'⟩ := fit_u32s fr'
  obtain ⟨ws'', hW'', rfl, h1''⟩ := fit_u32s fr''
  by_cases hf : fewR ⟨s, ws, d⟩ ∧ fewR ⟨s', ws', d'⟩ ∧ fewR ⟨s'', ws'', d''⟩
  ·
    obtain ⟨x, h, gx, dx⟩ := few_arg hW hf.1
    obtain ⟨y, h', gy, dy⟩ := few_arg hW' hf.2.1
    obtain ⟨z, h'', gz, dz⟩ := few_arg hW'' hf.2.2
    exact rings_in s ws d s' ws' d' s'' ws'' d'' x y z h h' h'' gx gy gz dx dy dz hf
  · exact rings_out s ws d s' ws' d' s'' ws'' d'' (by omega) (by omega) (by omega) hf
end Go.Proofs.YtppdgooakleakaaDoor
