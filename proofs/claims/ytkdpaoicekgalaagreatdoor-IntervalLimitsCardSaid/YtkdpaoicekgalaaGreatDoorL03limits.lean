/- The statement IntervalLimits: its code returns true. -/
import Derived.Test.YtkdpaoicekgalaaGreatDoorL03
set_option linter.unusedSimpArgs false
set_option linter.unusedVariables false
set_option linter.deprecated false
namespace Go.Proofs.YtkdpaoicekgalaaGreatDoor
open Go Go.Ax
set_option maxRecDepth 100000
set_option maxHeartbeats 4000000

theorem limits_big (s1 : Bool) (w1 : List Nat) (d1 : Int) (t1 : Bool) (u1 : List Nat) (e1 : Int) (l1 : w1.length ≤ 9223372036854775807 ∧ u1.length ≤ 9223372036854775807) (s2 : Bool) (w2 : List Nat) (d2 : Int) (t2 : Bool) (u2 : List Nat) (e2 : Int) (l2 : w2.length ≤ 9223372036854775807 ∧ u2.length ≤ 9223372036854775807) (n : Int) (hf : shI ⟨s1, w1, d1, t1, u1, e1⟩ ∧ shI ⟨s2, w2, d2, t2, u2, e2⟩) (hn : 300 < n ∧ n ≤ 65536) : CallOK Tryz.prog gl 8 [.agg [.v (.bool s1), .sl 1 (u32s w1), .v (.int .i64 d1), .v (.bool t1), .sl 1 (u32s u1), .v (.int .i64 e1)], .agg [.v (.bool s2), .sl 1 (u32s w2), .v (.int .i64 d2), .v (.bool t2), .sl 1 (u32s u2), .v (.int .i64 e2)], .v (.int .i64 n)] (.v (.bool (true))) := by
  refine call_ok (C := ⟨Tryz.prog, gl, ti, 139, false⟩) ti_ok mixed 3000 Tryz.call8 Tryz.func8 rfl Tryz.ntmps8 (by simp) byClL byCl ?_
  rw [Tryz.results8]
  have fw := few03_2 s1 w1 d1 t1 u1 e1 l1 s2 w2 d2 t2 u2 e2 l2
  rw [decide_eq_true hf] at fw
  clear hf
  repeat' (first | (simp only [go_sem, Int.reduceAdd, Int.reduceEq, Int.reduceLE, Int.reduceLT, Int.reduceMul, Int.reduceNeg, Int.reducePow, Int.reduceSub, Int.reduceToNat, Nat.reduceAdd, Nat.reduceBEq, Nat.reduceEqDiff, Nat.reduceLT, Nat.reduceLeDiff, Nat.reduceMul, Nat.reducePow, Nat.reduceSub, reduceCtorEq, reduceIte, IntKind.bits.eq_def, ti, tin]) | (simp (disch := omega) only [w64, wu64, wu32, Nat.min_eq_left]) | (with_reducible first | refine callF_of (fw) ?_ | refine drawF_of (fw) ?_) | (with_reducible first | refine callF_of (awake03) ?_ | refine drawF_of (awake03) ?_) | (refine after_lit ti_ok ?_) | (refine drawAfter_lit ti_ok ?_) | (refine drawEnd_of (by kernel_rfl) ?_) | ((first | refine cond_cases (fun hc => ?_) (fun hc => ?_) | refine guard_split (fun hc => ?_) (fun hc => ?_) | refine drawGuard_split (fun hc => ?_) (fun hc => ?_)) <;> first | (exfalso; simp only [dcT, dcF, bnT, bnF, bnU, bnV] at hc; omega) | (simp only [hc]; try simp only [dcT, dcF, bnT, bnF, bnU, bnV] at hc)) | (refine after_need (by omega) ?_) | (refine drawAfter_need (by omega) ?_))
  all_goals exact fin_same trivial rfl
theorem limits_out (s1 : Bool) (w1 : List Nat) (d1 : Int) (t1 : Bool) (u1 : List Nat) (e1 : Int) (l1 : w1.length ≤ 9223372036854775807 ∧ u1.length ≤ 9223372036854775807) (s2 : Bool) (w2 : List Nat) (d2 : Int) (t2 : Bool) (u2 : List Nat) (e2 : Int) (l2 : w2.length ≤ 9223372036854775807 ∧ u2.length ≤ 9223372036854775807) (n : Int) (hf : ¬ (shI ⟨s1, w1, d1, t1, u1, e1⟩ ∧ shI ⟨s2, w2, d2, t2, u2, e2⟩)) : CallOK Tryz.prog gl 8 [.agg [.v (.bool s1), .sl 1 (u32s w1), .v (.int .i64 d1), .v (.bool t1), .sl 1 (u32s u1), .v (.int .i64 e1)], .agg [.v (.bool s2), .sl 1 (u32s w2), .v (.int .i64 d2), .v (.bool t2), .sl 1 (u32s u2), .v (.int .i64 e2)], .v (.int .i64 n)] (.v (.bool (true))) := by
  refine call_ok (C := ⟨Tryz.prog, gl, ti, 139, false⟩) ti_ok mixed 3000 Tryz.call8 Tryz.func8 rfl Tryz.ntmps8 (by simp) byClL byCl ?_
  rw [Tryz.results8]
  have fw := few03_2 s1 w1 d1 t1 u1 e1 l1 s2 w2 d2 t2 u2 e2 l2
  rw [decide_eq_false hf] at fw
  clear hf
  repeat' (first | (simp only [go_sem, Int.reduceAdd, Int.reduceEq, Int.reduceLE, Int.reduceLT, Int.reduceMul, Int.reduceNeg, Int.reducePow, Int.reduceSub, Int.reduceToNat, Nat.reduceAdd, Nat.reduceBEq, Nat.reduceEqDiff, Nat.reduceLT, Nat.reduceLeDiff, Nat.reduceMul, Nat.reducePow, Nat.reduceSub, reduceCtorEq, reduceIte, IntKind.bits.eq_def, ti, tin]) | (simp (disch := omega) only [w64, wu64, wu32, Nat.min_eq_left]) | (with_reducible first | refine callF_of (fw) ?_ | refine drawF_of (fw) ?_) | (with_reducible first | refine callF_of (awake03) ?_ | refine drawF_of (awake03) ?_) | (refine after_lit ti_ok ?_) | (refine drawAfter_lit ti_ok ?_) | (refine drawEnd_of (by kernel_rfl) ?_) | ((first | refine cond_cases (fun hc => ?_) (fun hc => ?_) | refine guard_split (fun hc => ?_) (fun hc => ?_) | refine drawGuard_split (fun hc => ?_) (fun hc => ?_)) <;> first | (exfalso; simp only [dcT, dcF, bnT, bnF, bnU, bnV] at hc; omega) | (simp only [hc]; try simp only [dcT, dcF, bnT, bnF, bnU, bnV] at hc)) | (refine after_need (by omega) ?_) | (refine drawAfter_need (by omega) ?_))
  all_goals exact fin_same trivial rfl
theorem limits_nnnn (s1 : Bool) (w1 : List Nat) (d1 : Int) (t1 : Bool) (u1 : List Nat) (e1 : Int) (x1 y1 : Dy) (a1 : Iv) (h1 : IArg s1 w1 d1 t1 u1 e1 x1 y1 a1) (g1 : a1.Mg 256) (k1 : a1.Dn 200) (gx1 : Mg 256 x1) (gy1 : Mg 256 y1) (s2 : Bool) (w2 : List Nat) (d2 : Int) (t2 : Bool) (u2 : List Nat) (e2 : Int) (x2 y2 : Dy) (a2 : Iv) (h2 : IArg s2 w2 d2 t2 u2 e2 x2 y2 a2) (g2 : a2.Mg 256) (k2 : a2.Dn 200) (gx2 : Mg 256 x2) (gy2 : Mg 256 y2) (n : Int) (hf : shI ⟨s1, w1, d1, t1, u1, e1⟩ ∧ shI ⟨s2, w2, d2, t2, u2, e2⟩) (hm : (a1.hi.min a2.hi).v < (a1.lo.max a2.lo).v) (hw : x2.v < 0) (hcl : y2.v < x2.v) (hr : n < 0 ∨ 65536 < n) : CallOK Tryz.prog gl 8 [.agg [.v (.bool s1), .sl 1 (u32s w1), .v (.int .i64 d1), .v (.bool t1), .sl 1 (u32s u1), .v (.int .i64 e1)], .agg [.v (.bool s2), .sl 1 (u32s w2), .v (.int .i64 d2), .v (.bool t2), .sl 1 (u32s u2), .v (.int .i64 e2)], .v (.int .i64 n)] (.v (.bool (true))) := by
  refine call_ok (C := ⟨Tryz.prog, gl, ti, 139, false⟩) ti_ok mixed 3000 Tryz.call8 Tryz.func8 rfl Tryz.ntmps8 (by simp) byClL byCl ?_
  rw [Tryz.results8]
  have fw := few03_2 s1 w1 d1 t1 u1 e1 ⟨by have := h1.px.len; omega, by have := h1.py.len; omega⟩ s2 w2 d2 t2 u2 e2 ⟨by have := h2.px.len; omega, by have := h2.py.len; omega⟩
  rw [decide_eq_true hf] at fw
  clear hf
  have m1 := iv_Meet_err _ _ _ _ _ _ _ _ _ h1 _ _ _ _ _ _ _ _ _ h2 hm
  have m2 := ri_Meet_err _ _ _ _ _ _ _ _ _ h1 _ _ _ _ _ _ _ _ _ h2 hm
  have m3 := ri_same (Iv.Mg.zero 1)
  have m4 := base_Num 23
  clear hm
  have w1 := iv_Widen_err _ _ _ _ _ _ _ _ _ h1 _ _ _ _ h2.px hw
  have w2 := ri_Widen_err _ _ _ _ _ _ _ _ _ h1 _ _ _ _ h2.px hw
  have w3 := ri_same (Iv.Mg.zero 1)
  have w4 := base_Num 3
  clear hw
  have c1 := iv_Clip_err _ _ _ _ _ _ _ _ _ h1 _ _ _ _ h2.px _ _ _ _ h2.py hcl
  have c2 := ri_Clip_err _ _ _ _ _ _ _ _ _ h1 _ _ _ _ h2.px _ _ _ _ h2.py hcl
  have c3 := ri_same (Iv.Mg.zero 1)
  have c4 := base_Num 3
  clear hcl
  have r1 := iv_Round_err _ _ _ _ _ _ _ _ _ h1 n hr
  have r2 := ri_Round_err _ _ _ _ _ _ _ _ _ h1 n hr
  have r3 := ri_same (Iv.Mg.zero 1)
  have r4 := base_Num 3
  have nb : ¬ (300 < n ∧ n ≤ 65536) := by omega
  repeat' (first | (simp only [go_sem, Int.reduceAdd, Int.reduceEq, Int.reduceLE, Int.reduceLT, Int.reduceMul, Int.reduceNeg, Int.reducePow, Int.reduceSub, Int.reduceToNat, Nat.reduceAdd, Nat.reduceBEq, Nat.reduceEqDiff, Nat.reduceLT, Nat.reduceLeDiff, Nat.reduceMul, Nat.reducePow, Nat.reduceSub, reduceCtorEq, reduceIte, IntKind.bits.eq_def, ti, tin]) | (simp (disch := omega) only [w64, wu64, wu32, Nat.min_eq_left]) | (with_reducible first | refine callF_of (fw) ?_ | refine drawF_of (fw) ?_) | (with_reducible first | refine callF_of (awake03) ?_ | refine drawF_of (awake03) ?_) | (with_reducible first | refine callF_of (m1) ?_ | refine drawF_of (m1) ?_) | (with_reducible first | refine callF_of (m2) ?_ | refine drawF_of (m2) ?_) | (with_reducible first | refine callF_of (m3) ?_ | refine drawF_of (m3) ?_) | (with_reducible first | refine callF_of (m4) ?_ | refine drawF_of (m4) ?_) | (with_reducible first | refine callF_of (w1) ?_ | refine drawF_of (w1) ?_) | (with_reducible first | refine callF_of (w2) ?_ | refine drawF_of (w2) ?_) | (with_reducible first | refine callF_of (w3) ?_ | refine drawF_of (w3) ?_) | (with_reducible first | refine callF_of (w4) ?_ | refine drawF_of (w4) ?_) | (with_reducible first | refine callF_of (c1) ?_ | refine drawF_of (c1) ?_) | (with_reducible first | refine callF_of (c2) ?_ | refine drawF_of (c2) ?_) | (with_reducible first | refine callF_of (c3) ?_ | refine drawF_of (c3) ?_) | (with_reducible first | refine callF_of (c4) ?_ | refine drawF_of (c4) ?_) | (with_reducible first | refine callF_of (r1) ?_ | refine drawF_of (r1) ?_) | (with_reducible first | refine callF_of (r2) ?_ | refine drawF_of (r2) ?_) | (with_reducible first | refine callF_of (r3) ?_ | refine drawF_of (r3) ?_) | (with_reducible first | refine callF_of (r4) ?_ | refine drawF_of (r4) ?_) | (refine after_lit ti_ok ?_) | (refine drawAfter_lit ti_ok ?_) | (refine drawEnd_of (by kernel_rfl) ?_) | ((first | refine cond_cases (fun hc => ?_) (fun hc => ?_) | refine guard_split (fun hc => ?_) (fun hc => ?_) | refine drawGuard_split (fun hc => ?_) (fun hc => ?_)) <;> first | (exfalso; simp only [dcT, dcF, bnT, bnF, bnU, bnV] at hc; omega) | (simp only [hc]; try simp only [dcT, dcF, bnT, bnF, bnU, bnV] at hc)) | (refine after_need (by omega) ?_) | (refine drawAfter_need (by omega) ?_))
  all_goals exact fin_same trivial rfl
theorem limits_nnny (s1 : Bool) (w1 : List Nat) (d1 : Int) (t1 : Bool) (u1 : List Nat) (e1 : Int) (x1 y1 : Dy) (a1 : Iv) (h1 : IArg s1 w1 d1 t1 u1 e1 x1 y1 a1) (g1 : a1.Mg 256) (k1 : a1.Dn 200) (gx1 : Mg 256 x1) (gy1 : Mg 256 y1) (s2 : Bool) (w2 : List Nat) (d2 : Int) (t2 : Bool) (u2 : List Nat) (e2 : Int) (x2 y2 : Dy) (a2 : Iv) (h2 : IArg s2 w2 d2 t2 u2 e2 x2 y2 a2) (g2 : a2.Mg 256) (k2 : a2.Dn 200) (gx2 : Mg 256 x2) (gy2 : Mg 256 y2) (n : Int) (hf : shI ⟨s1, w1, d1, t1, u1, e1⟩ ∧ shI ⟨s2, w2, d2, t2, u2, e2⟩) (hm : (a1.hi.min a2.hi).v < (a1.lo.max a2.lo).v) (hw : x2.v < 0) (hcl : y2.v < x2.v) (hr : ¬ (n < 0 ∨ 300 < n)) : CallOK Tryz.prog gl 8 [.agg [.v (.bool s1), .sl 1 (u32s w1), .v (.int .i64 d1), .v (.bool t1), .sl 1 (u32s u1), .v (.int .i64 e1)], .agg [.v (.bool s2), .sl 1 (u32s w2), .v (.int .i64 d2), .v (.bool t2), .sl 1 (u32s u2), .v (.int .i64 e2)], .v (.int .i64 n)] (.v (.bool (true))) := by
  refine call_ok (C := ⟨Tryz.prog, gl, ti, 139, false⟩) ti_ok mixed 3000 Tryz.call8 Tryz.func8 rfl Tryz.ntmps8 (by simp) byClL byCl ?_
  rw [Tryz.results8]
  have fw := few03_2 s1 w1 d1 t1 u1 e1 ⟨by have := h1.px.len; omega, by have := h1.py.len; omega⟩ s2 w2 d2 t2 u2 e2 ⟨by have := h2.px.len; omega, by have := h2.py.len; omega⟩
  rw [decide_eq_true hf] at fw
  clear hf
  have m1 := iv_Meet_err _ _ _ _ _ _ _ _ _ h1 _ _ _ _ _ _ _ _ _ h2 hm
  have m2 := ri_Meet_err _ _ _ _ _ _ _ _ _ h1 _ _ _ _ _ _ _ _ _ h2 hm
  have m3 := ri_same (Iv.Mg.zero 1)
  have m4 := base_Num 23
  clear hm
  have w1 := iv_Widen_err _ _ _ _ _ _ _ _ _ h1 _ _ _ _ h2.px hw
  have w2 := ri_Widen_err _ _ _ _ _ _ _ _ _ h1 _ _ _ _ h2.px hw
  have w3 := ri_same (Iv.Mg.zero 1)
  have w4 := base_Num 3
  clear hw
  have c1 := iv_Clip_err _ _ _ _ _ _ _ _ _ h1 _ _ _ _ h2.px _ _ _ _ h2.py hcl
  have c2 := ri_Clip_err _ _ _ _ _ _ _ _ _ h1 _ _ _ _ h2.px _ _ _ _ h2.py hcl
  have c3 := ri_same (Iv.Mg.zero 1)
  have c4 := base_Num 3
  clear hcl
  obtain ⟨n, rfl⟩ : ∃ n1 : Nat, n = n1 := ⟨n.toNat, by omega⟩
  have r1 := iv_Round _ _ _ _ _ _ _ _ _ h1 n (by omega) 256 g1 (by omega)
  have r2 := ri_Round _ _ _ _ _ _ _ _ _ h1 n (by omega) 256 g1 (by omega)
  have r3 := ri_same (a := rnd a1 n k1 (by omega)) (k := 257) ⟨g1.1.floor, g1.2.neg.floor.neg⟩
  unfold rnd at r3
  dsimp only at r3
  have r4 := base_Num_nil
  generalize a1.lo.floor n = z74 at *
  generalize a1.hi.ceil n = z75 at *
  repeat' (first | (simp only [go_sem, Int.reduceAdd, Int.reduceEq, Int.reduceLE, Int.reduceLT, Int.reduceMul, Int.reduceNeg, Int.reducePow, Int.reduceSub, Int.reduceToNat, Nat.reduceAdd, Nat.reduceBEq, Nat.reduceEqDiff, Nat.reduceLT, Nat.reduceLeDiff, Nat.reduceMul, Nat.reducePow, Nat.reduceSub, reduceCtorEq, reduceIte, IntKind.bits.eq_def, ti, tin]) | (simp (disch := omega) only [w64, wu64, wu32, Nat.min_eq_left]) | (with_reducible first | refine callF_of (fw) ?_ | refine drawF_of (fw) ?_) | (with_reducible first | refine callF_of (awake03) ?_ | refine drawF_of (awake03) ?_) | (with_reducible first | refine callF_of (m1) ?_ | refine drawF_of (m1) ?_) | (with_reducible first | refine callF_of (m2) ?_ | refine drawF_of (m2) ?_) | (with_reducible first | refine callF_of (m3) ?_ | refine drawF_of (m3) ?_) | (with_reducible first | refine callF_of (m4) ?_ | refine drawF_of (m4) ?_) | (with_reducible first | refine callF_of (w1) ?_ | refine drawF_of (w1) ?_) | (with_reducible first | refine callF_of (w2) ?_ | refine drawF_of (w2) ?_) | (with_reducible first | refine callF_of (w3) ?_ | refine drawF_of (w3) ?_) | (with_reducible first | refine callF_of (w4) ?_ | refine drawF_of (w4) ?_) | (with_reducible first | refine callF_of (c1) ?_ | refine drawF_of (c1) ?_) | (with_reducible first | refine callF_of (c2) ?_ | refine drawF_of (c2) ?_) | (with_reducible first | refine callF_of (c3) ?_ | refine drawF_of (c3) ?_) | (with_reducible first | refine callF_of (c4) ?_ | refine drawF_of (c4) ?_) | (with_reducible first | refine callF_of (r1) ?_ | refine drawF_of (r1) ?_) | (with_reducible first | refine callF_of (r2) ?_ | refine drawF_of (r2) ?_) | (with_reducible first | refine callF_of (r3) ?_ | refine drawF_of (r3) ?_) | (with_reducible first | refine callF_of (r4) ?_ | refine drawF_of (r4) ?_) | (refine after_lit ti_ok ?_) | (refine drawAfter_lit ti_ok ?_) | (refine drawEnd_of (by kernel_rfl) ?_) | ((first | refine cond_cases (fun hc => ?_) (fun hc => ?_) | refine guard_split (fun hc => ?_) (fun hc => ?_) | refine drawGuard_split (fun hc => ?_) (fun hc => ?_)) <;> first | (exfalso; simp only [dcT, dcF, bnT, bnF, bnU, bnV] at hc; omega) | (simp only [hc]; try simp only [dcT, dcF, bnT, bnF, bnU, bnV] at hc)) | (refine after_need (by omega) ?_) | (refine drawAfter_need (by omega) ?_))
  all_goals exact fin_same trivial rfl
theorem limits_nnyn (s1 : Bool) (w1 : List Nat) (d1 : Int) (t1 : Bool) (u1 : List Nat) (e1 : Int) (x1 y1 : Dy) (a1 : Iv) (h1 : IArg s1 w1 d1 t1 u1 e1 x1 y1 a1) (g1 : a1.Mg 256) (k1 : a1.Dn 200) (gx1 : Mg 256 x1) (gy1 : Mg 256 y1) (s2 : Bool) (w2 : List Nat) (d2 : Int) (t2 : Bool) (u2 : List Nat) (e2 : Int) (x2 y2 : Dy) (a2 : Iv) (h2 : IArg s2 w2 d2 t2 u2 e2 x2 y2 a2) (g2 : a2.Mg 256) (k2 : a2.Dn 200) (gx2 : Mg 256 x2) (gy2 : Mg 256 y2) (n : Int) (hf : shI ⟨s1, w1, d1, t1, u1, e1⟩ ∧ shI ⟨s2, w2, d2, t2, u2, e2⟩) (hm : (a1.hi.min a2.hi).v < (a1.lo.max a2.lo).v) (hw : x2.v < 0) (hcl : x2.v ≤ y2.v) (hr : n < 0 ∨ 65536 < n) : CallOK Tryz.prog gl 8 [.agg [.v (.bool s1), .sl 1 (u32s w1), .v (.int .i64 d1), .v (.bool t1), .sl 1 (u32s u1), .v (.int .i64 e1)], .agg [.v (.bool s2), .sl 1 (u32s w2), .v (.int .i64 d2), .v (.bool t2), .sl 1 (u32s u2), .v (.int .i64 e2)], .v (.int .i64 n)] (.v (.bool (true))) := by
  refine call_ok (C := ⟨Tryz.prog, gl, ti, 139, false⟩) ti_ok mixed 3000 Tryz.call8 Tryz.func8 rfl Tryz.ntmps8 (by simp) byClL byCl ?_
  rw [Tryz.results8]
  have fw := few03_2 s1 w1 d1 t1 u1 e1 ⟨by have := h1.px.len; omega, by have := h1.py.len; omega⟩ s2 w2 d2 t2 u2 e2 ⟨by have := h2.px.len; omega, by have := h2.py.len; omega⟩
  rw [decide_eq_true hf] at fw
  clear hf
  have m1 := iv_Meet_err _ _ _ _ _ _ _ _ _ h1 _ _ _ _ _ _ _ _ _ h2 hm
  have m2 := ri_Meet_err _ _ _ _ _ _ _ _ _ h1 _ _ _ _ _ _ _ _ _ h2 hm
  have m3 := ri_same (Iv.Mg.zero 1)
  have m4 := base_Num 23
  clear hm
  have w1 := iv_Widen_err _ _ _ _ _ _ _ _ _ h1 _ _ _ _ h2.px hw
  have w2 := ri_Widen_err _ _ _ _ _ _ _ _ _ h1 _ _ _ _ h2.px hw
  have w3 := ri_same (Iv.Mg.zero 1)
  have w4 := base_Num 3
  clear hw
  have c1 := iv_Clip _ _ _ _ _ _ _ _ _ h1 _ _ _ _ h2.px _ _ _ _ h2.py hcl
  have c2 := ri_Clip _ _ _ _ _ _ _ _ _ h1 _ _ _ _ h2.px _ _ _ _ h2.py hcl
  have c3 := ri_same ((g1.max (Iv.Mg.pt gx2)).min (Iv.Mg.pt gy2))
  have c4 := base_Num_nil
  clear hcl
  have r1 := iv_Round_err _ _ _ _ _ _ _ _ _ h1 n hr
  have r2 := ri_Round_err _ _ _ _ _ _ _ _ _ h1 n hr
  have r3 := ri_same (Iv.Mg.zero 1)
  have r4 := base_Num 3
  have nb : ¬ (300 < n ∧ n ≤ 65536) := by omega
  generalize (a1.max (Iv.pt x2)).min (Iv.pt y2) = z73 at *
  repeat' (first | (simp only [go_sem, Int.reduceAdd, Int.reduceEq, Int.reduceLE, Int.reduceLT, Int.reduceMul, Int.reduceNeg, Int.reducePow, Int.reduceSub, Int.reduceToNat, Nat.reduceAdd, Nat.reduceBEq, Nat.reduceEqDiff, Nat.reduceLT, Nat.reduceLeDiff, Nat.reduceMul, Nat.reducePow, Nat.reduceSub, reduceCtorEq, reduceIte, IntKind.bits.eq_def, ti, tin]) | (simp (disch := omega) only [w64, wu64, wu32, Nat.min_eq_left]) | (with_reducible first | refine callF_of (fw) ?_ | refine drawF_of (fw) ?_) | (with_reducible first | refine callF_of (awake03) ?_ | refine drawF_of (awake03) ?_) | (with_reducible first | refine callF_of (m1) ?_ | refine drawF_of (m1) ?_) | (with_reducible first | refine callF_of (m2) ?_ | refine drawF_of (m2) ?_) | (with_reducible first | refine callF_of (m3) ?_ | refine drawF_of (m3) ?_) | (with_reducible first | refine callF_of (m4) ?_ | refine drawF_of (m4) ?_) | (with_reducible first | refine callF_of (w1) ?_ | refine drawF_of (w1) ?_) | (with_reducible first | refine callF_of (w2) ?_ | refine drawF_of (w2) ?_) | (with_reducible first | refine callF_of (w3) ?_ | refine drawF_of (w3) ?_) | (with_reducible first | refine callF_of (w4) ?_ | refine drawF_of (w4) ?_) | (with_reducible first | refine callF_of (c1) ?_ | refine drawF_of (c1) ?_) | (with_reducible first | refine callF_of (c2) ?_ | refine drawF_of (c2) ?_) | (with_reducible first | refine callF_of (c3) ?_ | refine drawF_of (c3) ?_) | (with_reducible first | refine callF_of (c4) ?_ | refine drawF_of (c4) ?_) | (with_reducible first | refine callF_of (r1) ?_ | refine drawF_of (r1) ?_) | (with_reducible first | refine callF_of (r2) ?_ | refine drawF_of (r2) ?_) | (with_reducible first | refine callF_of (r3) ?_ | refine drawF_of (r3) ?_) | (with_reducible first | refine callF_of (r4) ?_ | refine drawF_of (r4) ?_) | (refine after_lit ti_ok ?_) | (refine drawAfter_lit ti_ok ?_) | (refine drawEnd_of (by kernel_rfl) ?_) | ((first | refine cond_cases (fun hc => ?_) (fun hc => ?_) | refine guard_split (fun hc => ?_) (fun hc => ?_) | refine drawGuard_split (fun hc => ?_) (fun hc => ?_)) <;> first | (exfalso; simp only [dcT, dcF, bnT, bnF, bnU, bnV] at hc; omega) | (simp only [hc]; try simp only [dcT, dcF, bnT, bnF, bnU, bnV] at hc)) | (refine after_need (by omega) ?_) | (refine drawAfter_need (by omega) ?_))
  all_goals exact fin_same trivial rfl
theorem limits_nnyy (s1 : Bool) (w1 : List Nat) (d1 : Int) (t1 : Bool) (u1 : List Nat) (e1 : Int) (x1 y1 : Dy) (a1 : Iv) (h1 : IArg s1 w1 d1 t1 u1 e1 x1 y1 a1) (g1 : a1.Mg 256) (k1 : a1.Dn 200) (gx1 : Mg 256 x1) (gy1 : Mg 256 y1) (s2 : Bool) (w2 : List Nat) (d2 : Int) (t2 : Bool) (u2 : List Nat) (e2 : Int) (x2 y2 : Dy) (a2 : Iv) (h2 : IArg s2 w2 d2 t2 u2 e2 x2 y2 a2) (g2 : a2.Mg 256) (k2 : a2.Dn 200) (gx2 : Mg 256 x2) (gy2 : Mg 256 y2) (n : Int) (hf : shI ⟨s1, w1, d1, t1, u1, e1⟩ ∧ shI ⟨s2, w2, d2, t2, u2, e2⟩) (hm : (a1.hi.min a2.hi).v < (a1.lo.max a2.lo).v) (hw : x2.v < 0) (hcl : x2.v ≤ y2.v) (hr : ¬ (n < 0 ∨ 300 < n)) : CallOK Tryz.prog gl 8 [.agg [.v (.bool s1), .sl 1 (u32s w1), .v (.int .i64 d1), .v (.bool t1), .sl 1 (u32s u1), .v (.int .i64 e1)], .agg [.v (.bool s2), .sl 1 (u32s w2), .v (.int .i64 d2), .v (.bool t2), .sl 1 (u32s u2), .v (.int .i64 e2)], .v (.int .i64 n)] (.v (.bool (true))) := by
  refine call_ok (C := ⟨Tryz.prog, gl, ti, 139, false⟩) ti_ok mixed 3000 Tryz.call8 Tryz.func8 rfl Tryz.ntmps8 (by simp) byClL byCl ?_
  rw [Tryz.results8]
  have fw := few03_2 s1 w1 d1 t1 u1 e1 ⟨by have := h1.px.len; omega, by have := h1.py.len; omega⟩ s2 w2 d2 t2 u2 e2 ⟨by have := h2.px.len; omega, by have := h2.py.len; omega⟩
  rw [decide_eq_true hf] at fw
  clear hf
  have m1 := iv_Meet_err _ _ _ _ _ _ _ _ _ h1 _ _ _ _ _ _ _ _ _ h2 hm
  have m2 := ri_Meet_err _ _ _ _ _ _ _ _ _ h1 _ _ _ _ _ _ _ _ _ h2 hm
  have m3 := ri_same (Iv.Mg.zero 1)
  have m4 := base_Num 23
  clear hm
  have w1 := iv_Widen_err _ _ _ _ _ _ _ _ _ h1 _ _ _ _ h2.px hw
  have w2 := ri_Widen_err _ _ _ _ _ _ _ _ _ h1 _ _ _ _ h2.px hw
  have w3 := ri_same (Iv.Mg.zero 1)
  have w4 := base_Num 3
  clear hw
  have c1 := iv_Clip _ _ _ _ _ _ _ _ _ h1 _ _ _ _ h2.px _ _ _ _ h2.py hcl
  have c2 := ri_Clip _ _ _ _ _ _ _ _ _ h1 _ _ _ _ h2.px _ _ _ _ h2.py hcl
  have c3 := ri_same ((g1.max (Iv.Mg.pt gx2)).min (Iv.Mg.pt gy2))
  have c4 := base_Num_nil
  clear hcl
  obtain ⟨n, rfl⟩ : ∃ n1 : Nat, n = n1 := ⟨n.toNat, by omega⟩
  have r1 := iv_Round _ _ _ _ _ _ _ _ _ h1 n (by omega) 256 g1 (by omega)
  have r2 := ri_Round _ _ _ _ _ _ _ _ _ h1 n (by omega) 256 g1 (by omega)
  have r3 := ri_same (a := rnd a1 n k1 (by omega)) (k := 257) ⟨g1.1.floor, g1.2.neg.floor.neg⟩
  unfold rnd at r3
  dsimp only at r3
  have r4 := base_Num_nil
  generalize (a1.max (Iv.pt x2)).min (Iv.pt y2) = z73 at *
  generalize a1.lo.floor n = z74 at *
  generalize a1.hi.ceil n = z75 at *
  repeat' (first | (simp only [go_sem, Int.reduceAdd, Int.reduceEq, Int.reduceLE, Int.reduceLT, Int.reduceMul, Int.reduceNeg, Int.reducePow, Int.reduceSub, Int.reduceToNat, Nat.reduceAdd, Nat.reduceBEq, Nat.reduceEqDiff, Nat.reduceLT, Nat.reduceLeDiff, Nat.reduceMul, Nat.reducePow, Nat.reduceSub, reduceCtorEq, reduceIte, IntKind.bits.eq_def, ti, tin]) | (simp (disch := omega) only [w64, wu64, wu32, Nat.min_eq_left]) | (with_reducible first | refine callF_of (fw) ?_ | refine drawF_of (fw) ?_) | (with_reducible first | refine callF_of (awake03) ?_ | refine drawF_of (awake03) ?_) | (with_reducible first | refine callF_of (m1) ?_ | refine drawF_of (m1) ?_) | (with_reducible first | refine callF_of (m2) ?_ | refine drawF_of (m2) ?_) | (with_reducible first | refine callF_of (m3) ?_ | refine drawF_of (m3) ?_) | (with_reducible first | refine callF_of (m4) ?_ | refine drawF_of (m4) ?_) | (with_reducible first | refine callF_of (w1) ?_ | refine drawF_of (w1) ?_) | (with_reducible first | refine callF_of (w2) ?_ | refine drawF_of (w2) ?_) | (with_reducible first | refine callF_of (w3) ?_ | refine drawF_of (w3) ?_) | (with_reducible first | refine callF_of (w4) ?_ | refine drawF_of (w4) ?_) | (with_reducible first | refine callF_of (c1) ?_ | refine drawF_of (c1) ?_) | (with_reducible first | refine callF_of (c2) ?_ | refine drawF_of (c2) ?_) | (with_reducible first | refine callF_of (c3) ?_ | refine drawF_of (c3) ?_) | (with_reducible first | refine callF_of (c4) ?_ | refine drawF_of (c4) ?_) | (with_reducible first | refine callF_of (r1) ?_ | refine drawF_of (r1) ?_) | (with_reducible first | refine callF_of (r2) ?_ | refine drawF_of (r2) ?_) | (with_reducible first | refine callF_of (r3) ?_ | refine drawF_of (r3) ?_) | (with_reducible first | refine callF_of (r4) ?_ | refine drawF_of (r4) ?_) | (refine after_lit ti_ok ?_) | (refine drawAfter_lit ti_ok ?_) | (refine drawEnd_of (by kernel_rfl) ?_) | ((first | refine cond_cases (fun hc => ?_) (fun hc => ?_) | refine guard_split (fun hc => ?_) (fun hc => ?_) | refine drawGuard_split (fun hc => ?_) (fun hc => ?_)) <;> first | (exfalso; simp only [dcT, dcF, bnT, bnF, bnU, bnV] at hc; omega) | (simp only [hc]; try simp only [dcT, dcF, bnT, bnF, bnU, bnV] at hc)) | (refine after_need (by omega) ?_) | (refine drawAfter_need (by omega) ?_))
  all_goals exact fin_same trivial rfl
theorem limits_nynn (s1 : Bool) (w1 : List Nat) (d1 : Int) (t1 : Bool) (u1 : List Nat) (e1 : Int) (x1 y1 : Dy) (a1 : Iv) (h1 : IArg s1 w1 d1 t1 u1 e1 x1 y1 a1) (g1 : a1.Mg 256) (k1 : a1.Dn 200) (gx1 : Mg 256 x1) (gy1 : Mg 256 y1) (s2 : Bool) (w2 : List Nat) (d2 : Int) (t2 : Bool) (u2 : List Nat) (e2 : Int) (x2 y2 : Dy) (a2 : Iv) (h2 : IArg s2 w2 d2 t2 u2 e2 x2 y2 a2) (g2 : a2.Mg 256) (k2 : a2.Dn 200) (gx2 : Mg 256 x2) (gy2 : Mg 256 y2) (n : Int) (hf : shI ⟨s1, w1, d1, t1, u1, e1⟩ ∧ shI ⟨s2, w2, d2, t2, u2, e2⟩) (hm : (a1.hi.min a2.hi).v < (a1.lo.max a2.lo).v) (hw : 0 ≤ x2.v) (hcl : y2.v < x2.v) (hr : n < 0 ∨ 65536 < n) : CallOK Tryz.prog gl 8 [.agg [.v (.bool s1), .sl 1 (u32s w1), .v (.int .i64 d1), .v (.bool t1), .sl 1 (u32s u1), .v (.int .i64 e1)], .agg [.v (.bool s2), .sl 1 (u32s w2), .v (.int .i64 d2), .v (.bool t2), .sl 1 (u32s u2), .v (.int .i64 e2)], .v (.int .i64 n)] (.v (.bool (true))) := by
  refine call_ok (C := ⟨Tryz.prog, gl, ti, 139, false⟩) ti_ok mixed 3000 Tryz.call8 Tryz.func8 rfl Tryz.ntmps8 (by simp) byClL byCl ?_
  rw [Tryz.results8]
  have fw := few03_2 s1 w1 d1 t1 u1 e1 ⟨by have := h1.px.len; omega, by have := h1.py.len; omega⟩ s2 w2 d2 t2 u2 e2 ⟨by have := h2.px.len; omega, by have := h2.py.len; omega⟩
  rw [decide_eq_true hf] at fw
  clear hf
  have m1 := iv_Meet_err _ _ _ _ _ _ _ _ _ h1 _ _ _ _ _ _ _ _ _ h2 hm
  have m2 := ri_Meet_err _ _ _ _ _ _ _ _ _ h1 _ _ _ _ _ _ _ _ _ h2 hm
  have m3 := ri_same (Iv.Mg.zero 1)
  have m4 := base_Num 23
  clear hm
  have w1 := iv_Widen _ _ _ _ _ _ _ _ _ h1 _ _ _ _ h2.px hw
  have w2 := ri_Widen _ _ _ _ _ _ _ _ _ h1 _ _ _ _ h2.px hw 256 g1 gx2 (by omega)
  have w3 := ri_same (g1.add (Iv.Mg.sp2 gx2 gx2.neg))
  change CallOK _ _ _ [.agg [.v (.bool (sg (a1.wide x2).lo)), .sl 1 (u32s (ms (a1.wide x2).lo)), .v (.int .i64 (dn (a1.wide x2).lo)), .v (.bool (sg (a1.wide x2).hi)), .sl 1 (u32s (ms (a1.wide x2).hi)), .v (.int .i64 (dn (a1.wide x2).hi))], .agg [.v (.bool (sg (a1.wide x2).lo)), .sl 1 (u32s (ms (a1.wide x2).lo)), .v (.int .i64 (dn (a1.wide x2).lo)), .v (.bool (sg (a1.wide x2).hi)), .sl 1 (u32s (ms (a1.wide x2).hi)), .v (.int .i64 (dn (a1.wide x2).hi))]] _ at w3
  have w4 := base_Num_nil
  clear hw
  have c1 := iv_Clip_err _ _ _ _ _ _ _ _ _ h1 _ _ _ _ h2.px _ _ _ _ h2.py hcl
  have c2 := ri_Clip_err _ _ _ _ _ _ _ _ _ h1 _ _ _ _ h2.px _ _ _ _ h2.py hcl
  have c3 := ri_same (Iv.Mg.zero 1)
  have c4 := base_Num 3
  clear hcl
  have r1 := iv_Round_err _ _ _ _ _ _ _ _ _ h1 n hr
  have r2 := ri_Round_err _ _ _ _ _ _ _ _ _ h1 n hr
  have r3 := ri_same (Iv.Mg.zero 1)
  have r4 := base_Num 3
  have nb : ¬ (300 < n ∧ n ≤ 65536) := by omega
  generalize a1.wide x2 = z72 at *
  repeat' (first | (simp only [go_sem, Int.reduceAdd, Int.reduceEq, Int.reduceLE, Int.reduceLT, Int.reduceMul, Int.reduceNeg, Int.reducePow, Int.reduceSub, Int.reduceToNat, Nat.reduceAdd, Nat.reduceBEq, Nat.reduceEqDiff, Nat.reduceLT, Nat.reduceLeDiff, Nat.reduceMul, Nat.reducePow, Nat.reduceSub, reduceCtorEq, reduceIte, IntKind.bits.eq_def, ti, tin]) | (simp (disch := omega) only [w64, wu64, wu32, Nat.min_eq_left]) | (with_reducible first | refine callF_of (fw) ?_ | refine drawF_of (fw) ?_) | (with_reducible first | refine callF_of (awake03) ?_ | refine drawF_of (awake03) ?_) | (with_reducible first | refine callF_of (m1) ?_ | refine drawF_of (m1) ?_) | (with_reducible first | refine callF_of (m2) ?_ | refine drawF_of (m2) ?_) | (with_reducible first | refine callF_of (m3) ?_ | refine drawF_of (m3) ?_) | (with_reducible first | refine callF_of (m4) ?_ | refine drawF_of (m4) ?_) | (with_reducible first | refine callF_of (w1) ?_ | refine drawF_of (w1) ?_) | (with_reducible first | refine callF_of (w2) ?_ | refine drawF_of (w2) ?_) | (with_reducible first | refine callF_of (w3) ?_ | refine drawF_of (w3) ?_) | (with_reducible first | refine callF_of (w4) ?_ | refine drawF_of (w4) ?_) | (with_reducible first | refine callF_of (c1) ?_ | refine drawF_of (c1) ?_) | (with_reducible first | refine callF_of (c2) ?_ | refine drawF_of (c2) ?_) | (with_reducible first | refine callF_of (c3) ?_ | refine drawF_of (c3) ?_) | (with_reducible first | refine callF_of (c4) ?_ | refine drawF_of (c4) ?_) | (with_reducible first | refine callF_of (r1) ?_ | refine drawF_of (r1) ?_) | (with_reducible first | refine callF_of (r2) ?_ | refine drawF_of (r2) ?_) | (with_reducible first | refine callF_of (r3) ?_ | refine drawF_of (r3) ?_) | (with_reducible first | refine callF_of (r4) ?_ | refine drawF_of (r4) ?_) | (refine after_lit ti_ok ?_) | (refine drawAfter_lit ti_ok ?_) | (refine drawEnd_of (by kernel_rfl) ?_) | ((first | refine cond_cases (fun hc => ?_) (fun hc => ?_) | refine guard_split (fun hc => ?_) (fun hc => ?_) | refine drawGuard_split (fun hc => ?_) (fun hc => ?_)) <;> first | (exfalso; simp only [dcT, dcF, bnT, bnF, bnU, bnV] at hc; omega) | (simp only [hc]; try simp only [dcT, dcF, bnT, bnF, bnU, bnV] at hc)) | (refine after_need (by omega) ?_) | (refine drawAfter_need (by omega) ?_))
  all_goals exact fin_same trivial rfl
theorem limits_nyny (s1 : Bool) (w1 : List Nat) (d1 : Int) (t1 : Bool) (u1 : List Nat) (e1 : Int) (x1 y1 : Dy) (a1 : Iv) (h1 : IArg s1 w1 d1 t1 u1 e1 x1 y1 a1) (g1 : a1.Mg 256) (k1 : a1.Dn 200) (gx1 : Mg 256 x1) (gy1 : Mg 256 y1) (s2 : Bool) (w2 : List Nat) (d2 : Int) (t2 : Bool) (u2 : List Nat) (e2 : Int) (x2 y2 : Dy) (a2 : Iv) (h2 : IArg s2 w2 d2 t2 u2 e2 x2 y2 a2) (g2 : a2.Mg 256) (k2 : a2.Dn 200) (gx2 : Mg 256 x2) (gy2 : Mg 256 y2) (n : Int) (hf : shI ⟨s1, w1, d1, t1, u1, e1⟩ ∧ shI ⟨s2, w2, d2, t2, u2, e2⟩) (hm : (a1.hi.min a2.hi).v < (a1.lo.max a2.lo).v) (hw : 0 ≤ x2.v) (hcl : y2.v < x2.v) (hr : ¬ (n < 0 ∨ 300 < n)) : CallOK Tryz.prog gl 8 [.agg [.v (.bool s1), .sl 1 (u32s w1), .v (.int .i64 d1), .v (.bool t1), .sl 1 (u32s u1), .v (.int .i64 e1)], .agg [.v (.bool s2), .sl 1 (u32s w2), .v (.int .i64 d2), .v (.bool t2), .sl 1 (u32s u2), .v (.int .i64 e2)], .v (.int .i64 n)] (.v (.bool (true))) := by
  refine call_ok (C := ⟨Tryz.prog, gl, ti, 139, false⟩) ti_ok mixed 3000 Tryz.call8 Tryz.func8 rfl Tryz.ntmps8 (by simp) byClL byCl ?_
  rw [Tryz.results8]
  have fw := few03_2 s1 w1 d1 t1 u1 e1 ⟨by have := h1.px.len; omega, by have := h1.py.len; omega⟩ s2 w2 d2 t2 u2 e2 ⟨by have := h2.px.len; omega, by have := h2.py.len; omega⟩
  rw [decide_eq_true hf] at fw
  clear hf
  have m1 := iv_Meet_err _ _ _ _ _ _ _ _ _ h1 _ _ _ _ _ _ _ _ _ h2 hm
  have m2 := ri_Meet_err _ _ _ _ _ _ _ _ _ h1 _ _ _ _ _ _ _ _ _ h2 hm
  have m3 := ri_same (Iv.Mg.zero 1)
  have m4 := base_Num 23
  clear hm
  have w1 := iv_Widen _ _ _ _ _ _ _ _ _ h1 _ _ _ _ h2.px hw
  have w2 := ri_Widen _ _ _ _ _ _ _ _ _ h1 _ _ _ _ h2.px hw 256 g1 gx2 (by omega)
  have w3 := ri_same (g1.add (Iv.Mg.sp2 gx2 gx2.neg))
  change CallOK _ _ _ [.agg [.v (.bool (sg (a1.wide x2).lo)), .sl 1 (u32s (ms (a1.wide x2).lo)), .v (.int .i64 (dn (a1.wide x2).lo)), .v (.bool (sg (a1.wide x2).hi)), .sl 1 (u32s (ms (a1.wide x2).hi)), .v (.int .i64 (dn (a1.wide x2).hi))], .agg [.v (.bool (sg (a1.wide x2).lo)), .sl 1 (u32s (ms (a1.wide x2).lo)), .v (.int .i64 (dn (a1.wide x2).lo)), .v (.bool (sg (a1.wide x2).hi)), .sl 1 (u32s (ms (a1.wide x2).hi)), .v (.int .i64 (dn (a1.wide x2).hi))]] _ at w3
  have w4 := base_Num_nil
  clear hw
  have c1 := iv_Clip_err _ _ _ _ _ _ _ _ _ h1 _ _ _ _ h2.px _ _ _ _ h2.py hcl
  have c2 := ri_Clip_err _ _ _ _ _ _ _ _ _ h1 _ _ _ _ h2.px _ _ _ _ h2.py hcl
  have c3 := ri_same (Iv.Mg.zero 1)
  have c4 := base_Num 3
  clear hcl
  obtain ⟨n, rfl⟩ : ∃ n1 : Nat, n = n1 := ⟨n.toNat, by omega⟩
  have r1 := iv_Round _ _ _ _ _ _ _ _ _ h1 n (by omega) 256 g1 (by omega)
  have r2 := ri_Round _ _ _ _ _ _ _ _ _ h1 n (by omega) 256 g1 (by omega)
  have r3 := ri_same (a := rnd a1 n k1 (by omega)) (k := 257) ⟨g1.1.floor, g1.2.neg.floor.neg⟩
  unfold rnd at r3
  dsimp only at r3
  have r4 := base_Num_nil
  generalize a1.wide x2 = z72 at *
  generalize a1.lo.floor n = z74 at *
  generalize a1.hi.ceil n = z75 at *
  repeat' (first | (simp only [go_sem, Int.reduceAdd, Int.reduceEq, Int.reduceLE, Int.reduceLT, Int.reduceMul, Int.reduceNeg, Int.reducePow, Int.reduceSub, Int.reduceToNat, Nat.reduceAdd, Nat.reduceBEq, Nat.reduceEqDiff, Nat.reduceLT, Nat.reduceLeDiff, Nat.reduceMul, Nat.reducePow, Nat.reduceSub, reduceCtorEq, reduceIte, IntKind.bits.eq_def, ti, tin]) | (simp (disch := omega) only [w64, wu64, wu32, Nat.min_eq_left]) | (with_reducible first | refine callF_of (fw) ?_ | refine drawF_of (fw) ?_) | (with_reducible first | refine callF_of (awake03) ?_ | refine drawF_of (awake03) ?_) | (with_reducible first | refine callF_of (m1) ?_ | refine drawF_of (m1) ?_) | (with_reducible first | refine callF_of (m2) ?_ | refine drawF_of (m2) ?_) | (with_reducible first | refine callF_of (m3) ?_ | refine drawF_of (m3) ?_) | (with_reducible first | refine callF_of (m4) ?_ | refine drawF_of (m4) ?_) | (with_reducible first | refine callF_of (w1) ?_ | refine drawF_of (w1) ?_) | (with_reducible first | refine callF_of (w2) ?_ | refine drawF_of (w2) ?_) | (with_reducible first | refine callF_of (w3) ?_ | refine drawF_of (w3) ?_) | (with_reducible first | refine callF_of (w4) ?_ | refine drawF_of (w4) ?_) | (with_reducible first | refine callF_of (c1) ?_ | refine drawF_of (c1) ?_) | (with_reducible first | refine callF_of (c2) ?_ | refine drawF_of (c2) ?_) | (with_reducible first | refine callF_of (c3) ?_ | refine drawF_of (c3) ?_) | (with_reducible first | refine callF_of (c4) ?_ | refine drawF_of (c4) ?_) | (with_reducible first | refine callF_of (r1) ?_ | refine drawF_of (r1) ?_) | (with_reducible first | refine callF_of (r2) ?_ | refine drawF_of (r2) ?_) | (with_reducible first | refine callF_of (r3) ?_ | refine drawF_of (r3) ?_) | (with_reducible first | refine callF_of (r4) ?_ | refine drawF_of (r4) ?_) | (refine after_lit ti_ok ?_) | (refine drawAfter_lit ti_ok ?_) | (refine drawEnd_of (by kernel_rfl) ?_) | ((first | refine cond_cases (fun hc => ?_) (fun hc => ?_) | refine guard_split (fun hc => ?_) (fun hc => ?_) | refine drawGuard_split (fun hc => ?_) (fun hc => ?_)) <;> first | (exfalso; simp only [dcT, dcF, bnT, bnF, bnU, bnV] at hc; omega) | (simp only [hc]; try simp only [dcT, dcF, bnT, bnF, bnU, bnV] at hc)) | (refine after_need (by omega) ?_) | (refine drawAfter_need (by omega) ?_))
  all_goals exact fin_same trivial rfl
theorem limits_nyyn (s1 : Bool) (w1 : List Nat) (d1 : Int) (t1 : Bool) (u1 : List Nat) (e1 : Int) (x1 y1 : Dy) (a1 : Iv) (h1 : IArg s1 w1 d1 t1 u1 e1 x1 y1 a1) (g1 : a1.Mg 256) (k1 : a1.Dn 200) (gx1 : Mg 256 x1) (gy1 : Mg 256 y1) (s2 : Bool) (w2 : List Nat) (d2 : Int) (t2 : Bool) (u2 : List Nat) (e2 : Int) (x2 y2 : Dy) (a2 : Iv) (h2 : IArg s2 w2 d2 t2 u2 e2 x2 y2 a2) (g2 : a2.Mg 256) (k2 : a2.Dn 200) (gx2 : Mg 256 x2) (gy2 : Mg 256 y2) (n : Int) (hf : shI ⟨s1, w1, d1, t1, u1, e1⟩ ∧ shI ⟨s2, w2, d2, t2, u2, e2⟩) (hm : (a1.hi.min a2.hi).v < (a1.lo.max a2.lo).v) (hw : 0 ≤ x2.v) (hcl : x2.v ≤ y2.v) (hr : n < 0 ∨ 65536 < n) : CallOK Tryz.prog gl 8 [.agg [.v (.bool s1), .sl 1 (u32s w1), .v (.int .i64 d1), .v (.bool t1), .sl 1 (u32s u1), .v (.int .i64 e1)], .agg [.v (.bool s2), .sl 1 (u32s w2), .v (.int .i64 d2), .v (.bool t2), .sl 1 (u32s u2), .v (.int .i64 e2)], .v (.int .i64 n)] (.v (.bool (true))) := by
  refine call_ok (C := ⟨Tryz.prog, gl, ti, 139, false⟩) ti_ok mixed 3000 Tryz.call8 Tryz.func8 rfl Tryz.ntmps8 (by simp) byClL byCl ?_
  rw [Tryz.results8]
  have fw := few03_2 s1 w1 d1 t1 u1 e1 ⟨by have := h1.px.len; omega, by have := h1.py.len; omega⟩ s2 w2 d2 t2 u2 e2 ⟨by have := h2.px.len; omega, by have := h2.py.len; omega⟩
  rw [decide_eq_true hf] at fw
  clear hf
  have m1 := iv_Meet_err _ _ _ _ _ _ _ _ _ h1 _ _ _ _ _ _ _ _ _ h2 hm
  have m2 := ri_Meet_err _ _ _ _ _ _ _ _ _ h1 _ _ _ _ _ _ _ _ _ h2 hm
  have m3 := ri_same (Iv.Mg.zero 1)
  have m4 := base_Num 23
  clear hm
  have w1 := iv_Widen _ _ _ _ _ _ _ _ _ h1 _ _ _ _ h2.px hw
  have w2 := ri_Widen _ _ _ _ _ _ _ _ _ h1 _ _ _ _ h2.px hw 256 g1 gx2 (by omega)
  have w3 := ri_same (g1.add (Iv.Mg.sp2 gx2 gx2.neg))
  change CallOK _ _ _ [.agg [.v (.bool (sg (a1.wide x2).lo)), .sl 1 (u32s (ms (a1.wide x2).lo)), .v (.int .i64 (dn (a1.wide x2).lo)), .v (.bool (sg (a1.wide x2).hi)), .sl 1 (u32s (ms (a1.wide x2).hi)), .v (.int .i64 (dn (a1.wide x2).hi))], .agg [.v (.bool (sg (a1.wide x2).lo)), .sl 1 (u32s (ms (a1.wide x2).lo)), .v (.int .i64 (dn (a1.wide x2).lo)), .v (.bool (sg (a1.wide x2).hi)), .sl 1 (u32s (ms (a1.wide x2).hi)), .v (.int .i64 (dn (a1.wide x2).hi))]] _ at w3
  have w4 := base_Num_nil
  clear hw
  have c1 := iv_Clip _ _ _ _ _ _ _ _ _ h1 _ _ _ _ h2.px _ _ _ _ h2.py hcl
  have c2 := ri_Clip _ _ _ _ _ _ _ _ _ h1 _ _ _ _ h2.px _ _ _ _ h2.py hcl
  have c3 := ri_same ((g1.max (Iv.Mg.pt gx2)).min (Iv.Mg.pt gy2))
  have c4 := base_Num_nil
  clear hcl
  have r1 := iv_Round_err _ _ _ _ _ _ _ _ _ h1 n hr
  have r2 := ri_Round_err _ _ _ _ _ _ _ _ _ h1 n hr
  have r3 := ri_same (Iv.Mg.zero 1)
  have r4 := base_Num 3
  have nb : ¬ (300 < n ∧ n ≤ 65536) := by omega
  generalize a1.wide x2 = z72 at *
  generalize (a1.max (Iv.pt x2)).min (Iv.pt y2) = z73 at *
  repeat' (first | (simp only [go_sem, Int.reduceAdd, Int.reduceEq, Int.reduceLE, Int.reduceLT, Int.reduceMul, Int.reduceNeg, Int.reducePow, Int.reduceSub, Int.reduceToNat, Nat.reduceAdd, Nat.reduceBEq, Nat.reduceEqDiff, Nat.reduceLT, Nat.reduceLeDiff, Nat.reduceMul, Nat.reducePow, Nat.reduceSub, reduceCtorEq, reduceIte, IntKind.bits.eq_def, ti, tin]) | (simp (disch := omega) only [w64, wu64, wu32, Nat.min_eq_left]) | (with_reducible first | refine callF_of (fw) ?_ | refine drawF_of (fw) ?_) | (with_reducible first | refine callF_of (awake03) ?_ | refine drawF_of (awake03) ?_) | (with_reducible first | refine callF_of (m1) ?_ | refine drawF_of (m1) ?_) | (with_reducible first | refine callF_of (m2) ?_ | refine drawF_of (m2) ?_) | (with_reducible first | refine callF_of (m3) ?_ | refine drawF_of (m3) ?_) | (with_reducible first | refine callF_of (m4) ?_ | refine drawF_of (m4) ?_) | (with_reducible first | refine callF_of (w1) ?_ | refine drawF_of (w1) ?_) | (with_reducible first | refine callF_of (w2) ?_ | refine drawF_of (w2) ?_) | (with_reducible first | refine callF_of (w3) ?_ | refine drawF_of (w3) ?_) | (with_reducible first | refine callF_of (w4) ?_ | refine drawF_of (w4) ?_) | (with_reducible first | refine callF_of (c1) ?_ | refine drawF_of (c1) ?_) | (with_reducible first | refine callF_of (c2) ?_ | refine drawF_of (c2) ?_) | (with_reducible first | refine callF_of (c3) ?_ | refine drawF_of (c3) ?_) | (with_reducible first | refine callF_of (c4) ?_ | refine drawF_of (c4) ?_) | (with_reducible first | refine callF_of (r1) ?_ | refine drawF_of (r1) ?_) | (with_reducible first | refine callF_of (r2) ?_ | refine drawF_of (r2) ?_) | (with_reducible first | refine callF_of (r3) ?_ | refine drawF_of (r3) ?_) | (with_reducible first | refine callF_of (r4) ?_ | refine drawF_of (r4) ?_) | (refine after_lit ti_ok ?_) | (refine drawAfter_lit ti_ok ?_) | (refine drawEnd_of (by kernel_rfl) ?_) | ((first | refine cond_cases (fun hc => ?_) (fun hc => ?_) | refine guard_split (fun hc => ?_) (fun hc => ?_) | refine drawGuard_split (fun hc => ?_) (fun hc => ?_)) <;> first | (exfalso; simp only [dcT, dcF, bnT, bnF, bnU, bnV] at hc; omega) | (simp only [hc]; try simp only [dcT, dcF, bnT, bnF, bnU, bnV] at hc)) | (refine after_need (by omega) ?_) | (refine drawAfter_need (by omega) ?_))
  all_goals exact fin_same trivial rfl
theorem limits_nyyy (s1 : Bool) (w1 : List Nat) (d1 : Int) (t1 : Bool) (u1 : List Nat) (e1 : Int) (x1 y1 : Dy) (a1 : Iv) (h1 : IArg s1 w1 d1 t1 u1 e1 x1 y1 a1) (g1 : a1.Mg 256) (k1 : a1.Dn 200) (gx1 : Mg 256 x1) (gy1 : Mg 256 y1) (s2 : Bool) (w2 : List Nat) (d2 : Int) (t2 : Bool) (u2 : List Nat) (e2 : Int) (x2 y2 : Dy) (a2 : Iv) (h2 : IArg s2 w2 d2 t2 u2 e2 x2 y2 a2) (g2 : a2.Mg 256) (k2 : a2.Dn 200) (gx2 : Mg 256 x2) (gy2 : Mg 256 y2) (n : Int) (hf : shI ⟨s1, w1, d1, t1, u1, e1⟩ ∧ shI ⟨s2, w2, d2, t2, u2, e2⟩) (hm : (a1.hi.min a2.hi).v < (a1.lo.max a2.lo).v) (hw : 0 ≤ x2.v) (hcl : x2.v ≤ y2.v) (hr : ¬ (n < 0 ∨ 300 < n)) : CallOK Tryz.prog gl 8 [.agg [.v (.bool s1), .sl 1 (u32s w1), .v (.int .i64 d1), .v (.bool t1), .sl 1 (u32s u1), .v (.int .i64 e1)], .agg [.v (.bool s2), .sl 1 (u32s w2), .v (.int .i64 d2), .v (.bool t2), .sl 1 (u32s u2), .v (.int .i64 e2)], .v (.int .i64 n)] (.v (.bool (true))) := by
  refine call_ok (C := ⟨Tryz.prog, gl, ti, 139, false⟩) ti_ok mixed 3000 Tryz.call8 Tryz.func8 rfl Tryz.ntmps8 (by simp) byClL byCl ?_
  rw [Tryz.results8]
  have fw := few03_2 s1 w1 d1 t1 u1 e1 ⟨by have := h1.px.len; omega, by have := h1.py.len; omega⟩ s2 w2 d2 t2 u2 e2 ⟨by have := h2.px.len; omega, by have := h2.py.len; omega⟩
  rw [decide_eq_true hf] at fw
  clear hf
  have m1 := iv_Meet_err _ _ _ _ _ _ _ _ _ h1 _ _ _ _ _ _ _ _ _ h2 hm
  have m2 := ri_Meet_err _ _ _ _ _ _ _ _ _ h1 _ _ _ _ _ _ _ _ _ h2 hm
  have m3 := ri_same (Iv.Mg.zero 1)
  have m4 := base_Num 23
  clear hm
  have w1 := iv_Widen _ _ _ _ _ _ _ _ _ h1 _ _ _ _ h2.px hw
  have w2 := ri_Widen _ _ _ _ _ _ _ _ _ h1 _ _ _ _ h2.px hw 256 g1 gx2 (by omega)
  have w3 := ri_same (g1.add (Iv.Mg.sp2 gx2 gx2.neg))
  change CallOK _ _ _ [.agg [.v (.bool (sg (a1.wide x2).lo)), .sl 1 (u32s (ms (a1.wide x2).lo)), .v (.int .i64 (dn (a1.wide x2).lo)), .v (.bool (sg (a1.wide x2).hi)), .sl 1 (u32s (ms (a1.wide x2).hi)), .v (.int .i64 (dn (a1.wide x2).hi))], .agg [.v (.bool (sg (a1.wide x2).lo)), .sl 1 (u32s (ms (a1.wide x2).lo)), .v (.int .i64 (dn (a1.wide x2).lo)), .v (.bool (sg (a1.wide x2).hi)), .sl 1 (u32s (ms (a1.wide x2).hi)), .v (.int .i64 (dn (a1.wide x2).hi))]] _ at w3
  have w4 := base_Num_nil
  clear hw
  have c1 := iv_Clip _ _ _ _ _ _ _ _ _ h1 _ _ _ _ h2.px _ _ _ _ h2.py hcl
  have c2 := ri_Clip _ _ _ _ _ _ _ _ _ h1 _ _ _ _ h2.px _ _ _ _ h2.py hcl
  have c3 := ri_same ((g1.max (Iv.Mg.pt gx2)).min (Iv.Mg.pt gy2))
  have c4 := base_Num_nil
  clear hcl
  obtain ⟨n, rfl⟩ : ∃ n1 : Nat, n = n1 := ⟨n.toNat, by omega⟩
  have r1 := iv_Round _ _ _ _ _ _ _ _ _ h1 n (by omega) 256 g1 (by omega)
  have r2 := ri_Round _ _ _ _ _ _ _ _ _ h1 n (by omega) 256 g1 (by omega)
  have r3 := ri_same (a := rnd a1 n k1 (by omega)) (k := 257) ⟨g1.1.floor, g1.2.neg.floor.neg⟩
  unfold rnd at r3
  dsimp only at r3
  have r4 := base_Num_nil
  generalize a1.wide x2 = z72 at *
  generalize (a1.max (Iv.pt x2)).min (Iv.pt y2) = z73 at *
  generalize a1.lo.floor n = z74 at *
  generalize a1.hi.ceil n = z75 at *
  repeat' (first | (simp only [go_sem, Int.reduceAdd, Int.reduceEq, Int.reduceLE, Int.reduceLT, Int.reduceMul, Int.reduceNeg, Int.reducePow, Int.reduceSub, Int.reduceToNat, Nat.reduceAdd, Nat.reduceBEq, Nat.reduceEqDiff, Nat.reduceLT, Nat.reduceLeDiff, Nat.reduceMul, Nat.reducePow, Nat.reduceSub, reduceCtorEq, reduceIte, IntKind.bits.eq_def, ti, tin]) | (simp (disch := omega) only [w64, wu64, wu32, Nat.min_eq_left]) | (with_reducible first | refine callF_of (fw) ?_ | refine drawF_of (fw) ?_) | (with_reducible first | refine callF_of (awake03) ?_ | refine drawF_of (awake03) ?_) | (with_reducible first | refine callF_of (m1) ?_ | refine drawF_of (m1) ?_) | (with_reducible first | refine callF_of (m2) ?_ | refine drawF_of (m2) ?_) | (with_reducible first | refine callF_of (m3) ?_ | refine drawF_of (m3) ?_) | (with_reducible first | refine callF_of (m4) ?_ | refine drawF_of (m4) ?_) | (with_reducible first | refine callF_of (w1) ?_ | refine drawF_of (w1) ?_) | (with_reducible first | refine callF_of (w2) ?_ | refine drawF_of (w2) ?_) | (with_reducible first | refine callF_of (w3) ?_ | refine drawF_of (w3) ?_) | (with_reducible first | refine callF_of (w4) ?_ | refine drawF_of (w4) ?_) | (with_reducible first | refine callF_of (c1) ?_ | refine drawF_of (c1) ?_) | (with_reducible first | refine callF_of (c2) ?_ | refine drawF_of (c2) ?_) | (with_reducible first | refine callF_of (c3) ?_ | refine drawF_of (c3) ?_) | (with_reducible first | refine callF_of (c4) ?_ | refine drawF_of (c4) ?_) | (with_reducible first | refine callF_of (r1) ?_ | refine drawF_of (r1) ?_) | (with_reducible first | refine callF_of (r2) ?_ | refine drawF_of (r2) ?_) | (with_reducible first | refine callF_of (r3) ?_ | refine drawF_of (r3) ?_) | (with_reducible first | refine callF_of (r4) ?_ | refine drawF_of (r4) ?_) | (refine after_lit ti_ok ?_) | (refine drawAfter_lit ti_ok ?_) | (refine drawEnd_of (by kernel_rfl) ?_) | ((first | refine cond_cases (fun hc => ?_) (fun hc => ?_) | refine guard_split (fun hc => ?_) (fun hc => ?_) | refine drawGuard_split (fun hc => ?_) (fun hc => ?_)) <;> first | (exfalso; simp only [dcT, dcF, bnT, bnF, bnU, bnV] at hc; omega) | (simp only [hc]; try simp only [dcT, dcF, bnT, bnF, bnU, bnV] at hc)) | (refine after_need (by omega) ?_) | (refine drawAfter_need (by omega) ?_))
  all_goals exact fin_same trivial rfl
theorem limits_ynnn (s1 : Bool) (w1 : List Nat) (d1 : Int) (t1 : Bool) (u1 : List Nat) (e1 : Int) (x1 y1 : Dy) (a1 : Iv) (h1 : IArg s1 w1 d1 t1 u1 e1 x1 y1 a1) (g1 : a1.Mg 256) (k1 : a1.Dn 200) (gx1 : Mg 256 x1) (gy1 : Mg 256 y1) (s2 : Bool) (w2 : List Nat) (d2 : Int) (t2 : Bool) (u2 : List Nat) (e2 : Int) (x2 y2 : Dy) (a2 : Iv) (h2 : IArg s2 w2 d2 t2 u2 e2 x2 y2 a2) (g2 : a2.Mg 256) (k2 : a2.Dn 200) (gx2 : Mg 256 x2) (gy2 : Mg 256 y2) (n : Int) (hf : shI ⟨s1, w1, d1, t1, u1, e1⟩ ∧ shI ⟨s2, w2, d2, t2, u2, e2⟩) (hm : (a1.lo.max a2.lo).v ≤ (a1.hi.min a2.hi).v) (hw : x2.v < 0) (hcl : y2.v < x2.v) (hr : n < 0 ∨ 65536 < n) : CallOK Tryz.prog gl 8 [.agg [.v (.bool s1), .sl 1 (u32s w1), .v (.int .i64 d1), .v (.bool t1), .sl 1 (u32s u1), .v (.int .i64 e1)], .agg [.v (.bool s2), .sl 1 (u32s w2), .v (.int .i64 d2), .v (.bool t2), .sl 1 (u32s u2), .v (.int .i64 e2)], .v (.int .i64 n)] (.v (.bool (true))) := by
  refine call_ok (C := ⟨Tryz.prog, gl, ti, 139, false⟩) ti_ok mixed 3000 Tryz.call8 Tryz.func8 rfl Tryz.ntmps8 (by simp) byClL byCl ?_
  rw [Tryz.results8]
  have fw := few03_2 s1 w1 d1 t1 u1 e1 ⟨by have := h1.px.len; omega, by have := h1.py.len; omega⟩ s2 w2 d2 t2 u2 e2 ⟨by have := h2.px.len; omega, by have := h2.py.len; omega⟩
  rw [decide_eq_true hf] at fw
  clear hf
  have m1 := iv_Meet _ _ _ _ _ _ _ _ _ h1 _ _ _ _ _ _ _ _ _ h2 hm
  have m2 := ri_Meet _ _ _ _ _ _ _ _ _ h1 _ _ _ _ _ _ _ _ _ h2 hm
  have m3 := ri_same (a := a1.meet a2 hm) (k := 256) ⟨g1.1.max g2.1, g1.2.min g2.2⟩
  unfold Iv.meet at m3
  dsimp only at m3
  have m4 := base_Num_nil
  clear hm
  have w1 := iv_Widen_err _ _ _ _ _ _ _ _ _ h1 _ _ _ _ h2.px hw
  have w2 := ri_Widen_err _ _ _ _ _ _ _ _ _ h1 _ _ _ _ h2.px hw
  have w3 := ri_same (Iv.Mg.zero 1)
  have w4 := base_Num 3
  clear hw
  have c1 := iv_Clip_err _ _ _ _ _ _ _ _ _ h1 _ _ _ _ h2.px _ _ _ _ h2.py hcl
  have c2 := ri_Clip_err _ _ _ _ _ _ _ _ _ h1 _ _ _ _ h2.px _ _ _ _ h2.py hcl
  have c3 := ri_same (Iv.Mg.zero 1)
  have c4 := base_Num 3
  clear hcl
  have r1 := iv_Round_err _ _ _ _ _ _ _ _ _ h1 n hr
  have r2 := ri_Round_err _ _ _ _ _ _ _ _ _ h1 n hr
  have r3 := ri_same (Iv.Mg.zero 1)
  have r4 := base_Num 3
  have nb : ¬ (300 < n ∧ n ≤ 65536) := by omega
  generalize a1.lo.max a2.lo = z70 at *
  generalize a1.hi.min a2.hi = z71 at *
  repeat' (first | (simp only [go_sem, Int.reduceAdd, Int.reduceEq, Int.reduceLE, Int.reduceLT, Int.reduceMul, Int.reduceNeg, Int.reducePow, Int.reduceSub, Int.reduceToNat, Nat.reduceAdd, Nat.reduceBEq, Nat.reduceEqDiff, Nat.reduceLT, Nat.reduceLeDiff, Nat.reduceMul, Nat.reducePow, Nat.reduceSub, reduceCtorEq, reduceIte, IntKind.bits.eq_def, ti, tin]) | (simp (disch := omega) only [w64, wu64, wu32, Nat.min_eq_left]) | (with_reducible first | refine callF_of (fw) ?_ | refine drawF_of (fw) ?_) | (with_reducible first | refine callF_of (awake03) ?_ | refine drawF_of (awake03) ?_) | (with_reducible first | refine callF_of (m1) ?_ | refine drawF_of (m1) ?_) | (with_reducible first | refine callF_of (m2) ?_ | refine drawF_of (m2) ?_) | (with_reducible first | refine callF_of (m3) ?_ | refine drawF_of (m3) ?_) | (with_reducible first | refine callF_of (m4) ?_ | refine drawF_of (m4) ?_) | (with_reducible first | refine callF_of (w1) ?_ | refine drawF_of (w1) ?_) | (with_reducible first | refine callF_of (w2) ?_ | refine drawF_of (w2) ?_) | (with_reducible first | refine callF_of (w3) ?_ | refine drawF_of (w3) ?_) | (with_reducible first | refine callF_of (w4) ?_ | refine drawF_of (w4) ?_) | (with_reducible first | refine callF_of (c1) ?_ | refine drawF_of (c1) ?_) | (with_reducible first | refine callF_of (c2) ?_ | refine drawF_of (c2) ?_) | (with_reducible first | refine callF_of (c3) ?_ | refine drawF_of (c3) ?_) | (with_reducible first | refine callF_of (c4) ?_ | refine drawF_of (c4) ?_) | (with_reducible first | refine callF_of (r1) ?_ | refine drawF_of (r1) ?_) | (with_reducible first | refine callF_of (r2) ?_ | refine drawF_of (r2) ?_) | (with_reducible first | refine callF_of (r3) ?_ | refine drawF_of (r3) ?_) | (with_reducible first | refine callF_of (r4) ?_ | refine drawF_of (r4) ?_) | (refine after_lit ti_ok ?_) | (refine drawAfter_lit ti_ok ?_) | (refine drawEnd_of (by kernel_rfl) ?_) | ((first | refine cond_cases (fun hc => ?_) (fun hc => ?_) | refine guard_split (fun hc => ?_) (fun hc => ?_) | refine drawGuard_split (fun hc => ?_) (fun hc => ?_)) <;> first | (exfalso; simp only [dcT, dcF, bnT, bnF, bnU, bnV] at hc; omega) | (simp only [hc]; try simp only [dcT, dcF, bnT, bnF, bnU, bnV] at hc)) | (refine after_need (by omega) ?_) | (refine drawAfter_need (by omega) ?_))
  all_goals exact fin_same trivial rfl
theorem limits_ynny (s1 : Bool) (w1 : List Nat) (d1 : Int) (t1 : Bool) (u1 : List Nat) (e1 : Int) (x1 y1 : Dy) (a1 : Iv) (h1 : IArg s1 w1 d1 t1 u1 e1 x1 y1 a1) (g1 : a1.Mg 256) (k1 : a1.Dn 200) (gx1 : Mg 256 x1) (gy1 : Mg 256 y1) (s2 : Bool) (w2 : List Nat) (d2 : Int) (t2 : Bool) (u2 : List Nat) (e2 : Int) (x2 y2 : Dy) (a2 : Iv) (h2 : IArg s2 w2 d2 t2 u2 e2 x2 y2 a2) (g2 : a2.Mg 256) (k2 : a2.Dn 200) (gx2 : Mg 256 x2) (gy2 : Mg 256 y2) (n : Int) (hf : shI ⟨s1, w1, d1, t1, u1, e1⟩ ∧ shI ⟨s2, w2, d2, t2, u2, e2⟩) (hm : (a1.lo.max a2.lo).v ≤ (a1.hi.min a2.hi).v) (hw : x2.v < 0) (hcl : y2.v < x2.v) (hr : ¬ (n < 0 ∨ 300 < n)) : CallOK Tryz.prog gl 8 [.agg [.v (.bool s1), .sl 1 (u32s w1), .v (.int .i64 d1), .v (.bool t1), .sl 1 (u32s u1), .v (.int .i64 e1)], .agg [.v (.bool s2), .sl 1 (u32s w2), .v (.int .i64 d2), .v (.bool t2), .sl 1 (u32s u2), .v (.int .i64 e2)], .v (.int .i64 n)] (.v (.bool (true))) := by
  refine call_ok (C := ⟨Tryz.prog, gl, ti, 139, false⟩) ti_ok mixed 3000 Tryz.call8 Tryz.func8 rfl Tryz.ntmps8 (by simp) byClL byCl ?_
  rw [Tryz.results8]
  have fw := few03_2 s1 w1 d1 t1 u1 e1 ⟨by have := h1.px.len; omega, by have := h1.py.len; omega⟩ s2 w2 d2 t2 u2 e2 ⟨by have := h2.px.len; omega, by have := h2.py.len; omega⟩
  rw [decide_eq_true hf] at fw
  clear hf
  have m1 := iv_Meet _ _ _ _ _ _ _ _ _ h1 _ _ _ _ _ _ _ _ _ h2 hm
  have m2 := ri_Meet _ _ _ _ _ _ _ _ _ h1 _ _ _ _ _ _ _ _ _ h2 hm
  have m3 := ri_same (a := a1.meet a2 hm) (k := 256) ⟨g1.1.max g2.1, g1.2.min g2.2⟩
  unfold Iv.meet at m3
  dsimp only at m3
  have m4 := base_Num_nil
  clear hm
  have w1 := iv_Widen_err _ _ _ _ _ _ _ _ _ h1 _ _ _ _ h2.px hw
  have w2 := ri_Widen_err _ _ _ _ _ _ _ _ _ h1 _ _ _ _ h2.px hw
  have w3 := ri_same (Iv.Mg.zero 1)
  have w4 := base_Num 3
  clear hw
  have c1 := iv_Clip_err _ _ _ _ _ _ _ _ _ h1 _ _ _ _ h2.px _ _ _ _ h2.py hcl
  have c2 := ri_Clip_err _ _ _ _ _ _ _ _ _ h1 _ _ _ _ h2.px _ _ _ _ h2.py hcl
  have c3 := ri_same (Iv.Mg.zero 1)
  have c4 := base_Num 3
  clear hcl
  obtain ⟨n, rfl⟩ : ∃ n1 : Nat, n = n1 := ⟨n.toNat, by omega⟩
  have r1 := iv_Round _ _ _ _ _ _ _ _ _ h1 n (by omega) 256 g1 (by omega)
  have r2 := ri_Round _ _ _ _ _ _ _ _ _ h1 n (by omega) 256 g1 (by omega)
  have r3 := ri_same (a := rnd a1 n k1 (by omega)) (k := 257) ⟨g1.1.floor, g1.2.neg.floor.neg⟩
  unfold rnd at r3
  dsimp only at r3
  have r4 := base_Num_nil
  generalize a1.lo.max a2.lo = z70 at *
  generalize a1.hi.min a2.hi = z71 at *
  generalize a1.lo.floor n = z74 at *
  generalize a1.hi.ceil n = z75 at *
  repeat' (first | (simp only [go_sem, Int.reduceAdd, Int.reduceEq, Int.reduceLE, Int.reduceLT, Int.reduceMul, Int.reduceNeg, Int.reducePow, Int.reduceSub, Int.reduceToNat, Nat.reduceAdd, Nat.reduceBEq, Nat.reduceEqDiff, Nat.reduceLT, Nat.reduceLeDiff, Nat.reduceMul, Nat.reducePow, Nat.reduceSub, reduceCtorEq, reduceIte, IntKind.bits.eq_def, ti, tin]) | (simp (disch := omega) only [w64, wu64, wu32, Nat.min_eq_left]) | (with_reducible first | refine callF_of (fw) ?_ | refine drawF_of (fw) ?_) | (with_reducible first | refine callF_of (awake03) ?_ | refine drawF_of (awake03) ?_) | (with_reducible first | refine callF_of (m1) ?_ | refine drawF_of (m1) ?_) | (with_reducible first | refine callF_of (m2) ?_ | refine drawF_of (m2) ?_) | (with_reducible first | refine callF_of (m3) ?_ | refine drawF_of (m3) ?_) | (with_reducible first | refine callF_of (m4) ?_ | refine drawF_of (m4) ?_) | (with_reducible first | refine callF_of (w1) ?_ | refine drawF_of (w1) ?_) | (with_reducible first | refine callF_of (w2) ?_ | refine drawF_of (w2) ?_) | (with_reducible first | refine callF_of (w3) ?_ | refine drawF_of (w3) ?_) | (with_reducible first | refine callF_of (w4) ?_ | refine drawF_of (w4) ?_) | (with_reducible first | refine callF_of (c1) ?_ | refine drawF_of (c1) ?_) | (with_reducible first | refine callF_of (c2) ?_ | refine drawF_of (c2) ?_) | (with_reducible first | refine callF_of (c3) ?_ | refine drawF_of (c3) ?_) | (with_reducible first | refine callF_of (c4) ?_ | refine drawF_of (c4) ?_) | (with_reducible first | refine callF_of (r1) ?_ | refine drawF_of (r1) ?_) | (with_reducible first | refine callF_of (r2) ?_ | refine drawF_of (r2) ?_) | (with_reducible first | refine callF_of (r3) ?_ | refine drawF_of (r3) ?_) | (with_reducible first | refine callF_of (r4) ?_ | refine drawF_of (r4) ?_) | (refine after_lit ti_ok ?_) | (refine drawAfter_lit ti_ok ?_) | (refine drawEnd_of (by kernel_rfl) ?_) | ((first | refine cond_cases (fun hc => ?_) (fun hc => ?_) | refine guard_split (fun hc => ?_) (fun hc => ?_) | refine drawGuard_split (fun hc => ?_) (fun hc => ?_)) <;> first | (exfalso; simp only [dcT, dcF, bnT, bnF, bnU, bnV] at hc; omega) | (simp only [hc]; try simp only [dcT, dcF, bnT, bnF, bnU, bnV] at hc)) | (refine after_need (by omega) ?_) | (refine drawAfter_need (by omega) ?_))
  all_goals exact fin_same trivial rfl
theorem limits_ynyn (s1 : Bool) (w1 : List Nat) (d1 : Int) (t1 : Bool) (u1 : List Nat) (e1 : Int) (x1 y1 : Dy) (a1 : Iv) (h1 : IArg s1 w1 d1 t1 u1 e1 x1 y1 a1) (g1 : a1.Mg 256) (k1 : a1.Dn 200) (gx1 : Mg 256 x1) (gy1 : Mg 256 y1) (s2 : Bool) (w2 : List Nat) (d2 : Int) (t2 : Bool) (u2 : List Nat) (e2 : Int) (x2 y2 : Dy) (a2 : Iv) (h2 : IArg s2 w2 d2 t2 u2 e2 x2 y2 a2) (g2 : a2.Mg 256) (k2 : a2.Dn 200) (gx2 : Mg 256 x2) (gy2 : Mg 256 y2) (n : Int) (hf : shI ⟨s1, w1, d1, t1, u1, e1⟩ ∧ shI ⟨s2, w2, d2, t2, u2, e2⟩) (hm : (a1.lo.max a2.lo).v ≤ (a1.hi.min a2.hi).v) (hw : x2.v < 0) (hcl : x2.v ≤ y2.v) (hr : n < 0 ∨ 65536 < n) : CallOK Tryz.prog gl 8 [.agg [.v (.bool s1), .sl 1 (u32s w1), .v (.int .i64 d1), .v (.bool t1), .sl 1 (u32s u1), .v (.int .i64 e1)], .agg [.v (.bool s2), .sl 1 (u32s w2), .v (.int .i64 d2), .v (.bool t2), .sl 1 (u32s u2), .v (.int .i64 e2)], .v (.int .i64 n)] (.v (.bool (true))) := by
  refine call_ok (C := ⟨Tryz.prog, gl, ti, 139, false⟩) ti_ok mixed 3000 Tryz.call8 Tryz.func8 rfl Tryz.ntmps8 (by simp) byClL byCl ?_
  rw [Tryz.results8]
  have fw := few03_2 s1 w1 d1 t1 u1 e1 ⟨by have := h1.px.len; omega, by have := h1.py.len; omega⟩ s2 w2 d2 t2 u2 e2 ⟨by have := h2.px.len; omega, by have := h2.py.len; omega⟩
  rw [decide_eq_true hf] at fw
  clear hf
  have m1 := iv_Meet _ _ _ _ _ _ _ _ _ h1 _ _ _ _ _ _ _ _ _ h2 hm
  have m2 := ri_Meet _ _ _ _ _ _ _ _ _ h1 _ _ _ _ _ _ _ _ _ h2 hm
  have m3 := ri_same (a := a1.meet a2 hm) (k := 256) ⟨g1.1.max g2.1, g1.2.min g2.2⟩
  unfold Iv.meet at m3
  dsimp only at m3
  have m4 := base_Num_nil
  clear hm
  have w1 := iv_Widen_err _ _ _ _ _ _ _ _ _ h1 _ _ _ _ h2.px hw
  have w2 := ri_Widen_err _ _ _ _ _ _ _ _ _ h1 _ _ _ _ h2.px hw
  have w3 := ri_same (Iv.Mg.zero 1)
  have w4 := base_Num 3
  clear hw
  have c1 := iv_Clip _ _ _ _ _ _ _ _ _ h1 _ _ _ _ h2.px _ _ _ _ h2.py hcl
  have c2 := ri_Clip _ _ _ _ _ _ _ _ _ h1 _ _ _ _ h2.px _ _ _ _ h2.py hcl
  have c3 := ri_same ((g1.max (Iv.Mg.pt gx2)).min (Iv.Mg.pt gy2))
  have c4 := base_Num_nil
  clear hcl
  have r1 := iv_Round_err _ _ _ _ _ _ _ _ _ h1 n hr
  have r2 := ri_Round_err _ _ _ _ _ _ _ _ _ h1 n hr
  have r3 := ri_same (Iv.Mg.zero 1)
  have r4 := base_Num 3
  have nb : ¬ (300 < n ∧ n ≤ 65536) := by omega
  generalize a1.lo.max a2.lo = z70 at *
  generalize a1.hi.min a2.hi = z71 at *
  generalize (a1.max (Iv.pt x2)).min (Iv.pt y2) = z73 at *
  repeat' (first | (simp only [go_sem, Int.reduceAdd, Int.reduceEq, Int.reduceLE, Int.reduceLT, Int.reduceMul, Int.reduceNeg, Int.reducePow, Int.reduceSub, Int.reduceToNat, Nat.reduceAdd, Nat.reduceBEq, Nat.reduceEqDiff, Nat.reduceLT, Nat.reduceLeDiff, Nat.reduceMul, Nat.reducePow, Nat.reduceSub, reduceCtorEq, reduceIte, IntKind.bits.eq_def, ti, tin]) | (simp (disch := omega) only [w64, wu64, wu32, Nat.min_eq_left]) | (with_reducible first | refine callF_of (fw) ?_ | refine drawF_of (fw) ?_) | (with_reducible first | refine callF_of (awake03) ?_ | refine drawF_of (awake03) ?_) | (with_reducible first | refine callF_of (m1) ?_ | refine drawF_of (m1) ?_) | (with_reducible first | refine callF_of (m2) ?_ | refine drawF_of (m2) ?_) | (with_reducible first | refine callF_of (m3) ?_ | refine drawF_of (m3) ?_) | (with_reducible first | refine callF_of (m4) ?_ | refine drawF_of (m4) ?_) | (with_reducible first | refine callF_of (w1) ?_ | refine drawF_of (w1) ?_) | (with_reducible first | refine callF_of (w2) ?_ | refine drawF_of (w2) ?_) | (with_reducible first | refine callF_of (w3) ?_ | refine drawF_of (w3) ?_) | (with_reducible first | refine callF_of (w4) ?_ | refine drawF_of (w4) ?_) | (with_reducible first | refine callF_of (c1) ?_ | refine drawF_of (c1) ?_) | (with_reducible first | refine callF_of (c2) ?_ | refine drawF_of (c2) ?_) | (with_reducible first | refine callF_of (c3) ?_ | refine drawF_of (c3) ?_) | (with_reducible first | refine callF_of (c4) ?_ | refine drawF_of (c4) ?_) | (with_reducible first | refine callF_of (r1) ?_ | refine drawF_of (r1) ?_) | (with_reducible first | refine callF_of (r2) ?_ | refine drawF_of (r2) ?_) | (with_reducible first | refine callF_of (r3) ?_ | refine drawF_of (r3) ?_) | (with_reducible first | refine callF_of (r4) ?_ | refine drawF_of (r4) ?_) | (refine after_lit ti_ok ?_) | (refine drawAfter_lit ti_ok ?_) | (refine drawEnd_of (by kernel_rfl) ?_) | ((first | refine cond_cases (fun hc => ?_) (fun hc => ?_) | refine guard_split (fun hc => ?_) (fun hc => ?_) | refine drawGuard_split (fun hc => ?_) (fun hc => ?_)) <;> first | (exfalso; simp only [dcT, dcF, bnT, bnF, bnU, bnV] at hc; omega) | (simp only [hc]; try simp only [dcT, dcF, bnT, bnF, bnU, bnV] at hc)) | (refine after_need (by omega) ?_) | (refine drawAfter_need (by omega) ?_))
  all_goals exact fin_same trivial rfl
theorem limits_ynyy (s1 : Bool) (w1 : List Nat) (d1 : Int) (t1 : Bool) (u1 : List Nat) (e1 : Int) (x1 y1 : Dy) (a1 : Iv) (h1 : IArg s1 w1 d1 t1 u1 e1 x1 y1 a1) (g1 : a1.Mg 256) (k1 : a1.Dn 200) (gx1 : Mg 256 x1) (gy1 : Mg 256 y1) (s2 : Bool) (w2 : List Nat) (d2 : Int) (t2 : Bool) (u2 : List Nat) (e2 : Int) (x2 y2 : Dy) (a2 : Iv) (h2 : IArg s2 w2 d2 t2 u2 e2 x2 y2 a2) (g2 : a2.Mg 256) (k2 : a2.Dn 200) (gx2 : Mg 256 x2) (gy2 : Mg 256 y2) (n : Int) (hf : shI ⟨s1, w1, d1, t1, u1, e1⟩ ∧ shI ⟨s2, w2, d2, t2, u2, e2⟩) (hm : (a1.lo.max a2.lo).v ≤ (a1.hi.min a2.hi).v) (hw : x2.v < 0) (hcl : x2.v ≤ y2.v) (hr : ¬ (n < 0 ∨ 300 < n)) : CallOK Tryz.prog gl 8 [.agg [.v (.bool s1), .sl 1 (u32s w1), .v (.int .i64 d1), .v (.bool t1), .sl 1 (u32s u1), .v (.int .i64 e1)], .agg [.v (.bool s2), .sl 1 (u32s w2), .v (.int .i64 d2), .v (.bool t2), .sl 1 (u32s u2), .v (.int .i64 e2)], .v (.int .i64 n)] (.v (.bool (true))) := by
  refine call_ok (C := ⟨Tryz.prog, gl, ti, 139, false⟩) ti_ok mixed 3000 Tryz.call8 Tryz.func8 rfl Tryz.ntmps8 (by simp) byClL byCl ?_
  rw [Tryz.results8]
  have fw := few03_2 s1 w1 d1 t1 u1 e1 ⟨by have := h1.px.len; omega, by have := h1.py.len; omega⟩ s2 w2 d2 t2 u2 e2 ⟨by have := h2.px.len; omega, by have := h2.py.len; omega⟩
  rw [decide_eq_true hf] at fw
  clear hf
  have m1 := iv_Meet _ _ _ _ _ _ _ _ _ h1 _ _ _ _ _ _ _ _ _ h2 hm
  have m2 := ri_Meet _ _ _ _ _ _ _ _ _ h1 _ _ _ _ _ _ _ _ _ h2 hm
  have m3 := ri_same (a := a1.meet a2 hm) (k := 256) ⟨g1.1.max g2.1, g1.2.min g2.2⟩
  unfold Iv.meet at m3
  dsimp only at m3
  have m4 := base_Num_nil
  clear hm
  have w1 := iv_Widen_err _ _ _ _ _ _ _ _ _ h1 _ _ _ _ h2.px hw
  have w2 := ri_Widen_err _ _ _ _ _ _ _ _ _ h1 _ _ _ _ h2.px hw
  have w3 := ri_same (Iv.Mg.zero 1)
  have w4 := base_Num 3
  clear hw
  have c1 := iv_Clip _ _ _ _ _ _ _ _ _ h1 _ _ _ _ h2.px _ _ _ _ h2.py hcl
  have c2 := ri_Clip _ _ _ _ _ _ _ _ _ h1 _ _ _ _ h2.px _ _ _ _ h2.py hcl
  have c3 := ri_same ((g1.max (Iv.Mg.pt gx2)).min (Iv.Mg.pt gy2))
  have c4 := base_Num_nil
  clear hcl
  obtain ⟨n, rfl⟩ : ∃ n1 : Nat, n = n1 := ⟨n.toNat, by omega⟩
  have r1 := iv_Round _ _ _ _ _ _ _ _ _ h1 n (by omega) 256 g1 (by omega)
  have r2 := ri_Round _ _ _ _ _ _ _ _ _ h1 n (by omega) 256 g1 (by omega)
  have r3 := ri_same (a := rnd a1 n k1 (by omega)) (k := 257) ⟨g1.1.floor, g1.2.neg.floor.neg⟩
  unfold rnd at r3
  dsimp only at r3
  have r4 := base_Num_nil
  generalize a1.lo.max a2.lo = z70 at *
  generalize a1.hi.min a2.hi = z71 at *
  generalize (a1.max (Iv.pt x2)).min (Iv.pt y2) = z73 at *
  generalize a1.lo.floor n = z74 at *
  generalize a1.hi.ceil n = z75 at *
  repeat' (first | (simp only [go_sem, Int.reduceAdd, Int.reduceEq, Int.reduceLE, Int.reduceLT, Int.reduceMul, Int.reduceNeg, Int.reducePow, Int.reduceSub, Int.reduceToNat, Nat.reduceAdd, Nat.reduceBEq, Nat.reduceEqDiff, Nat.reduceLT, Nat.reduceLeDiff, Nat.reduceMul, Nat.reducePow, Nat.reduceSub, reduceCtorEq, reduceIte, IntKind.bits.eq_def, ti, tin]) | (simp (disch := omega) only [w64, wu64, wu32, Nat.min_eq_left]) | (with_reducible first | refine callF_of (fw) ?_ | refine drawF_of (fw) ?_) | (with_reducible first | refine callF_of (awake03) ?_ | refine drawF_of (awake03) ?_) | (with_reducible first | refine callF_of (m1) ?_ | refine drawF_of (m1) ?_) | (with_reducible first | refine callF_of (m2) ?_ | refine drawF_of (m2) ?_) | (with_reducible first | refine callF_of (m3) ?_ | refine drawF_of (m3) ?_) | (with_reducible first | refine callF_of (m4) ?_ | refine drawF_of (m4) ?_) | (with_reducible first | refine callF_of (w1) ?_ | refine drawF_of (w1) ?_) | (with_reducible first | refine callF_of (w2) ?_ | refine drawF_of (w2) ?_) | (with_reducible first | refine callF_of (w3) ?_ | refine drawF_of (w3) ?_) | (with_reducible first | refine callF_of (w4) ?_ | refine drawF_of (w4) ?_) | (with_reducible first | refine callF_of (c1) ?_ | refine drawF_of (c1) ?_) | (with_reducible first | refine callF_of (c2) ?_ | refine drawF_of (c2) ?_) | (with_reducible first | refine callF_of (c3) ?_ | refine drawF_of (c3) ?_) | (with_reducible first | refine callF_of (c4) ?_ | refine drawF_of (c4) ?_) | (with_reducible first | refine callF_of (r1) ?_ | refine drawF_of (r1) ?_) | (with_reducible first | refine callF_of (r2) ?_ | refine drawF_of (r2) ?_) | (with_reducible first | refine callF_of (r3) ?_ | refine drawF_of (r3) ?_) | (with_reducible first | refine callF_of (r4) ?_ | refine drawF_of (r4) ?_) | (refine after_lit ti_ok ?_) | (refine drawAfter_lit ti_ok ?_) | (refine drawEnd_of (by kernel_rfl) ?_) | ((first | refine cond_cases (fun hc => ?_) (fun hc => ?_) | refine guard_split (fun hc => ?_) (fun hc => ?_) | refine drawGuard_split (fun hc => ?_) (fun hc => ?_)) <;> first | (exfalso; simp only [dcT, dcF, bnT, bnF, bnU, bnV] at hc; omega) | (simp only [hc]; try simp only [dcT, dcF, bnT, bnF, bnU, bnV] at hc)) | (refine after_need (by omega) ?_) | (refine drawAfter_need (by omega) ?_))
  all_goals exact fin_same trivial rfl
theorem limits_yynn (s1 : Bool) (w1 : List Nat) (d1 : Int) (t1 : Bool) (u1 : List Nat) (e1 : Int) (x1 y1 : Dy) (a1 : Iv) (h1 : IArg s1 w1 d1 t1 u1 e1 x1 y1 a1) (g1 : a1.Mg 256) (k1 : a1.Dn 200) (gx1 : Mg 256 x1) (gy1 : Mg 256 y1) (s2 : Bool) (w2 : List Nat) (d2 : Int) (t2 : Bool) (u2 : List Nat) (e2 : Int) (x2 y2 : Dy) (a2 : Iv) (h2 : IArg s2 w2 d2 t2 u2 e2 x2 y2 a2) (g2 : a2.Mg 256) (k2 : a2.Dn 200) (gx2 : Mg 256 x2) (gy2 : Mg 256 y2) (n : Int) (hf : shI ⟨s1, w1, d1, t1, u1, e1⟩ ∧ shI ⟨s2, w2, d2, t2, u2, e2⟩) (hm : (a1.lo.max a2.lo).v ≤ (a1.hi.min a2.hi).v) (hw : 0 ≤ x2.v) (hcl : y2.v < x2.v) (hr : n < 0 ∨ 65536 < n) : CallOK Tryz.prog gl 8 [.agg [.v (.bool s1), .sl 1 (u32s w1), .v (.int .i64 d1), .v (.bool t1), .sl 1 (u32s u1), .v (.int .i64 e1)], .agg [.v (.bool s2), .sl 1 (u32s w2), .v (.int .i64 d2), .v (.bool t2), .sl 1 (u32s u2), .v (.int .i64 e2)], .v (.int .i64 n)] (.v (.bool (true))) := by
  refine call_ok (C := ⟨Tryz.prog, gl, ti, 139, false⟩) ti_ok mixed 3000 Tryz.call8 Tryz.func8 rfl Tryz.ntmps8 (by simp) byClL byCl ?_
  rw [Tryz.results8]
  have fw := few03_2 s1 w1 d1 t1 u1 e1 ⟨by have := h1.px.len; omega, by have := h1.py.len; omega⟩ s2 w2 d2 t2 u2 e2 ⟨by have := h2.px.len; omega, by have := h2.py.len; omega⟩
  rw [decide_eq_true hf] at fw
  clear hf
  have m1 := iv_Meet _ _ _ _ _ _ _ _ _ h1 _ _ _ _ _ _ _ _ _ h2 hm
  have m2 := ri_Meet _ _ _ _ _ _ _ _ _ h1 _ _ _ _ _ _ _ _ _ h2 hm
  have m3 := ri_same (a := a1.meet a2 hm) (k := 256) ⟨g1.1.max g2.1, g1.2.min g2.2⟩
  unfold Iv.meet at m3
  dsimp only at m3
  have m4 := base_Num_nil
  clear hm
  have w1 := iv_Widen _ _ _ _ _ _ _ _ _ h1 _ _ _ _ h2.px hw
  have w2 := ri_Widen _ _ _ _ _ _ _ _ _ h1 _ _ _ _ h2.px hw 256 g1 gx2 (by omega)
  have w3 := ri_same (g1.add (Iv.Mg.sp2 gx2 gx2.neg))
  change CallOK _ _ _ [.agg [.v (.bool (sg (a1.wide x2).lo)), .sl 1 (u32s (ms (a1.wide x2).lo)), .v (.int .i64 (dn (a1.wide x2).lo)), .v (.bool (sg (a1.wide x2).hi)), .sl 1 (u32s (ms (a1.wide x2).hi)), .v (.int .i64 (dn (a1.wide x2).hi))], .agg [.v (.bool (sg (a1.wide x2).lo)), .sl 1 (u32s (ms (a1.wide x2).lo)), .v (.int .i64 (dn (a1.wide x2).lo)), .v (.bool (sg (a1.wide x2).hi)), .sl 1 (u32s (ms (a1.wide x2).hi)), .v (.int .i64 (dn (a1.wide x2).hi))]] _ at w3
  have w4 := base_Num_nil
  clear hw
  have c1 := iv_Clip_err _ _ _ _ _ _ _ _ _ h1 _ _ _ _ h2.px _ _ _ _ h2.py hcl
  have c2 := ri_Clip_err _ _ _ _ _ _ _ _ _ h1 _ _ _ _ h2.px _ _ _ _ h2.py hcl
  have c3 := ri_same (Iv.Mg.zero 1)
  have c4 := base_Num 3
  clear hcl
  have r1 := iv_Round_err _ _ _ _ _ _ _ _ _ h1 n hr
  have r2 := ri_Round_err _ _ _ _ _ _ _ _ _ h1 n hr
  have r3 := ri_same (Iv.Mg.zero 1)
  have r4 := base_Num 3
  have nb : ¬ (300 < n ∧ n ≤ 65536) := by omega
  generalize a1.lo.max a2.lo = z70 at *
  generalize a1.hi.min a2.hi = z71 at *
  generalize a1.wide x2 = z72 at *
  repeat' (first | (simp only [go_sem, Int.reduceAdd, Int.reduceEq, Int.reduceLE, Int.reduceLT, Int.reduceMul, Int.reduceNeg, Int.reducePow, Int.reduceSub, Int.reduceToNat, Nat.reduceAdd, Nat.reduceBEq, Nat.reduceEqDiff, Nat.reduceLT, Nat.reduceLeDiff, Nat.reduceMul, Nat.reducePow, Nat.reduceSub, reduceCtorEq, reduceIte, IntKind.bits.eq_def, ti, tin]) | (simp (disch := omega) only [w64, wu64, wu32, Nat.min_eq_left]) | (with_reducible first | refine callF_of (fw) ?_ | refine drawF_of (fw) ?_) | (with_reducible first | refine callF_of (awake03) ?_ | refine drawF_of (awake03) ?_) | (with_reducible first | refine callF_of (m1) ?_ | refine drawF_of (m1) ?_) | (with_reducible first | refine callF_of (m2) ?_ | refine drawF_of (m2) ?_) | (with_reducible first | refine callF_of (m3) ?_ | refine drawF_of (m3) ?_) | (with_reducible first | refine callF_of (m4) ?_ | refine drawF_of (m4) ?_) | (with_reducible first | refine callF_of (w1) ?_ | refine drawF_of (w1) ?_) | (with_reducible first | refine callF_of (w2) ?_ | refine drawF_of (w2) ?_) | (with_reducible first | refine callF_of (w3) ?_ | refine drawF_of (w3) ?_) | (with_reducible first | refine callF_of (w4) ?_ | refine drawF_of (w4) ?_) | (with_reducible first | refine callF_of (c1) ?_ | refine drawF_of (c1) ?_) | (with_reducible first | refine callF_of (c2) ?_ | refine drawF_of (c2) ?_) | (with_reducible first | refine callF_of (c3) ?_ | refine drawF_of (c3) ?_) | (with_reducible first | refine callF_of (c4) ?_ | refine drawF_of (c4) ?_) | (with_reducible first | refine callF_of (r1) ?_ | refine drawF_of (r1) ?_) | (with_reducible first | refine callF_of (r2) ?_ | refine drawF_of (r2) ?_) | (with_reducible first | refine callF_of (r3) ?_ | refine drawF_of (r3) ?_) | (with_reducible first | refine callF_of (r4) ?_ | refine drawF_of (r4) ?_) | (refine after_lit ti_ok ?_) | (refine drawAfter_lit ti_ok ?_) | (refine drawEnd_of (by kernel_rfl) ?_) | ((first | refine cond_cases (fun hc => ?_) (fun hc => ?_) | refine guard_split (fun hc => ?_) (fun hc => ?_) | refine drawGuard_split (fun hc => ?_) (fun hc => ?_)) <;> first | (exfalso; simp only [dcT, dcF, bnT, bnF, bnU, bnV] at hc; omega) | (simp only [hc]; try simp only [dcT, dcF, bnT, bnF, bnU, bnV] at hc)) | (refine after_need (by omega) ?_) | (refine drawAfter_need (by omega) ?_))
  all_goals exact fin_same trivial rfl
theorem limits_yyny (s1 : Bool) (w1 : List Nat) (d1 : Int) (t1 : Bool) (u1 : List Nat) (e1 : Int) (x1 y1 : Dy) (a1 : Iv) (h1 : IArg s1 w1 d1 t1 u1 e1 x1 y1 a1) (g1 : a1.Mg 256) (k1 : a1.Dn 200) (gx1 : Mg 256 x1) (gy1 : Mg 256 y1) (s2 : Bool) (w2 : List Nat) (d2 : Int) (t2 : Bool) (u2 : List Nat) (e2 : Int) (x2 y2 : Dy) (a2 : Iv) (h2 : IArg s2 w2 d2 t2 u2 e2 x2 y2 a2) (g2 : a2.Mg 256) (k2 : a2.Dn 200) (gx2 : Mg 256 x2) (gy2 : Mg 256 y2) (n : Int) (hf : shI ⟨s1, w1, d1, t1, u1, e1⟩ ∧ shI ⟨s2, w2, d2, t2, u2, e2⟩) (hm : (a1.lo.max a2.lo).v ≤ (a1.hi.min a2.hi).v) (hw : 0 ≤ x2.v) (hcl : y2.v < x2.v) (hr : ¬ (n < 0 ∨ 300 < n)) : CallOK Tryz.prog gl 8 [.agg [.v (.bool s1), .sl 1 (u32s w1), .v (.int .i64 d1), .v (.bool t1), .sl 1 (u32s u1), .v (.int .i64 e1)], .agg [.v (.bool s2), .sl 1 (u32s w2), .v (.int .i64 d2), .v (.bool t2), .sl 1 (u32s u2), .v (.int .i64 e2)], .v (.int .i64 n)] (.v (.bool (true))) := by
  refine call_ok (C := ⟨Tryz.prog, gl, ti, 139, false⟩) ti_ok mixed 3000 Tryz.call8 Tryz.func8 rfl Tryz.ntmps8 (by simp) byClL byCl ?_
  rw [Tryz.results8]
  have fw := few03_2 s1 w1 d1 t1 u1 e1 ⟨by have := h1.px.len; omega, by have := h1.py.len; omega⟩ s2 w2 d2 t2 u2 e2 ⟨by have := h2.px.len; omega, by have := h2.py.len; omega⟩
  rw [decide_eq_true hf] at fw
  clear hf
  have m1 := iv_Meet _ _ _ _ _ _ _ _ _ h1 _ _ _ _ _ _ _ _ _ h2 hm
  have m2 := ri_Meet _ _ _ _ _ _ _ _ _ h1 _ _ _ _ _ _ _ _ _ h2 hm
  have m3 := ri_same (a := a1.meet a2 hm) (k := 256) ⟨g1.1.max g2.1, g1.2.min g2.2⟩
  unfold Iv.meet at m3
  dsimp only at m3
  have m4 := base_Num_nil
  clear hm
  have w1 := iv_Widen _ _ _ _ _ _ _ _ _ h1 _ _ _ _ h2.px hw
  have w2 := ri_Widen _ _ _ _ _ _ _ _ _ h1 _ _ _ _ h2.px hw 256 g1 gx2 (by omega)
  have w3 := ri_same (g1.add (Iv.Mg.sp2 gx2 gx2.neg))
  change CallOK _ _ _ [.agg [.v (.bool (sg (a1.wide x2).lo)), .sl 1 (u32s (ms (a1.wide x2).lo)), .v (.int .i64 (dn (a1.wide x2).lo)), .v (.bool (sg (a1.wide x2).hi)), .sl 1 (u32s (ms (a1.wide x2).hi)), .v (.int .i64 (dn (a1.wide x2).hi))], .agg [.v (.bool (sg (a1.wide x2).lo)), .sl 1 (u32s (ms (a1.wide x2).lo)), .v (.int .i64 (dn (a1.wide x2).lo)), .v (.bool (sg (a1.wide x2).hi)), .sl 1 (u32s (ms (a1.wide x2).hi)), .v (.int .i64 (dn (a1.wide x2).hi))]] _ at w3
  have w4 := base_Num_nil
  clear hw
  have c1 := iv_Clip_err _ _ _ _ _ _ _ _ _ h1 _ _ _ _ h2.px _ _ _ _ h2.py hcl
  have c2 := ri_Clip_err _ _ _ _ _ _ _ _ _ h1 _ _ _ _ h2.px _ _ _ _ h2.py hcl
  have c3 := ri_same (Iv.Mg.zero 1)
  have c4 := base_Num 3
  clear hcl
  obtain ⟨n, rfl⟩ : ∃ n1 : Nat, n = n1 := ⟨n.toNat, by omega⟩
  have r1 := iv_Round _ _ _ _ _ _ _ _ _ h1 n (by omega) 256 g1 (by omega)
  have r2 := ri_Round _ _ _ _ _ _ _ _ _ h1 n (by omega) 256 g1 (by omega)
  have r3 := ri_same (a := rnd a1 n k1 (by omega)) (k := 257) ⟨g1.1.floor, g1.2.neg.floor.neg⟩
  unfold rnd at r3
  dsimp only at r3
  have r4 := base_Num_nil
  generalize a1.lo.max a2.lo = z70 at *
  generalize a1.hi.min a2.hi = z71 at *
  generalize a1.wide x2 = z72 at *
  generalize a1.lo.floor n = z74 at *
  generalize a1.hi.ceil n = z75 at *
  repeat' (first | (simp only [go_sem, Int.reduceAdd, Int.reduceEq, Int.reduceLE, Int.reduceLT, Int.reduceMul, Int.reduceNeg, Int.reducePow, Int.reduceSub, Int.reduceToNat, Nat.reduceAdd, Nat.reduceBEq, Nat.reduceEqDiff, Nat.reduceLT, Nat.reduceLeDiff, Nat.reduceMul, Nat.reducePow, Nat.reduceSub, reduceCtorEq, reduceIte, IntKind.bits.eq_def, ti, tin]) | (simp (disch := omega) only [w64, wu64, wu32, Nat.min_eq_left]) | (with_reducible first | refine callF_of (fw) ?_ | refine drawF_of (fw) ?_) | (with_reducible first | refine callF_of (awake03) ?_ | refine drawF_of (awake03) ?_) | (with_reducible first | refine callF_of (m1) ?_ | refine drawF_of (m1) ?_) | (with_reducible first | refine callF_of (m2) ?_ | refine drawF_of (m2) ?_) | (with_reducible first | refine callF_of (m3) ?_ | refine drawF_of (m3) ?_) | (with_reducible first | refine callF_of (m4) ?_ | refine drawF_of (m4) ?_) | (with_reducible first | refine callF_of (w1) ?_ | refine drawF_of (w1) ?_) | (with_reducible first | refine callF_of (w2) ?_ | refine drawF_of (w2) ?_) | (with_reducible first | refine callF_of (w3) ?_ | refine drawF_of (w3) ?_) | (with_reducible first | refine callF_of (w4) ?_ | refine drawF_of (w4) ?_) | (with_reducible first | refine callF_of (c1) ?_ | refine drawF_of (c1) ?_) | (with_reducible first | refine callF_of (c2) ?_ | refine drawF_of (c2) ?_) | (with_reducible first | refine callF_of (c3) ?_ | refine drawF_of (c3) ?_) | (with_reducible first | refine callF_of (c4) ?_ | refine drawF_of (c4) ?_) | (with_reducible first | refine callF_of (r1) ?_ | refine drawF_of (r1) ?_) | (with_reducible first | refine callF_of (r2) ?_ | refine drawF_of (r2) ?_) | (with_reducible first | refine callF_of (r3) ?_ | refine drawF_of (r3) ?_) | (with_reducible first | refine callF_of (r4) ?_ | refine drawF_of (r4) ?_) | (refine after_lit ti_ok ?_) | (refine drawAfter_lit ti_ok ?_) | (refine drawEnd_of (by kernel_rfl) ?_) | ((first | refine cond_cases (fun hc => ?_) (fun hc => ?_) | refine guard_split (fun hc => ?_) (fun hc => ?_) | refine drawGuard_split (fun hc => ?_) (fun hc => ?_)) <;> first | (exfalso; simp only [dcT, dcF, bnT, bnF, bnU, bnV] at hc; omega) | (simp only [hc]; try simp only [dcT, dcF, bnT, bnF, bnU, bnV] at hc)) | (refine after_need (by omega) ?_) | (refine drawAfter_need (by omega) ?_))
  all_goals exact fin_same trivial rfl
theorem limits_yyyn (s1 : Bool) (w1 : List Nat) (d1 : Int) (t1 : Bool) (u1 : List Nat) (e1 : Int) (x1 y1 : Dy) (a1 : Iv) (h1 : IArg s1 w1 d1 t1 u1 e1 x1 y1 a1) (g1 : a1.Mg 256) (k1 : a1.Dn 200) (gx1 : Mg 256 x1) (gy1 : Mg 256 y1) (s2 : Bool) (w2 : List Nat) (d2 : Int) (t2 : Bool) (u2 : List Nat) (e2 : Int) (x2 y2 : Dy) (a2 : Iv) (h2 : IArg s2 w2 d2 t2 u2 e2 x2 y2 a2) (g2 : a2.Mg 256) (k2 : a2.Dn 200) (gx2 : Mg 256 x2) (gy2 : Mg 256 y2) (n : Int) (hf : shI ⟨s1, w1, d1, t1, u1, e1⟩ ∧ shI ⟨s2, w2, d2, t2, u2, e2⟩) (hm : (a1.lo.max a2.lo).v ≤ (a1.hi.min a2.hi).v) (hw : 0 ≤ x2.v) (hcl : x2.v ≤ y2.v) (hr : n < 0 ∨ 65536 < n) : CallOK Tryz.prog gl 8 [.agg [.v (.bool s1), .sl 1 (u32s w1), .v (.int .i64 d1), .v (.bool t1), .sl 1 (u32s u1), .v (.int .i64 e1)], .agg [.v (.bool s2), .sl 1 (u32s w2), .v (.int .i64 d2), .v (.bool t2), .sl 1 (u32s u2), .v (.int .i64 e2)], .v (.int .i64 n)] (.v (.bool (true))) := by
  refine call_ok (C := ⟨Tryz.prog, gl, ti, 139, false⟩) ti_ok mixed 3000 Tryz.call8 Tryz.func8 rfl Tryz.ntmps8 (by simp) byClL byCl ?_
  rw [Tryz.results8]
  have fw := few03_2 s1 w1 d1 t1 u1 e1 ⟨by have := h1.px.len; omega, by have := h1.py.len; omega⟩ s2 w2 d2 t2 u2 e2 ⟨by have := h2.px.len; omega, by have := h2.py.len; omega⟩
  rw [decide_eq_true hf] at fw
  clear hf
  have m1 := iv_Meet _ _ _ _ _ _ _ _ _ h1 _ _ _ _ _ _ _ _ _ h2 hm
  have m2 := ri_Meet _ _ _ _ _ _ _ _ _ h1 _ _ _ _ _ _ _ _ _ h2 hm
  have m3 := ri_same (a := a1.meet a2 hm) (k := 256) ⟨g1.1.max g2.1, g1.2.min g2.2⟩
  unfold Iv.meet at m3
  dsimp only at m3
  have m4 := base_Num_nil
  clear hm
  have w1 := iv_Widen _ _ _ _ _ _ _ _ _ h1 _ _ _ _ h2.px hw
  have w2 := ri_Widen _ _ _ _ _ _ _ _ _ h1 _ _ _ _ h2.px hw 256 g1 gx2 (by omega)
  have w3 := ri_same (g1.add (Iv.Mg.sp2 gx2 gx2.neg))
  change CallOK _ _ _ [.agg [.v (.bool (sg (a1.wide x2).lo)), .sl 1 (u32s (ms (a1.wide x2).lo)), .v (.int .i64 (dn (a1.wide x2).lo)), .v (.bool (sg (a1.wide x2).hi)), .sl 1 (u32s (ms (a1.wide x2).hi)), .v (.int .i64 (dn (a1.wide x2).hi))], .agg [.v (.bool (sg (a1.wide x2).lo)), .sl 1 (u32s (ms (a1.wide x2).lo)), .v (.int .i64 (dn (a1.wide x2).lo)), .v (.bool (sg (a1.wide x2).hi)), .sl 1 (u32s (ms (a1.wide x2).hi)), .v (.int .i64 (dn (a1.wide x2).hi))]] _ at w3
  have w4 := base_Num_nil
  clear hw
  have c1 := iv_Clip _ _ _ _ _ _ _ _ _ h1 _ _ _ _ h2.px _ _ _ _ h2.py hcl
  have c2 := ri_Clip _ _ _ _ _ _ _ _ _ h1 _ _ _ _ h2.px _ _ _ _ h2.py hcl
  have c3 := ri_same ((g1.max (Iv.Mg.pt gx2)).min (Iv.Mg.pt gy2))
  have c4 := base_Num_nil
  clear hcl
  have r1 := iv_Round_err _ _ _ _ _ _ _ _ _ h1 n hr
  have r2 := ri_Round_err _ _ _ _ _ _ _ _ _ h1 n hr
  have r3 := ri_same (Iv.Mg.zero 1)
  have r4 := base_Num 3
  have nb : ¬ (300 < n ∧ n ≤ 65536) := by omega
  generalize a1.lo.max a2.lo = z70 at *
  generalize a1.hi.min a2.hi = z71 at *
  generalize a1.wide x2 = z72 at *
  generalize (a1.max (Iv.pt x2)).min (Iv.pt y2) = z73 at *
  repeat' (first | (simp only [go_sem, Int.reduceAdd, Int.reduceEq, Int.reduceLE, Int.reduceLT, Int.reduceMul, Int.reduceNeg, Int.reducePow, Int.reduceSub, Int.reduceToNat, Nat.reduceAdd, Nat.reduceBEq, Nat.reduceEqDiff, Nat.reduceLT, Nat.reduceLeDiff, Nat.reduceMul, Nat.reducePow, Nat.reduceSub, reduceCtorEq, reduceIte, IntKind.bits.eq_def, ti, tin]) | (simp (disch := omega) only [w64, wu64, wu32, Nat.min_eq_left]) | (with_reducible first | refine callF_of (fw) ?_ | refine drawF_of (fw) ?_) | (with_reducible first | refine callF_of (awake03) ?_ | refine drawF_of (awake03) ?_) | (with_reducible first | refine callF_of (m1) ?_ | refine drawF_of (m1) ?_) | (with_reducible first | refine callF_of (m2) ?_ | refine drawF_of (m2) ?_) | (with_reducible first | refine callF_of (m3) ?_ | refine drawF_of (m3) ?_) | (with_reducible first | refine callF_of (m4) ?_ | refine drawF_of (m4) ?_) | (with_reducible first | refine callF_of (w1) ?_ | refine drawF_of (w1) ?_) | (with_reducible first | refine callF_of (w2) ?_ | refine drawF_of (w2) ?_) | (with_reducible first | refine callF_of (w3) ?_ | refine drawF_of (w3) ?_) | (with_reducible first | refine callF_of (w4) ?_ | refine drawF_of (w4) ?_) | (with_reducible first | refine callF_of (c1) ?_ | refine drawF_of (c1) ?_) | (with_reducible first | refine callF_of (c2) ?_ | refine drawF_of (c2) ?_) | (with_reducible first | refine callF_of (c3) ?_ | refine drawF_of (c3) ?_) | (with_reducible first | refine callF_of (c4) ?_ | refine drawF_of (c4) ?_) | (with_reducible first | refine callF_of (r1) ?_ | refine drawF_of (r1) ?_) | (with_reducible first | refine callF_of (r2) ?_ | refine drawF_of (r2) ?_) | (with_reducible first | refine callF_of (r3) ?_ | refine drawF_of (r3) ?_) | (with_reducible first | refine callF_of (r4) ?_ | refine drawF_of (r4) ?_) | (refine after_lit ti_ok ?_) | (refine drawAfter_lit ti_ok ?_) | (refine drawEnd_of (by kernel_rfl) ?_) | ((first | refine cond_cases (fun hc => ?_) (fun hc => ?_) | refine guard_split (fun hc => ?_) (fun hc => ?_) | refine drawGuard_split (fun hc => ?_) (fun hc => ?_)) <;> first | (exfalso; simp only [dcT, dcF, bnT, bnF, bnU, bnV] at hc; omega) | (simp only [hc]; try simp only [dcT, dcF, bnT, bnF, bnU, bnV] at hc)) | (refine after_need (by omega) ?_) | (refine drawAfter_need (by omega) ?_))
  all_goals exact fin_same trivial rfl
theorem limits_yyyy (s1 : Bool) (w1 : List Nat) (d1 : Int) (t1 : Bool) (u1 : List Nat) (e1 : Int) (x1 y1 : Dy) (a1 : Iv) (h1 : IArg s1 w1 d1 t1 u1 e1 x1 y1 a1) (g1 : a1.Mg 256) (k1 : a1.Dn 200) (gx1 : Mg 256 x1) (gy1 : Mg 256 y1) (s2 : Bool) (w2 : List Nat) (d2 : Int) (t2 : Bool) (u2 : List Nat) (e2 : Int) (x2 y2 : Dy) (a2 : Iv) (h2 : IArg s2 w2 d2 t2 u2 e2 x2 y2 a2) (g2 : a2.Mg 256) (k2 : a2.Dn 200) (gx2 : Mg 256 x2) (gy2 : Mg 256 y2) (n : Int) (hf : shI ⟨s1, w1, d1, t1, u1, e1⟩ ∧ shI ⟨s2, w2, d2, t2, u2, e2⟩) (hm : (a1.lo.max a2.lo).v ≤ (a1.hi.min a2.hi).v) (hw : 0 ≤ x2.v) (hcl : x2.v ≤ y2.v) (hr : ¬ (n < 0 ∨ 300 < n)) : CallOK Tryz.prog gl 8 [.agg [.v (.bool s1), .sl 1 (u32s w1), .v (.int .i64 d1), .v (.bool t1), .sl 1 (u32s u1), .v (.int .i64 e1)], .agg [.v (.bool s2), .sl 1 (u32s w2), .v (.int .i64 d2), .v (.bool t2), .sl 1 (u32s u2), .v (.int .i64 e2)], .v (.int .i64 n)] (.v (.bool (true))) := by
  refine call_ok (C := ⟨Tryz.prog, gl, ti, 139, false⟩) ti_ok mixed 3000 Tryz.call8 Tryz.func8 rfl Tryz.ntmps8 (by simp) byClL byCl ?_
  rw [Tryz.results8]
  have fw := few03_2 s1 w1 d1 t1 u1 e1 ⟨by have := h1.px.len; omega, by have := h1.py.len; omega⟩ s2 w2 d2 t2 u2 e2 ⟨by have := h2.px.len; omega, by have := h2.py.len; omega⟩
  rw [decide_eq_true hf] at fw
  clear hf
  have m1 := iv_Meet _ _ _ _ _ _ _ _ _ h1 _ _ _ _ _ _ _ _ _ h2 hm
  have m2 := ri_Meet _ _ _ _ _ _ _ _ _ h1 _ _ _ _ _ _ _ _ _ h2 hm
  have m3 := ri_same (a := a1.meet a2 hm) (k := 256) ⟨g1.1.max g2.1, g1.2.min g2.2⟩
  unfold Iv.meet at m3
  dsimp only at m3
  have m4 := base_Num_nil
  clear hm
  have w1 := iv_Widen _ _ _ _ _ _ _ _ _ h1 _ _ _ _ h2.px hw
  have w2 := ri_Widen _ _ _ _ _ _ _ _ _ h1 _ _ _ _ h2.px hw 256 g1 gx2 (by omega)
  have w3 := ri_same (g1.add (Iv.Mg.sp2 gx2 gx2.neg))
  change CallOK _ _ _ [.agg [.v (.bool (sg (a1.wide x2).lo)), .sl 1 (u32s (ms (a1.wide x2).lo)), .v (.int .i64 (dn (a1.wide x2).lo)), .v (.bool (sg (a1.wide x2).hi)), .sl 1 (u32s (ms (a1.wide x2).hi)), .v (.int .i64 (dn (a1.wide x2).hi))], .agg [.v (.bool (sg (a1.wide x2).lo)), .sl 1 (u32s (ms (a1.wide x2).lo)), .v (.int .i64 (dn (a1.wide x2).lo)), .v (.bool (sg (a1.wide x2).hi)), .sl 1 (u32s (ms (a1.wide x2).hi)), .v (.int .i64 (dn (a1.wide x2).hi))]] _ at w3
  have w4 := base_Num_nil
  clear hw
  have c1 := iv_Clip _ _ _ _ _ _ _ _ _ h1 _ _ _ _ h2.px _ _ _ _ h2.py hcl
  have c2 := ri_Clip _ _ _ _ _ _ _ _ _ h1 _ _ _ _ h2.px _ _ _ _ h2.py hcl
  have c3 := ri_same ((g1.max (Iv.Mg.pt gx2)).min (Iv.Mg.pt gy2))
  have c4 := base_Num_nil
  clear hcl
  obtain ⟨n, rfl⟩ : ∃ n1 : Nat, n = n1 := ⟨n.toNat, by omega⟩
  have r1 := iv_Round _ _ _ _ _ _ _ _ _ h1 n (by omega) 256 g1 (by omega)
  have r2 := ri_Round _ _ _ _ _ _ _ _ _ h1 n (by omega) 256 g1 (by omega)
  have r3 := ri_same (a := rnd a1 n k1 (by omega)) (k := 257) ⟨g1.1.floor, g1.2.neg.floor.neg⟩
  unfold rnd at r3
  dsimp only at r3
  have r4 := base_Num_nil
  generalize a1.lo.max a2.lo = z70 at *
  generalize a1.hi.min a2.hi = z71 at *
  generalize a1.wide x2 = z72 at *
  generalize (a1.max (Iv.pt x2)).min (Iv.pt y2) = z73 at *
  generalize a1.lo.floor n = z74 at *
  generalize a1.hi.ceil n = z75 at *
  repeat' (first | (simp only [go_sem, Int.reduceAdd, Int.reduceEq, Int.reduceLE, Int.reduceLT, Int.reduceMul, Int.reduceNeg, Int.reducePow, Int.reduceSub, Int.reduceToNat, Nat.reduceAdd, Nat.reduceBEq, Nat.reduceEqDiff, Nat.reduceLT, Nat.reduceLeDiff, Nat.reduceMul, Nat.reducePow, Nat.reduceSub, reduceCtorEq, reduceIte, IntKind.bits.eq_def, ti, tin]) | (simp (disch := omega) only [w64, wu64, wu32, Nat.min_eq_left]) | (with_reducible first | refine callF_of (fw) ?_ | refine drawF_of (fw) ?_) | (with_reducible first | refine callF_of (awake03) ?_ | refine drawF_of (awake03) ?_) | (with_reducible first | refine callF_of (m1) ?_ | refine drawF_of (m1) ?_) | (with_reducible first | refine callF_of (m2) ?_ | refine drawF_of (m2) ?_) | (with_reducible first | refine callF_of (m3) ?_ | refine drawF_of (m3) ?_) | (with_reducible first | refine callF_of (m4) ?_ | refine drawF_of (m4) ?_) | (with_reducible first | refine callF_of (w1) ?_ | refine drawF_of (w1) ?_) | (with_reducible first | refine callF_of (w2) ?_ | refine drawF_of (w2) ?_) | (with_reducible first | refine callF_of (w3) ?_ | refine drawF_of (w3) ?_) | (with_reducible first | refine callF_of (w4) ?_ | refine drawF_of (w4) ?_) | (with_reducible first | refine callF_of (c1) ?_ | refine drawF_of (c1) ?_) | (with_reducible first | refine callF_of (c2) ?_ | refine drawF_of (c2) ?_) | (with_reducible first | refine callF_of (c3) ?_ | refine drawF_of (c3) ?_) | (with_reducible first | refine callF_of (c4) ?_ | refine drawF_of (c4) ?_) | (with_reducible first | refine callF_of (r1) ?_ | refine drawF_of (r1) ?_) | (with_reducible first | refine callF_of (r2) ?_ | refine drawF_of (r2) ?_) | (with_reducible first | refine callF_of (r3) ?_ | refine drawF_of (r3) ?_) | (with_reducible first | refine callF_of (r4) ?_ | refine drawF_of (r4) ?_) | (refine after_lit ti_ok ?_) | (refine drawAfter_lit ti_ok ?_) | (refine drawEnd_of (by kernel_rfl) ?_) | ((first | refine cond_cases (fun hc => ?_) (fun hc => ?_) | refine guard_split (fun hc => ?_) (fun hc => ?_) | refine drawGuard_split (fun hc => ?_) (fun hc => ?_)) <;> first | (exfalso; simp only [dcT, dcF, bnT, bnF, bnU, bnV] at hc; omega) | (simp only [hc]; try simp only [dcT, dcF, bnT, bnF, bnU, bnV] at hc)) | (refine after_need (by omega) ?_) | (refine drawAfter_need (by omega) ?_))
  all_goals exact fin_same trivial rfl
theorem limits_law (s1 : Bool) (w1 : List (List AV)) (d1 : Int) (t1 : Bool) (u1 : List (List AV)) (e1 : Int) (s2 : Bool) (w2 : List (List AV)) (d2 : Int) (t2 : Bool) (u2 : List (List AV)) (e2 : Int) (n : Int) (m1 : w1.length ≤ maxLen) (f1 : ∀ x ∈ w1, FitL [.int .u32] x) (n1 : u1.length ≤ maxLen) (g1 : ∀ x ∈ u1, FitL [.int .u32] x) (m2 : w2.length ≤ maxLen) (f2 : ∀ x ∈ w2, FitL [.int .u32] x) (n2 : u2.length ≤ maxLen) (g2 : ∀ x ∈ u2, FitL [.int .u32] x) : CallOK Tryz.prog gl 8 [.agg [.v (.bool s1), .sl 1 w1, .v (.int .i64 d1), .v (.bool t1), .sl 1 u1, .v (.int .i64 e1)], .agg [.v (.bool s2), .sl 1 w2, .v (.int .i64 d2), .v (.bool t2), .sl 1 u2, .v (.int .i64 e2)], .v (.int .i64 n)] (.v (.bool true)) := by
  unfold maxLen at *
  obtain ⟨w1, W1, rfl, z1⟩ := fit_u32s f1
  obtain ⟨u1, U1, rfl, y1⟩ := fit_u32s g1
  obtain ⟨w2, W2, rfl, z2⟩ := fit_u32s f2
  obtain ⟨u2, U2, rfl, y2⟩ := fit_u32s g2
  by_cases hf : shI ⟨s1, w1, d1, t1, u1, e1⟩ ∧ shI ⟨s2, w2, d2, t2, u2, e2⟩
  ·
    obtain ⟨x1, y1, a1, h1, g1, k1, p1, q1⟩ := sh_iarg W1 U1 hf.1
    obtain ⟨x2, y2, a2, h2, g2, k2, p2, q2⟩ := sh_iarg W2 U2 hf.2
    by_cases hn : 300 < n ∧ n ≤ 65536
    · exact limits_big s1 w1 d1 t1 u1 e1 ⟨by omega, by omega⟩ s2 w2 d2 t2 u2 e2 ⟨by omega, by omega⟩ n hf hn
    ·
      by_cases hm : (a1.lo.max a2.lo).v ≤ (a1.hi.min a2.hi).v
      ·
        by_cases hw : 0 ≤ x2.v
        ·
          by_cases hcl : x2.v ≤ y2.v
          ·
            by_cases hr : ¬ (n < 0 ∨ 300 < n)
            ·
              exact limits_yyyy _ _ _ _ _ _ _ _ _ h1 g1 k1 p1 q1 _ _ _ _ _ _ _ _ _ h2 g2 k2 p2 q2 n hf hm hw hcl hr
            ·
              replace hr : n < 0 ∨ 65536 < n := by omega
              exact limits_yyyn _ _ _ _ _ _ _ _ _ h1 g1 k1 p1 q1 _ _ _ _ _ _ _ _ _ h2 g2 k2 p2 q2 n hf hm hw hcl hr
          ·
            replace hcl : y2.v < x2.v := by grind
            by_cases hr : ¬ (n < 0 ∨ 300 < n)
            ·
              exact limits_yyny _ _ _ _ _ _ _ _ _ h1 g1 k1 p1 q1 _ _ _ _ _ _ _ _ _ h2 g2 k2 p2 q2 n hf hm hw hcl hr
            ·
              replace hr : n < 0 ∨ 65536 < n := by omega
              exact limits_yynn _ _ _ _ _ _ _ _ _ h1 g1 k1 p1 q1 _ _ _ _ _ _ _ _ _ h2 g2 k2 p2 q2 n hf hm hw hcl hr
        ·
          replace hw : x2.v < 0 := by grind
          by_cases hcl : x2.v ≤ y2.v
          ·
            by_cases hr : ¬ (n < 0 ∨ 300 < n)
            ·
              exact limits_ynyy _ _ _ _ _ _ _ _ _ h1 g1 k1 p1 q1 _ _ _ _ _ _ _ _ _ h2 g2 k2 p2 q2 n hf hm hw hcl hr
            ·
              replace hr : n < 0 ∨ 65536 < n := by omega
              exact limits_ynyn _ _ _ _ _ _ _ _ _ h1 g1 k1 p1 q1 _ _ _ _ _ _ _ _ _ h2 g2 k2 p2 q2 n hf hm hw hcl hr
          ·
            replace hcl : y2.v < x2.v := by grind
            by_cases hr : ¬ (n < 0 ∨ 300 < n)
            ·
              exact limits_ynny _ _ _ _ _ _ _ _ _ h1 g1 k1 p1 q1 _ _ _ _ _ _ _ _ _ h2 g2 k2 p2 q2 n hf hm hw hcl hr
            ·
              replace hr : n < 0 ∨ 65536 < n := by omega
              exact limits_ynnn _ _ _ _ _ _ _ _ _ h1 g1 k1 p1 q1 _ _ _ _ _ _ _ _ _ h2 g2 k2 p2 q2 n hf hm hw hcl hr
      ·
        replace hm : (a1.hi.min a2.hi).v < (a1.lo.max a2.lo).v := by grind
        by_cases hw : 0 ≤ x2.v
        ·
          by_cases hcl : x2.v ≤ y2.v
          ·
            by_cases hr : ¬ (n < 0 ∨ 300 < n)
            ·
              exact limits_nyyy _ _ _ _ _ _ _ _ _ h1 g1 k1 p1 q1 _ _ _ _ _ _ _ _ _ h2 g2 k2 p2 q2 n hf hm hw hcl hr
            ·
              replace hr : n < 0 ∨ 65536 < n := by omega
              exact limits_nyyn _ _ _ _ _ _ _ _ _ h1 g1 k1 p1 q1 _ _ _ _ _ _ _ _ _ h2 g2 k2 p2 q2 n hf hm hw hcl hr
          ·
            replace hcl : y2.v < x2.v := by grind
            by_cases hr : ¬ (n < 0 ∨ 300 < n)
            ·
              exact limits_nyny _ _ _ _ _ _ _ _ _ h1 g1 k1 p1 q1 _ _ _ _ _ _ _ _ _ h2 g2 k2 p2 q2 n hf hm hw hcl hr
            ·
              replace hr : n < 0 ∨ 65536 < n := by omega
              exact limits_nynn _ _ _ _ _ _ _ _ _ h1 g1 k1 p1 q1 _ _ _ _ _ _ _ _ _ h2 g2 k2 p2 q2 n hf hm hw hcl hr
        ·
          replace hw : x2.v < 0 := by grind
          by_cases hcl : x2.v ≤ y2.v
          ·
            by_cases hr : ¬ (n < 0 ∨ 300 < n)
            ·
              exact limits_nnyy _ _ _ _ _ _ _ _ _ h1 g1 k1 p1 q1 _ _ _ _ _ _ _ _ _ h2 g2 k2 p2 q2 n hf hm hw hcl hr
            ·
              replace hr : n < 0 ∨ 65536 < n := by omega
              exact limits_nnyn _ _ _ _ _ _ _ _ _ h1 g1 k1 p1 q1 _ _ _ _ _ _ _ _ _ h2 g2 k2 p2 q2 n hf hm hw hcl hr
          ·
            replace hcl : y2.v < x2.v := by grind
            by_cases hr : ¬ (n < 0 ∨ 300 < n)
            ·
              exact limits_nnny _ _ _ _ _ _ _ _ _ h1 g1 k1 p1 q1 _ _ _ _ _ _ _ _ _ h2 g2 k2 p2 q2 n hf hm hw hcl hr
            ·
              replace hr : n < 0 ∨ 65536 < n := by omega
              exact limits_nnnn _ _ _ _ _ _ _ _ _ h1 g1 k1 p1 q1 _ _ _ _ _ _ _ _ _ h2 g2 k2 p2 q2 n hf hm hw hcl hr
  · exact limits_out s1 w1 d1 t1 u1 e1 ⟨by omega, by omega⟩ s2 w2 d2 t2 u2 e2 ⟨by omega, by omega⟩ n hf
end Go.Proofs.YtkdpaoicekgalaaGreatDoor
