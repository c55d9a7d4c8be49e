/- The statement DyadicOrders: its code returns true. -/
import Derived.Test.YtppdgooakleakaaDoorL02b
import Derived.Test.YtppdgooakleakaaDoorU3
set_option linter.unusedSimpArgs false
set_option linter.unusedVariables false
set_option linter.deprecated false
namespace Go.Proofs.YtppdgooakleakaaDoor
open Go Go.Ax
set_option maxRecDepth 100000
set_option maxHeartbeats 4000000

theorem orders_out (s : Bool) (ws : List Nat) (d : Int) (s' : Bool) (ws' : List Nat) (d' : Int) (s'' : Bool) (ws'' : List Nat) (d'' : Int) (hl : ws.length ≤ 9223372036854775807) (hl' : ws'.length ≤ 9223372036854775807) (hl'' : ws''.length ≤ 9223372036854775807) (hf : ¬ (fewR ⟨s, ws, d⟩ ∧ fewR ⟨s', ws', d'⟩ ∧ fewR ⟨s'', ws'', d''⟩)) : CallOK Tryd.prog gl 9 [.agg [.v (.bool s), .sl 1 (u32s ws), .v (.int .i64 d)], .agg [.v (.bool s'), .sl 1 (u32s ws'), .v (.int .i64 d')], .agg [.v (.bool s''), .sl 1 (u32s ws''), .v (.int .i64 d'')]] (.v (.bool (true))) := by
  refine call_ok (C := ⟨Tryd.prog, gl, ti, 95, false⟩) ti_ok mixed 3000 Tryd.call9 Tryd.func9 rfl Tryd.ntmps9 (by simp) byClL byCl ?_
  rw [Tryd.results9]
  have fw := few02_3 s ws d s' ws' d' s'' ws'' d'' hl hl' hl''
  rw [decide_eq_false hf] at fw
  clear hf
  repeat' (first
    | (simp only [go_sem, Int.reduceAdd, Int.reduceEq, Int.reduceLE, Int.reduceLT, Int.reduceMul, Int.reduceNeg, Int.reducePow, Int.reduceSub, Int.reduceToNat, Nat.reduceAdd, Nat.reduceBEq, Nat.reduceEqDiff, Nat.reduceLT, Nat.reduceLeDiff, Nat.reduceMul, Nat.reducePow, Nat.reduceSub, reduceCtorEq, reduceIte, IntKind.bits.eq_def, ti, tin])
    | (simp (disch := omega) only [w64, wu64, wu32, Nat.min_eq_left])
    | (with_reducible refine callF_of (fw) ?_)
    | (with_reducible refine drawF_of (fw) ?_)
    | (with_reducible refine callF_of (awake02) ?_)
    | (with_reducible refine drawF_of (awake02) ?_)
    | (refine after_lit ti_ok ?_)
    | (refine drawAfter_lit ti_ok ?_)
    | (refine drawEnd_of (by kernel_rfl) ?_)
    | ((first | refine cond_cases (fun hc => ?_) (fun hc => ?_) | refine guard_split (fun hc => ?_) (fun hc => ?_) | refine drawGuard_split (fun hc => ?_) (fun hc => ?_)) <;> first | (exfalso; simp only [decide_eq_true_eq, decide_eq_false_iff_not, Bool.not_eq_true, Bool.not_eq_false, Bool.not_eq_true', Bool.not_eq_false'] at hc; omega) | (simp only [hc]; try simp only [decide_eq_true_eq, decide_eq_false_iff_not, Bool.not_eq_true, Bool.not_eq_false, Bool.not_eq_true', Bool.not_eq_false'] at hc))
    | (refine after_need (by omega) ?_)
    | (refine drawAfter_need (by omega) ?_))
  all_goals exact fin_same trivial rfl

theorem orders_in (s : Bool) (ws : List Nat) (d : Int) (s' : Bool) (ws' : List Nat) (d' : Int) (s'' : Bool) (ws'' : List Nat) (d'' : Int) (x : Dy) (y : Dy) (z : Dy) (h : Arg s ws d x) (h' : Arg s' ws' d' y) (h'' : Arg s'' ws'' d'' z) (gx : Mg 512 x) (gy : Mg 512 y) (gz : Mg 512 z) (dx : x.d ≤ 300) (dy : y.d ≤ 300) (dz : z.d ≤ 300) (hf : fewR ⟨s, ws, d⟩ ∧ fewR ⟨s', ws', d'⟩ ∧ fewR ⟨s'', ws'', d''⟩) : CallOK Tryd.prog gl 9 [.agg [.v (.bool s), .sl 1 (u32s ws), .v (.int .i64 d)], .agg [.v (.bool s'), .sl 1 (u32s ws'), .v (.int .i64 d')], .agg [.v (.bool s''), .sl 1 (u32s ws''), .v (.int .i64 d'')]] (.v (.bool (true))) := by
  refine call_ok (C := ⟨Tryd.prog, gl, ti, 95, false⟩) ti_ok mixed 3000 Tryd.call9 Tryd.func9 rfl Tryd.ntmps9 (by simp) byClL byCl ?_
  rw [Tryd.results9]
  have fw := few02_3 s ws d s' ws' d' s'' ws'' d'' (by have := h.len; omega) (by have := h'.len; omega) (by have := h''.len; omega)
  rw [decide_eq_true hf] at fw
  clear hf
  have c1 := Cmp_ok _ _ _ _ _ _ _ _ h h'
  have c2 := Cmp_ok _ _ _ _ _ _ _ _ h' h
  rw [cmp_swap x y] at c2
  have b1 := Sub_ok _ _ _ _ _ _ _ _ h h'
  have gb := gx.sub gy
  have g1 := Sign_ok _ _ _ _ gb.arg
  rw [sign_sub] at g1
  have p1 := Add_ok _ _ _ _ _ _ _ _ h h''
  have p2 := Add_ok _ _ _ _ _ _ _ _ h' h''
  have gxz := gx.add gz
  have gyz := gy.add gz
  have c3 := Cmp_ok _ _ _ _ _ _ _ _ gxz.arg gyz.arg
  rw [cmp_add] at c3
  have m1 := Mul_ok _ _ _ _ _ _ _ _ h h''
  have m2 := Mul_ok _ _ _ _ _ _ _ _ h' h''
  have gmxz := gx.mul gz
  have gmyz := gy.mul gz
  have c4 := Cmp_ok _ _ _ _ _ _ _ _ gmxz.arg gmyz.arg
  rw [cmp_mul (by omega) (by omega)] at c4
  have g2 := Sign_ok _ _ _ _ h''
  have t1 := Text_ok _ _ _ _ h
  have t2 := Text_ok _ _ _ _ h'
  have ht : x.cmp y = 0 → dyText x = dyText y := fun h => by rw [(cmp_eq0 x y).1 h]
  have i1 := Min_ok _ _ _ _ _ _ _ _ h h'
  have i2 := Max_ok _ _ _ _ _ _ _ _ h h'
  have gi := gx.min gy
  have ga := gx.max gy
  have p3 := Add_ok _ _ _ _ _ _ _ _ gi.arg ga.arg
  rw [min_add_max] at p3
  have p4 := Add_ok _ _ _ _ _ _ _ _ h h'
  have s1 := same_ok (gx.add gy)
  have c5 := Cmp_ok _ _ _ _ _ _ _ _ gi.arg ga.arg
  have hc5 := (cmp_le (x.min y) (x.max y)).2 (min_le_max x y)
  have hb1 := cmp_bd x y
  have hb2 := sign_bd z
  have hmb := mul_bd (a := x.cmp y) (b := z.sign) (A := 1) (B := 1) (by omega) (by omega)
  clear gb gxz gyz gmxz gmyz gi ga gx gy gz
  generalize (x.min y).cmp (x.max y) = n5 at *
  generalize x.min y = z1 at *
  generalize x.max y = z2 at *
  generalize x.add y = z3 at *
  generalize x.sub y = z4 at *
  generalize x.add z = z5 at *
  generalize y.add z = z6 at *
  generalize x.mul z = z7 at *
  generalize y.mul z = z8 at *
  generalize z.sign = n2 at *
  generalize dyText x = T1 at *
  generalize dyText y = T2 at *
  generalize x.cmp y = n1 at *
  have en : (0 : Int) - n1 = -n1 := by omega
  have hd5 : decide (n5 ≤ 0) = true := decide_eq_true hc5
  by_cases hn0 : n1 = 0
  ·
    have hT := ht hn0
    subst hT
    clear ht
    have hd : decide ((⟨T1.toArray⟩ : ByteArray) = ⟨T1.toArray⟩) = true := decide_eq_true rfl
    repeat' (first
      | (simp only [go_sem, Int.reduceAdd, Int.reduceEq, Int.reduceLE, Int.reduceLT, Int.reduceMul, Int.reduceNeg, Int.reducePow, Int.reduceSub, Int.reduceToNat, Nat.reduceAdd, Nat.reduceBEq, Nat.reduceEqDiff, Nat.reduceLT, Nat.reduceLeDiff, Nat.reduceMul, Nat.reducePow, Nat.reduceSub, reduceCtorEq, reduceIte, IntKind.bits.eq_def, ti, tin, en, hd, hd5])
      | (simp (disch := omega) only [w64, wu64, wu32, Nat.min_eq_left])
      | (with_reducible refine callF_of (fw) ?_)
      | (with_reducible refine drawF_of (fw) ?_)
      | (with_reducible refine callF_of (awake02) ?_)
      | (with_reducible refine drawF_of (awake02) ?_)
      | (with_reducible refine callF_of (c1) ?_)
      | (with_reducible refine drawF_of (c1) ?_)
      | (with_reducible refine callF_of (c2) ?_)
      | (with_reducible refine drawF_of (c2) ?_)
      | (with_reducible refine callF_of (c3) ?_)
      | (with_reducible refine drawF_of (c3) ?_)
      | (with_reducible refine callF_of (c4) ?_)
      | (with_reducible refine drawF_of (c4) ?_)
      | (with_reducible refine callF_of (c5) ?_)
      | (with_reducible refine drawF_of (c5) ?_)
      | (with_reducible refine callF_of (b1) ?_)
      | (with_reducible refine drawF_of (b1) ?_)
      | (with_reducible refine callF_of (g1) ?_)
      | (with_reducible refine drawF_of (g1) ?_)
      | (with_reducible refine callF_of (g2) ?_)
      | (with_reducible refine drawF_of (g2) ?_)
      | (with_reducible refine callF_of (p1) ?_)
      | (with_reducible refine drawF_of (p1) ?_)
      | (with_reducible refine callF_of (p2) ?_)
      | (with_reducible refine drawF_of (p2) ?_)
      | (with_reducible refine callF_of (p3) ?_)
      | (with_reducible refine drawF_of (p3) ?_)
      | (with_reducible refine callF_of (p4) ?_)
      | (with_reducible refine drawF_of (p4) ?_)
      | (with_reducible refine callF_of (m1) ?_)
      | (with_reducible refine drawF_of (m1) ?_)
      | (with_reducible refine callF_of (m2) ?_)
      | (with_reducible refine drawF_of (m2) ?_)
      | (with_reducible refine callF_of (t1) ?_)
      | (with_reducible refine drawF_of (t1) ?_)
      | (with_reducible refine callF_of (t2) ?_)
      | (with_reducible refine drawF_of (t2) ?_)
      | (with_reducible refine callF_of (i1) ?_)
      | (with_reducible refine drawF_of (i1) ?_)
      | (with_reducible refine callF_of (i2) ?_)
      | (with_reducible refine drawF_of (i2) ?_)
      | (with_reducible refine callF_of (s1) ?_)
      | (with_reducible refine drawF_of (s1) ?_)
      | (refine after_lit ti_ok ?_)
      | (refine drawAfter_lit ti_ok ?_)
      | (refine drawEnd_of (by kernel_rfl) ?_)
      | ((first | refine cond_cases (fun hc => ?_) (fun hc => ?_) | refine guard_split (fun hc => ?_) (fun hc => ?_) | refine drawGuard_split (fun hc => ?_) (fun hc => ?_)) <;> first | (exfalso; simp only [decide_eq_true_eq, decide_eq_false_iff_not, Bool.not_eq_true, Bool.not_eq_false, Bool.not_eq_true', Bool.not_eq_false'] at hc; omega) | (simp only [hc]; try simp only [decide_eq_true_eq, decide_eq_false_iff_not, Bool.not_eq_true, Bool.not_eq_false, Bool.not_eq_true', Bool.not_eq_false'] at hc))
      | (refine after_need (by omega) ?_)
      | (refine drawAfter_need (by omega) ?_))
    all_goals exact fin_same trivial rfl
  clear ht
  repeat' (first
    | (simp only [go_sem, Int.reduceAdd, Int.reduceEq, Int.reduceLE, Int.reduceLT, Int.reduceMul, Int.reduceNeg, Int.reducePow, Int.reduceSub, Int.reduceToNat, Nat.reduceAdd, Nat.reduceBEq, Nat.reduceEqDiff, Nat.reduceLT, Nat.reduceLeDiff, Nat.reduceMul, Nat.reducePow, Nat.reduceSub, reduceCtorEq, reduceIte, IntKind.bits.eq_def, ti, tin, en, hd5])
    | (simp (disch := omega) only [w64, wu64, wu32, Nat.min_eq_left])
    | (with_reducible refine callF_of (fw) ?_)
    | (with_reducible refine drawF_of (fw) ?_)
    | (with_reducible refine callF_of (awake02) ?_)
    | (with_reducible refine drawF_of (awake02) ?_)
    | (with_reducible refine callF_of (c1) ?_)
    | (with_reducible refine drawF_of (c1) ?_)
    | (with_reducible refine callF_of (c2) ?_)
    | (with_reducible refine drawF_of (c2) ?_)
    | (with_reducible refine callF_of (c3) ?_)
    | (with_reducible refine drawF_of (c3) ?_)
    | (with_reducible refine callF_of (c4) ?_)
    | (with_reducible refine drawF_of (c4) ?_)
    | (with_reducible refine callF_of (c5) ?_)
    | (with_reducible refine drawF_of (c5) ?_)
    | (with_reducible refine callF_of (b1) ?_)
    | (with_reducible refine drawF_of (b1) ?_)
    | (with_reducible refine callF_of (g1) ?_)
    | (with_reducible refine drawF_of (g1) ?_)
    | (with_reducible refine callF_of (g2) ?_)
    | (with_reducible refine drawF_of (g2) ?_)
    | (with_reducible refine callF_of (p1) ?_)
    | (with_reducible refine drawF_of (p1) ?_)
    | (with_reducible refine callF_of (p2) ?_)
    | (with_reducible refine drawF_of (p2) ?_)
    | (with_reducible refine callF_of (p3) ?_)
    | (with_reducible refine drawF_of (p3) ?_)
    | (with_reducible refine callF_of (p4) ?_)
    | (with_reducible refine drawF_of (p4) ?_)
    | (with_reducible refine callF_of (m1) ?_)
    | (with_reducible refine drawF_of (m1) ?_)
    | (with_reducible refine callF_of (m2) ?_)
    | (with_reducible refine drawF_of (m2) ?_)
    | (with_reducible refine callF_of (t1) ?_)
    | (with_reducible refine drawF_of (t1) ?_)
    | (with_reducible refine callF_of (t2) ?_)
    | (with_reducible refine drawF_of (t2) ?_)
    | (with_reducible refine callF_of (i1) ?_)
    | (with_reducible refine drawF_of (i1) ?_)
    | (with_reducible refine callF_of (i2) ?_)
    | (with_reducible refine drawF_of (i2) ?_)
    | (with_reducible refine callF_of (s1) ?_)
    | (with_reducible refine drawF_of (s1) ?_)
    | (refine after_lit ti_ok ?_)
    | (refine drawAfter_lit ti_ok ?_)
    | (refine drawEnd_of (by kernel_rfl) ?_)
    | ((first | refine cond_cases (fun hc => ?_) (fun hc => ?_) | refine guard_split (fun hc => ?_) (fun hc => ?_) | refine drawGuard_split (fun hc => ?_) (fun hc => ?_)) <;> first | (exfalso; simp only [decide_eq_true_eq, decide_eq_false_iff_not, Bool.not_eq_true, Bool.not_eq_false, Bool.not_eq_true', Bool.not_eq_false'] at hc; omega) | (simp only [hc]; try simp only [decide_eq_true_eq, decide_eq_false_iff_not, Bool.not_eq_true, Bool.not_eq_false, Bool.not_eq_true', Bool.not_eq_false'] at hc))
    | (refine after_need (by omega) ?_)
    | (refine drawAfter_need (by omega) ?_))
  all_goals exact fin_same trivial rfl

theorem orders_law (s : Bool) (r : List (List AV)) (d : Int) (s' : Bool) (r' : List (List AV)) (d' : Int) (s'' : Bool) (r'' : List (List AV)) (d'' : Int) (hr : r.length ≤ maxLen) (fr : ∀ x ∈ r, FitL [.int .u32] x) (hr' : r'.length ≤ maxLen) (fr' : ∀ x ∈ r', FitL [.int .u32] x) (hr'' : r''.length ≤ maxLen) (fr'' : ∀ x ∈ r'', FitL [.int .u32] x) : CallOK Tryd.prog gl 9 [.agg [.v (.bool s), .sl 1 r, .v (.int .i64 d)], .agg [.v (.bool s'), .sl 1 r', .v (.int .i64 d')], .agg [.v (.bool s''), .sl 1 r'', .v (.int .i64 d'')]] (.v (.bool true)) := by
  unfold maxLen at *
  obtain ⟨ws, hW, rfl, h1⟩ := fit_u32s fr
  obtain ⟨ws', hW', rfl, h1'⟩ := fit_u32s fr'
  obtain ⟨ws'', hW'', rfl, h1''⟩ := fit_u32s fr''
  by_cases hf : fewR ⟨s, ws, d⟩ ∧ fewR ⟨s', ws', d'⟩ ∧ fewR ⟨s'', ws'', d''⟩
  ·
    obtain ⟨x, h, gx, dx⟩ := few_arg hW hf.1
    obtain ⟨y, h', gy, dy⟩ := few_arg hW' hf.2.1
    obtain ⟨z, h'', gz, dz⟩ := few_arg hW'' hf.2.2
    exact orders_in s ws d s' ws' d' s'' ws'' d'' x y z h h' h'' gx gy gz dx dy dz hf
  · exact orders_out s ws d s' ws' d' s'' ws'' d'' (by omega) (by omega) (by omega) hf
end Go.Proofs.YtppdgooakleakaaDoor
