/- The statement IdentifyIntervals: its code returns true. -/
import Derived.Test.YtkdpaoicekgalaaGreatDoorL49
import Derived.Test.YtkdpaoicekgalaaGreatDoorQuo1
import Derived.Test.YtkdpaoicekgalaaGreatDoorRdn3
set_option linter.unusedSimpArgs false
set_option linter.unusedVariables false
set_option linter.deprecated false
namespace Go.Proofs.YtkdpaoicekgalaaGreatDoor
open Go Go.Ax
set_option maxRecDepth 100000
set_option maxHeartbeats 4000000

theorem ints_out (l : List (Int × Int)) (n : Int) (hl : l.length ≤ 9223372036854775807) (h : 70 < l.length) : CallOK Tryz.prog gl 9 [.sl 2 (rws prow l), .v (.int .i64 n)] (.v (.bool (true))) := by
  refine call_ok (C := ⟨Tryz.prog, gl, ti, 115, false⟩) ti_ok mixed 3000 Tryz.call9 Tryz.func9 rfl Tryz.ntmps9 (by simp) byClL byCl ?_
  rw [Tryz.results9]
  repeat' (first | (simp only [go_sem, Int.reduceAdd, Int.reduceEq, Int.reduceLE, Int.reduceLT, Int.reduceMul, Int.reduceNeg, Int.reducePow, Int.reduceSub, Int.reduceToNat, Nat.reduceAdd, Nat.reduceBEq, Nat.reduceEqDiff, Nat.reduceLT, Nat.reduceLeDiff, Nat.reduceMul, Nat.reducePow, Nat.reduceSub, reduceCtorEq, reduceIte, IntKind.bits.eq_def, ti, tin, rws_length]) | (simp (disch := omega) only [w64, wu64, wu32, Nat.min_eq_left]) | (with_reducible first | refine cF (awake49) ?_ | refine dF (awake49) ?_) | (refine aL ti_ok ?_) | (refine dL ti_ok ?_) | (refine dE (by kernel_rfl) ?_) | ((first | refine cC ?_ ?_ | refine gS ?_ ?_ | refine dS ?_ ?_) <;> intro hc <;> first | (exfalso; simp only [dcT, dcF, bnT, bnF, bnU, bnV] at hc; omega) | (simp only [hc]; try simp only [dcT, dcF, bnT, bnF, bnU, bnV] at hc)) | (refine aN (by omega) ?_) | (refine dN (by omega) ?_))
  all_goals exact fin_same trivial rfl
theorem ints_big (l : List (Int × Int)) (n : Int) (h : l.length ≤ 70) (h12 : 12 < l.length) (hc0 : ckS l n = 0) : CallOK Tryz.prog gl 9 [.sl 2 (rws prow l), .v (.int .i64 n)] (.v (.bool (true))) := by
  refine call_ok (C := ⟨Tryz.prog, gl, ti, 115, false⟩) ti_ok mixed 3000 Tryz.call9 Tryz.func9 rfl Tryz.ntmps9 (by simp) byClL byCl ?_
  rw [Tryz.results9]
  have c1 := r49_Check l n (by omega)
  have c2 := id_Check l n (by omega)
  rw [hc0] at c1 c2
  rw [eV_zero] at c2
  clear hc0
  repeat' (first | (simp only [go_sem, Int.reduceAdd, Int.reduceEq, Int.reduceLE, Int.reduceLT, Int.reduceMul, Int.reduceNeg, Int.reducePow, Int.reduceSub, Int.reduceToNat, Nat.reduceAdd, Nat.reduceBEq, Nat.reduceEqDiff, Nat.reduceLT, Nat.reduceLeDiff, Nat.reduceMul, Nat.reducePow, Nat.reduceSub, reduceCtorEq, reduceIte, IntKind.bits.eq_def, ti, tin, rws_length]) | (simp (disch := omega) only [w64, wu64, wu32, Nat.min_eq_left]) | (with_reducible first | refine cF (awake49) ?_ | refine dF (awake49) ?_) | (with_reducible first | refine cF (c1) ?_ | refine dF (c1) ?_) | (with_reducible first | refine cF (c2) ?_ | refine dF (c2) ?_) | (refine aL ti_ok ?_) | (refine dL ti_ok ?_) | (refine dE (by kernel_rfl) ?_) | ((first | refine cC ?_ ?_ | refine gS ?_ ?_ | refine dS ?_ ?_) <;> intro hc <;> first | (exfalso; simp only [dcT, dcF, bnT, bnF, bnU, bnV] at hc; omega) | (simp only [hc]; try simp only [dcT, dcF, bnT, bnF, bnU, bnV] at hc)) | (refine aN (by omega) ?_) | (refine dN (by omega) ?_))
  all_goals exact fin_same trivial rfl
theorem ints_err (l : List (Int × Int)) (n : Int) (h : l.length ≤ 70) (hc0 : ckS l n ≠ 0) : CallOK Tryz.prog gl 9 [.sl 2 (rws prow l), .v (.int .i64 n)] (.v (.bool (true))) := by
  refine call_ok (C := ⟨Tryz.prog, gl, ti, 115, false⟩) ti_ok mixed 3000 Tryz.call9 Tryz.func9 rfl Tryz.ntmps9 (by simp) byClL byCl ?_
  rw [Tryz.results9]
  have c1 := r49_Check l n (by omega)
  have c2 := id_Check l n (by omega)
  have f1 := id_Gain_err l n (by omega) hc0
  have f2 := id_Slope_err l n (by omega) hc0
  have f3 := id_Offset_err l n (by omega) hc0
  have w1 := r49_Gain_err l n (by omega) hc0
  have w2 := r49_Slope_err l n (by omega) hc0
  have w3 := r49_Offset_err l n (by omega) hc0
  have n1 := base_NumE (ckS l n)
  have s1 := ri_same (k := 1) (a := Iv.zero) ⟨Mg.zero _, Mg.zero _⟩
  generalize ckS l n = e at *
  generalize Iv.zero = z at *
  repeat' (first | (simp only [go_sem, Int.reduceAdd, Int.reduceEq, Int.reduceLE, Int.reduceLT, Int.reduceMul, Int.reduceNeg, Int.reducePow, Int.reduceSub, Int.reduceToNat, Nat.reduceAdd, Nat.reduceBEq, Nat.reduceEqDiff, Nat.reduceLT, Nat.reduceLeDiff, Nat.reduceMul, Nat.reducePow, Nat.reduceSub, reduceCtorEq, reduceIte, IntKind.bits.eq_def, ti, tin, rws_length]) | (simp (disch := omega) only [w64, wu64, wu32, Nat.min_eq_left]) | (with_reducible first | refine cF (awake49) ?_ | refine dF (awake49) ?_) | (with_reducible first | refine cF (c1) ?_ | refine dF (c1) ?_) | (with_reducible first | refine cF (c2) ?_ | refine dF (c2) ?_) | (with_reducible first | refine cF (f1) ?_ | refine dF (f1) ?_) | (with_reducible first | refine cF (f2) ?_ | refine dF (f2) ?_) | (with_reducible first | refine cF (f3) ?_ | refine dF (f3) ?_) | (with_reducible first | refine cF (w1) ?_ | refine dF (w1) ?_) | (with_reducible first | refine cF (w2) ?_ | refine dF (w2) ?_) | (with_reducible first | refine cF (w3) ?_ | refine dF (w3) ?_) | (with_reducible first | refine cF (n1) ?_ | refine dF (n1) ?_) | (with_reducible first | refine cF (s1) ?_ | refine dF (s1) ?_) | (refine aL ti_ok ?_) | (refine dL ti_ok ?_) | (refine dE (by kernel_rfl) ?_) | ((first | refine cC ?_ ?_ | refine gS ?_ ?_ | refine dS ?_ ?_) <;> intro hc <;> first | (exfalso; simp only [dcT, dcF, bnT, bnF, bnU, bnV] at hc; omega) | (simp only [hc]; try simp only [dcT, dcF, bnT, bnF, bnU, bnV] at hc)) | (refine aN (by omega) ?_) | (refine dN (by omega) ?_))
  all_goals exact fin_same trivial rfl
theorem ints_ok (l : List (Int × Int)) (n : Int) (h12 : l.length ≤ 12) (hc0 : ckS l n = 0) : CallOK Tryz.prog gl 9 [.sl 2 (rws prow l), .v (.int .i64 n)] (.v (.bool (true))) := by
  refine call_ok (C := ⟨Tryz.prog, gl, ti, 115, false⟩) ti_ok mixed 3000 Tryz.call9 Tryz.func9 rfl Tryz.ntmps9 (by simp) byClL byCl ?_
  rw [Tryz.results9]
  have g4 := (ck_ok hc0).2.2.2.1
  have c1 := r49_Check l n (by omega)
  have c2 := id_Check l n (by omega)
  have f1 := id_GainI l n hc0
  have f2 := id_SlopeI l n hc0
  have f3 := id_OffsetI l n hc0
  have w1 := r49_Gain l n hc0
  have w2 := r49_Slope l n hc0
  have w3 := r49_Offset l n hc0
  obtain ⟨x1, x2, x3⟩ := out_same (gain_same n l)
  obtain ⟨y1, y2, y3⟩ := out_same (slope_same g4 l)
  obtain ⟨z1, z2, z3⟩ := out_same (offs_same g4 l)
  rw [← x1, ← x2, ← x3] at w1
  rw [← y1, ← y2, ← y3] at w2
  rw [← z1, ← z2, ← z3] at w3
  change CallOK _ _ _ _ (.tup [.agg [.v (.bool (sg (oIv gainF n l).lo)), .sl 1 (u32s (ms (oIv gainF n l).lo)), .v (.int .i64 (dn (oIv gainF n l).lo)), .v (.bool (sg (oIv gainF n l).hi)), .sl 1 (u32s (ms (oIv gainF n l).hi)), .v (.int .i64 (dn (oIv gainF n l).hi))], .v (.int .i64 (oErr gainF n l))]) at w1
  change CallOK _ _ _ _ (.tup [.agg [.v (.bool (sg (oIv slopeF n l).lo)), .sl 1 (u32s (ms (oIv slopeF n l).lo)), .v (.int .i64 (dn (oIv slopeF n l).lo)), .v (.bool (sg (oIv slopeF n l).hi)), .sl 1 (u32s (ms (oIv slopeF n l).hi)), .v (.int .i64 (dn (oIv slopeF n l).hi))], .v (.int .i64 (oErr slopeF n l))]) at w2
  change CallOK _ _ _ _ (.tup [.agg [.v (.bool (sg (oIv offsF n l).lo)), .sl 1 (u32s (ms (oIv offsF n l).lo)), .v (.int .i64 (dn (oIv offsF n l).lo)), .v (.bool (sg (oIv offsF n l).hi)), .sl 1 (u32s (ms (oIv offsF n l).hi)), .v (.int .i64 (dn (oIv offsF n l).hi))], .v (.int .i64 (oErr offsF n l))]) at w3
  clear x1 x2 x3 y1 y2 y3 z1 z2 z3
  have s1 := ri_same (mg_Gain hc0)
  have s2 := ri_same (mg_Slope hc0)
  have s3 := ri_same (mg_Offset hc0)
  have n1 := base_NumE (oErr gainF n l)
  have n2 := base_NumE (oErr slopeF n l)
  have n3 := base_NumE (oErr offsF n l)
  have n4 := base_NumE 0
  rw [hc0] at c1 c2
  rw [eV_zero] at c2 n4
  clear hc0
  generalize oErr gainF n l = e1 at *
  generalize oErr slopeF n l = e2 at *
  generalize oErr offsF n l = e3 at *
  generalize oIv gainF n l = i1 at *
  generalize oIv slopeF n l = i2 at *
  generalize oIv offsF n l = i3 at *
  repeat' (first | (simp only [go_sem, Int.reduceAdd, Int.reduceEq, Int.reduceLE, Int.reduceLT, Int.reduceMul, Int.reduceNeg, Int.reducePow, Int.reduceSub, Int.reduceToNat, Nat.reduceAdd, Nat.reduceBEq, Nat.reduceEqDiff, Nat.reduceLT, Nat.reduceLeDiff, Nat.reduceMul, Nat.reducePow, Nat.reduceSub, reduceCtorEq, reduceIte, IntKind.bits.eq_def, ti, tin, rws_length]) | (simp (disch := omega) only [w64, wu64, wu32, Nat.min_eq_left]) | (with_reducible first | refine cF (awake49) ?_ | refine dF (awake49) ?_) | (with_reducible first | refine cF (c1) ?_ | refine dF (c1) ?_) | (with_reducible first | refine cF (c2) ?_ | refine dF (c2) ?_) | (with_reducible first | refine cF (f1) ?_ | refine dF (f1) ?_) | (with_reducible first | refine cF (f2) ?_ | refine dF (f2) ?_) | (with_reducible first | refine cF (f3) ?_ | refine dF (f3) ?_) | (with_reducible first | refine cF (w1) ?_ | refine dF (w1) ?_) | (with_reducible first | refine cF (w2) ?_ | refine dF (w2) ?_) | (with_reducible first | refine cF (w3) ?_ | refine dF (w3) ?_) | (with_reducible first | refine cF (n1) ?_ | refine dF (n1) ?_) | (with_reducible first | refine cF (n2) ?_ | refine dF (n2) ?_) | (with_reducible first | refine cF (n3) ?_ | refine dF (n3) ?_) | (with_reducible first | refine cF (n4) ?_ | refine dF (n4) ?_) | (with_reducible first | refine cF (s1) ?_ | refine dF (s1) ?_) | (with_reducible first | refine cF (s2) ?_ | refine dF (s2) ?_) | (with_reducible first | refine cF (s3) ?_ | refine dF (s3) ?_) | (refine aL ti_ok ?_) | (refine dL ti_ok ?_) | (refine dE (by kernel_rfl) ?_) | ((first | refine cC ?_ ?_ | refine gS ?_ ?_ | refine dS ?_ ?_) <;> intro hc <;> first | (exfalso; simp only [dcT, dcF, bnT, bnF, bnU, bnV] at hc; omega) | (simp only [hc]; try simp only [dcT, dcF, bnT, bnF, bnU, bnV] at hc)) | (refine aN (by omega) ?_) | (refine dN (by omega) ?_))
  all_goals exact fin_same trivial rfl
theorem ints_law (r : List (List AV)) (n : Int) (m1 : r.length ≤ maxLen) (f1 : ∀ x ∈ r, FitL [.int .i64, .int .i64] x) : CallOK Tryz.prog gl 9 [.sl 2 r, .v (.int .i64 n)] (.v (.bool true)) := by
  unfold maxLen at *
  obtain ⟨l, b1, rfl, z1⟩ := fit_prows f1
  by_cases h : 70 < l.length
  · exact ints_out l n (by omega) h
  · by_cases hc : ckS l n = 0
    · by_cases h2 : 12 < l.length
      · exact ints_big l n (by omega) h2 hc
      · exact ints_ok l n (by omega) hc
    · exact ints_err l n (by omega) hc
end Go.Proofs.YtkdpaoicekgalaaGreatDoor
