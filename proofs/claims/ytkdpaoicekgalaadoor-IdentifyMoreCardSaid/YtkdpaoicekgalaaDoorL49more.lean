/- The statement IdentifyMore: its code returns true. -/
import Derived.Test.YtkdpaoicekgalaaDoorL49
import Derived.Test.YtkdpaoicekgalaaDoorIv3
set_option linter.unusedSimpArgs false
set_option linter.unusedVariables false
set_option linter.deprecated false
namespace Go.Proofs.YtkdpaoicekgalaaDoor
open Go Go.Ax
set_option maxRecDepth 100000
set_option maxHeartbeats 4000000

theorem wider49 (a b : Iv) (oe of : Int) (ga : a.Mg 201) (gb : b.Mg 201) (h : of = 23 ∨ oe = 22 ∨ (oe = 0 ∧ of = 0 ∧ b.ins a = true)) : CallOK Tryd.prog gl 31 [.agg [.v (.bool (sg (a).lo)), .sl 1 (u32s (ms (a).lo)), .v (.int .i64 (dn (a).lo)), .v (.bool (sg (a).hi)), .sl 1 (u32s (ms (a).hi)), .v (.int .i64 (dn (a).hi))], .v (eV oe), .agg [.v (.bool (sg (b).lo)), .sl 1 (u32s (ms (b).lo)), .v (.int .i64 (dn (b).lo)), .v (.bool (sg (b).hi)), .sl 1 (u32s (ms (b).hi)), .v (.int .i64 (dn (b).hi))], .v (eV of)] (.v (.bool (true))) := by
  refine call_ok (C := ⟨Tryd.prog, gl, ti, 26, false⟩) ti_ok mixed 3000 Tryd.call31 Tryd.func31 rfl Tryd.ntmps31 (by simp) byClL byCl ?_
  rw [Tryd.results31]
  have i1 := is_err of 23 (by decide)
  have i2 := is_err oe 22 (by decide)
  have n1 := iv_Inside _ _ _ _ _ _ _ _ _ (IArg.of gb) _ _ _ _ _ _ _ _ _ (IArg.of ga)
  by_cases h1 : of = 23
  ·
    rw [decide_eq_true h1] at i1
    clear h
    repeat' (first | (simp only [go_sem, Int.reduceAdd, Int.reduceEq, Int.reduceLE, Int.reduceLT, Int.reduceMul, Int.reduceNeg, Int.reducePow, Int.reduceSub, Int.reduceToNat, Nat.reduceAdd, Nat.reduceBEq, Nat.reduceEqDiff, Nat.reduceLT, Nat.reduceLeDiff, Nat.reduceMul, Nat.reducePow, Nat.reduceSub, reduceCtorEq, reduceIte, IntKind.bits.eq_def, ti, tin]) | (simp (disch := omega) only [w64, wu64, wu32, Nat.min_eq_left]) | (with_reducible first | refine callF_of (i1) ?_ | refine drawF_of (i1) ?_) | (with_reducible first | refine callF_of (i2) ?_ | refine drawF_of (i2) ?_) | (refine after_lit ti_ok ?_) | (refine drawAfter_lit ti_ok ?_) | (refine drawEnd_of (by kernel_rfl) ?_) | ((first | refine cond_cases (fun hc => ?_) (fun hc => ?_) | refine guard_split (fun hc => ?_) (fun hc => ?_) | refine drawGuard_split (fun hc => ?_) (fun hc => ?_)) <;> first | (exfalso; simp only [dcT, dcF, bnT, bnF, bnU, bnV] at hc; omega) | (simp only [hc]; try simp only [dcT, dcF, bnT, bnF, bnU, bnV] at hc)) | (refine after_need (by omega) ?_) | (refine drawAfter_need (by omega) ?_))
    all_goals exact fin_same trivial rfl
  ·
    rw [decide_eq_false h1] at i1
    by_cases h2 : oe = 22
    ·
      rw [decide_eq_true h2] at i2
      clear h
      repeat' (first | (simp only [go_sem, Int.reduceAdd, Int.reduceEq, Int.reduceLE, Int.reduceLT, Int.reduceMul, Int.reduceNeg, Int.reducePow, Int.reduceSub, Int.reduceToNat, Nat.reduceAdd, Nat.reduceBEq, Nat.reduceEqDiff, Nat.reduceLT, Nat.reduceLeDiff, Nat.reduceMul, Nat.reducePow, Nat.reduceSub, reduceCtorEq, reduceIte, IntKind.bits.eq_def, ti, tin]) | (simp (disch := omega) only [w64, wu64, wu32, Nat.min_eq_left]) | (with_reducible first | refine callF_of (i1) ?_ | refine drawF_of (i1) ?_) | (with_reducible first | refine callF_of (i2) ?_ | refine drawF_of (i2) ?_) | (refine after_lit ti_ok ?_) | (refine drawAfter_lit ti_ok ?_) | (refine drawEnd_of (by kernel_rfl) ?_) | ((first | refine cond_cases (fun hc => ?_) (fun hc => ?_) | refine guard_split (fun hc => ?_) (fun hc => ?_) | refine drawGuard_split (fun hc => ?_) (fun hc => ?_)) <;> first | (exfalso; simp only [dcT, dcF, bnT, bnF, bnU, bnV] at hc; omega) | (simp only [hc]; try simp only [dcT, dcF, bnT, bnF, bnU, bnV] at hc)) | (refine after_need (by omega) ?_) | (refine drawAfter_need (by omega) ?_))
      all_goals exact fin_same trivial rfl
    ·
      rw [decide_eq_false h2] at i2
      obtain ⟨rfl, rfl, h5⟩ := (h.resolve_left h1).resolve_left h2
      rw [h5] at n1
      rw [eV_zero] at i1 i2 ⊢
      repeat' (first | (simp only [go_sem, Int.reduceAdd, Int.reduceEq, Int.reduceLE, Int.reduceLT, Int.reduceMul, Int.reduceNeg, Int.reducePow, Int.reduceSub, Int.reduceToNat, Nat.reduceAdd, Nat.reduceBEq, Nat.reduceEqDiff, Nat.reduceLT, Nat.reduceLeDiff, Nat.reduceMul, Nat.reducePow, Nat.reduceSub, reduceCtorEq, reduceIte, IntKind.bits.eq_def, ti, tin]) | (simp (disch := omega) only [w64, wu64, wu32, Nat.min_eq_left]) | (with_reducible first | refine callF_of (i1) ?_ | refine drawF_of (i1) ?_) | (with_reducible first | refine callF_of (i2) ?_ | refine drawF_of (i2) ?_) | (with_reducible first | refine callF_of (n1) ?_ | refine drawF_of (n1) ?_) | (refine after_lit ti_ok ?_) | (refine drawAfter_lit ti_ok ?_) | (refine drawEnd_of (by kernel_rfl) ?_) | ((first | refine cond_cases (fun hc => ?_) (fun hc => ?_) | refine guard_split (fun hc => ?_) (fun hc => ?_) | refine drawGuard_split (fun hc => ?_) (fun hc => ?_)) <;> first | (exfalso; simp only [dcT, dcF, bnT, bnF, bnU, bnV] at hc; omega) | (simp only [hc]; try simp only [dcT, dcF, bnT, bnF, bnU, bnV] at hc)) | (refine after_need (by omega) ?_) | (refine drawAfter_need (by omega) ?_))
      all_goals exact fin_same trivial rfl
theorem more_out (l : List (Int × Int)) (n m : Int) (hl : l.length ≤ 9223372036854775807) (hm : 0 ≤ m ∧ m ≤ 65535) (h : ckS l n ≠ 0 ∨ 10 < l.length ∨ l.length < 2 ∨ 549755813888 < n) : CallOK Tryd.prog gl 5 [.sl 2 (rws prow l), .v (.int .i64 n), .v (.int .u16 m)] (.v (.bool (true))) := by
  refine call_ok (C := ⟨Tryd.prog, gl, ti, 118, false⟩) ti_ok mixed 3000 Tryd.call5 Tryd.func5 rfl Tryd.ntmps5 (by simp) byClL byCl ?_
  rw [Tryd.results5]
  have c1 := r49_Check l n hl
  by_cases h1 : ckS l n = 0
  ·
    rw [h1] at c1
    replace h := h.resolve_left (fun hh => hh h1)
    by_cases h2 : 10 < l.length
    ·
      clear h
      repeat' (first | (simp only [go_sem, Int.reduceAdd, Int.reduceEq, Int.reduceLE, Int.reduceLT, Int.reduceMul, Int.reduceNeg, Int.reducePow, Int.reduceSub, Int.reduceToNat, Nat.reduceAdd, Nat.reduceBEq, Nat.reduceEqDiff, Nat.reduceLT, Nat.reduceLeDiff, Nat.reduceMul, Nat.reducePow, Nat.reduceSub, reduceCtorEq, reduceIte, IntKind.bits.eq_def, ti, tin, rws_length]) | (simp (disch := omega) only [w64, wu64, wu32, Nat.min_eq_left]) | (with_reducible first | refine callF_of (awake49) ?_ | refine drawF_of (awake49) ?_) | (with_reducible first | refine callF_of (c1) ?_ | refine drawF_of (c1) ?_) | (refine after_lit ti_ok ?_) | (refine drawAfter_lit ti_ok ?_) | (refine drawEnd_of (by kernel_rfl) ?_) | ((first | refine cond_cases (fun hc => ?_) (fun hc => ?_) | refine guard_split (fun hc => ?_) (fun hc => ?_) | refine drawGuard_split (fun hc => ?_) (fun hc => ?_)) <;> first | (exfalso; simp only [dcT, dcF, bnT, bnF, bnU, bnV] at hc; omega) | (simp only [hc]; try simp only [dcT, dcF, bnT, bnF, bnU, bnV] at hc)) | (refine after_need (by omega) ?_) | (refine drawAfter_need (by omega) ?_))
      all_goals exact fin_same trivial rfl
    ·
      by_cases h3 : l.length < 2
      ·
        clear h
        repeat' (first | (simp only [go_sem, Int.reduceAdd, Int.reduceEq, Int.reduceLE, Int.reduceLT, Int.reduceMul, Int.reduceNeg, Int.reducePow, Int.reduceSub, Int.reduceToNat, Nat.reduceAdd, Nat.reduceBEq, Nat.reduceEqDiff, Nat.reduceLT, Nat.reduceLeDiff, Nat.reduceMul, Nat.reducePow, Nat.reduceSub, reduceCtorEq, reduceIte, IntKind.bits.eq_def, ti, tin, rws_length]) | (simp (disch := omega) only [w64, wu64, wu32, Nat.min_eq_left]) | (with_reducible first | refine callF_of (awake49) ?_ | refine drawF_of (awake49) ?_) | (with_reducible first | refine callF_of (c1) ?_ | refine drawF_of (c1) ?_) | (refine after_lit ti_ok ?_) | (refine drawAfter_lit ti_ok ?_) | (refine drawEnd_of (by kernel_rfl) ?_) | ((first | refine cond_cases (fun hc => ?_) (fun hc => ?_) | refine guard_split (fun hc => ?_) (fun hc => ?_) | refine drawGuard_split (fun hc => ?_) (fun hc => ?_)) <;> first | (exfalso; simp only [dcT, dcF, bnT, bnF, bnU, bnV] at hc; omega) | (simp only [hc]; try simp only [dcT, dcF, bnT, bnF, bnU, bnV] at hc)) | (refine after_need (by omega) ?_) | (refine drawAfter_need (by omega) ?_))
        all_goals exact fin_same trivial rfl
      ·
        have h4 : 549755813888 < n := by omega
        clear h
        repeat' (first | (simp only [go_sem, Int.reduceAdd, Int.reduceEq, Int.reduceLE, Int.reduceLT, Int.reduceMul, Int.reduceNeg, Int.reducePow, Int.reduceSub, Int.reduceToNat, Nat.reduceAdd, Nat.reduceBEq, Nat.reduceEqDiff, Nat.reduceLT, Nat.reduceLeDiff, Nat.reduceMul, Nat.reducePow, Nat.reduceSub, reduceCtorEq, reduceIte, IntKind.bits.eq_def, ti, tin, rws_length]) | (simp (disch := omega) only [w64, wu64, wu32, Nat.min_eq_left]) | (with_reducible first | refine callF_of (awake49) ?_ | refine drawF_of (awake49) ?_) | (with_reducible first | refine callF_of (c1) ?_ | refine drawF_of (c1) ?_) | (refine after_lit ti_ok ?_) | (refine drawAfter_lit ti_ok ?_) | (refine drawEnd_of (by kernel_rfl) ?_) | ((first | refine cond_cases (fun hc => ?_) (fun hc => ?_) | refine guard_split (fun hc => ?_) (fun hc => ?_) | refine drawGuard_split (fun hc => ?_) (fun hc => ?_)) <;> first | (exfalso; simp only [dcT, dcF, bnT, bnF, bnU, bnV] at hc; omega) | (simp only [hc]; try simp only [dcT, dcF, bnT, bnF, bnU, bnV] at hc)) | (refine after_need (by omega) ?_) | (refine drawAfter_need (by omega) ?_))
        all_goals exact fin_same trivial rfl
  ·
    clear h
    generalize ckS l n = e at *
    repeat' (first | (simp only [go_sem, Int.reduceAdd, Int.reduceEq, Int.reduceLE, Int.reduceLT, Int.reduceMul, Int.reduceNeg, Int.reducePow, Int.reduceSub, Int.reduceToNat, Nat.reduceAdd, Nat.reduceBEq, Nat.reduceEqDiff, Nat.reduceLT, Nat.reduceLeDiff, Nat.reduceMul, Nat.reducePow, Nat.reduceSub, reduceCtorEq, reduceIte, IntKind.bits.eq_def, ti, tin, rws_length]) | (simp (disch := omega) only [w64, wu64, wu32, Nat.min_eq_left]) | (with_reducible first | refine callF_of (awake49) ?_ | refine drawF_of (awake49) ?_) | (with_reducible first | refine callF_of (c1) ?_ | refine drawF_of (c1) ?_) | (refine after_lit ti_ok ?_) | (refine drawAfter_lit ti_ok ?_) | (refine drawEnd_of (by kernel_rfl) ?_) | ((first | refine cond_cases (fun hc => ?_) (fun hc => ?_) | refine guard_split (fun hc => ?_) (fun hc => ?_) | refine drawGuard_split (fun hc => ?_) (fun hc => ?_)) <;> first | (exfalso; simp only [dcT, dcF, bnT, bnF, bnU, bnV] at hc; omega) | (simp only [hc]; try simp only [dcT, dcF, bnT, bnF, bnU, bnV] at hc)) | (refine after_need (by omega) ?_) | (refine drawAfter_need (by omega) ?_))
    all_goals exact fin_same trivial rfl
theorem ck_mk {l : List (Int × Int)} {n : Int} (h1 : 0 < l.length) (h2 : l.length ≤ 64) (h3 : ∀ s ∈ l, (-1099511627776 ≤ s.1 ∧ s.1 ≤ 1099511627776) ∧ (-1099511627776 ≤ s.2 ∧ s.2 ≤ 1099511627776)) (h4 : 0 ≤ n) (h5 : n ≤ 1099511627776) : ckS l n = 0 := by
  have h6 : ∀ i, i < l.length → inB 1099511627776 (l.getD i (0, 0)) := fun i hi => h3 _ (by rw [List.getD, List.getElem?_eq_getElem hi]; exact List.getElem_mem _)
  unfold ckS
  rw [if_neg (by omega), if_neg (by omega), if_pos h6, if_neg (by omega)]
theorem more_in (l : List (Int × Int)) (n m : Int) (h : ckS l n = 0) (h1 : l.length ≤ 10) (h2 : 2 ≤ l.length) (h3 : n ≤ 549755813888) (hm : 0 ≤ m ∧ m ≤ 65535) : CallOK Tryd.prog gl 5 [.sl 2 (rws prow l), .v (.int .i64 n), .v (.int .u16 m)] (.v (.bool (true))) := by
  refine call_ok (C := ⟨Tryd.prog, gl, ti, 118, false⟩) ti_ok mixed 3000 Tryd.call5 Tryd.func5 rfl Tryd.ntmps5 (by simp) byClL byCl ?_
  rw [Tryd.results5]
  obtain ⟨N, hN⟩ : ∃ N, l.length = N := ⟨_, rfl⟩
  have c1 := r49_Check l n (by omega)
  rw [h] at c1
  obtain ⟨k1, k2, k3, k4, k5⟩ := ck_ok h
  have hf : ckS (l.take (N - 1)) n = 0 := ck_mk (by rw [List.length_take]; omega) (by rw [List.length_take]; omega) (fun s hs => k3 s (List.mem_of_mem_take hs)) k4 k5
  have hm2 : ckS l (n + m) = 0 := ck_mk k1 k2 k3 (by omega) (by omega)
  have sub : ∀ s ∈ l.take (N - 1), s ∈ l := fun s hs => List.mem_of_mem_take hs
  have g1 := id_GainI l n h
  have g2 := id_SlopeI l n h
  have g3 := id_OffsetI l n h
  have g4 := id_GainI _ n hf
  have g5 := id_SlopeI _ n hf
  have g6 := id_OffsetI _ n hf
  have g7 := id_GainI l _ hm2
  have g8 := id_SlopeI l _ hm2
  have g9 := id_OffsetI l _ hm2
  have w1 := wider49 _ _ _ _ (mg_Gain hf) (mg_Gain h) (more_wider gainF sub (Int.le_refl n))
  have w2 := wider49 _ _ _ _ (mg_Slope hf) (mg_Slope h) (more_wider slopeF sub (Int.le_refl n))
  have w3 := wider49 _ _ _ _ (mg_Offset hf) (mg_Offset h) (more_wider offsF sub (Int.le_refl n))
  have w4 := wider49 _ _ _ _ (mg_Gain hm2) (mg_Gain h) (more_wider gainF (fun _ hs => hs) (show n ≤ n + m by omega))
  have w5 := wider49 _ _ _ _ (mg_Slope hm2) (mg_Slope h) (more_wider slopeF (fun _ hs => hs) (show n ≤ n + m by omega))
  have w6 := wider49 _ _ _ _ (mg_Offset hm2) (mg_Offset h) (more_wider offsF (fun _ hs => hs) (show n ≤ n + m by omega))
  have e0 : ((N : Nat) : Int) - 1 = ((N - 1 : Nat) : Int) := by omega
  have e1 : ((rws prow l).drop 0).take (N - 1) = rws prow (l.take (N - 1)) := by rw [List.drop_zero, rws_take]
  have e2 : (rws prow l).take (N - 1) = rws prow (l.take (N - 1)) := by rw [rws_take]
  rw [hN] at h1 h2
  clear hf hm2 sub k1 k2 k3 h
  generalize oIv gainF n l = a1 at *
  generalize oIv slopeF n l = a2 at *
  generalize oIv offsF n l = a3 at *
  generalize oIv gainF (n + m) l = a4 at *
  generalize oIv slopeF (n + m) l = a5 at *
  generalize oIv offsF (n + m) l = a6 at *
  generalize oErr gainF n l = b1 at *
  generalize oErr slopeF n l = b2 at *
  generalize oErr offsF n l = b3 at *
  generalize oErr gainF (n + m) l = b4 at *
  generalize oErr slopeF (n + m) l = b5 at *
  generalize oErr offsF (n + m) l = b6 at *
  generalize l.take (N - 1) = f at *
  generalize oIv gainF n f = a7 at *
  generalize oIv slopeF n f = a8 at *
  generalize oIv offsF n f = a9 at *
  generalize oErr gainF n f = b7 at *
  generalize oErr slopeF n f = b8 at *
  generalize oErr offsF n f = b9 at *
  repeat' (first | (simp only [go_sem, Int.reduceAdd, Int.reduceEq, Int.reduceLE, Int.reduceLT, Int.reduceMul, Int.reduceNeg, Int.reducePow, Int.reduceSub, Int.reduceToNat, Nat.reduceAdd, Nat.reduceBEq, Nat.reduceEqDiff, Nat.reduceLT, Nat.reduceLeDiff, Nat.reduceMul, Nat.reducePow, Nat.reduceSub, reduceCtorEq, reduceIte, IntKind.bits.eq_def, ti, tin, rws_length, hN, e0, e1, e2, Nat.sub_zero]) | (simp (disch := omega) only [w64, wu64, wu32, Nat.min_eq_left]) | (refine l_unroll 3 _ byFresh ?_) | (with_reducible first | refine callF_of (awake49) ?_ | refine drawF_of (awake49) ?_) | (with_reducible first | refine callF_of (c1) ?_ | refine drawF_of (c1) ?_) | (with_reducible first | refine callF_of (g1) ?_ | refine drawF_of (g1) ?_) | (with_reducible first | refine callF_of (g2) ?_ | refine drawF_of (g2) ?_) | (with_reducible first | refine callF_of (g3) ?_ | refine drawF_of (g3) ?_) | (with_reducible first | refine callF_of (g4) ?_ | refine drawF_of (g4) ?_) | (with_reducible first | refine callF_of (g5) ?_ | refine drawF_of (g5) ?_) | (with_reducible first | refine callF_of (g6) ?_ | refine drawF_of (g6) ?_) | (with_reducible first | refine callF_of (g7) ?_ | refine drawF_of (g7) ?_) | (with_reducible first | refine callF_of (g8) ?_ | refine drawF_of (g8) ?_) | (with_reducible first | refine callF_of (g9) ?_ | refine drawF_of (g9) ?_) | (with_reducible first | refine callF_of (w1) ?_ | refine drawF_of (w1) ?_) | (with_reducible first | refine callF_of (w2) ?_ | refine drawF_of (w2) ?_) | (with_reducible first | refine callF_of (w3) ?_ | refine drawF_of (w3) ?_) | (with_reducible first | refine callF_of (w4) ?_ | refine drawF_of (w4) ?_) | (with_reducible first | refine callF_of (w5) ?_ | refine drawF_of (w5) ?_) | (with_reducible first | refine callF_of (w6) ?_ | refine drawF_of (w6) ?_) | (refine after_lit ti_ok ?_) | (refine drawAfter_lit ti_ok ?_) | (refine drawEnd_of (by kernel_rfl) ?_) | ((first | refine cond_cases (fun hc => ?_) (fun hc => ?_) | refine guard_split (fun hc => ?_) (fun hc => ?_) | refine drawGuard_split (fun hc => ?_) (fun hc => ?_)) <;> first | (exfalso; simp only [dcT, dcF, bnT, bnF, bnU, bnV] at hc; omega) | (simp only [hc]; try simp only [dcT, dcF, bnT, bnF, bnU, bnV] at hc)) | (refine after_need (by omega) ?_) | (refine drawAfter_need (by omega) ?_))
  all_goals exact fin_same trivial rfl
theorem more_law (r : List (List AV)) (n m : Int) (m1 : r.length ≤ maxLen) (f1 : ∀ x ∈ r, FitL [.int .i64, .int .i64] x) (hm : (Lit.int .u16 m).wf = true) : CallOK Tryd.prog gl 5 [.sl 2 r, .v (.int .i64 n), .v (.int .u16 m)] (.v (.bool true)) := by
  unfold maxLen at *
  have hm : 0 ≤ m ∧ m ≤ 65535 := by simpa [Lit.wf, IntKind.min, IntKind.max, IntKind.signed, IntKind.bits] using hm
  obtain ⟨l, b1, rfl, z1⟩ := fit_prows f1
  by_cases h : ckS l n ≠ 0 ∨ 10 < l.length ∨ l.length < 2 ∨ 549755813888 < n
  · exact more_out l n m (by omega) hm h
  · exact more_in l n m (by omega) (by omega) (by omega) (by omega) hm
end Go.Proofs.YtkdpaoicekgalaaDoor
