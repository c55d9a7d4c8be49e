/- Layer 49 (identify): the conditions of samples; Gain, Slope, Offset. -/
import Derived.Test.YtkdpaoicekgalaaGreatDoorIdn4
set_option linter.unusedSimpArgs false
set_option linter.unusedVariables false
set_option linter.deprecated false
namespace Go.Proofs.YtkdpaoicekgalaaGreatDoor
open Go Go.Ax
set_option maxRecDepth 100000
set_option maxHeartbeats 4000000

theorem id_ofX (x y : Int) : CallOK Tryz.prog gl 122 [.agg [.v (.int .i64 x), .v (.int .i64 y)]] (.v (.int .i64 x)) := by
  refine call_ok (C := ⟨Tryz.prog, gl, ti, 5, false⟩) ti_ok mixed 3000 Tryz.call122 Tryz.func122 rfl Tryz.ntmps122 (by simp) byClL byCl ?_
  rw [Tryz.results122]
  repeat' (first | (simp only [go_sem, Int.reduceAdd, Int.reduceEq, Int.reduceLE, Int.reduceLT, Int.reduceMul, Int.reduceNeg, Int.reducePow, Int.reduceSub, Int.reduceToNat, Nat.reduceAdd, Nat.reduceBEq, Nat.reduceEqDiff, Nat.reduceLT, Nat.reduceLeDiff, Nat.reduceMul, Nat.reducePow, Nat.reduceSub, reduceCtorEq, reduceIte, IntKind.bits.eq_def, ti, tin]) | (simp (disch := omega) only [w64, wu64, wu32, Nat.min_eq_left]) | (refine aL ti_ok ?_) | (refine dL ti_ok ?_) | (refine dE (by kernel_rfl) ?_) | ((first | refine cC ?_ ?_ | refine gS ?_ ?_ | refine dS ?_ ?_) <;> intro hc <;> first | (exfalso; simp only [dcT, dcF, bnT, bnF, bnU, bnV] at hc; omega) | (simp only [hc]; try simp only [dcT, dcF, bnT, bnF, bnU, bnV] at hc)) | (refine aN (by omega) ?_) | (refine dN (by omega) ?_))
  exact fin_same trivial rfl
theorem id_one (x y : Int) : CallOK Tryz.prog gl 124 [.agg [.v (.int .i64 x), .v (.int .i64 y)]] (.v (.int .i64 1)) := by
  refine call_ok (C := ⟨Tryz.prog, gl, ti, 3, false⟩) ti_ok mixed 3000 Tryz.call124 Tryz.func124 rfl Tryz.ntmps124 (by simp) byClL byCl ?_
  rw [Tryz.results124]
  repeat' (first | (simp only [go_sem, Int.reduceAdd, Int.reduceEq, Int.reduceLE, Int.reduceLT, Int.reduceMul, Int.reduceNeg, Int.reducePow, Int.reduceSub, Int.reduceToNat, Nat.reduceAdd, Nat.reduceBEq, Nat.reduceEqDiff, Nat.reduceLT, Nat.reduceLeDiff, Nat.reduceMul, Nat.reducePow, Nat.reduceSub, reduceCtorEq, reduceIte, IntKind.bits.eq_def, ti, tin]) | (simp (disch := omega) only [w64, wu64, wu32, Nat.min_eq_left]) | (refine aL ti_ok ?_) | (refine dL ti_ok ?_) | (refine dE (by kernel_rfl) ?_) | ((first | refine cC ?_ ?_ | refine gS ?_ ?_ | refine dS ?_ ?_) <;> intro hc <;> first | (exfalso; simp only [dcT, dcF, bnT, bnF, bnU, bnV] at hc; omega) | (simp only [hc]; try simp only [dcT, dcF, bnT, bnF, bnU, bnV] at hc)) | (refine aN (by omega) ?_) | (refine dN (by omega) ?_))
  exact fin_same trivial rfl
theorem id_nothing (x y : Int) : CallOK Tryz.prog gl 123 [.agg [.v (.int .i64 x), .v (.int .i64 y)]] (.v (.int .i64 0)) := by
  refine call_ok (C := ⟨Tryz.prog, gl, ti, 3, false⟩) ti_ok mixed 3000 Tryz.call123 Tryz.func123 rfl Tryz.ntmps123 (by simp) byClL byCl ?_
  rw [Tryz.results123]
  repeat' (first | (simp only [go_sem, Int.reduceAdd, Int.reduceEq, Int.reduceLE, Int.reduceLT, Int.reduceMul, Int.reduceNeg, Int.reducePow, Int.reduceSub, Int.reduceToNat, Nat.reduceAdd, Nat.reduceBEq, Nat.reduceEqDiff, Nat.reduceLT, Nat.reduceLeDiff, Nat.reduceMul, Nat.reducePow, Nat.reduceSub, reduceCtorEq, reduceIte, IntKind.bits.eq_def, ti, tin]) | (simp (disch := omega) only [w64, wu64, wu32, Nat.min_eq_left]) | (refine aL ti_ok ?_) | (refine dL ti_ok ?_) | (refine dE (by kernel_rfl) ?_) | ((first | refine cC ?_ ?_ | refine gS ?_ ?_ | refine dS ?_ ?_) <;> intro hc <;> first | (exfalso; simp only [dcT, dcF, bnT, bnF, bnU, bnV] at hc; omega) | (simp only [hc]; try simp only [dcT, dcF, bnT, bnF, bnU, bnV] at hc)) | (refine aN (by omega) ?_) | (refine dN (by omega) ?_))
  exact fin_same trivial rfl
theorem ck_ok {l : List (Int × Int)} {n : Int} (h : ckS l n = 0) : 0 < l.length ∧ l.length ≤ 64 ∧ (∀ s ∈ l, (-1099511627776 ≤ s.1 ∧ s.1 ≤ 1099511627776) ∧ (-1099511627776 ≤ s.2 ∧ s.2 ≤ 1099511627776)) ∧ 0 ≤ n ∧ n ≤ 1099511627776 := by
  unfold ckS at h
  split at h
  · omega
  split at h
  · omega
  split at h
  · rename_i h1 h2 h3
    split at h
    · omega
    · refine ⟨by omega, by omega, fun s hs => ?_, by omega, by omega⟩
      obtain ⟨i, hi⟩ := List.getElem?_of_mem hs
      have hlt := (List.getElem?_eq_some_iff.1 hi).1
      have := h3 i hlt
      rw [List.getD, hi] at this
      exact this
  · omega
theorem id_solve_errGain (l : List (Int × Int)) (n : Int) (hl : l.length ≤ 4611686018427387904) (h : ckS l n ≠ 0) : CallOK Tryz.prog gl 121 [.sl 2 (rws prow l), .v (.int .i64 n), .fn 122 [], .fn 123 []] (.tup [.agg [.v (.bool (sg (Iv.zero).lo)), .sl 1 (u32s (ms (Iv.zero).lo)), .v (.int .i64 (dn (Iv.zero).lo)), .v (.bool (sg (Iv.zero).hi)), .sl 1 (u32s (ms (Iv.zero).hi)), .v (.int .i64 (dn (Iv.zero).hi))], .v (eV (ckS l n))]) := by
  refine call_ok (C := ⟨Tryz.prog, gl, ti, 60, false⟩) ti_ok mixed 3000 Tryz.call121 Tryz.func121 rfl Tryz.ntmps121 (by simp) byClF byCl ?_
  rw [Tryz.results121]
  have c1 := id_Check l n (by omega)
  generalize ckS l n = e at *
  rw [eV_ne h] at c1 ⊢
  repeat' (first | (simp only [go_sem, Int.reduceAdd, Int.reduceEq, Int.reduceLE, Int.reduceLT, Int.reduceMul, Int.reduceNeg, Int.reducePow, Int.reduceSub, Int.reduceToNat, Nat.reduceAdd, Nat.reduceBEq, Nat.reduceEqDiff, Nat.reduceLT, Nat.reduceLeDiff, Nat.reduceMul, Nat.reducePow, Nat.reduceSub, reduceCtorEq, reduceIte, IntKind.bits.eq_def, ti, tin]) | (simp (disch := omega) only [w64, wu64, wu32, Nat.min_eq_left]) | (with_reducible first | refine cF (c1) ?_ | refine dF (c1) ?_) | (refine aL ti_ok ?_) | (refine dL ti_ok ?_) | (refine dE (by kernel_rfl) ?_) | ((first | refine cC ?_ ?_ | refine gS ?_ ?_ | refine dS ?_ ?_) <;> intro hc <;> first | (exfalso; simp only [dcT, dcF, bnT, bnF, bnU, bnV] at hc; omega) | (simp only [hc]; try simp only [dcT, dcF, bnT, bnF, bnU, bnV] at hc)) | (refine aN (by omega) ?_) | (refine dN (by omega) ?_))
  all_goals exact fin_le trivial (Le.tup (.cons Le.iv0 (.cons (.refl _) .nil)))
theorem id_solveGain (l : List (Int × Int)) (n : Int) (h : ckS l n = 0) : CallOK Tryz.prog gl 121 [.sl 2 (rws prow l), .v (.int .i64 n), .fn 122 [], .fn 123 []] (.tup [.agg [.v (.bool (sg ((outOf gainF n l).lo))), .sl 1 (u32s (ms ((outOf gainF n l).lo))), .v (.int .i64 (dn ((outOf gainF n l).lo))), .v (.bool (sg ((outOf gainF n l).hi))), .sl 1 (u32s (ms ((outOf gainF n l).hi))), .v (.int .i64 (dn ((outOf gainF n l).hi)))], .v (eV (outOf gainF n l).err)]) := by
  refine call_ok (C := ⟨Tryz.prog, gl, ti, 60, false⟩) ti_ok mixed 3000 Tryz.call121 Tryz.func121 rfl Tryz.ntmps121 (by simp) byClF byCl ?_
  rw [Tryz.results121]
  obtain ⟨g1, g2, g3, g4, g5⟩ := ck_ok h
  have c1 := id_Check l n (by omega)
  rw [h, eV_zero] at c1
  obtain ⟨N, hN⟩ : ∃ N, l.length = N := ⟨_, rfl⟩
  have hlen := hv_length gainF.1 gainF.2 n l
  have hsm := hv_sm (f := gainF.1) (g := gainF.2) ⟨g4, g5⟩ (l := l) (fun s hs => by have := g3 s hs; simp only [gainF]; omega)
  have el := id_elim (hv gainF.1 gainF.2 n l) (2 * N) (by rw [hlen, hN]) (by omega) hsm
  have iv := id_interval _ (BS.Sm.of (elim_sm hsm)) _ (BInv.of _)
  change CallOK _ _ _ _ (.tup [.agg [.v (.bool (sg (outOf gainF n l).lo)), .sl 1 (u32s (ms (outOf gainF n l).lo)), .v (.int .i64 (dn (outOf gainF n l).lo)), .v (.bool (sg (outOf gainF n l).hi)), .sl 1 (u32s (ms (outOf gainF n l).hi)), .v (.int .i64 (dn (outOf gainF n l).hi))], .v (eV (outOf gainF n l).err)]) at iv
  rw [hN] at g1 g2 hlen
  clear hsm
  repeat' (first | (simp only [go_sem, Int.reduceAdd, Int.reduceEq, Int.reduceLE, Int.reduceLT, Int.reduceMul, Int.reduceNeg, Int.reducePow, Int.reduceSub, Int.reduceToNat, Nat.reduceAdd, Nat.reduceBEq, Nat.reduceEqDiff, Nat.reduceLT, Nat.reduceLeDiff, Nat.reduceMul, Nat.reducePow, Nat.reduceSub, reduceCtorEq, reduceIte, IntKind.bits.eq_def, ti, tin, rws_length, hN]) | (simp (disch := omega) only [w64, wu64, wu32, Nat.min_eq_left]) | (with_reducible first | refine cF (c1) ?_ | refine dF (c1) ?_) | (refine aL ti_ok ?_) | (refine dL ti_ok ?_) | (refine dE (by kernel_rfl) ?_) | ((first | refine cC ?_ ?_ | refine gS ?_ ?_ | refine dS ?_ ?_) <;> intro hc <;> first | (exfalso; simp only [dcT, dcF, bnT, bnF, bnU, bnV] at hc; omega) | (simp only [hc]; try simp only [dcT, dcF, bnT, bnF, bnU, bnV] at hc)) | (refine aN (by omega) ?_) | (refine dN (by omega) ?_))
  refine l_loop (α := Nat) (fun k => ⟨[(0, .sl 2 (rws prow l)), (1, .v (.int .i64 n)), (2, .fn 122 []), (3, .fn 123 []), (8, .p 0 6 0 0), (11, .ps 1 3 0 (2 * k)), (21, .sl 2 (rws prow l)), (22, .v (.int .i64 N)), (23, .v (.int .i64 k))], [(0, ⟨6, [[.v (.bool false), .v (.slice none 0 0), .v (.int .i64 0), .v (.bool false), .v (.slice none 0 0), .v (.int .i64 0)]]⟩), (1, ⟨3, rws trow (hv gainF.1 gainF.2 n (l.take k))⟩)], 2⟩) (fun k => k ≤ N) (fun k => N - k) (0) _ byFresh (fun _ h => by first | (cases h; done) | exact Nat.le_of_ble_eq_true rfl) ?_ ?_ ?_
  · exact Nat.zero_le _
  · exact Weak.trans (Weak.newnil 1 3 (Nat.le_of_ble_eq_true rfl)) (Nat.le_of_ble_eq_true rfl) (by exact byWeak)
  intro k hk
  by_cases hkn : k < N
  ·
    have rk := rws_getD (f := prow) (l := l) (i := k) (0, 0) (by omega)
    obtain ⟨p, hp⟩ : ∃ p, l.getD k (0, 0) = p := ⟨_, rfl⟩
    have bp := g3 p (by rw [← hp, List.getD, List.getElem?_eq_getElem (by omega)]; exact List.getElem_mem _)
    have st := hv_succ (f := gainF.1) (g := gainF.2) (n := n) (by omega) hp
    rw [hp] at rk
    obtain ⟨x, y⟩ := p
    rw [prow_mk] at rk
    simp only at bp
    have ln := hv_length gainF.1 gainF.2 n (l.take k)
    rw [List.length_take, hN, Nat.min_eq_left (by omega)] at ln
    have e9 : (rws trow (hv gainF.1 gainF.2 n (l.take k))).take (2 * k) ++ [[AV.v (.int .i64 x), AV.v (.int .i64 0), AV.v (.int .i64 (y + n))], [AV.v (.int .i64 (0 - x)), AV.v (.int .i64 0), AV.v (.int .i64 (n - y))]] = rws trow (hv gainF.1 gainF.2 n (l.take (k + 1))) := by
      rw [st]; exact rws_snoc2 (f := trow) (x := ( x,  0, y + n)) (y := ( (0 - x),  0, n - y)) ln
    have e8 : 2 * k + 2 = 2 * (k + 1) := by omega
    have i1 := id_ofX x y
    have i2 := id_nothing x y
    clear st g3 el iv
    repeat' (first | (simp only [go_sem, Int.reduceAdd, Int.reduceEq, Int.reduceLE, Int.reduceLT, Int.reduceMul, Int.reduceNeg, Int.reducePow, Int.reduceSub, Int.reduceToNat, Nat.reduceAdd, Nat.reduceBEq, Nat.reduceEqDiff, Nat.reduceLT, Nat.reduceLeDiff, Nat.reduceMul, Nat.reducePow, Nat.reduceSub, reduceCtorEq, reduceIte, IntKind.bits.eq_def, ti, tin, rws_length, hN, rk, ln, e9, e8]) | (simp (disch := omega) only [w64, wu64, wu32, Nat.min_eq_left]) | (with_reducible first | refine cF (i1) ?_ | refine dF (i1) ?_) | (with_reducible first | refine cF (i2) ?_ | refine dF (i2) ?_) | (refine drawAfter_app ti_ok rfl rfl rfl rfl rfl ⟨rfl, rfl, by decide⟩ rfl ⟨trivial, by (try simp only [List.length_cons, List.length_nil, List.length_append, u32s_length, List.length_map, rws_length, hN, rk, ln, e9, e8]); omega, by (try simp only [List.length_cons, List.length_nil, List.length_append, u32s_length, List.length_map, rws_length, hN, rk, ln, e9, e8]); omega, by (try simp only [List.length_cons, List.length_nil, List.length_append, u32s_length, List.length_map, rws_length, hN, rk, ln, e9, e8]); omega⟩ byRows ?_) | (refine aL ti_ok ?_) | (refine dL ti_ok ?_) | (refine dE (by kernel_rfl) ?_) | ((first | refine cC ?_ ?_ | refine gS ?_ ?_ | refine dS ?_ ?_) <;> intro hc <;> first | (exfalso; simp only [dcT, dcF, bnT, bnF, bnU, bnV] at hc; omega) | (simp only [hc]; try simp only [dcT, dcF, bnT, bnF, bnU, bnV] at hc)) | (refine aN (by omega) ?_) | (refine dN (by omega) ?_))
    refine roundEnd_of (α := Nat) (k + 1) ?_ ?_ ?_
    · show k + 1 ≤ N; omega
    · omega
    · exact Weak.ren2 29 1 31 (Nat.le_refl _) (by decide) (Nat.le_of_ble_eq_true rfl) byRenE byNoM byWeakF
  ·
    have hk2 : l.take k = l := List.take_of_length_le (by omega)
    obtain rfl : k = N := by omega
    rw [hk2]
    repeat' (first | (simp only [go_sem, Int.reduceAdd, Int.reduceEq, Int.reduceLE, Int.reduceLT, Int.reduceMul, Int.reduceNeg, Int.reducePow, Int.reduceSub, Int.reduceToNat, Nat.reduceAdd, Nat.reduceBEq, Nat.reduceEqDiff, Nat.reduceLT, Nat.reduceLeDiff, Nat.reduceMul, Nat.reducePow, Nat.reduceSub, reduceCtorEq, reduceIte, IntKind.bits.eq_def, ti, tin, rws_length, hN]) | (simp (disch := omega) only [w64, wu64, wu32, Nat.min_eq_left]) | (refine aL ti_ok ?_) | (refine dL ti_ok ?_) | (refine dE (by kernel_rfl) ?_) | ((first | refine cC ?_ ?_ | refine gS ?_ ?_ | refine dS ?_ ?_) <;> intro hc <;> first | (exfalso; simp only [dcT, dcF, bnT, bnF, bnU, bnV] at hc; omega) | (simp only [hc]; try simp only [dcT, dcF, bnT, bnF, bnU, bnV] at hc)) | (refine aN (by omega) ?_) | (refine dN (by omega) ?_))
    refine callF_frz 1 rfl (.cons (frz_ps rfl (by show _ ≤ (rws trow _).length; rw [rws_length, hlen]; omega)) .nil) (.cons (by rw [show (rws trow (hv gainF.1 gainF.2 n l)).drop 0 = rws trow (hv gainF.1 gainF.2 n l) from rfl, List.take_of_length_le (by rw [rws_length, hlen]; omega)]; exact .refl _) .nil) el ?_
    generalize outOf gainF n l = o at *
    generalize BS.of (elimC (hv gainF.1 gainF.2 n l)) = b at *
    repeat' (first | (simp only [go_sem, Int.reduceAdd, Int.reduceEq, Int.reduceLE, Int.reduceLT, Int.reduceMul, Int.reduceNeg, Int.reducePow, Int.reduceSub, Int.reduceToNat, Nat.reduceAdd, Nat.reduceBEq, Nat.reduceEqDiff, Nat.reduceLT, Nat.reduceLeDiff, Nat.reduceMul, Nat.reducePow, Nat.reduceSub, reduceCtorEq, reduceIte, IntKind.bits.eq_def, ti, tin]) | (simp (disch := omega) only [w64, wu64, wu32, Nat.min_eq_left]) | (with_reducible first | refine cF (iv) ?_ | refine dF (iv) ?_) | (refine aL ti_ok ?_) | (refine dL ti_ok ?_) | (refine dE (by kernel_rfl) ?_) | ((first | refine cC ?_ ?_ | refine gS ?_ ?_ | refine dS ?_ ?_) <;> intro hc <;> first | (exfalso; simp only [dcT, dcF, bnT, bnF, bnU, bnV] at hc; omega) | (simp only [hc]; try simp only [dcT, dcF, bnT, bnF, bnU, bnV] at hc)) | (refine aN (by omega) ?_) | (refine dN (by omega) ?_))
    exact fin_same trivial rfl
theorem id_Gain_err (l : List (Int × Int)) (n : Int) (hl : l.length ≤ 4611686018427387904) (h : ckS l n ≠ 0) : CallOK Tryz.prog gl 75 [.sl 2 (rws prow l), .v (.int .i64 n)] (.tup [.agg [.v (.bool (sg (Iv.zero).lo)), .sl 1 (u32s (ms (Iv.zero).lo)), .v (.int .i64 (dn (Iv.zero).lo)), .v (.bool (sg (Iv.zero).hi)), .sl 1 (u32s (ms (Iv.zero).hi)), .v (.int .i64 (dn (Iv.zero).hi))], .v (eV (ckS l n))]) := by
  refine call_ok (C := ⟨Tryz.prog, gl, ti, 11, false⟩) ti_ok mixed 3000 Tryz.call75 Tryz.func75 rfl Tryz.ntmps75 (by simp) byClL byCl ?_
  rw [Tryz.results75]
  have c1 := id_solve_errGain l n hl h
  generalize ckS l n = e at *
  repeat' (first | (simp only [go_sem, Int.reduceAdd, Int.reduceEq, Int.reduceLE, Int.reduceLT, Int.reduceMul, Int.reduceNeg, Int.reducePow, Int.reduceSub, Int.reduceToNat, Nat.reduceAdd, Nat.reduceBEq, Nat.reduceEqDiff, Nat.reduceLT, Nat.reduceLeDiff, Nat.reduceMul, Nat.reducePow, Nat.reduceSub, reduceCtorEq, reduceIte, IntKind.bits.eq_def, ti, tin]) | (simp (disch := omega) only [w64, wu64, wu32, Nat.min_eq_left]) | (with_reducible first | refine cF (c1) ?_ | refine dF (c1) ?_) | (refine aL ti_ok ?_) | (refine dL ti_ok ?_) | (refine dE (by kernel_rfl) ?_) | ((first | refine cC ?_ ?_ | refine gS ?_ ?_ | refine dS ?_ ?_) <;> intro hc <;> first | (exfalso; simp only [dcT, dcF, bnT, bnF, bnU, bnV] at hc; omega) | (simp only [hc]; try simp only [dcT, dcF, bnT, bnF, bnU, bnV] at hc)) | (refine aN (by omega) ?_) | (refine dN (by omega) ?_))
  exact fin_same trivial rfl
theorem id_Gain (l : List (Int × Int)) (n : Int) (h : ckS l n = 0) : CallOK Tryz.prog gl 75 [.sl 2 (rws prow l), .v (.int .i64 n)] (.tup [.agg [.v (.bool (sg ((outOf gainF n l).lo))), .sl 1 (u32s (ms ((outOf gainF n l).lo))), .v (.int .i64 (dn ((outOf gainF n l).lo))), .v (.bool (sg ((outOf gainF n l).hi))), .sl 1 (u32s (ms ((outOf gainF n l).hi))), .v (.int .i64 (dn ((outOf gainF n l).hi)))], .v (eV (outOf gainF n l).err)]) := by
  refine call_ok (C := ⟨Tryz.prog, gl, ti, 11, false⟩) ti_ok mixed 3000 Tryz.call75 Tryz.func75 rfl Tryz.ntmps75 (by simp) byClL byCl ?_
  rw [Tryz.results75]
  have c1 := id_solveGain l n h
  generalize outOf gainF n l = o at *
  repeat' (first | (simp only [go_sem, Int.reduceAdd, Int.reduceEq, Int.reduceLE, Int.reduceLT, Int.reduceMul, Int.reduceNeg, Int.reducePow, Int.reduceSub, Int.reduceToNat, Nat.reduceAdd, Nat.reduceBEq, Nat.reduceEqDiff, Nat.reduceLT, Nat.reduceLeDiff, Nat.reduceMul, Nat.reducePow, Nat.reduceSub, reduceCtorEq, reduceIte, IntKind.bits.eq_def, ti, tin]) | (simp (disch := omega) only [w64, wu64, wu32, Nat.min_eq_left]) | (with_reducible first | refine cF (c1) ?_ | refine dF (c1) ?_) | (refine aL ti_ok ?_) | (refine dL ti_ok ?_) | (refine dE (by kernel_rfl) ?_) | ((first | refine cC ?_ ?_ | refine gS ?_ ?_ | refine dS ?_ ?_) <;> intro hc <;> first | (exfalso; simp only [dcT, dcF, bnT, bnF, bnU, bnV] at hc; omega) | (simp only [hc]; try simp only [dcT, dcF, bnT, bnF, bnU, bnV] at hc)) | (refine aN (by omega) ?_) | (refine dN (by omega) ?_))
  exact fin_same trivial rfl
theorem id_solve_errSlope (l : List (Int × Int)) (n : Int) (hl : l.length ≤ 4611686018427387904) (h : ckS l n ≠ 0) : CallOK Tryz.prog gl 121 [.sl 2 (rws prow l), .v (.int .i64 n), .fn 122 [], .fn 124 []] (.tup [.agg [.v (.bool (sg (Iv.zero).lo)), .sl 1 (u32s (ms (Iv.zero).lo)), .v (.int .i64 (dn (Iv.zero).lo)), .v (.bool (sg (Iv.zero).hi)), .sl 1 (u32s (ms (Iv.zero).hi)), .v (.int .i64 (dn (Iv.zero).hi))], .v (eV (ckS l n))]) := by
  refine call_ok (C := ⟨Tryz.prog, gl, ti, 60, false⟩) ti_ok mixed 3000 Tryz.call121 Tryz.func121 rfl Tryz.ntmps121 (by simp) byClF byCl ?_
  rw [Tryz.results121]
  have c1 := id_Check l n (by omega)
  generalize ckS l n = e at *
  rw [eV_ne h] at c1 ⊢
  repeat' (first | (simp only [go_sem, Int.reduceAdd, Int.reduceEq, Int.reduceLE, Int.reduceLT, Int.reduceMul, Int.reduceNeg, Int.reducePow, Int.reduceSub, Int.reduceToNat, Nat.reduceAdd, Nat.reduceBEq, Nat.reduceEqDiff, Nat.reduceLT, Nat.reduceLeDiff, Nat.reduceMul, Nat.reducePow, Nat.reduceSub, reduceCtorEq, reduceIte, IntKind.bits.eq_def, ti, tin]) | (simp (disch := omega) only [w64, wu64, wu32, Nat.min_eq_left]) | (with_reducible first | refine cF (c1) ?_ | refine dF (c1) ?_) | (refine aL ti_ok ?_) | (refine dL ti_ok ?_) | (refine dE (by kernel_rfl) ?_) | ((first | refine cC ?_ ?_ | refine gS ?_ ?_ | refine dS ?_ ?_) <;> intro hc <;> first | (exfalso; simp only [dcT, dcF, bnT, bnF, bnU, bnV] at hc; omega) | (simp only [hc]; try simp only [dcT, dcF, bnT, bnF, bnU, bnV] at hc)) | (refine aN (by omega) ?_) | (refine dN (by omega) ?_))
  all_goals exact fin_le trivial (Le.tup (.cons Le.iv0 (.cons (.refl _) .nil)))
theorem id_solveSlope (l : List (Int × Int)) (n : Int) (h : ckS l n = 0) : CallOK Tryz.prog gl 121 [.sl 2 (rws prow l), .v (.int .i64 n), .fn 122 [], .fn 124 []] (.tup [.agg [.v (.bool (sg ((outOf slopeF n l).lo))), .sl 1 (u32s (ms ((outOf slopeF n l).lo))), .v (.int .i64 (dn ((outOf slopeF n l).lo))), .v (.bool (sg ((outOf slopeF n l).hi))), .sl 1 (u32s (ms ((outOf slopeF n l).hi))), .v (.int .i64 (dn ((outOf slopeF n l).hi)))], .v (eV (outOf slopeF n l).err)]) := by
  refine call_ok (C := ⟨Tryz.prog, gl, ti, 60, false⟩) ti_ok mixed 3000 Tryz.call121 Tryz.func121 rfl Tryz.ntmps121 (by simp) byClF byCl ?_
  rw [Tryz.results121]
  obtain ⟨g1, g2, g3, g4, g5⟩ := ck_ok h
  have c1 := id_Check l n (by omega)
  rw [h, eV_zero] at c1
  obtain ⟨N, hN⟩ : ∃ N, l.length = N := ⟨_, rfl⟩
  have hlen := hv_length slopeF.1 slopeF.2 n l
  have hsm := hv_sm (f := slopeF.1) (g := slopeF.2) ⟨g4, g5⟩ (l := l) (fun s hs => by have := g3 s hs; simp only [slopeF]; omega)
  have el := id_elim (hv slopeF.1 slopeF.2 n l) (2 * N) (by rw [hlen, hN]) (by omega) hsm
  have iv := id_interval _ (BS.Sm.of (elim_sm hsm)) _ (BInv.of _)
  change CallOK _ _ _ _ (.tup [.agg [.v (.bool (sg (outOf slopeF n l).lo)), .sl 1 (u32s (ms (outOf slopeF n l).lo)), .v (.int .i64 (dn (outOf slopeF n l).lo)), .v (.bool (sg (outOf slopeF n l).hi)), .sl 1 (u32s (ms (outOf slopeF n l).hi)), .v (.int .i64 (dn (outOf slopeF n l).hi))], .v (eV (outOf slopeF n l).err)]) at iv
  rw [hN] at g1 g2 hlen
  clear hsm
  repeat' (first | (simp only [go_sem, Int.reduceAdd, Int.reduceEq, Int.reduceLE, Int.reduceLT, Int.reduceMul, Int.reduceNeg, Int.reducePow, Int.reduceSub, Int.reduceToNat, Nat.reduceAdd, Nat.reduceBEq, Nat.reduceEqDiff, Nat.reduceLT, Nat.reduceLeDiff, Nat.reduceMul, Nat.reducePow, Nat.reduceSub, reduceCtorEq, reduceIte, IntKind.bits.eq_def, ti, tin, rws_length, hN]) | (simp (disch := omega) only [w64, wu64, wu32, Nat.min_eq_left]) | (with_reducible first | refine cF (c1) ?_ | refine dF (c1) ?_) | (refine aL ti_ok ?_) | (refine dL ti_ok ?_) | (refine dE (by kernel_rfl) ?_) | ((first | refine cC ?_ ?_ | refine gS ?_ ?_ | refine dS ?_ ?_) <;> intro hc <;> first | (exfalso; simp only [dcT, dcF, bnT, bnF, bnU, bnV] at hc; omega) | (simp only [hc]; try simp only [dcT, dcF, bnT, bnF, bnU, bnV] at hc)) | (refine aN (by omega) ?_) | (refine dN (by omega) ?_))
  refine l_loop (α := Nat) (fun k => ⟨[(0, .sl 2 (rws prow l)), (1, .v (.int .i64 n)), (2, .fn 122 []), (3, .fn 124 []), (8, .p 0 6 0 0), (11, .ps 1 3 0 (2 * k)), (21, .sl 2 (rws prow l)), (22, .v (.int .i64 N)), (23, .v (.int .i64 k))], [(0, ⟨6, [[.v (.bool false), .v (.slice none 0 0), .v (.int .i64 0), .v (.bool false), .v (.slice none 0 0), .v (.int .i64 0)]]⟩), (1, ⟨3, rws trow (hv slopeF.1 slopeF.2 n (l.take k))⟩)], 2⟩) (fun k => k ≤ N) (fun k => N - k) (0) _ byFresh (fun _ h => by first | (cases h; done) | exact Nat.le_of_ble_eq_true rfl) ?_ ?_ ?_
  · exact Nat.zero_le _
  · exact Weak.trans (Weak.newnil 1 3 (Nat.le_of_ble_eq_true rfl)) (Nat.le_of_ble_eq_true rfl) (by exact byWeak)
  intro k hk
  by_cases hkn : k < N
  ·
    have rk := rws_getD (f := prow) (l := l) (i := k) (0, 0) (by omega)
    obtain ⟨p, hp⟩ : ∃ p, l.getD k (0, 0) = p := ⟨_, rfl⟩
    have bp := g3 p (by rw [← hp, List.getD, List.getElem?_eq_getElem (by omega)]; exact List.getElem_mem _)
    have st := hv_succ (f := slopeF.1) (g := slopeF.2) (n := n) (by omega) hp
    rw [hp] at rk
    obtain ⟨x, y⟩ := p
    rw [prow_mk] at rk
    simp only at bp
    have ln := hv_length slopeF.1 slopeF.2 n (l.take k)
    rw [List.length_take, hN, Nat.min_eq_left (by omega)] at ln
    have e9 : (rws trow (hv slopeF.1 slopeF.2 n (l.take k))).take (2 * k) ++ [[AV.v (.int .i64 x), AV.v (.int .i64 1), AV.v (.int .i64 (y + n))], [AV.v (.int .i64 (0 - x)), AV.v (.int .i64 (-1)), AV.v (.int .i64 (n - y))]] = rws trow (hv slopeF.1 slopeF.2 n (l.take (k + 1))) := by
      rw [st]; exact rws_snoc2 (f := trow) (x := ( x,  1, y + n)) (y := ( (0 - x),  (-1), n - y)) ln
    have e8 : 2 * k + 2 = 2 * (k + 1) := by omega
    have i1 := id_ofX x y
    have i2 := id_one x y
    clear st g3 el iv
    repeat' (first | (simp only [go_sem, Int.reduceAdd, Int.reduceEq, Int.reduceLE, Int.reduceLT, Int.reduceMul, Int.reduceNeg, Int.reducePow, Int.reduceSub, Int.reduceToNat, Nat.reduceAdd, Nat.reduceBEq, Nat.reduceEqDiff, Nat.reduceLT, Nat.reduceLeDiff, Nat.reduceMul, Nat.reducePow, Nat.reduceSub, reduceCtorEq, reduceIte, IntKind.bits.eq_def, ti, tin, rws_length, hN, rk, ln, e9, e8]) | (simp (disch := omega) only [w64, wu64, wu32, Nat.min_eq_left]) | (with_reducible first | refine cF (i1) ?_ | refine dF (i1) ?_) | (with_reducible first | refine cF (i2) ?_ | refine dF (i2) ?_) | (refine drawAfter_app ti_ok rfl rfl rfl rfl rfl ⟨rfl, rfl, by decide⟩ rfl ⟨trivial, by (try simp only [List.length_cons, List.length_nil, List.length_append, u32s_length, List.length_map, rws_length, hN, rk, ln, e9, e8]); omega, by (try simp only [List.length_cons, List.length_nil, List.length_append, u32s_length, List.length_map, rws_length, hN, rk, ln, e9, e8]); omega, by (try simp only [List.length_cons, List.length_nil, List.length_append, u32s_length, List.length_map, rws_length, hN, rk, ln, e9, e8]); omega⟩ byRows ?_) | (refine aL ti_ok ?_) | (refine dL ti_ok ?_) | (refine dE (by kernel_rfl) ?_) | ((first | refine cC ?_ ?_ | refine gS ?_ ?_ | refine dS ?_ ?_) <;> intro hc <;> first | (exfalso; simp only [dcT, dcF, bnT, bnF, bnU, bnV] at hc; omega) | (simp only [hc]; try simp only [dcT, dcF, bnT, bnF, bnU, bnV] at hc)) | (refine aN (by omega) ?_) | (refine dN (by omega) ?_))
    refine roundEnd_of (α := Nat) (k + 1) ?_ ?_ ?_
    · show k + 1 ≤ N; omega
    · omega
    · exact Weak.ren2 29 1 31 (Nat.le_refl _) (by decide) (Nat.le_of_ble_eq_true rfl) byRenE byNoM byWeakF
  ·
    have hk2 : l.take k = l := List.take_of_length_le (by omega)
    obtain rfl : k = N := by omega
    rw [hk2]
    repeat' (first | (simp only [go_sem, Int.reduceAdd, Int.reduceEq, Int.reduceLE, Int.reduceLT, Int.reduceMul, Int.reduceNeg, Int.reducePow, Int.reduceSub, Int.reduceToNat, Nat.reduceAdd, Nat.reduceBEq, Nat.reduceEqDiff, Nat.reduceLT, Nat.reduceLeDiff, Nat.reduceMul, Nat.reducePow, Nat.reduceSub, reduceCtorEq, reduceIte, IntKind.bits.eq_def, ti, tin, rws_length, hN]) | (simp (disch := omega) only [w64, wu64, wu32, Nat.min_eq_left]) | (refine aL ti_ok ?_) | (refine dL ti_ok ?_) | (refine dE (by kernel_rfl) ?_) | ((first | refine cC ?_ ?_ | refine gS ?_ ?_ | refine dS ?_ ?_) <;> intro hc <;> first | (exfalso; simp only [dcT, dcF, bnT, bnF, bnU, bnV] at hc; omega) | (simp only [hc]; try simp only [dcT, dcF, bnT, bnF, bnU, bnV] at hc)) | (refine aN (by omega) ?_) | (refine dN (by omega) ?_))
    refine callF_frz 1 rfl (.cons (frz_ps rfl (by show _ ≤ (rws trow _).length; rw [rws_length, hlen]; omega)) .nil) (.cons (by rw [show (rws trow (hv slopeF.1 slopeF.2 n l)).drop 0 = rws trow (hv slopeF.1 slopeF.2 n l) from rfl, List.take_of_length_le (by rw [rws_length, hlen]; omega)]; exact .refl _) .nil) el ?_
    generalize outOf slopeF n l = o at *
    generalize BS.of (elimC (hv slopeF.1 slopeF.2 n l)) = b at *
    repeat' (first | (simp only [go_sem, Int.reduceAdd, Int.reduceEq, Int.reduceLE, Int.reduceLT, Int.reduceMul, Int.reduceNeg, Int.reducePow, Int.reduceSub, Int.reduceToNat, Nat.reduceAdd, Nat.reduceBEq, Nat.reduceEqDiff, Nat.reduceLT, Nat.reduceLeDiff, Nat.reduceMul, Nat.reducePow, Nat.reduceSub, reduceCtorEq, reduceIte, IntKind.bits.eq_def, ti, tin]) | (simp (disch := omega) only [w64, wu64, wu32, Nat.min_eq_left]) | (with_reducible first | refine cF (iv) ?_ | refine dF (iv) ?_) | (refine aL ti_ok ?_) | (refine dL ti_ok ?_) | (refine dE (by kernel_rfl) ?_) | ((first | refine cC ?_ ?_ | refine gS ?_ ?_ | refine dS ?_ ?_) <;> intro hc <;> first | (exfalso; simp only [dcT, dcF, bnT, bnF, bnU, bnV] at hc; omega) | (simp only [hc]; try simp only [dcT, dcF, bnT, bnF, bnU, bnV] at hc)) | (refine aN (by omega) ?_) | (refine dN (by omega) ?_))
    exact fin_same trivial rfl
theorem id_Slope_err (l : List (Int × Int)) (n : Int) (hl : l.length ≤ 4611686018427387904) (h : ckS l n ≠ 0) : CallOK Tryz.prog gl 76 [.sl 2 (rws prow l), .v (.int .i64 n)] (.tup [.agg [.v (.bool (sg (Iv.zero).lo)), .sl 1 (u32s (ms (Iv.zero).lo)), .v (.int .i64 (dn (Iv.zero).lo)), .v (.bool (sg (Iv.zero).hi)), .sl 1 (u32s (ms (Iv.zero).hi)), .v (.int .i64 (dn (Iv.zero).hi))], .v (eV (ckS l n))]) := by
  refine call_ok (C := ⟨Tryz.prog, gl, ti, 11, false⟩) ti_ok mixed 3000 Tryz.call76 Tryz.func76 rfl Tryz.ntmps76 (by simp) byClL byCl ?_
  rw [Tryz.results76]
  have c1 := id_solve_errSlope l n hl h
  generalize ckS l n = e at *
  repeat' (first | (simp only [go_sem, Int.reduceAdd, Int.reduceEq, Int.reduceLE, Int.reduceLT, Int.reduceMul, Int.reduceNeg, Int.reducePow, Int.reduceSub, Int.reduceToNat, Nat.reduceAdd, Nat.reduceBEq, Nat.reduceEqDiff, Nat.reduceLT, Nat.reduceLeDiff, Nat.reduceMul, Nat.reducePow, Nat.reduceSub, reduceCtorEq, reduceIte, IntKind.bits.eq_def, ti, tin]) | (simp (disch := omega) only [w64, wu64, wu32, Nat.min_eq_left]) | (with_reducible first | refine cF (c1) ?_ | refine dF (c1) ?_) | (refine aL ti_ok ?_) | (refine dL ti_ok ?_) | (refine dE (by kernel_rfl) ?_) | ((first | refine cC ?_ ?_ | refine gS ?_ ?_ | refine dS ?_ ?_) <;> intro hc <;> first | (exfalso; simp only [dcT, dcF, bnT, bnF, bnU, bnV] at hc; omega) | (simp only [hc]; try simp only [dcT, dcF, bnT, bnF, bnU, bnV] at hc)) | (refine aN (by omega) ?_) | (refine dN (by omega) ?_))
  exact fin_same trivial rfl
theorem id_Slope (l : List (Int × Int)) (n : Int) (h : ckS l n = 0) : CallOK Tryz.prog gl 76 [.sl 2 (rws prow l), .v (.int .i64 n)] (.tup [.agg [.v (.bool (sg ((outOf slopeF n l).lo))), .sl 1 (u32s (ms ((outOf slopeF n l).lo))), .v (.int .i64 (dn ((outOf slopeF n l).lo))), .v (.bool (sg ((outOf slopeF n l).hi))), .sl 1 (u32s (ms ((outOf slopeF n l).hi))), .v (.int .i64 (dn ((outOf slopeF n l).hi)))], .v (eV (outOf slopeF n l).err)]) := by
  refine call_ok (C := ⟨Tryz.prog, gl, ti, 11, false⟩) ti_ok mixed 3000 Tryz.call76 Tryz.func76 rfl Tryz.ntmps76 (by simp) byClL byCl ?_
  rw [Tryz.results76]
  have c1 := id_solveSlope l n h
  generalize outOf slopeF n l = o at *
  repeat' (first | (simp only [go_sem, Int.reduceAdd, Int.reduceEq, Int.reduceLE, Int.reduceLT, Int.reduceMul, Int.reduceNeg, Int.reducePow, Int.reduceSub, Int.reduceToNat, Nat.reduceAdd, Nat.reduceBEq, Nat.reduceEqDiff, Nat.reduceLT, Nat.reduceLeDiff, Nat.reduceMul, Nat.reducePow, Nat.reduceSub, reduceCtorEq, reduceIte, IntKind.bits.eq_def, ti, tin]) | (simp (disch := omega) only [w64, wu64, wu32, Nat.min_eq_left]) | (with_reducible first | refine cF (c1) ?_ | refine dF (c1) ?_) | (refine aL ti_ok ?_) | (refine dL ti_ok ?_) | (refine dE (by kernel_rfl) ?_) | ((first | refine cC ?_ ?_ | refine gS ?_ ?_ | refine dS ?_ ?_) <;> intro hc <;> first | (exfalso; simp only [dcT, dcF, bnT, bnF, bnU, bnV] at hc; omega) | (simp only [hc]; try simp only [dcT, dcF, bnT, bnF, bnU, bnV] at hc)) | (refine aN (by omega) ?_) | (refine dN (by omega) ?_))
  exact fin_same trivial rfl
theorem id_solve_errOffset (l : List (Int × Int)) (n : Int) (hl : l.length ≤ 4611686018427387904) (h : ckS l n ≠ 0) : CallOK Tryz.prog gl 121 [.sl 2 (rws prow l), .v (.int .i64 n), .fn 124 [], .fn 122 []] (.tup [.agg [.v (.bool (sg (Iv.zero).lo)), .sl 1 (u32s (ms (Iv.zero).lo)), .v (.int .i64 (dn (Iv.zero).lo)), .v (.bool (sg (Iv.zero).hi)), .sl 1 (u32s (ms (Iv.zero).hi)), .v (.int .i64 (dn (Iv.zero).hi))], .v (eV (ckS l n))]) := by
  refine call_ok (C := ⟨Tryz.prog, gl, ti, 60, false⟩) ti_ok mixed 3000 Tryz.call121 Tryz.func121 rfl Tryz.ntmps121 (by simp) byClF byCl ?_
  rw [Tryz.results121]
  have c1 := id_Check l n (by omega)
  generalize ckS l n = e at *
  rw [eV_ne h] at c1 ⊢
  repeat' (first | (simp only [go_sem, Int.reduceAdd, Int.reduceEq, Int.reduceLE, Int.reduceLT, Int.reduceMul, Int.reduceNeg, Int.reducePow, Int.reduceSub, Int.reduceToNat, Nat.reduceAdd, Nat.reduceBEq, Nat.reduceEqDiff, Nat.reduceLT, Nat.reduceLeDiff, Nat.reduceMul, Nat.reducePow, Nat.reduceSub, reduceCtorEq, reduceIte, IntKind.bits.eq_def, ti, tin]) | (simp (disch := omega) only [w64, wu64, wu32, Nat.min_eq_left]) | (with_reducible first | refine cF (c1) ?_ | refine dF (c1) ?_) | (refine aL ti_ok ?_) | (refine dL ti_ok ?_) | (refine dE (by kernel_rfl) ?_) | ((first | refine cC ?_ ?_ | refine gS ?_ ?_ | refine dS ?_ ?_) <;> intro hc <;> first | (exfalso; simp only [dcT, dcF, bnT, bnF, bnU, bnV] at hc; omega) | (simp only [hc]; try simp only [dcT, dcF, bnT, bnF, bnU, bnV] at hc)) | (refine aN (by omega) ?_) | (refine dN (by omega) ?_))
  all_goals exact fin_le trivial (Le.tup (.cons Le.iv0 (.cons (.refl _) .nil)))
theorem id_solveOffset (l : List (Int × Int)) (n : Int) (h : ckS l n = 0) : CallOK Tryz.prog gl 121 [.sl 2 (rws prow l), .v (.int .i64 n), .fn 124 [], .fn 122 []] (.tup [.agg [.v (.bool (sg ((outOf offsF n l).lo))), .sl 1 (u32s (ms ((outOf offsF n l).lo))), .v (.int .i64 (dn ((outOf offsF n l).lo))), .v (.bool (sg ((outOf offsF n l).hi))), .sl 1 (u32s (ms ((outOf offsF n l).hi))), .v (.int .i64 (dn ((outOf offsF n l).hi)))], .v (eV (outOf offsF n l).err)]) := by
  refine call_ok (C := ⟨Tryz.prog, gl, ti, 60, false⟩) ti_ok mixed 3000 Tryz.call121 Tryz.func121 rfl Tryz.ntmps121 (by simp) byClF byCl ?_
  rw [Tryz.results121]
  obtain ⟨g1, g2, g3, g4, g5⟩ := ck_ok h
  have c1 := id_Check l n (by omega)
  rw [h, eV_zero] at c1
  obtain ⟨N, hN⟩ : ∃ N, l.length = N := ⟨_, rfl⟩
  have hlen := hv_length offsF.1 offsF.2 n l
  have hsm := hv_sm (f := offsF.1) (g := offsF.2) ⟨g4, g5⟩ (l := l) (fun s hs => by have := g3 s hs; simp only [offsF]; omega)
  have el := id_elim (hv offsF.1 offsF.2 n l) (2 * N) (by rw [hlen, hN]) (by omega) hsm
  have iv := id_interval _ (BS.Sm.of (elim_sm hsm)) _ (BInv.of _)
  change CallOK _ _ _ _ (.tup [.agg [.v (.bool (sg (outOf offsF n l).lo)), .sl 1 (u32s (ms (outOf offsF n l).lo)), .v (.int .i64 (dn (outOf offsF n l).lo)), .v (.bool (sg (outOf offsF n l).hi)), .sl 1 (u32s (ms (outOf offsF n l).hi)), .v (.int .i64 (dn (outOf offsF n l).hi))], .v (eV (outOf offsF n l).err)]) at iv
  rw [hN] at g1 g2 hlen
  clear hsm
  repeat' (first | (simp only [go_sem, Int.reduceAdd, Int.reduceEq, Int.reduceLE, Int.reduceLT, Int.reduceMul, Int.reduceNeg, Int.reducePow, Int.reduceSub, Int.reduceToNat, Nat.reduceAdd, Nat.reduceBEq, Nat.reduceEqDiff, Nat.reduceLT, Nat.reduceLeDiff, Nat.reduceMul, Nat.reducePow, Nat.reduceSub, reduceCtorEq, reduceIte, IntKind.bits.eq_def, ti, tin, rws_length, hN]) | (simp (disch := omega) only [w64, wu64, wu32, Nat.min_eq_left]) | (with_reducible first | refine cF (c1) ?_ | refine dF (c1) ?_) | (refine aL ti_ok ?_) | (refine dL ti_ok ?_) | (refine dE (by kernel_rfl) ?_) | ((first | refine cC ?_ ?_ | refine gS ?_ ?_ | refine dS ?_ ?_) <;> intro hc <;> first | (exfalso; simp only [dcT, dcF, bnT, bnF, bnU, bnV] at hc; omega) | (simp only [hc]; try simp only [dcT, dcF, bnT, bnF, bnU, bnV] at hc)) | (refine aN (by omega) ?_) | (refine dN (by omega) ?_))
  refine l_loop (α := Nat) (fun k => ⟨[(0, .sl 2 (rws prow l)), (1, .v (.int .i64 n)), (2, .fn 124 []), (3, .fn 122 []), (8, .p 0 6 0 0), (11, .ps 1 3 0 (2 * k)), (21, .sl 2 (rws prow l)), (22, .v (.int .i64 N)), (23, .v (.int .i64 k))], [(0, ⟨6, [[.v (.bool false), .v (.slice none 0 0), .v (.int .i64 0), .v (.bool false), .v (.slice none 0 0), .v (.int .i64 0)]]⟩), (1, ⟨3, rws trow (hv offsF.1 offsF.2 n (l.take k))⟩)], 2⟩) (fun k => k ≤ N) (fun k => N - k) (0) _ byFresh (fun _ h => by first | (cases h; done) | exact Nat.le_of_ble_eq_true rfl) ?_ ?_ ?_
  · exact Nat.zero_le _
  · exact Weak.trans (Weak.newnil 1 3 (Nat.le_of_ble_eq_true rfl)) (Nat.le_of_ble_eq_true rfl) (by exact byWeak)
  intro k hk
  by_cases hkn : k < N
  ·
    have rk := rws_getD (f := prow) (l := l) (i := k) (0, 0) (by omega)
    obtain ⟨p, hp⟩ : ∃ p, l.getD k (0, 0) = p := ⟨_, rfl⟩
    have bp := g3 p (by rw [← hp, List.getD, List.getElem?_eq_getElem (by omega)]; exact List.getElem_mem _)
    have st := hv_succ (f := offsF.1) (g := offsF.2) (n := n) (by omega) hp
    rw [hp] at rk
    obtain ⟨x, y⟩ := p
    rw [prow_mk] at rk
    simp only at bp
    have ln := hv_length offsF.1 offsF.2 n (l.take k)
    rw [List.length_take, hN, Nat.min_eq_left (by omega)] at ln
    have e9 : (rws trow (hv offsF.1 offsF.2 n (l.take k))).take (2 * k) ++ [[AV.v (.int .i64 1), AV.v (.int .i64 x), AV.v (.int .i64 (y + n))], [AV.v (.int .i64 (-1)), AV.v (.int .i64 (0 - x)), AV.v (.int .i64 (n - y))]] = rws trow (hv offsF.1 offsF.2 n (l.take (k + 1))) := by
      rw [st]; exact rws_snoc2 (f := trow) (x := ( 1,  x, y + n)) (y := ( (-1),  (0 - x), n - y)) ln
    have e8 : 2 * k + 2 = 2 * (k + 1) := by omega
    have i1 := id_one x y
    have i2 := id_ofX x y
    clear st g3 el iv
    repeat' (first | (simp only [go_sem, Int.reduceAdd, Int.reduceEq, Int.reduceLE, Int.reduceLT, Int.reduceMul, Int.reduceNeg, Int.reducePow, Int.reduceSub, Int.reduceToNat, Nat.reduceAdd, Nat.reduceBEq, Nat.reduceEqDiff, Nat.reduceLT, Nat.reduceLeDiff, Nat.reduceMul, Nat.reducePow, Nat.reduceSub, reduceCtorEq, reduceIte, IntKind.bits.eq_def, ti, tin, rws_length, hN, rk, ln, e9, e8]) | (simp (disch := omega) only [w64, wu64, wu32, Nat.min_eq_left]) | (with_reducible first | refine cF (i1) ?_ | refine dF (i1) ?_) | (with_reducible first | refine cF (i2) ?_ | refine dF (i2) ?_) | (refine drawAfter_app ti_ok rfl rfl rfl rfl rfl ⟨rfl, rfl, by decide⟩ rfl ⟨trivial, by (try simp only [List.length_cons, List.length_nil, List.length_append, u32s_length, List.length_map, rws_length, hN, rk, ln, e9, e8]); omega, by (try simp only [List.length_cons, List.length_nil, List.length_append, u32s_length, List.length_map, rws_length, hN, rk, ln, e9, e8]); omega, by (try simp only [List.length_cons, List.length_nil, List.length_append, u32s_length, List.length_map, rws_length, hN, rk, ln, e9, e8]); omega⟩ byRows ?_) | (refine aL ti_ok ?_) | (refine dL ti_ok ?_) | (refine dE (by kernel_rfl) ?_) | ((first | refine cC ?_ ?_ | refine gS ?_ ?_ | refine dS ?_ ?_) <;> intro hc <;> first | (exfalso; simp only [dcT, dcF, bnT, bnF, bnU, bnV] at hc; omega) | (simp only [hc]; try simp only [dcT, dcF, bnT, bnF, bnU, bnV] at hc)) | (refine aN (by omega) ?_) | (refine dN (by omega) ?_))
    refine roundEnd_of (α := Nat) (k + 1) ?_ ?_ ?_
    · show k + 1 ≤ N; omega
    · omega
    · exact Weak.ren2 29 1 31 (Nat.le_refl _) (by decide) (Nat.le_of_ble_eq_true rfl) byRenE byNoM byWeakF
  ·
    have hk2 : l.take k = l := List.take_of_length_le (by omega)
    obtain rfl : k = N := by omega
    rw [hk2]
    repeat' (first | (simp only [go_sem, Int.reduceAdd, Int.reduceEq, Int.reduceLE, Int.reduceLT, Int.reduceMul, Int.reduceNeg, Int.reducePow, Int.reduceSub, Int.reduceToNat, Nat.reduceAdd, Nat.reduceBEq, Nat.reduceEqDiff, Nat.reduceLT, Nat.reduceLeDiff, Nat.reduceMul, Nat.reducePow, Nat.reduceSub, reduceCtorEq, reduceIte, IntKind.bits.eq_def, ti, tin, rws_length, hN]) | (simp (disch := omega) only [w64, wu64, wu32, Nat.min_eq_left]) | (refine aL ti_ok ?_) | (refine dL ti_ok ?_) | (refine dE (by kernel_rfl) ?_) | ((first | refine cC ?_ ?_ | refine gS ?_ ?_ | refine dS ?_ ?_) <;> intro hc <;> first | (exfalso; simp only [dcT, dcF, bnT, bnF, bnU, bnV] at hc; omega) | (simp only [hc]; try simp only [dcT, dcF, bnT, bnF, bnU, bnV] at hc)) | (refine aN (by omega) ?_) | (refine dN (by omega) ?_))
    refine callF_frz 1 rfl (.cons (frz_ps rfl (by show _ ≤ (rws trow _).length; rw [rws_length, hlen]; omega)) .nil) (.cons (by rw [show (rws trow (hv offsF.1 offsF.2 n l)).drop 0 = rws trow (hv offsF.1 offsF.2 n l) from rfl, List.take_of_length_le (by rw [rws_length, hlen]; omega)]; exact .refl _) .nil) el ?_
    generalize outOf offsF n l = o at *
    generalize BS.of (elimC (hv offsF.1 offsF.2 n l)) = b at *
    repeat' (first | (simp only [go_sem, Int.reduceAdd, Int.reduceEq, Int.reduceLE, Int.reduceLT, Int.reduceMul, Int.reduceNeg, Int.reducePow, Int.reduceSub, Int.reduceToNat, Nat.reduceAdd, Nat.reduceBEq, Nat.reduceEqDiff, Nat.reduceLT, Nat.reduceLeDiff, Nat.reduceMul, Nat.reducePow, Nat.reduceSub, reduceCtorEq, reduceIte, IntKind.bits.eq_def, ti, tin]) | (simp (disch := omega) only [w64, wu64, wu32, Nat.min_eq_left]) | (with_reducible first | refine cF (iv) ?_ | refine dF (iv) ?_) | (refine aL ti_ok ?_) | (refine dL ti_ok ?_) | (refine dE (by kernel_rfl) ?_) | ((first | refine cC ?_ ?_ | refine gS ?_ ?_ | refine dS ?_ ?_) <;> intro hc <;> first | (exfalso; simp only [dcT, dcF, bnT, bnF, bnU, bnV] at hc; omega) | (simp only [hc]; try simp only [dcT, dcF, bnT, bnF, bnU, bnV] at hc)) | (refine aN (by omega) ?_) | (refine dN (by omega) ?_))
    exact fin_same trivial rfl
theorem id_Offset_err (l : List (Int × Int)) (n : Int) (hl : l.length ≤ 4611686018427387904) (h : ckS l n ≠ 0) : CallOK Tryz.prog gl 77 [.sl 2 (rws prow l), .v (.int .i64 n)] (.tup [.agg [.v (.bool (sg (Iv.zero).lo)), .sl 1 (u32s (ms (Iv.zero).lo)), .v (.int .i64 (dn (Iv.zero).lo)), .v (.bool (sg (Iv.zero).hi)), .sl 1 (u32s (ms (Iv.zero).hi)), .v (.int .i64 (dn (Iv.zero).hi))], .v (eV (ckS l n))]) := by
  refine call_ok (C := ⟨Tryz.prog, gl, ti, 11, false⟩) ti_ok mixed 3000 Tryz.call77 Tryz.func77 rfl Tryz.ntmps77 (by simp) byClL byCl ?_
  rw [Tryz.results77]
  have c1 := id_solve_errOffset l n hl h
  generalize ckS l n = e at *
  repeat' (first | (simp only [go_sem, Int.reduceAdd, Int.reduceEq, Int.reduceLE, Int.reduceLT, Int.reduceMul, Int.reduceNeg, Int.reducePow, Int.reduceSub, Int.reduceToNat, Nat.reduceAdd, Nat.reduceBEq, Nat.reduceEqDiff, Nat.reduceLT, Nat.reduceLeDiff, Nat.reduceMul, Nat.reducePow, Nat.reduceSub, reduceCtorEq, reduceIte, IntKind.bits.eq_def, ti, tin]) | (simp (disch := omega) only [w64, wu64, wu32, Nat.min_eq_left]) | (with_reducible first | refine cF (c1) ?_ | refine dF (c1) ?_) | (refine aL ti_ok ?_) | (refine dL ti_ok ?_) | (refine dE (by kernel_rfl) ?_) | ((first | refine cC ?_ ?_ | refine gS ?_ ?_ | refine dS ?_ ?_) <;> intro hc <;> first | (exfalso; simp only [dcT, dcF, bnT, bnF, bnU, bnV] at hc; omega) | (simp only [hc]; try simp only [dcT, dcF, bnT, bnF, bnU, bnV] at hc)) | (refine aN (by omega) ?_) | (refine dN (by omega) ?_))
  exact fin_same trivial rfl
theorem id_Offset (l : List (Int × Int)) (n : Int) (h : ckS l n = 0) : CallOK Tryz.prog gl 77 [.sl 2 (rws prow l), .v (.int .i64 n)] (.tup [.agg [.v (.bool (sg ((outOf offsF n l).lo))), .sl 1 (u32s (ms ((outOf offsF n l).lo))), .v (.int .i64 (dn ((outOf offsF n l).lo))), .v (.bool (sg ((outOf offsF n l).hi))), .sl 1 (u32s (ms ((outOf offsF n l).hi))), .v (.int .i64 (dn ((outOf offsF n l).hi)))], .v (eV (outOf offsF n l).err)]) := by
  refine call_ok (C := ⟨Tryz.prog, gl, ti, 11, false⟩) ti_ok mixed 3000 Tryz.call77 Tryz.func77 rfl Tryz.ntmps77 (by simp) byClL byCl ?_
  rw [Tryz.results77]
  have c1 := id_solveOffset l n h
  generalize outOf offsF n l = o at *
  repeat' (first | (simp only [go_sem, Int.reduceAdd, Int.reduceEq, Int.reduceLE, Int.reduceLT, Int.reduceMul, Int.reduceNeg, Int.reducePow, Int.reduceSub, Int.reduceToNat, Nat.reduceAdd, Nat.reduceBEq, Nat.reduceEqDiff, Nat.reduceLT, Nat.reduceLeDiff, Nat.reduceMul, Nat.reducePow, Nat.reduceSub, reduceCtorEq, reduceIte, IntKind.bits.eq_def, ti, tin]) | (simp (disch := omega) only [w64, wu64, wu32, Nat.min_eq_left]) | (with_reducible first | refine cF (c1) ?_ | refine dF (c1) ?_) | (refine aL ti_ok ?_) | (refine dL ti_ok ?_) | (refine dE (by kernel_rfl) ?_) | ((first | refine cC ?_ ?_ | refine gS ?_ ?_ | refine dS ?_ ?_) <;> intro hc <;> first | (exfalso; simp only [dcT, dcF, bnT, bnF, bnU, bnV] at hc; omega) | (simp only [hc]; try simp only [dcT, dcF, bnT, bnF, bnU, bnV] at hc)) | (refine aN (by omega) ?_) | (refine dN (by omega) ?_))
  exact fin_same trivial rfl
end Go.Proofs.YtkdpaoicekgalaaGreatDoor
