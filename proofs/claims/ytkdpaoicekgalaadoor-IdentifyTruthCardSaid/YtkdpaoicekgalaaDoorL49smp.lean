/- The statement IdentifyTruth: its code returns true. -/
import Derived.Test.YtkdpaoicekgalaaDoorL49
import Derived.Test.YtkdpaoicekgalaaDoorIv3
import Derived.Test.YtkdpaoicekgalaaDoorU4
set_option linter.unusedSimpArgs false
set_option linter.unusedVariables false
set_option linter.deprecated false
namespace Go.Proofs.YtkdpaoicekgalaaDoor
open Go Go.Ax
set_option maxRecDepth 100000
set_option maxHeartbeats 4000000

theorem samplesT (P Q nz : Int) (ins ns : List Int) (hP : -2147483648 ≤ P ∧ P ≤ 2147483647) (hQ : -2147483648 ≤ Q ∧ Q ≤ 2147483647) (hz : 0 ≤ nz ∧ nz ≤ 65535) (hi : ∀ x ∈ ins, -2147483648 ≤ x ∧ x ≤ 2147483647) (hs : ∀ x ∈ ns, -128 ≤ x ∧ x ≤ 127) (hc1 : ClRow (krow .i32)) (hc2 : ClRow (krow .i8)) (N : Nat) (hN : ins.length = N) (hl : N ≤ 1000) (hl2 : ns.length ≤ 9223372036854775807) : CallOK Tryd.prog gl 39 [.agg [.v (.int .i32 P), .v (.int .i32 Q), .sl 1 (rws (krow .i32) ins), .sl 1 (rws (krow .i8) ns)], .v (.int .i64 nz), .v (.bool (true))] (.tup [.sl 2 (rws prow (smp P Q nz ins ns N)), .v (.int .i64 (P.tmod 1048576)), .v (.int .i64 Q)]) := by
  refine call_ok (C := ⟨Tryd.prog, gl, ti, 67, false⟩) ti_ok mixed 3000 Tryd.call39 Tryd.func39 rfl Tryd.ntmps39 (by simp) byClL byCl ?_
  rw [Tryd.results39]
  have bP := tmod_bd2 (a := P) (m := 1048576) (by omega)
  repeat' (first | (simp only [go_sem, Int.reduceAdd, Int.reduceEq, Int.reduceLE, Int.reduceLT, Int.reduceMul, Int.reduceNeg, Int.reducePow, Int.reduceSub, Int.reduceToNat, Nat.reduceAdd, Nat.reduceBEq, Nat.reduceEqDiff, Nat.reduceLT, Nat.reduceLeDiff, Nat.reduceMul, Nat.reducePow, Nat.reduceSub, reduceCtorEq, reduceIte, IntKind.bits.eq_def, ti, tin, rws_length, hN]) | (simp (disch := omega) only [w64, wu64, wu32, Nat.min_eq_left]) | (refine aL ti_ok ?_) | (refine dL ti_ok ?_) | (refine dE (by kernel_rfl) ?_) | ((first | refine cC ?_ ?_ | refine gS ?_ ?_ | refine dS ?_ ?_) <;> intro hc <;> first | (exfalso; simp only [dcT, dcF, bnT, bnF, bnU, bnV] at hc; omega) | (simp only [hc]; try simp only [dcT, dcF, bnT, bnF, bnU, bnV] at hc)) | (refine aN (by omega) ?_) | (refine dN (by omega) ?_))
  refine l_loop (α := Nat) (fun k => ⟨[(1, .v (.int .i64 nz)), (3, .p 0 4 0 0), (9, .v (.int .i64 Q)), (10, .ps 1 2 0 k), (19, .sl 1 (rws (krow .i32) ins)), (20, .v (.int .i64 N)), (21, .v (.int .i64 k))], [(0, ⟨4, [[.v (.int .i32 P), .v (.int .i32 Q), .sl 1 (rws (krow .i32) ins), .sl 1 (rws (krow .i8) ns)]]⟩), (1, ⟨2, rws prow (smp P Q nz ins ns k)⟩)], 2⟩) (fun k => k ≤ N) (fun k => N - k) (0) _ byFresh (fun _ h => by first | (cases h; done) | exact Nat.le_of_ble_eq_true rfl) ?_ ?_ ?_
  · exact Nat.zero_le _
  · exact Weak.trans (Weak.newnil 1 2 (Nat.le_of_ble_eq_true rfl)) (Nat.le_of_ble_eq_true rfl) (by exact byWeak)
  intro k hk
  by_cases hkn : k < N
  ·
    have rk := rws_getD (f := krow .i32) (l := ins) (i := k) 0 (by omega)
    have bd := smp_bd (P := P) (q := Q) (ins := ins) (by omega) hz hs k
    have be := smpE_bd hz hs k
    have bv := hi (ins.getD k 0) (by rw [List.getD, List.getElem?_eq_getElem (by omega)]; exact List.getElem_mem _)
    have bx := tmod_bd2 (a := ins.getD k 0) (m := 65536) (by omega)
    have ln := smp_length P Q nz ins ns k
    have sc := smp_succ P Q nz ins ns k
    have e9 : (rws prow (smp P Q nz ins ns k)).take k ++ [[AV.v (.int .i64 ((ins.getD k 0).tmod 65536 * 256)), AV.v (.int .i64 (P.tmod 1048576 * (ins.getD k 0).tmod 65536 + Q + smpE nz ns k))]] = rws prow (smp P Q nz ins ns (k + 1)) := by
      rw [sc]; exact rws_snoc (f := prow) (x := smp1 P Q nz ins ns k) ln
    have bm := mul_bd (a := P.tmod 1048576) (b := (ins.getD k 0).tmod 65536) (A := 1048576) (B := 65536) (by omega) (by omega)
    clear sc bd
    rw [krow_mk] at rk
    generalize hx : ins.getD k 0 = x at *
    generalize hy : x.tmod 65536 = y at *
    generalize hp : P.tmod 1048576 = p at *
    by_cases hkm : k < ns.length
    ·
      have rn := rws_getD (f := krow .i8) (l := ns) (i := k) 0 (by omega)
      have bn := hs (ns.getD k 0) (by rw [List.getD, List.getElem?_eq_getElem (by omega)]; exact List.getElem_mem _)
      have ee : smpE nz ns k = (nz * ns.getD k 0).tdiv 128 := if_pos hkm
      rw [krow_mk] at rn
      rw [ee] at e9 be
      generalize ns.getD k 0 = v at *
      have b3 := mul_bd (a := nz) (b := v) (A := 65535) (B := 128) (by omega) (by omega)
      generalize hw : nz * v = w at *
      generalize hu : w.tdiv 128 = u at *
      generalize hpy : p * y = r at *
      repeat' (first | (simp only [go_sem, Int.reduceAdd, Int.reduceEq, Int.reduceLE, Int.reduceLT, Int.reduceMul, Int.reduceNeg, Int.reducePow, Int.reduceSub, Int.reduceToNat, Nat.reduceAdd, Nat.reduceBEq, Nat.reduceEqDiff, Nat.reduceLT, Nat.reduceLeDiff, Nat.reduceMul, Nat.reducePow, Nat.reduceSub, reduceCtorEq, reduceIte, IntKind.bits.eq_def, ti, tin, rws_length, hN, rk, rn, ln, e9, hy, hp, hw, hu, hpy]) | (simp (disch := omega) only [w64, wu64, wu32, Nat.min_eq_left]) | (refine after_append_nil ti_ok rfl rfl rfl rfl ⟨rfl, by decide⟩ rfl ⟨trivial, by (try simp only [List.length_cons, List.length_nil, List.length_append, u32s_length, List.length_map, rws_length, ln]); omega, by (try simp only [List.length_cons, List.length_nil, List.length_append, u32s_length, List.length_map, rws_length, ln]); omega⟩ (fun _ => byRows) ?_) | (refine after_append_own ti_ok rfl rfl rfl rfl rfl ⟨rfl, rfl, by decide, Nat.le_of_ble_eq_true rfl⟩ (fun h => by first | (cases h; done) | decide) rfl ⟨trivial, by (try simp only [List.length_cons, List.length_nil, List.length_append, u32s_length, List.length_map, rws_length, ln]); omega, by (try simp only [List.length_cons, List.length_nil, List.length_append, u32s_length, List.length_map, rws_length, ln]); omega, by (try simp only [List.length_cons, List.length_nil, List.length_append, u32s_length, List.length_map, rws_length, ln]); omega⟩ byRows byNoE byNoM ?_) | (refine aL ti_ok ?_) | (refine dL ti_ok ?_) | (refine dE (by kernel_rfl) ?_) | ((first | refine cC ?_ ?_ | refine gS ?_ ?_ | refine dS ?_ ?_) <;> intro hc <;> first | (exfalso; simp only [dcT, dcF, bnT, bnF, bnU, bnV] at hc; omega) | (simp only [hc]; try simp only [dcT, dcF, bnT, bnF, bnU, bnV] at hc)) | (refine aN (by omega) ?_) | (refine dN (by omega) ?_))
      refine roundEnd_of (α := Nat) (k + 1) ?_ ?_ ?_
      · show k + 1 ≤ N; omega
      · omega
      · exact byWeak
    ·
      have ee : smpE nz ns k = 0 := if_neg hkm
      rw [ee] at e9
      generalize hpy : p * y = r at *
      repeat' (first | (simp only [go_sem, Int.reduceAdd, Int.reduceEq, Int.reduceLE, Int.reduceLT, Int.reduceMul, Int.reduceNeg, Int.reducePow, Int.reduceSub, Int.reduceToNat, Nat.reduceAdd, Nat.reduceBEq, Nat.reduceEqDiff, Nat.reduceLT, Nat.reduceLeDiff, Nat.reduceMul, Nat.reducePow, Nat.reduceSub, reduceCtorEq, reduceIte, IntKind.bits.eq_def, ti, tin, rws_length, hN, rk, ln, e9, hy, hp, hpy]) | (simp (disch := omega) only [w64, wu64, wu32, Nat.min_eq_left]) | (refine after_append_nil ti_ok rfl rfl rfl rfl ⟨rfl, by decide⟩ rfl ⟨trivial, by (try simp only [List.length_cons, List.length_nil, List.length_append, u32s_length, List.length_map, rws_length, ln]); omega, by (try simp only [List.length_cons, List.length_nil, List.length_append, u32s_length, List.length_map, rws_length, ln]); omega⟩ (fun _ => byRows) ?_) | (refine after_append_own ti_ok rfl rfl rfl rfl rfl ⟨rfl, rfl, by decide, Nat.le_of_ble_eq_true rfl⟩ (fun h => by first | (cases h; done) | decide) rfl ⟨trivial, by (try simp only [List.length_cons, List.length_nil, List.length_append, u32s_length, List.length_map, rws_length, ln]); omega, by (try simp only [List.length_cons, List.length_nil, List.length_append, u32s_length, List.length_map, rws_length, ln]); omega, by (try simp only [List.length_cons, List.length_nil, List.length_append, u32s_length, List.length_map, rws_length, ln]); omega⟩ byRows byNoE byNoM ?_) | (refine aL ti_ok ?_) | (refine dL ti_ok ?_) | (refine dE (by kernel_rfl) ?_) | ((first | refine cC ?_ ?_ | refine gS ?_ ?_ | refine dS ?_ ?_) <;> intro hc <;> first | (exfalso; simp only [dcT, dcF, bnT, bnF, bnU, bnV] at hc; omega) | (simp only [hc]; try simp only [dcT, dcF, bnT, bnF, bnU, bnV] at hc)) | (refine aN (by omega) ?_) | (refine dN (by omega) ?_))
      refine roundEnd_of (α := Nat) (k + 1) ?_ ?_ ?_
      · show k + 1 ≤ N; omega
      · omega
      · exact byWeak
  ·
    obtain rfl : k = N := by omega
    have ln := smp_length P Q nz ins ns k
    generalize hp : P.tmod 1048576 = p at *
    repeat' (first | (simp only [go_sem, Int.reduceAdd, Int.reduceEq, Int.reduceLE, Int.reduceLT, Int.reduceMul, Int.reduceNeg, Int.reducePow, Int.reduceSub, Int.reduceToNat, Nat.reduceAdd, Nat.reduceBEq, Nat.reduceEqDiff, Nat.reduceLT, Nat.reduceLeDiff, Nat.reduceMul, Nat.reducePow, Nat.reduceSub, reduceCtorEq, reduceIte, IntKind.bits.eq_def, ti, tin, rws_length, hN, ln, hp]) | (simp (disch := omega) only [w64, wu64, wu32, Nat.min_eq_left]) | (refine aL ti_ok ?_) | (refine dL ti_ok ?_) | (refine dE (by kernel_rfl) ?_) | ((first | refine cC ?_ ?_ | refine gS ?_ ?_ | refine dS ?_ ?_) <;> intro hc <;> first | (exfalso; simp only [dcT, dcF, bnT, bnF, bnU, bnV] at hc; omega) | (simp only [hc]; try simp only [dcT, dcF, bnT, bnF, bnU, bnV] at hc)) | (refine aN (by omega) ?_) | (refine dN (by omega) ?_))
    refine fin_pub trivial (.tup (.cons (.one (.ps rfl rfl (by simp [rws_length, smp_length]))) (.cons (.one .same) (.cons (.one .same) .nil)))) ?_
    simp [rws_length, smp_length, List.take_of_length_le]
    exact .refl _
theorem samplesF (P Q nz : Int) (ins ns : List Int) (hP : -2147483648 ≤ P ∧ P ≤ 2147483647) (hQ : -2147483648 ≤ Q ∧ Q ≤ 2147483647) (hz : 0 ≤ nz ∧ nz ≤ 65535) (hi : ∀ x ∈ ins, -2147483648 ≤ x ∧ x ≤ 2147483647) (hs : ∀ x ∈ ns, -128 ≤ x ∧ x ≤ 127) (hc1 : ClRow (krow .i32)) (hc2 : ClRow (krow .i8)) (N : Nat) (hN : ins.length = N) (hl : N ≤ 1000) (hl2 : ns.length ≤ 9223372036854775807) : CallOK Tryd.prog gl 39 [.agg [.v (.int .i32 P), .v (.int .i32 Q), .sl 1 (rws (krow .i32) ins), .sl 1 (rws (krow .i8) ns)], .v (.int .i64 nz), .v (.bool (false))] (.tup [.sl 2 (rws prow (smp P 0 nz ins ns N)), .v (.int .i64 (P.tmod 1048576)), .v (.int .i64 0)]) := by
  refine call_ok (C := ⟨Tryd.prog, gl, ti, 67, false⟩) ti_ok mixed 3000 Tryd.call39 Tryd.func39 rfl Tryd.ntmps39 (by simp) byClL byCl ?_
  rw [Tryd.results39]
  have bP := tmod_bd2 (a := P) (m := 1048576) (by omega)
  repeat' (first | (simp only [go_sem, Int.reduceAdd, Int.reduceEq, Int.reduceLE, Int.reduceLT, Int.reduceMul, Int.reduceNeg, Int.reducePow, Int.reduceSub, Int.reduceToNat, Nat.reduceAdd, Nat.reduceBEq, Nat.reduceEqDiff, Nat.reduceLT, Nat.reduceLeDiff, Nat.reduceMul, Nat.reducePow, Nat.reduceSub, reduceCtorEq, reduceIte, IntKind.bits.eq_def, ti, tin, rws_length, hN]) | (simp (disch := omega) only [w64, wu64, wu32, Nat.min_eq_left]) | (refine aL ti_ok ?_) | (refine dL ti_ok ?_) | (refine dE (by kernel_rfl) ?_) | ((first | refine cC ?_ ?_ | refine gS ?_ ?_ | refine dS ?_ ?_) <;> intro hc <;> first | (exfalso; simp only [dcT, dcF, bnT, bnF, bnU, bnV] at hc; omega) | (simp only [hc]; try simp only [dcT, dcF, bnT, bnF, bnU, bnV] at hc)) | (refine aN (by omega) ?_) | (refine dN (by omega) ?_))
  refine l_loop (α := Nat) (fun k => ⟨[(1, .v (.int .i64 nz)), (3, .p 0 4 0 0), (9, .v (.int .i64 0)), (10, .ps 1 2 0 k), (19, .sl 1 (rws (krow .i32) ins)), (20, .v (.int .i64 N)), (21, .v (.int .i64 k))], [(0, ⟨4, [[.v (.int .i32 P), .v (.int .i32 Q), .sl 1 (rws (krow .i32) ins), .sl 1 (rws (krow .i8) ns)]]⟩), (1, ⟨2, rws prow (smp P 0 nz ins ns k)⟩)], 2⟩) (fun k => k ≤ N) (fun k => N - k) (0) _ byFresh (fun _ h => by first | (cases h; done) | exact Nat.le_of_ble_eq_true rfl) ?_ ?_ ?_
  · exact Nat.zero_le _
  · exact Weak.trans (Weak.newnil 1 2 (Nat.le_of_ble_eq_true rfl)) (Nat.le_of_ble_eq_true rfl) (by exact byWeak)
  intro k hk
  by_cases hkn : k < N
  ·
    have rk := rws_getD (f := krow .i32) (l := ins) (i := k) 0 (by omega)
    have bd := smp_bd (P := P) (q := 0) (ins := ins) (by omega) hz hs k
    have be := smpE_bd hz hs k
    have bv := hi (ins.getD k 0) (by rw [List.getD, List.getElem?_eq_getElem (by omega)]; exact List.getElem_mem _)
    have bx := tmod_bd2 (a := ins.getD k 0) (m := 65536) (by omega)
    have ln := smp_length P 0 nz ins ns k
    have sc := smp_succ P 0 nz ins ns k
    have e9 : (rws prow (smp P 0 nz ins ns k)).take k ++ [[AV.v (.int .i64 ((ins.getD k 0).tmod 65536 * 256)), AV.v (.int .i64 (P.tmod 1048576 * (ins.getD k 0).tmod 65536 + 0 + smpE nz ns k))]] = rws prow (smp P 0 nz ins ns (k + 1)) := by
      rw [sc]; exact rws_snoc (f := prow) (x := smp1 P 0 nz ins ns k) ln
    have bm := mul_bd (a := P.tmod 1048576) (b := (ins.getD k 0).tmod 65536) (A := 1048576) (B := 65536) (by omega) (by omega)
    clear sc bd
    rw [krow_mk] at rk
    generalize hx : ins.getD k 0 = x at *
    generalize hy : x.tmod 65536 = y at *
    generalize hp : P.tmod 1048576 = p at *
    by_cases hkm : k < ns.length
    ·
      have rn := rws_getD (f := krow .i8) (l := ns) (i := k) 0 (by omega)
      have bn := hs (ns.getD k 0) (by rw [List.getD, List.getElem?_eq_getElem (by omega)]; exact List.getElem_mem _)
      have ee : smpE nz ns k = (nz * ns.getD k 0).tdiv 128 := if_pos hkm
      rw [krow_mk] at rn
      rw [ee] at e9 be
      generalize ns.getD k 0 = v at *
      have b3 := mul_bd (a := nz) (b := v) (A := 65535) (B := 128) (by omega) (by omega)
      generalize hw : nz * v = w at *
      generalize hu : w.tdiv 128 = u at *
      generalize hpy : p * y = r at *
      repeat' (first | (simp only [go_sem, Int.reduceAdd, Int.reduceEq, Int.reduceLE, Int.reduceLT, Int.reduceMul, Int.reduceNeg, Int.reducePow, Int.reduceSub, Int.reduceToNat, Nat.reduceAdd, Nat.reduceBEq, Nat.reduceEqDiff, Nat.reduceLT, Nat.reduceLeDiff, Nat.reduceMul, Nat.reducePow, Nat.reduceSub, reduceCtorEq, reduceIte, IntKind.bits.eq_def, ti, tin, rws_length, hN, rk, rn, ln, e9, hy, hp, hw, hu, hpy]) | (simp (disch := omega) only [w64, wu64, wu32, Nat.min_eq_left]) | (refine after_append_nil ti_ok rfl rfl rfl rfl ⟨rfl, by decide⟩ rfl ⟨trivial, by (try simp only [List.length_cons, List.length_nil, List.length_append, u32s_length, List.length_map, rws_length, ln]); omega, by (try simp only [List.length_cons, List.length_nil, List.length_append, u32s_length, List.length_map, rws_length, ln]); omega⟩ (fun _ => byRows) ?_) | (refine after_append_own ti_ok rfl rfl rfl rfl rfl ⟨rfl, rfl, by decide, Nat.le_of_ble_eq_true rfl⟩ (fun h => by first | (cases h; done) | decide) rfl ⟨trivial, by (try simp only [List.length_cons, List.length_nil, List.length_append, u32s_length, List.length_map, rws_length, ln]); omega, by (try simp only [List.length_cons, List.length_nil, List.length_append, u32s_length, List.length_map, rws_length, ln]); omega, by (try simp only [List.length_cons, List.length_nil, List.length_append, u32s_length, List.length_map, rws_length, ln]); omega⟩ byRows byNoE byNoM ?_) | (refine aL ti_ok ?_) | (refine dL ti_ok ?_) | (refine dE (by kernel_rfl) ?_) | ((first | refine cC ?_ ?_ | refine gS ?_ ?_ | refine dS ?_ ?_) <;> intro hc <;> first | (exfalso; simp only [dcT, dcF, bnT, bnF, bnU, bnV] at hc; omega) | (simp only [hc]; try simp only [dcT, dcF, bnT, bnF, bnU, bnV] at hc)) | (refine aN (by omega) ?_) | (refine dN (by omega) ?_))
      refine roundEnd_of (α := Nat) (k + 1) ?_ ?_ ?_
      · show k + 1 ≤ N; omega
      · omega
      · exact byWeak
    ·
      have ee : smpE nz ns k = 0 := if_neg hkm
      rw [ee] at e9
      generalize hpy : p * y = r at *
      repeat' (first | (simp only [go_sem, Int.reduceAdd, Int.reduceEq, Int.reduceLE, Int.reduceLT, Int.reduceMul, Int.reduceNeg, Int.reducePow, Int.reduceSub, Int.reduceToNat, Nat.reduceAdd, Nat.reduceBEq, Nat.reduceEqDiff, Nat.reduceLT, Nat.reduceLeDiff, Nat.reduceMul, Nat.reducePow, Nat.reduceSub, reduceCtorEq, reduceIte, IntKind.bits.eq_def, ti, tin, rws_length, hN, rk, ln, e9, hy, hp, hpy]) | (simp (disch := omega) only [w64, wu64, wu32, Nat.min_eq_left]) | (refine after_append_nil ti_ok rfl rfl rfl rfl ⟨rfl, by decide⟩ rfl ⟨trivial, by (try simp only [List.length_cons, List.length_nil, List.length_append, u32s_length, List.length_map, rws_length, ln]); omega, by (try simp only [List.length_cons, List.length_nil, List.length_append, u32s_length, List.length_map, rws_length, ln]); omega⟩ (fun _ => byRows) ?_) | (refine after_append_own ti_ok rfl rfl rfl rfl rfl ⟨rfl, rfl, by decide, Nat.le_of_ble_eq_true rfl⟩ (fun h => by first | (cases h; done) | decide) rfl ⟨trivial, by (try simp only [List.length_cons, List.length_nil, List.length_append, u32s_length, List.length_map, rws_length, ln]); omega, by (try simp only [List.length_cons, List.length_nil, List.length_append, u32s_length, List.length_map, rws_length, ln]); omega, by (try simp only [List.length_cons, List.length_nil, List.length_append, u32s_length, List.length_map, rws_length, ln]); omega⟩ byRows byNoE byNoM ?_) | (refine aL ti_ok ?_) | (refine dL ti_ok ?_) | (refine dE (by kernel_rfl) ?_) | ((first | refine cC ?_ ?_ | refine gS ?_ ?_ | refine dS ?_ ?_) <;> intro hc <;> first | (exfalso; simp only [dcT, dcF, bnT, bnF, bnU, bnV] at hc; omega) | (simp only [hc]; try simp only [dcT, dcF, bnT, bnF, bnU, bnV] at hc)) | (refine aN (by omega) ?_) | (refine dN (by omega) ?_))
      refine roundEnd_of (α := Nat) (k + 1) ?_ ?_ ?_
      · show k + 1 ≤ N; omega
      · omega
      · exact byWeak
  ·
    obtain rfl : k = N := by omega
    have ln := smp_length P 0 nz ins ns k
    generalize hp : P.tmod 1048576 = p at *
    repeat' (first | (simp only [go_sem, Int.reduceAdd, Int.reduceEq, Int.reduceLE, Int.reduceLT, Int.reduceMul, Int.reduceNeg, Int.reducePow, Int.reduceSub, Int.reduceToNat, Nat.reduceAdd, Nat.reduceBEq, Nat.reduceEqDiff, Nat.reduceLT, Nat.reduceLeDiff, Nat.reduceMul, Nat.reducePow, Nat.reduceSub, reduceCtorEq, reduceIte, IntKind.bits.eq_def, ti, tin, rws_length, hN, ln, hp]) | (simp (disch := omega) only [w64, wu64, wu32, Nat.min_eq_left]) | (refine aL ti_ok ?_) | (refine dL ti_ok ?_) | (refine dE (by kernel_rfl) ?_) | ((first | refine cC ?_ ?_ | refine gS ?_ ?_ | refine dS ?_ ?_) <;> intro hc <;> first | (exfalso; simp only [dcT, dcF, bnT, bnF, bnU, bnV] at hc; omega) | (simp only [hc]; try simp only [dcT, dcF, bnT, bnF, bnU, bnV] at hc)) | (refine aN (by omega) ?_) | (refine dN (by omega) ?_))
    refine fin_pub trivial (.tup (.cons (.one (.ps rfl rfl (by simp [rws_length, smp_length]))) (.cons (.one .same) (.cons (.one .same) .nil)))) ?_
    simp [rws_length, smp_length, List.take_of_length_le]
    exact .refl _
end Go.Proofs.YtkdpaoicekgalaaDoor
