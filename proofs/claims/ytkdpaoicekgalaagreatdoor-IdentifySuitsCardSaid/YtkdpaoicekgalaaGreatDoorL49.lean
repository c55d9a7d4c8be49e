/- The statements on layer 49: Fits; results as intervals; the document's examples. -/
import Derived.Test.YtkdpaoicekgalaaGreatDoorIdn5
import Derived.Test.YtkdpaoicekgalaaGreatDoorIv4
import Derived.Test.YtkdpaoicekgalaaGreatDoorU4
set_option linter.unusedSimpArgs false
set_option linter.unusedVariables false
set_option linter.deprecated false
namespace Go.Proofs.YtkdpaoicekgalaaGreatDoor
open Go Go.Ax
set_option maxRecDepth 100000
set_option maxHeartbeats 4000000

theorem base_IsE (n m : Int) : CallOK Tryz.prog gl 84 [.v (.iface 80 (.int .i64 (n))), .v (.int .i64 m)] (.v (.bool ((decide (n = m))))) := by
  refine call_ok (C := ⟨Tryz.prog, gl, ti, 18, false⟩) ti_ok mixed 3000 Tryz.call84 Tryz.func84 rfl Tryz.ntmps84 (by simp) byClL byCl ?_
  rw [Tryz.results84]
  repeat' (first | (simp only [go_sem, Int.reduceAdd, Int.reduceEq, Int.reduceLE, Int.reduceLT, Int.reduceMul, Int.reduceNeg, Int.reducePow, Int.reduceSub, Int.reduceToNat, Nat.reduceAdd, Nat.reduceBEq, Nat.reduceEqDiff, Nat.reduceLT, Nat.reduceLeDiff, Nat.reduceMul, Nat.reducePow, Nat.reduceSub, reduceCtorEq, reduceIte, IntKind.bits.eq_def, ti, tin]) | (simp (disch := omega) only [w64, wu64, wu32, Nat.min_eq_left]) | (refine aL ti_ok ?_) | (refine dL ti_ok ?_) | (refine dE (by kernel_rfl) ?_) | ((first | refine cC ?_ ?_ | refine gS ?_ ?_ | refine dS ?_ ?_) <;> intro hc <;> first | (exfalso; simp only [dcT, dcF, bnT, bnF, bnU, bnV] at hc; omega) | (simp only [hc]; try simp only [dcT, dcF, bnT, bnF, bnU, bnV] at hc)) | (refine aN (by omega) ?_) | (refine dN (by omega) ?_))
  all_goals exact fin_same trivial rfl
theorem base_IsE0 (m : Int) : CallOK Tryz.prog gl 84 [.v .nilIface, .v (.int .i64 m)] (.v (.bool (false))) := by
  refine call_ok (C := ⟨Tryz.prog, gl, ti, 18, false⟩) ti_ok mixed 3000 Tryz.call84 Tryz.func84 rfl Tryz.ntmps84 (by simp) byClL byCl ?_
  rw [Tryz.results84]
  repeat' (first | (simp only [go_sem, Int.reduceAdd, Int.reduceEq, Int.reduceLE, Int.reduceLT, Int.reduceMul, Int.reduceNeg, Int.reducePow, Int.reduceSub, Int.reduceToNat, Nat.reduceAdd, Nat.reduceBEq, Nat.reduceEqDiff, Nat.reduceLT, Nat.reduceLeDiff, Nat.reduceMul, Nat.reducePow, Nat.reduceSub, reduceCtorEq, reduceIte, IntKind.bits.eq_def, ti, tin]) | (simp (disch := omega) only [w64, wu64, wu32, Nat.min_eq_left]) | (refine aL ti_ok ?_) | (refine dL ti_ok ?_) | (refine dE (by kernel_rfl) ?_) | ((first | refine cC ?_ ?_ | refine gS ?_ ?_ | refine dS ?_ ?_) <;> intro hc <;> first | (exfalso; simp only [dcT, dcF, bnT, bnF, bnU, bnV] at hc; omega) | (simp only [hc]; try simp only [dcT, dcF, bnT, bnF, bnU, bnV] at hc)) | (refine aN (by omega) ?_) | (refine dN (by omega) ?_))
  all_goals exact fin_same trivial rfl
theorem is_err (e m : Int) (hm : m ≠ 0) : CallOK Tryz.prog gl 84 [.v (eV e), .v (.int .i64 m)] (.v (.bool (decide (e = m)))) := by
  by_cases h : e = 0
  · subst h; rw [decide_eq_false (fun h => hm h.symm)]; exact base_IsE0 m
  · rw [eV_ne h]; exact base_IsE e m
theorem id_Fits_err (l : List (Int × Int)) (n : Int) (hl : l.length ≤ 4611686018427387904) (h : ckS l n ≠ 0) (s : Bool) (ws : List Nat) (d : Int) (s' : Bool) (ws' : List Nat) (d' : Int) : CallOK Tryz.prog gl 82 [.sl 2 (rws prow l), .v (.int .i64 n), .agg [.v (.bool s), .sl 1 (u32s ws), .v (.int .i64 d)], .agg [.v (.bool s'), .sl 1 (u32s ws'), .v (.int .i64 d')]] (.tup [.v (.bool (false)), .v (eV (ckS l n))]) := by
  refine call_ok (C := ⟨Tryz.prog, gl, ti, 44, false⟩) ti_ok mixed 3000 Tryz.call82 Tryz.func82 rfl Tryz.ntmps82 (by simp) byClL byCl ?_
  rw [Tryz.results82]
  have c1 := id_Check l n (by omega)
  generalize ckS l n = e at *
  rw [eV_ne h] at c1 ⊢
  repeat' (first | (simp only [go_sem, Int.reduceAdd, Int.reduceEq, Int.reduceLE, Int.reduceLT, Int.reduceMul, Int.reduceNeg, Int.reducePow, Int.reduceSub, Int.reduceToNat, Nat.reduceAdd, Nat.reduceBEq, Nat.reduceEqDiff, Nat.reduceLT, Nat.reduceLeDiff, Nat.reduceMul, Nat.reducePow, Nat.reduceSub, reduceCtorEq, reduceIte, IntKind.bits.eq_def, ti, tin]) | (simp (disch := omega) only [w64, wu64, wu32, Nat.min_eq_left]) | (with_reducible first | refine cF (c1) ?_ | refine dF (c1) ?_) | (refine aL ti_ok ?_) | (refine dL ti_ok ?_) | (refine dE (by kernel_rfl) ?_) | ((first | refine cC ?_ ?_ | refine gS ?_ ?_ | refine dS ?_ ?_) <;> intro hc <;> first | (exfalso; simp only [dcT, dcF, bnT, bnF, bnU, bnV] at hc; omega) | (simp only [hc]; try simp only [dcT, dcF, bnT, bnF, bnU, bnV] at hc)) | (refine aN (by omega) ?_) | (refine dN (by omega) ?_))
  all_goals exact fin_same trivial rfl
theorem id_Fits (l : List (Int × Int)) (n : Int) (h : ckS l n = 0) (s : Bool) (ws : List Nat) (d : Int) (s' : Bool) (ws' : List Nat) (d' : Int) (p q : Dy) (hp : Arg s ws d p) (hq : Arg s' ws' d' q) (gp : Mg 1000 p) (gq : Mg 1000 q) : CallOK Tryz.prog gl 82 [.sl 2 (rws prow l), .v (.int .i64 n), .agg [.v (.bool s), .sl 1 (u32s ws), .v (.int .i64 d)], .agg [.v (.bool s'), .sl 1 (u32s ws'), .v (.int .i64 d')]] (.tup [.v (.bool ((decide (fitAll p q n l)))), .v .nilIface]) := by
  refine call_ok (C := ⟨Tryz.prog, gl, ti, 44, false⟩) ti_ok mixed 3000 Tryz.call82 Tryz.func82 rfl Tryz.ntmps82 (by simp) byClL byCl ?_
  rw [Tryz.results82]
  obtain ⟨g1, g2, g3, g4, g5⟩ := ck_ok h
  have c1 := id_Check l n (by omega)
  rw [h, eV_zero] at c1
  obtain ⟨N, hN⟩ : ∃ N, l.length = N := ⟨_, rfl⟩
  obtain ⟨z, hz⟩ : ∃ z, decide (fitAll p q n l) = z := ⟨_, rfl⟩
  rw [hz]
  rw [hN] at g1 g2
  repeat' (first | (simp only [go_sem, Int.reduceAdd, Int.reduceEq, Int.reduceLE, Int.reduceLT, Int.reduceMul, Int.reduceNeg, Int.reducePow, Int.reduceSub, Int.reduceToNat, Nat.reduceAdd, Nat.reduceBEq, Nat.reduceEqDiff, Nat.reduceLT, Nat.reduceLeDiff, Nat.reduceMul, Nat.reducePow, Nat.reduceSub, reduceCtorEq, reduceIte, IntKind.bits.eq_def, ti, tin, rws_length, hN]) | (simp (disch := omega) only [w64, wu64, wu32, Nat.min_eq_left]) | (with_reducible first | refine cF (c1) ?_ | refine dF (c1) ?_) | (refine aL ti_ok ?_) | (refine dL ti_ok ?_) | (refine dE (by kernel_rfl) ?_) | ((first | refine cC ?_ ?_ | refine gS ?_ ?_ | refine dS ?_ ?_) <;> intro hc <;> first | (exfalso; simp only [dcT, dcF, bnT, bnF, bnU, bnV] at hc; omega) | (simp only [hc]; try simp only [dcT, dcF, bnT, bnF, bnU, bnV] at hc)) | (refine aN (by omega) ?_) | (refine dN (by omega) ?_))
  refine l_loop (α := Nat) (fun k => ⟨[(0, .sl 2 (rws prow l)), (1, .v (.int .i64 n)), (6, .p 0 3 0 0), (7, .p 1 3 0 0), (20, .sl 2 (rws prow l)), (21, .v (.int .i64 N)), (22, .v (.int .i64 k))], [(0, ⟨3, [[.v (.bool s), .sl 1 (u32s ws), .v (.int .i64 d)]]⟩), (1, ⟨3, [[.v (.bool s'), .sl 1 (u32s ws'), .v (.int .i64 d')]]⟩)], 2⟩) (fun k => k ≤ N ∧ ∀ i, i < k → fitD p q n (l.getD i (0, 0))) (fun k => N - k) (0) _ byFresh (fun _ h => by first | (cases h; done) | exact Nat.le_of_ble_eq_true rfl) ?_ ?_ ?_
  · exact ⟨Nat.zero_le _, fun i hi => by omega⟩
  · exact byWeak
  rintro k ⟨hk, hi⟩
  by_cases hkn : k < N
  ·
    have rk := rws_getD (f := prow) (l := l) (i := k) (0, 0) (by omega)
    obtain ⟨s0, hs0⟩ : ∃ s0, l.getD k (0, 0) = s0 := ⟨_, rfl⟩
    have bp := g3 s0 (by rw [← hs0, List.getD, List.getElem?_eq_getElem (by omega)]; exact List.getElem_mem _)
    have no : ¬ fitD p q n (l.getD k (0, 0)) → z = false := fun h => by rw [← hz]; exact decide_eq_false (fun hh => h (hh k (by omega)))
    have st : fitD p q n (l.getD k (0, 0)) → ∀ i, i < k + 1 → fitD p q n (l.getD i (0, 0)) := fun h i h2 => by
      by_cases h4 : i = k
      · rw [h4]; exact h
      · exact hi i (by omega)
    rw [hs0] at rk no st
    obtain ⟨x, y⟩ := s0
    rw [prow_mk] at rk
    simp only at bp
    obtain ⟨P, hP⟩ : ∃ P : Prop, (∀ i, i < k + 1 → fitD p q n (l.getD i (0, 0))) = P := ⟨_, rfl⟩
    rw [hP] at st
    unfold fitD at no st
    simp only at no st
    have o1 := Of_ok y (by omega)
    have o2 := Of_ok x (by omega)
    have o3 := Of_ok n (by omega)
    have gx : Mg 64 (Dy.int x) := mg_i64 (by omega)
    have gy : Mg 64 (Dy.int y) := mg_i64 (by omega)
    have gn : Mg 64 (Dy.int n) := mg_i64 (by omega)
    have m1 := Mul_ok _ _ _ _ _ _ _ _ hp (gx.arg)
    have k1 := gp.mul gx
    have s1 := Sub_ok _ _ _ _ _ _ _ _ gy.arg (k1.arg)
    have k2 := (gy.mono (show 64 ≤ 1000 + 64 by omega)).sub k1
    have s2 := Sub_ok _ _ _ _ _ _ _ _ k2.arg hq
    have k3 := k2.sub (gq.mono (show 1000 ≤ 1000 + 64 + 1 by omega))
    have a1 := Abs_ok _ _ _ _ k3.arg
    have c2 := Cmp_ok _ _ _ _ _ _ _ _ k3.abs.arg gn.arg
    clear gx gy gn k1 k2 k3 hi hz hs0
    generalize (((Dy.int y).sub (p.mul (Dy.int x))).sub q).abs.cmp (Dy.int n) = v at *
    generalize (((Dy.int y).sub (p.mul (Dy.int x))).sub q).abs = z1 at *
    generalize ((Dy.int y).sub (p.mul (Dy.int x))).sub q = z2 at *
    generalize (Dy.int y).sub (p.mul (Dy.int x)) = z3 at *
    generalize p.mul (Dy.int x) = z4 at *
    generalize Dy.int x = z5 at *
    generalize Dy.int y = z6 at *
    generalize Dy.int n = z7 at *
    by_cases hv : v ≤ 0
    · have st2 := st hv
      clear st no
      repeat' (first | (simp only [go_sem, Int.reduceAdd, Int.reduceEq, Int.reduceLE, Int.reduceLT, Int.reduceMul, Int.reduceNeg, Int.reducePow, Int.reduceSub, Int.reduceToNat, Nat.reduceAdd, Nat.reduceBEq, Nat.reduceEqDiff, Nat.reduceLT, Nat.reduceLeDiff, Nat.reduceMul, Nat.reducePow, Nat.reduceSub, reduceCtorEq, reduceIte, IntKind.bits.eq_def, ti, tin, rws_length, hN, rk]) | (simp (disch := omega) only [w64, wu64, wu32, Nat.min_eq_left]) | (with_reducible first | refine cF (o1) ?_ | refine dF (o1) ?_) | (with_reducible first | refine cF (o2) ?_ | refine dF (o2) ?_) | (with_reducible first | refine cF (o3) ?_ | refine dF (o3) ?_) | (with_reducible first | refine cF (m1) ?_ | refine dF (m1) ?_) | (with_reducible first | refine cF (s1) ?_ | refine dF (s1) ?_) | (with_reducible first | refine cF (s2) ?_ | refine dF (s2) ?_) | (with_reducible first | refine cF (a1) ?_ | refine dF (a1) ?_) | (with_reducible first | refine cF (c2) ?_ | refine dF (c2) ?_) | (refine aL ti_ok ?_) | (refine dL ti_ok ?_) | (refine dE (by kernel_rfl) ?_) | ((first | refine cC ?_ ?_ | refine gS ?_ ?_ | refine dS ?_ ?_) <;> intro hc <;> first | (exfalso; simp only [dcT, dcF, bnT, bnF, bnU, bnV] at hc; omega) | (simp only [hc]; try simp only [dcT, dcF, bnT, bnF, bnU, bnV] at hc)) | (refine aN (by omega) ?_) | (refine dN (by omega) ?_))
      refine roundEnd_of (α := Nat) (k + 1) ?_ ?_ ?_
      · exact ⟨by omega, by rw [hP]; exact st2⟩
      · omega
      · exact byWeak
    · have no2 := no hv
      subst no2
      clear st
      repeat' (first | (simp only [go_sem, Int.reduceAdd, Int.reduceEq, Int.reduceLE, Int.reduceLT, Int.reduceMul, Int.reduceNeg, Int.reducePow, Int.reduceSub, Int.reduceToNat, Nat.reduceAdd, Nat.reduceBEq, Nat.reduceEqDiff, Nat.reduceLT, Nat.reduceLeDiff, Nat.reduceMul, Nat.reducePow, Nat.reduceSub, reduceCtorEq, reduceIte, IntKind.bits.eq_def, ti, tin, rws_length, hN, rk]) | (simp (disch := omega) only [w64, wu64, wu32, Nat.min_eq_left]) | (with_reducible first | refine cF (o1) ?_ | refine dF (o1) ?_) | (with_reducible first | refine cF (o2) ?_ | refine dF (o2) ?_) | (with_reducible first | refine cF (o3) ?_ | refine dF (o3) ?_) | (with_reducible first | refine cF (m1) ?_ | refine dF (m1) ?_) | (with_reducible first | refine cF (s1) ?_ | refine dF (s1) ?_) | (with_reducible first | refine cF (s2) ?_ | refine dF (s2) ?_) | (with_reducible first | refine cF (a1) ?_ | refine dF (a1) ?_) | (with_reducible first | refine cF (c2) ?_ | refine dF (c2) ?_) | (refine aL ti_ok ?_) | (refine dL ti_ok ?_) | (refine dE (by kernel_rfl) ?_) | ((first | refine cC ?_ ?_ | refine gS ?_ ?_ | refine dS ?_ ?_) <;> intro hc <;> first | (exfalso; simp only [dcT, dcF, bnT, bnF, bnU, bnV] at hc; omega) | (simp only [hc]; try simp only [dcT, dcF, bnT, bnF, bnU, bnV] at hc)) | (refine aN (by omega) ?_) | (refine dN (by omega) ?_))
      all_goals exact fin_same trivial rfl
  ·
    have hz2 : z = true := by rw [← hz]; exact decide_eq_true (fun i h => hi i (by omega))
    subst hz2
    repeat' (first | (simp only [go_sem, Int.reduceAdd, Int.reduceEq, Int.reduceLE, Int.reduceLT, Int.reduceMul, Int.reduceNeg, Int.reducePow, Int.reduceSub, Int.reduceToNat, Nat.reduceAdd, Nat.reduceBEq, Nat.reduceEqDiff, Nat.reduceLT, Nat.reduceLeDiff, Nat.reduceMul, Nat.reducePow, Nat.reduceSub, reduceCtorEq, reduceIte, IntKind.bits.eq_def, ti, tin, rws_length, hN]) | (simp (disch := omega) only [w64, wu64, wu32, Nat.min_eq_left]) | (refine aL ti_ok ?_) | (refine dL ti_ok ?_) | (refine dE (by kernel_rfl) ?_) | ((first | refine cC ?_ ?_ | refine gS ?_ ?_ | refine dS ?_ ?_) <;> intro hc <;> first | (exfalso; simp only [dcT, dcF, bnT, bnF, bnU, bnV] at hc; omega) | (simp only [hc]; try simp only [dcT, dcF, bnT, bnF, bnU, bnV] at hc)) | (refine aN (by omega) ?_) | (refine dN (by omega) ?_))
    exact fin_same trivial rfl
theorem id_Fits0 (l : List (Int × Int)) (n : Int) (h : ckS l n = 0) (p : Dy) (gp : Mg 1000 p) : CallOK Tryz.prog gl 82 [.sl 2 (rws prow l), .v (.int .i64 n), .agg [.v (.bool (sg p)), .sl 1 (u32s (ms p)), .v (.int .i64 (dn p))], zlit] (.tup [.v (.bool (decide (fitAll p Dy.zero n l))), .v .nilIface]) := by
  have h1 := id_Fits l n h _ _ _ _ _ _ p Dy.zero (gp.arg) (Arg.czero) gp (Mg.zero _)
  exact h1.le (.cons (.refl _) (.cons (.refl _) (.cons (.refl _) (.cons Le.dy0 .nil)))) (fun x hx => by
    simp only [List.mem_cons, List.not_mem_nil, or_false] at hx
    rcases hx with rfl | rfl | rfl | rfl
    · exact Cl.rws clrow_p
    · exact Cl.v _
    · exact Cl.dy
    · exact Cl.zlit)
theorem id_GainI (l : List (Int × Int)) (n : Int) (h : ckS l n = 0) : CallOK Tryz.prog gl 75 [.sl 2 (rws prow l), .v (.int .i64 n)] (.tup [.agg [.v (.bool (sg (oIv gainF n l).lo)), .sl 1 (u32s (ms (oIv gainF n l).lo)), .v (.int .i64 (dn (oIv gainF n l).lo)), .v (.bool (sg (oIv gainF n l).hi)), .sl 1 (u32s (ms (oIv gainF n l).hi)), .v (.int .i64 (dn (oIv gainF n l).hi))], .v (eV (oErr gainF n l))]) := id_Gain l n h
theorem mg_Gain {l : List (Int × Int)} {n : Int} (h : ckS l n = 0) : (oIv gainF n l).Mg 201 := by
  obtain ⟨g1, g2, g3, g4, g5⟩ := ck_ok h
  exact out_mg (BS.Sm.of (elim_sm (hv_sm (f := gainF.1) (g := gainF.2) ⟨g4, g5⟩ (l := l) (fun s hs => by have := g3 s hs; simp only [gainF]; omega)))) (BInv.of _)
theorem id_SlopeI (l : List (Int × Int)) (n : Int) (h : ckS l n = 0) : CallOK Tryz.prog gl 76 [.sl 2 (rws prow l), .v (.int .i64 n)] (.tup [.agg [.v (.bool (sg (oIv slopeF n l).lo)), .sl 1 (u32s (ms (oIv slopeF n l).lo)), .v (.int .i64 (dn (oIv slopeF n l).lo)), .v (.bool (sg (oIv slopeF n l).hi)), .sl 1 (u32s (ms (oIv slopeF n l).hi)), .v (.int .i64 (dn (oIv slopeF n l).hi))], .v (eV (oErr slopeF n l))]) := id_Slope l n h
theorem mg_Slope {l : List (Int × Int)} {n : Int} (h : ckS l n = 0) : (oIv slopeF n l).Mg 201 := by
  obtain ⟨g1, g2, g3, g4, g5⟩ := ck_ok h
  exact out_mg (BS.Sm.of (elim_sm (hv_sm (f := slopeF.1) (g := slopeF.2) ⟨g4, g5⟩ (l := l) (fun s hs => by have := g3 s hs; simp only [slopeF]; omega)))) (BInv.of _)
theorem id_OffsetI (l : List (Int × Int)) (n : Int) (h : ckS l n = 0) : CallOK Tryz.prog gl 77 [.sl 2 (rws prow l), .v (.int .i64 n)] (.tup [.agg [.v (.bool (sg (oIv offsF n l).lo)), .sl 1 (u32s (ms (oIv offsF n l).lo)), .v (.int .i64 (dn (oIv offsF n l).lo)), .v (.bool (sg (oIv offsF n l).hi)), .sl 1 (u32s (ms (oIv offsF n l).hi)), .v (.int .i64 (dn (oIv offsF n l).hi))], .v (eV (oErr offsF n l))]) := id_Offset l n h
theorem mg_Offset {l : List (Int × Int)} {n : Int} (h : ckS l n = 0) : (oIv offsF n l).Mg 201 := by
  obtain ⟨g1, g2, g3, g4, g5⟩ := ck_ok h
  exact out_mg (BS.Sm.of (elim_sm (hv_sm (f := offsF.1) (g := offsF.2) ⟨g4, g5⟩ (l := l) (fun s hs => by have := g3 s hs; simp only [offsF]; omega)))) (BInv.of _)
theorem awake49  : CallOK Tryz.prog gl 72 [] (.v (.bool (true))) := by
  refine call_ok (C := ⟨Tryz.prog, gl, ti, 46, false⟩) ti_ok mixed 3000 Tryz.call72 Tryz.func72 rfl Tryz.ntmps72 (by simp) byClL byCl ?_
  rw [Tryz.results72]
  have g1 := id_GainI [(10, 52), (20, 99)] 3 (by decide +kernel)
  have g2 := id_OffsetI [(10, 52), (20, 99)] 0 (by decide +kernel)
  have g3 := id_GainI [(10, 52), (20, 99)] 0 (by decide +kernel)
  have t1 := iv_Text _ _ _ _ _ _ _ _ _ (IArg.of (mg_Gain (l := [(10, 52), (20, 99)]) (n := 3) (by decide +kernel)))
  have t2 := iv_Text _ _ _ _ _ _ _ _ _ (IArg.of (mg_Offset (l := [(10, 52), (20, 99)]) (n := 0) (by decide +kernel)))
  rw [show oErr gainF 3 [(10, 52), (20, 99)] = 0 by decide +kernel, eV_zero] at g1
  rw [show oErr offsF 0 [(10, 52), (20, 99)] = 0 by decide +kernel, eV_zero] at g2
  rw [show oErr gainF 0 [(10, 52), (20, 99)] = 23 by decide +kernel, eV_ne (by decide)] at g3
  rw [show ivText (oIv gainF 3 [(10, 52), (20, 99)]) = [91, 49, 54, 48, 53, 54, 51, 47, 50, 94, 49, 53, 44, 32, 49, 54, 55, 49, 49, 55, 47, 50, 94, 49, 53, 93] by decide +kernel] at t1
  rw [show ivText (oIv offsF 0 [(10, 52), (20, 99)]) = [91, 53, 44, 32, 53, 93] by decide +kernel] at t2
  generalize oIv gainF 3 [(10, 52), (20, 99)] = z1 at *
  generalize oIv offsF 0 [(10, 52), (20, 99)] = z2 at *
  generalize oIv gainF 0 [(10, 52), (20, 99)] = z3 at *
  change CallOK _ _ _ [.sl 2 [[.v (.int .i64 10), .v (.int .i64 52)], [.v (.int .i64 20), .v (.int .i64 99)]], _] _ at g1 g2 g3
  have i1 := base_IsE 23 23
  rw [decide_eq_true rfl] at i1
  have e1 : decide ((⟨[91, 49, 54, 48, 53, 54, 51, 47, 50, 94, 49, 53, 44, 32, 49, 54, 55, 49, 49, 55, 47, 50, 94, 49, 53, 93].toArray⟩ : ByteArray) = ⟨#[91, 49, 54, 48, 53, 54, 51, 47, 50, 94, 49, 53, 44, 32, 49, 54, 55, 49, 49, 55, 47, 50, 94, 49, 53, 93]⟩) = true := decide_eq_true rfl
  have e2 : decide ((⟨[91, 53, 44, 32, 53, 93].toArray⟩ : ByteArray) = ⟨#[91, 53, 44, 32, 53, 93]⟩) = true := decide_eq_true rfl
  repeat' (first | (simp only [go_sem, Int.reduceAdd, Int.reduceEq, Int.reduceLE, Int.reduceLT, Int.reduceMul, Int.reduceNeg, Int.reducePow, Int.reduceSub, Int.reduceToNat, Nat.reduceAdd, Nat.reduceBEq, Nat.reduceEqDiff, Nat.reduceLT, Nat.reduceLeDiff, Nat.reduceMul, Nat.reducePow, Nat.reduceSub, reduceCtorEq, reduceIte, IntKind.bits.eq_def, ti, tin, e1, e2]) | (simp (disch := omega) only [w64, wu64, wu32, Nat.min_eq_left]) | (with_reducible first | refine cF (g1) ?_ | refine dF (g1) ?_) | (with_reducible first | refine cF (g2) ?_ | refine dF (g2) ?_) | (with_reducible first | refine cF (g3) ?_ | refine dF (g3) ?_) | (with_reducible first | refine cF (t1) ?_ | refine dF (t1) ?_) | (with_reducible first | refine cF (t2) ?_ | refine dF (t2) ?_) | (with_reducible first | refine cF (i1) ?_ | refine dF (i1) ?_) | (refine aL ti_ok ?_) | (refine dL ti_ok ?_) | (refine dE (by kernel_rfl) ?_) | ((first | refine cC ?_ ?_ | refine gS ?_ ?_ | refine dS ?_ ?_) <;> intro hc <;> first | (exfalso; simp only [dcT, dcF, bnT, bnF, bnU, bnV] at hc; omega) | (simp only [hc]; try simp only [dcT, dcF, bnT, bnF, bnU, bnV] at hc)) | (refine aN (by omega) ?_) | (refine dN (by omega) ?_))
  exact fin_same trivial rfl
end Go.Proofs.YtkdpaoicekgalaaGreatDoor
