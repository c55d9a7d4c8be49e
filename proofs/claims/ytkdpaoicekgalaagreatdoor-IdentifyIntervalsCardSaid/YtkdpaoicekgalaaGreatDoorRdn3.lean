/- The reference of layer 49 (ref.go): Offset. -/
import Derived.Test.YtkdpaoicekgalaaGreatDoorRdn2
set_option linter.unusedSimpArgs false
set_option linter.unusedVariables false
set_option linter.deprecated false
namespace Go.Proofs.YtkdpaoicekgalaaGreatDoor
open Go Go.Ax
set_option maxRecDepth 100000
set_option maxHeartbeats 4000000

theorem r49_product (a b : Int) (ha : a.natAbs ≤ 1099511627776) (hb : b.natAbs ≤ 1099511627776) : CallOK Tryz.prog gl 127 [.v (.int .i64 a), .v (.int .i64 b)] (.agg [.v (.bool (sg (Dy.int (a * b)))), .sl 1 (u32s (ms (Dy.int (a * b)))), .v (.int .i64 (dn (Dy.int (a * b))))]) := by
  refine call_ok (C := ⟨Tryz.prog, gl, ti, 10, false⟩) ti_ok mixed 3000 Tryz.call127 Tryz.func127 rfl Tryz.ntmps127 (by simp) byClL byCl ?_
  rw [Tryz.results127]
  have o1 := r49_of' a (by omega)
  have o2 := r49_of' b (by omega)
  have p41 : (1099511627776 : Nat) < 2 ^ 41 := by decide
  have m1 := ref_Mul _ _ _ _ _ _ _ _ (argi (n := a) (m := 41) (by omega) (by omega)) (argi (n := b) (m := 41) (by omega) (by omega))
  rw [Dy.int_mul] at m1
  clear p41
  generalize Dy.int (a * b) = z at *
  generalize Dy.int a = z1 at *
  generalize Dy.int b = z2 at *
  repeat' (first | (simp only [go_sem, Int.reduceAdd, Int.reduceEq, Int.reduceLE, Int.reduceLT, Int.reduceMul, Int.reduceNeg, Int.reducePow, Int.reduceSub, Int.reduceToNat, Nat.reduceAdd, Nat.reduceBEq, Nat.reduceEqDiff, Nat.reduceLT, Nat.reduceLeDiff, Nat.reduceMul, Nat.reducePow, Nat.reduceSub, reduceCtorEq, reduceIte, IntKind.bits.eq_def, ti, tin]) | (simp (disch := omega) only [w64, wu64, wu32, Nat.min_eq_left]) | (with_reducible first | refine cF (o1) ?_ | refine dF (o1) ?_) | (with_reducible first | refine cF (o2) ?_ | refine dF (o2) ?_) | (with_reducible first | refine cF (m1) ?_ | refine dF (m1) ?_) | (refine aL ti_ok ?_) | (refine dL ti_ok ?_) | (refine dE (by kernel_rfl) ?_) | ((first | refine cC ?_ ?_ | refine gS ?_ ?_ | refine dS ?_ ?_) <;> intro hc <;> first | (exfalso; simp only [dcT, dcF, bnT, bnF, bnU, bnV] at hc; omega) | (simp only [hc]; try simp only [dcT, dcF, bnT, bnF, bnU, bnV] at hc)) | (refine aN (by omega) ?_) | (refine dN (by omega) ?_))
  exact fin_same trivial rfl
theorem r49_Offset_err (l : List (Int × Int)) (n : Int) (hl : l.length ≤ 4611686018427387904) (h : ckS l n ≠ 0) : CallOK Tryz.prog gl 80 [.sl 2 (rws prow l), .v (.int .i64 n)] (.tup [.agg [.v (.bool (sg (Iv.zero).lo)), .sl 1 (u32s (ms (Iv.zero).lo)), .v (.int .i64 (dn (Iv.zero).lo)), .v (.bool (sg (Iv.zero).hi)), .sl 1 (u32s (ms (Iv.zero).hi)), .v (.int .i64 (dn (Iv.zero).hi))], .v (.int .i64 ((ckS l n)))]) := by
  refine call_ok (C := ⟨Tryz.prog, gl, ti, 89, false⟩) ti_ok mixed 3000 Tryz.call80 Tryz.func80 rfl Tryz.ntmps80 (by simp) byClL byCl ?_
  rw [Tryz.results80]
  have c1 := r49_Check l n (by omega)
  generalize ckS l n = e at *
  repeat' (first | (simp only [go_sem, Int.reduceAdd, Int.reduceEq, Int.reduceLE, Int.reduceLT, Int.reduceMul, Int.reduceNeg, Int.reducePow, Int.reduceSub, Int.reduceToNat, Nat.reduceAdd, Nat.reduceBEq, Nat.reduceEqDiff, Nat.reduceLT, Nat.reduceLeDiff, Nat.reduceMul, Nat.reducePow, Nat.reduceSub, reduceCtorEq, reduceIte, IntKind.bits.eq_def, ti, tin]) | (simp (disch := omega) only [w64, wu64, wu32, Nat.min_eq_left]) | (with_reducible first | refine cF (c1) ?_ | refine dF (c1) ?_) | (refine aL ti_ok ?_) | (refine dL ti_ok ?_) | (refine dE (by kernel_rfl) ?_) | ((first | refine cC ?_ ?_ | refine gS ?_ ?_ | refine dS ?_ ?_) <;> intro hc <;> first | (exfalso; simp only [dcT, dcF, bnT, bnF, bnU, bnV] at hc; omega) | (simp only [hc]; try simp only [dcT, dcF, bnT, bnF, bnU, bnV] at hc)) | (refine aN (by omega) ?_) | (refine dN (by omega) ?_))
  all_goals exact fin_le trivial (Le.tup (.cons Le.iv0 (.cons (.refl _) .nil)))
theorem r49_Offset (l : List (Int × Int)) (n : Int) (h : ckS l n = 0) : CallOK Tryz.prog gl 80 [.sl 2 (rws prow l), .v (.int .i64 n)] (.tup [.agg [.v (.bool (sg ((BS.of (LC (limO n l l.length) (limO n l l.length).length)).out.lo))), .sl 1 (u32s (ms ((BS.of (LC (limO n l l.length) (limO n l l.length).length)).out.lo))), .v (.int .i64 (dn ((BS.of (LC (limO n l l.length) (limO n l l.length).length)).out.lo))), .v (.bool (sg ((BS.of (LC (limO n l l.length) (limO n l l.length).length)).out.hi))), .sl 1 (u32s (ms ((BS.of (LC (limO n l l.length) (limO n l l.length).length)).out.hi))), .v (.int .i64 (dn ((BS.of (LC (limO n l l.length) (limO n l l.length).length)).out.hi)))], .v (.int .i64 ((BS.of (LC (limO n l l.length) (limO n l l.length).length)).out.err))]) := by
  refine call_ok (C := ⟨Tryz.prog, gl, ti, 89, false⟩) ti_ok mixed 3000 Tryz.call80 Tryz.func80 rfl Tryz.ntmps80 (by simp) byClL byCl ?_
  rw [Tryz.results80]
  obtain ⟨g1, g2, g3, g4, g5⟩ := ck_ok h
  have c1 := r49_Check l n (by omega)
  rw [h] at c1
  have hc1 := clrow_lI
  obtain ⟨N, hN⟩ : ∃ N, l.length = N := ⟨_, rfl⟩
  have ll : ∀ k, k ≤ N → (limO n l k).length ≤ 4160 := fun k hk => Nat.le_trans (lims_length (ofO_length n) (by omega) (by omega)) (by omega)
  have el := r49_least (limO n l N) _ rfl (by have := ll N (Nat.le_refl _); omega) (limO_sm g3 g4 g5 (by omega)) clrow_lI
  rw [hN] at g1 g2 ⊢
  repeat' (first | (simp only [go_sem, Int.reduceAdd, Int.reduceEq, Int.reduceLE, Int.reduceLT, Int.reduceMul, Int.reduceNeg, Int.reducePow, Int.reduceSub, Int.reduceToNat, Nat.reduceAdd, Nat.reduceBEq, Nat.reduceEqDiff, Nat.reduceLT, Nat.reduceLeDiff, Nat.reduceMul, Nat.reducePow, Nat.reduceSub, reduceCtorEq, reduceIte, IntKind.bits.eq_def, ti, tin, rws_length, hN]) | (simp (disch := omega) only [w64, wu64, wu32, Nat.min_eq_left]) | (with_reducible first | refine cF (c1) ?_ | refine dF (c1) ?_) | (refine aL ti_ok ?_) | (refine dL ti_ok ?_) | (refine dE (by kernel_rfl) ?_) | ((first | refine cC ?_ ?_ | refine gS ?_ ?_ | refine dS ?_ ?_) <;> intro hc <;> first | (exfalso; simp only [dcT, dcF, bnT, bnF, bnU, bnV] at hc; omega) | (simp only [hc]; try simp only [dcT, dcF, bnT, bnF, bnU, bnV] at hc)) | (refine aN (by omega) ?_) | (refine dN (by omega) ?_))
  refine l_loop (α := Nat) (fun k => ⟨[(0, .sl 2 (rws prow l)), (1, .v (.int .i64 n)), (4, .p 0 6 0 0), (7, .ps 1 9 0 (limO n l k).length), (21, .sl 2 (rws prow l)), (22, .v (.int .i64 N)), (23, .v (.int .i64 k))], [(0, ⟨6, [[.v (.bool false), .v (.slice none 0 0), .v (.int .i64 0), .v (.bool false), .v (.slice none 0 0), .v (.int .i64 0)]]⟩), (1, ⟨9, rws lrowI (limO n l k)⟩)], 2⟩) (fun k => k ≤ N) (fun k => N - k) (0) _ byFresh (fun _ h => by first | (cases h; done) | exact Nat.le_of_ble_eq_true rfl) ?_ ?_ ?_
  · exact Nat.zero_le _
  · exact Weak.trans (Weak.newnil 1 9 (Nat.le_of_ble_eq_true rfl)) (Nat.le_of_ble_eq_true rfl) (by exact byWeak)
  intro k hk
  by_cases hkn : k < N
  ·
    have rk := rws_getD (f := prow) (l := l) (i := k) (0, 0) (by omega)
    obtain ⟨p, hp⟩ : ∃ p, l.getD k (0, 0) = p := ⟨_, rfl⟩
    have bp := g3 p (by rw [← hp, List.getD, List.getElem?_eq_getElem (by omega)]; exact List.getElem_mem _)
    have st : limO n l (k + 1) = limO n l k ++ (ofO n p ++ prs (ofG n) l p k) := lims_end hp
    have lk := ll k hk
    have l1 := ofO_length n p
    rw [hp] at rk
    obtain ⟨x, y⟩ := p
    rw [prow_mk] at rk
    simp only at bp
    obtain ⟨L1, hL1⟩ : ∃ L1, limO n l k = L1 := ⟨_, rfl⟩
    obtain ⟨L, hL⟩ : ∃ L, L1 ++ ofO n (x, y) = L := ⟨_, rfl⟩
    rw [← List.append_assoc] at st
    rw [hL1] at st lk ⊢
    rw [hL] at st
    have lt : (l.take k).length = k := by rw [List.length_take]; omega
    have ek : (rws prow l).take (k - 0) = rws prow (l.take k) := rws_take _ _
    obtain ⟨m1, hm1⟩ : ∃ m1, L1.length = m1 := ⟨_, rfl⟩
    have lL : L.length ≤ 4161 := by rw [← hL, List.length_append]; omega
    rw [hm1] at lk ⊢
    by_cases hx : x = 0
    case' pos =>
      have ow : ofO n (x, y) = [(1, y, n)] := if_pos hx
      rw [ow] at hL
      have e9 : (rws lrowI L1).take m1 ++ [lrowI (1, y, n)] = rws lrowI L := by rw [← hL]; exact rws_snoc hm1
      have e8 : L.length = m1 + 1 := by rw [← hL, List.length_append, hm1]; rfl
      have i1 := r49_of' 1 (by omega)
      have i2 := r49_of' y (by omega)
      have i3 := r49_of' n (by omega)
      rw [lrowI_mk] at e9
      clear el ll
      generalize Dy.int 1 = z1 at *
      generalize Dy.int y = z2 at *
      generalize Dy.int n = z3 at *
      repeat' (first | (simp only [go_sem, Int.reduceAdd, Int.reduceEq, Int.reduceLE, Int.reduceLT, Int.reduceMul, Int.reduceNeg, Int.reducePow, Int.reduceSub, Int.reduceToNat, Nat.reduceAdd, Nat.reduceBEq, Nat.reduceEqDiff, Nat.reduceLT, Nat.reduceLeDiff, Nat.reduceMul, Nat.reducePow, Nat.reduceSub, reduceCtorEq, reduceIte, IntKind.bits.eq_def, ti, tin, rws_length, hN, rk, hm1, e9, ek, lt]) | (simp (disch := omega) only [w64, wu64, wu32, Nat.min_eq_left]) | (with_reducible first | refine cF (i1) ?_ | refine dF (i1) ?_) | (with_reducible first | refine cF (i2) ?_ | refine dF (i2) ?_) | (with_reducible first | refine cF (i3) ?_ | refine dF (i3) ?_) | (refine drawAfter_app ti_ok rfl rfl rfl rfl rfl ⟨rfl, rfl, by decide⟩ rfl ⟨trivial, by (try simp only [List.length_cons, List.length_nil, List.length_append, u32s_length, List.length_map, rws_length, hN, rk, hm1, e9, ek, lt]); omega, by (try simp only [List.length_cons, List.length_nil, List.length_append, u32s_length, List.length_map, rws_length, hN, rk, hm1, e9, ek, lt]); omega, by (try simp only [List.length_cons, List.length_nil, List.length_append, u32s_length, List.length_map, rws_length, hN, rk, hm1, e9, ek, lt]); omega⟩ byRows ?_) | (refine aL ti_ok ?_) | (refine dL ti_ok ?_) | (refine dE (by kernel_rfl) ?_) | ((first | refine cC ?_ ?_ | refine gS ?_ ?_ | refine dS ?_ ?_) <;> intro hc <;> first | (exfalso; simp only [dcT, dcF, bnT, bnF, bnU, bnV] at hc; omega) | (simp only [hc]; try simp only [dcT, dcF, bnT, bnF, bnU, bnV] at hc)) | (refine aN (by omega) ?_) | (refine dN (by omega) ?_))
    case' neg =>
      have ow : ofO n (x, y) = [] := if_neg hx
      rw [ow, List.append_nil] at hL
      have hL' := hL.symm
      subst hL'
      clear el ll
      repeat' (first | (simp only [go_sem, Int.reduceAdd, Int.reduceEq, Int.reduceLE, Int.reduceLT, Int.reduceMul, Int.reduceNeg, Int.reducePow, Int.reduceSub, Int.reduceToNat, Nat.reduceAdd, Nat.reduceBEq, Nat.reduceEqDiff, Nat.reduceLT, Nat.reduceLeDiff, Nat.reduceMul, Nat.reducePow, Nat.reduceSub, reduceCtorEq, reduceIte, IntKind.bits.eq_def, ti, tin, rws_length, hN, rk, ek, lt]) | (simp (disch := omega) only [w64, wu64, wu32, Nat.min_eq_left]) | (refine aL ti_ok ?_) | (refine dL ti_ok ?_) | (refine dE (by kernel_rfl) ?_) | ((first | refine cC ?_ ?_ | refine gS ?_ ?_ | refine dS ?_ ?_) <;> intro hc <;> first | (exfalso; simp only [dcT, dcF, bnT, bnF, bnU, bnV] at hc; omega) | (simp only [hc]; try simp only [dcT, dcF, bnT, bnF, bnU, bnV] at hc)) | (refine aN (by omega) ?_) | (refine dN (by omega) ?_))
    all_goals
      refine l_loop (α := Nat) (fun j => ⟨[(0, .sl 2 (rws prow l)), (1, .v (.int .i64 n)), (4, .p 0 6 0 0), (7, .ps 1 9 0 (L ++ prs (ofG n) l (x, y) j).length), (8, .v (.int .i64 k)), (9, .p 2 2 0 0), (21, .sl 2 (rws prow l)), (22, .v (.int .i64 N)), (23, .v (.int .i64 k)), (43, .sl 2 (rws prow (l.take k))), (44, .v (.int .i64 k)), (45, .v (.int .i64 j))], [(0, ⟨6, [[.v (.bool false), .v (.slice none 0 0), .v (.int .i64 0), .v (.bool false), .v (.slice none 0 0), .v (.int .i64 0)]]⟩), (1, ⟨9, rws lrowI (L ++ prs (ofG n) l (x, y) j)⟩), (2, ⟨2, [[.v (.int .i64 x), .v (.int .i64 y)]]⟩)], 3⟩) (fun j => j ≤ k) (fun j => k - j) (0) _ byFresh (fun _ h => by first | (cases h; done) | exact Nat.le_of_ble_eq_true rfl) ?_ ?_ ?_
      · exact Nat.zero_le _
      · rw [show L ++ prs (ofG n) l (x, y) 0 = L from List.append_nil L]
        first
          | rw [hm1]; exact byWeak
          | rw [e8]; exact Weak.ren2 12 1 14 (Nat.le_refl _) (by decide) (Nat.le_of_ble_eq_true rfl) byRenE byNoM byWeak
      intro j hj
      by_cases hjk : j < k
      ·
        have rj := rws_getD (f := prow) (l := l.take k) (i := j) (0, 0) (by omega)
        obtain ⟨q, hq⟩ : ∃ q, l.getD j (0, 0) = q := ⟨_, rfl⟩
        have bq := g3 q (by rw [← hq, List.getD, List.getElem?_eq_getElem (by omega)]; exact List.getElem_mem _)
        have tq : (l.take k).getD j (0, 0) = q := by rw [← hq, List.getD, List.getD, List.getElem?_take, if_pos hjk]
        have sj := prs_succ (g := ofG n) (s := (x, y)) (by omega) hq
        rw [tq] at rj
        obtain ⟨xj, yj⟩ := q
        rw [prow_mk] at rj
        simp only at bq
        have lp := prs_length (ofG n) l (x, y) (j := j) (by omega)
        obtain ⟨M, hM⟩ : ∃ M, L ++ prs (ofG n) l (x, y) j = M := ⟨_, rfl⟩
        obtain ⟨m, hm⟩ : ∃ m, M.length = m := ⟨_, rfl⟩
        have lm : m ≤ 4300 := by rw [← hm, ← hM, List.length_append, lp]; omega
        have sm : L ++ prs (ofG n) l (x, y) (j + 1) = M ++ [(xj - x, xj * y - x * yj, ((x * n).natAbs : Int) + ((xj * n).natAbs : Int))] := by rw [sj, ← List.append_assoc, hM]; rfl
        have e9 : (rws lrowI M).take m ++ [lrowI (xj - x, xj * y - x * yj, ((x * n).natAbs : Int) + ((xj * n).natAbs : Int))] = rws lrowI (M ++ [(xj - x, xj * y - x * yj, ((x * n).natAbs : Int) + ((xj * n).natAbs : Int))]) := rws_snoc hm
        have e8 : (M ++ [(xj - x, xj * y - x * yj, ((x * n).natAbs : Int) + ((xj * n).natAbs : Int))]).length = m + 1 := by rw [List.length_append, hm]; rfl
        rw [lrowI_mk] at e9
        rw [hM, hm]
        have b1 := mul40 (a := xj) (b := y) (by omega) (by omega)
        have b2 := mul40 (a := x) (b := yj) (by omega) (by omega)
        have b3 := mul40 (a := x) (b := n) (by omega) (by omega)
        have b4 := mul40 (a := xj) (b := n) (by omega) (by omega)
        have p81 : (1208925819614629174706176 : Nat) < 2 ^ 81 := by decide
        have i1 := r49_of' (xj - x) (by omega)
        have q1 := r49_product xj y (by omega) (by omega)
        have q2 := r49_product x yj (by omega) (by omega)
        have q3 := r49_product x n (by omega) (by omega)
        have q4 := r49_product xj n (by omega) (by omega)
        have s1 := ref_Sub _ _ _ _ _ _ _ _ (argi (n := xj * y) (m := 81) (by omega) (by omega)) (argi (n := x * yj) (m := 81) (by omega) (by omega))
        have a3 := ref_Abs _ _ _ _ (argi (n := x * n) (m := 81) (by omega) (by omega))
        have a4 := ref_Abs _ _ _ _ (argi (n := xj * n) (m := 81) (by omega) (by omega))
        have s2 := ref_Add _ _ _ _ _ _ _ _ (argi (n := ((x * n).natAbs : Int)) (m := 81) (by omega) (by omega)) (argi (n := ((xj * n).natAbs : Int)) (m := 81) (by omega) (by omega))
        rw [Dy.int_sub] at s1
        rw [Dy.int_abs] at a3 a4
        rw [Dy.int_add] at s2
        clear b1 b2 b3 b4 p81
        clear sj st g3
        obtain ⟨M', hM'⟩ : ∃ M', M ++ [(xj - x, xj * y - x * yj, ((x * n).natAbs : Int) + ((xj * n).natAbs : Int))] = M' := ⟨_, rfl⟩
        rw [hM'] at sm e9 e8
        clear hM'
        generalize Dy.int (((x * n).natAbs : Int) + ((xj * n).natAbs : Int)) = v3 at *
        generalize Dy.int (xj * y - x * yj) = v2 at *
        generalize Dy.int (xj - x) = v1 at *
        generalize Dy.int ((x * n).natAbs : Int) = u3 at *
        generalize Dy.int ((xj * n).natAbs : Int) = u4 at *
        generalize Dy.int (x * n) = w3 at *
        generalize Dy.int (xj * n) = w4 at *
        generalize Dy.int (xj * y) = w1 at *
        generalize Dy.int (x * yj) = w2 at *
        repeat' (first | (simp only [go_sem, Int.reduceAdd, Int.reduceEq, Int.reduceLE, Int.reduceLT, Int.reduceMul, Int.reduceNeg, Int.reducePow, Int.reduceSub, Int.reduceToNat, Nat.reduceAdd, Nat.reduceBEq, Nat.reduceEqDiff, Nat.reduceLT, Nat.reduceLeDiff, Nat.reduceMul, Nat.reducePow, Nat.reduceSub, reduceCtorEq, reduceIte, IntKind.bits.eq_def, ti, tin, rws_length, hN, rj, hm, e9, lt]) | (simp (disch := omega) only [w64, wu64, wu32, Nat.min_eq_left]) | (with_reducible first | refine cF (i1) ?_ | refine dF (i1) ?_) | (with_reducible first | refine cF (q1) ?_ | refine dF (q1) ?_) | (with_reducible first | refine cF (q2) ?_ | refine dF (q2) ?_) | (with_reducible first | refine cF (q3) ?_ | refine dF (q3) ?_) | (with_reducible first | refine cF (q4) ?_ | refine dF (q4) ?_) | (with_reducible first | refine cF (s1) ?_ | refine dF (s1) ?_) | (with_reducible first | refine cF (a3) ?_ | refine dF (a3) ?_) | (with_reducible first | refine cF (a4) ?_ | refine dF (a4) ?_) | (with_reducible first | refine cF (s2) ?_ | refine dF (s2) ?_) | (refine drawAfter_app ti_ok rfl rfl rfl rfl rfl ⟨rfl, rfl, by decide⟩ rfl ⟨trivial, by (try simp only [List.length_cons, List.length_nil, List.length_append, u32s_length, List.length_map, rws_length, hN, rj, hm, e9, lt]); omega, by (try simp only [List.length_cons, List.length_nil, List.length_append, u32s_length, List.length_map, rws_length, hN, rj, hm, e9, lt]); omega, by (try simp only [List.length_cons, List.length_nil, List.length_append, u32s_length, List.length_map, rws_length, hN, rj, hm, e9, lt]); omega⟩ byRows ?_) | (refine aL ti_ok ?_) | (refine dL ti_ok ?_) | (refine dE (by kernel_rfl) ?_) | ((first | refine cC ?_ ?_ | refine gS ?_ ?_ | refine dS ?_ ?_) <;> intro hc <;> first | (exfalso; simp only [dcT, dcF, bnT, bnF, bnU, bnV] at hc; omega) | (simp only [hc]; try simp only [dcT, dcF, bnT, bnF, bnU, bnV] at hc)) | (refine aN (by omega) ?_) | (refine dN (by omega) ?_))
        refine roundEnd_of (α := Nat) (j + 1) ?_ ?_ ?_
        · show j + 1 ≤ k; omega
        · omega
        · rw [sm, e8]; exact Weak.ren2 41 1 43 (Nat.le_refl _) (by decide) (Nat.le_of_ble_eq_true rfl) byRenE byNoM byWeak
      ·
        obtain rfl : j = k := by omega
        rw [← st]
        repeat' (first | (simp only [go_sem, Int.reduceAdd, Int.reduceEq, Int.reduceLE, Int.reduceLT, Int.reduceMul, Int.reduceNeg, Int.reducePow, Int.reduceSub, Int.reduceToNat, Nat.reduceAdd, Nat.reduceBEq, Nat.reduceEqDiff, Nat.reduceLT, Nat.reduceLeDiff, Nat.reduceMul, Nat.reducePow, Nat.reduceSub, reduceCtorEq, reduceIte, IntKind.bits.eq_def, ti, tin, rws_length, hN, lt]) | (simp (disch := omega) only [w64, wu64, wu32, Nat.min_eq_left]) | (refine aL ti_ok ?_) | (refine dL ti_ok ?_) | (refine dE (by kernel_rfl) ?_) | ((first | refine cC ?_ ?_ | refine gS ?_ ?_ | refine dS ?_ ?_) <;> intro hc <;> first | (exfalso; simp only [dcT, dcF, bnT, bnF, bnU, bnV] at hc; omega) | (simp only [hc]; try simp only [dcT, dcF, bnT, bnF, bnU, bnV] at hc)) | (refine aN (by omega) ?_) | (refine dN (by omega) ?_))
        refine roundEnd_of (α := Nat) (j + 1) ?_ ?_ ?_
        · show j + 1 ≤ N; omega
        · omega
        · exact byWeak
  ·
    obtain rfl : k = N := by omega
    have lk := ll k hk
    repeat' (first | (simp only [go_sem, Int.reduceAdd, Int.reduceEq, Int.reduceLE, Int.reduceLT, Int.reduceMul, Int.reduceNeg, Int.reducePow, Int.reduceSub, Int.reduceToNat, Nat.reduceAdd, Nat.reduceBEq, Nat.reduceEqDiff, Nat.reduceLT, Nat.reduceLeDiff, Nat.reduceMul, Nat.reducePow, Nat.reduceSub, reduceCtorEq, reduceIte, IntKind.bits.eq_def, ti, tin, rws_length, hN]) | (simp (disch := omega) only [w64, wu64, wu32, Nat.min_eq_left]) | (refine aL ti_ok ?_) | (refine dL ti_ok ?_) | (refine dE (by kernel_rfl) ?_) | ((first | refine cC ?_ ?_ | refine gS ?_ ?_ | refine dS ?_ ?_) <;> intro hc <;> first | (exfalso; simp only [dcT, dcF, bnT, bnF, bnU, bnV] at hc; omega) | (simp only [hc]; try simp only [dcT, dcF, bnT, bnF, bnU, bnV] at hc)) | (refine aN (by omega) ?_) | (refine dN (by omega) ?_))
    refine callF_frz 1 rfl (.cons (frz_ps rfl (by show _ ≤ (rws lrowI _).length; rw [rws_length]; omega)) .nil) (.cons (by rw [show (rws lrowI (limO n l k)).drop 0 = rws lrowI (limO n l k) from rfl, List.take_of_length_le (by rw [rws_length]; omega)]; exact .refl _) .nil) el ?_
    clear g3 el
    generalize BS.of (LC (limO n l k) (limO n l k).length) = b at *
    repeat' (first | (simp only [go_sem, Int.reduceAdd, Int.reduceEq, Int.reduceLE, Int.reduceLT, Int.reduceMul, Int.reduceNeg, Int.reducePow, Int.reduceSub, Int.reduceToNat, Nat.reduceAdd, Nat.reduceBEq, Nat.reduceEqDiff, Nat.reduceLT, Nat.reduceLeDiff, Nat.reduceMul, Nat.reducePow, Nat.reduceSub, reduceCtorEq, reduceIte, IntKind.bits.eq_def, ti, tin]) | (simp (disch := omega) only [w64, wu64, wu32, Nat.min_eq_left]) | (refine aL ti_ok ?_) | (refine dL ti_ok ?_) | (refine dE (by kernel_rfl) ?_) | ((first | refine cC ?_ ?_ | refine gS ?_ ?_ | refine dS ?_ ?_) <;> intro hc <;> first | (exfalso; simp only [dcT, dcF, bnT, bnF, bnU, bnV] at hc; omega) | (simp only [hc]; try simp only [dcT, dcF, bnT, bnF, bnU, bnV] at hc)) | (refine aN (by omega) ?_) | (refine dN (by omega) ?_))
    exact fin_same trivial rfl
end Go.Proofs.YtkdpaoicekgalaaGreatDoor
