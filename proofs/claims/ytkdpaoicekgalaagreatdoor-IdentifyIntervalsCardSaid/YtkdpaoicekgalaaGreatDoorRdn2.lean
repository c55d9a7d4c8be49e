/- The reference of layer 49 (ref.go): Gain, Slope, Offset. -/
import Derived.Test.YtkdpaoicekgalaaGreatDoorRdn1
import Derived.Test.YtkdpaoicekgalaaGreatDoorIdn1
import Derived.Test.YtkdpaoicekgalaaGreatDoorU4
set_option linter.unusedSimpArgs false
set_option linter.unusedVariables false
set_option linter.deprecated false
namespace Go.Proofs.YtkdpaoicekgalaaGreatDoor
open Go Go.Ax
set_option maxRecDepth 100000
set_option maxHeartbeats 4000000

theorem r49_of' (n : Int) (h : -9223372036854775808 ≤ n ∧ n ≤ 9223372036854775807) : CallOK Tryz.prog gl 125 [.v (.int .i64 n)] (.agg [.v (.bool (sg (Dy.int n))), .sl 1 (u32s (ms (Dy.int n))), .v (.int .i64 (dn (Dy.int n)))]) := by
  refine call_ok (C := ⟨Tryz.prog, gl, ti, 5, false⟩) ti_ok mixed 3000 Tryz.call125 Tryz.func125 rfl Tryz.ntmps125 (by simp) byClL byCl ?_
  rw [Tryz.results125]
  have o1 := ref_Of n h
  generalize Dy.int n = z at *
  repeat' (first | (simp only [go_sem, Int.reduceAdd, Int.reduceEq, Int.reduceLE, Int.reduceLT, Int.reduceMul, Int.reduceNeg, Int.reducePow, Int.reduceSub, Int.reduceToNat, Nat.reduceAdd, Nat.reduceBEq, Nat.reduceEqDiff, Nat.reduceLT, Nat.reduceLeDiff, Nat.reduceMul, Nat.reducePow, Nat.reduceSub, reduceCtorEq, reduceIte, IntKind.bits.eq_def, ti, tin]) | (simp (disch := omega) only [w64, wu64, wu32, Nat.min_eq_left]) | (with_reducible first | refine cF (o1) ?_ | refine dF (o1) ?_) | (refine aL ti_ok ?_) | (refine dL ti_ok ?_) | (refine dE (by kernel_rfl) ?_) | ((first | refine cC ?_ ?_ | refine gS ?_ ?_ | refine dS ?_ ?_) <;> intro hc <;> first | (exfalso; simp only [dcT, dcF, bnT, bnF, bnU, bnV] at hc; omega) | (simp only [hc]; try simp only [dcT, dcF, bnT, bnF, bnU, bnV] at hc)) | (refine aN (by omega) ?_) | (refine dN (by omega) ?_))
  exact fin_same trivial rfl
theorem r49_Gain_err (l : List (Int × Int)) (n : Int) (hl : l.length ≤ 4611686018427387904) (h : ckS l n ≠ 0) : CallOK Tryz.prog gl 78 [.sl 2 (rws prow l), .v (.int .i64 n)] (.tup [.agg [.v (.bool (sg (Iv.zero).lo)), .sl 1 (u32s (ms (Iv.zero).lo)), .v (.int .i64 (dn (Iv.zero).lo)), .v (.bool (sg (Iv.zero).hi)), .sl 1 (u32s (ms (Iv.zero).hi)), .v (.int .i64 (dn (Iv.zero).hi))], .v (.int .i64 ((ckS l n)))]) := by
  refine call_ok (C := ⟨Tryz.prog, gl, ti, 40, false⟩) ti_ok mixed 3000 Tryz.call78 Tryz.func78 rfl Tryz.ntmps78 (by simp) byClL byCl ?_
  rw [Tryz.results78]
  have c1 := r49_Check l n (by omega)
  generalize ckS l n = e at *
  repeat' (first | (simp only [go_sem, Int.reduceAdd, Int.reduceEq, Int.reduceLE, Int.reduceLT, Int.reduceMul, Int.reduceNeg, Int.reducePow, Int.reduceSub, Int.reduceToNat, Nat.reduceAdd, Nat.reduceBEq, Nat.reduceEqDiff, Nat.reduceLT, Nat.reduceLeDiff, Nat.reduceMul, Nat.reducePow, Nat.reduceSub, reduceCtorEq, reduceIte, IntKind.bits.eq_def, ti, tin]) | (simp (disch := omega) only [w64, wu64, wu32, Nat.min_eq_left]) | (with_reducible first | refine cF (c1) ?_ | refine dF (c1) ?_) | (refine aL ti_ok ?_) | (refine dL ti_ok ?_) | (refine dE (by kernel_rfl) ?_) | ((first | refine cC ?_ ?_ | refine gS ?_ ?_ | refine dS ?_ ?_) <;> intro hc <;> first | (exfalso; simp only [dcT, dcF, bnT, bnF, bnU, bnV] at hc; omega) | (simp only [hc]; try simp only [dcT, dcF, bnT, bnF, bnU, bnV] at hc)) | (refine aN (by omega) ?_) | (refine dN (by omega) ?_))
  all_goals exact fin_le trivial (Le.tup (.cons Le.iv0 (.cons (.refl _) .nil)))
theorem r49_Gain (l : List (Int × Int)) (n : Int) (h : ckS l n = 0) : CallOK Tryz.prog gl 78 [.sl 2 (rws prow l), .v (.int .i64 n)] (.tup [.agg [.v (.bool (sg ((BS.of (LC (limG n l) l.length)).out.lo))), .sl 1 (u32s (ms ((BS.of (LC (limG n l) l.length)).out.lo))), .v (.int .i64 (dn ((BS.of (LC (limG n l) l.length)).out.lo))), .v (.bool (sg ((BS.of (LC (limG n l) l.length)).out.hi))), .sl 1 (u32s (ms ((BS.of (LC (limG n l) l.length)).out.hi))), .v (.int .i64 (dn ((BS.of (LC (limG n l) l.length)).out.hi)))], .v (.int .i64 ((BS.of (LC (limG n l) l.length)).out.err))]) := by
  refine call_ok (C := ⟨Tryz.prog, gl, ti, 40, false⟩) ti_ok mixed 3000 Tryz.call78 Tryz.func78 rfl Tryz.ntmps78 (by simp) byClL byCl ?_
  rw [Tryz.results78]
  obtain ⟨g1, g2, g3, g4, g5⟩ := ck_ok h
  have c1 := r49_Check l n (by omega)
  rw [h] at c1
  have hc1 := clrow_lI
  have p90 : (1099511627776 : Nat) < 2 ^ 90 := by decide
  obtain ⟨N, hN⟩ : ∃ N, l.length = N := ⟨_, rfl⟩
  have el := r49_least (limG n l) N (by rw [limG_length, hN]) (by omega) (fun p hp => by
    unfold limG at hp
    obtain ⟨s, hs, rfl⟩ := List.mem_map.1 hp
    have := g3 s hs
    refine ⟨?_, ?_, ?_⟩ <;> simp only <;> omega) clrow_lI
  rw [hN] at g1 g2 ⊢
  clear p90
  repeat' (first | (simp only [go_sem, Int.reduceAdd, Int.reduceEq, Int.reduceLE, Int.reduceLT, Int.reduceMul, Int.reduceNeg, Int.reducePow, Int.reduceSub, Int.reduceToNat, Nat.reduceAdd, Nat.reduceBEq, Nat.reduceEqDiff, Nat.reduceLT, Nat.reduceLeDiff, Nat.reduceMul, Nat.reducePow, Nat.reduceSub, reduceCtorEq, reduceIte, IntKind.bits.eq_def, ti, tin, rws_length, hN]) | (simp (disch := omega) only [w64, wu64, wu32, Nat.min_eq_left]) | (with_reducible first | refine cF (c1) ?_ | refine dF (c1) ?_) | (refine aL ti_ok ?_) | (refine dL ti_ok ?_) | (refine dE (by kernel_rfl) ?_) | ((first | refine cC ?_ ?_ | refine gS ?_ ?_ | refine dS ?_ ?_) <;> intro hc <;> first | (exfalso; simp only [dcT, dcF, bnT, bnF, bnU, bnV] at hc; omega) | (simp only [hc]; try simp only [dcT, dcF, bnT, bnF, bnU, bnV] at hc)) | (refine aN (by omega) ?_) | (refine dN (by omega) ?_))
  refine l_loop (α := Nat) (fun k => ⟨[(0, .sl 2 (rws prow l)), (1, .v (.int .i64 n)), (4, .p 0 6 0 0), (7, .ps 1 9 0 k), (17, .sl 2 (rws prow l)), (18, .v (.int .i64 N)), (19, .v (.int .i64 k))], [(0, ⟨6, [[.v (.bool false), .v (.slice none 0 0), .v (.int .i64 0), .v (.bool false), .v (.slice none 0 0), .v (.int .i64 0)]]⟩), (1, ⟨9, rws lrowI (limG n (l.take k))⟩)], 2⟩) (fun k => k ≤ N) (fun k => N - k) (0) _ byFresh (fun _ h => by first | (cases h; done) | exact Nat.le_of_ble_eq_true rfl) ?_ ?_ ?_
  · exact Nat.zero_le _
  · exact Weak.trans (Weak.newnil 1 9 (Nat.le_of_ble_eq_true rfl)) (Nat.le_of_ble_eq_true rfl) (by exact byWeak)
  intro k hk
  by_cases hkn : k < N
  ·
    have rk := rws_getD (f := prow) (l := l) (i := k) (0, 0) (by omega)
    obtain ⟨p, hp⟩ : ∃ p, l.getD k (0, 0) = p := ⟨_, rfl⟩
    have bp := g3 p (by rw [← hp, List.getD, List.getElem?_eq_getElem (by omega)]; exact List.getElem_mem _)
    have st := limG_succ (n := n) (by omega) hp
    rw [hp] at rk
    obtain ⟨x, y⟩ := p
    rw [prow_mk] at rk
    simp only at bp st
    have ln := limG_length n (l.take k)
    rw [List.length_take, hN, Nat.min_eq_left (by omega)] at ln
    have e9 : (rws lrowI (limG n (l.take k))).take k ++ [lrowI (x, y, n)] = rws lrowI (limG n (l.take (k + 1))) := by
      rw [st]; exact rws_snoc ln
    rw [lrowI_mk] at e9
    have i1 := r49_of' x (by omega)
    have i2 := r49_of' y (by omega)
    have i3 := r49_of' n (by omega)
    clear st g3 el
    generalize Dy.int x = z1 at *
    generalize Dy.int y = z2 at *
    generalize Dy.int n = z3 at *
    repeat' (first | (simp only [go_sem, Int.reduceAdd, Int.reduceEq, Int.reduceLE, Int.reduceLT, Int.reduceMul, Int.reduceNeg, Int.reducePow, Int.reduceSub, Int.reduceToNat, Nat.reduceAdd, Nat.reduceBEq, Nat.reduceEqDiff, Nat.reduceLT, Nat.reduceLeDiff, Nat.reduceMul, Nat.reducePow, Nat.reduceSub, reduceCtorEq, reduceIte, IntKind.bits.eq_def, ti, tin, rws_length, hN, rk, ln, e9]) | (simp (disch := omega) only [w64, wu64, wu32, Nat.min_eq_left]) | (with_reducible first | refine cF (i1) ?_ | refine dF (i1) ?_) | (with_reducible first | refine cF (i2) ?_ | refine dF (i2) ?_) | (with_reducible first | refine cF (i3) ?_ | refine dF (i3) ?_) | (refine drawAfter_app ti_ok rfl rfl rfl rfl rfl ⟨rfl, rfl, by decide⟩ rfl ⟨trivial, by (try simp only [List.length_cons, List.length_nil, List.length_append, u32s_length, List.length_map, rws_length, hN, rk, ln, e9]); omega, by (try simp only [List.length_cons, List.length_nil, List.length_append, u32s_length, List.length_map, rws_length, hN, rk, ln, e9]); omega, by (try simp only [List.length_cons, List.length_nil, List.length_append, u32s_length, List.length_map, rws_length, hN, rk, ln, e9]); omega⟩ byRows ?_) | (refine aL ti_ok ?_) | (refine dL ti_ok ?_) | (refine dE (by kernel_rfl) ?_) | ((first | refine cC ?_ ?_ | refine gS ?_ ?_ | refine dS ?_ ?_) <;> intro hc <;> first | (exfalso; simp only [dcT, dcF, bnT, bnF, bnU, bnV] at hc; omega) | (simp only [hc]; try simp only [dcT, dcF, bnT, bnF, bnU, bnV] at hc)) | (refine aN (by omega) ?_) | (refine dN (by omega) ?_))
    refine roundEnd_of (α := Nat) (k + 1) ?_ ?_ ?_
    · show k + 1 ≤ N; omega
    · omega
    · exact Weak.ren2 14 1 16 (Nat.le_refl _) (by decide) (Nat.le_of_ble_eq_true rfl) byRenE byNoM byWeak
  ·
    have hk2 : l.take k = l := List.take_of_length_le (by omega)
    obtain rfl : k = N := by omega
    rw [hk2]
    repeat' (first | (simp only [go_sem, Int.reduceAdd, Int.reduceEq, Int.reduceLE, Int.reduceLT, Int.reduceMul, Int.reduceNeg, Int.reducePow, Int.reduceSub, Int.reduceToNat, Nat.reduceAdd, Nat.reduceBEq, Nat.reduceEqDiff, Nat.reduceLT, Nat.reduceLeDiff, Nat.reduceMul, Nat.reducePow, Nat.reduceSub, reduceCtorEq, reduceIte, IntKind.bits.eq_def, ti, tin, rws_length, hN]) | (simp (disch := omega) only [w64, wu64, wu32, Nat.min_eq_left]) | (refine aL ti_ok ?_) | (refine dL ti_ok ?_) | (refine dE (by kernel_rfl) ?_) | ((first | refine cC ?_ ?_ | refine gS ?_ ?_ | refine dS ?_ ?_) <;> intro hc <;> first | (exfalso; simp only [dcT, dcF, bnT, bnF, bnU, bnV] at hc; omega) | (simp only [hc]; try simp only [dcT, dcF, bnT, bnF, bnU, bnV] at hc)) | (refine aN (by omega) ?_) | (refine dN (by omega) ?_))
    have hlg : (limG n l).length ≤ k := by rw [limG_length, hN]; exact Nat.le_refl _
    refine callF_frz 1 rfl (.cons (frz_ps rfl (by show _ ≤ (rws lrowI _).length; rw [rws_length, limG_length, hN]; omega)) .nil) (.cons (by rw [show (rws lrowI (limG n l)).drop 0 = rws lrowI (limG n l) from rfl, List.take_of_length_le (by rw [rws_length]; exact hlg)]; exact .refl _) .nil) el ?_
    clear g3 el
    generalize BS.of (LC (limG n l) k) = b at *
    repeat' (first | (simp only [go_sem, Int.reduceAdd, Int.reduceEq, Int.reduceLE, Int.reduceLT, Int.reduceMul, Int.reduceNeg, Int.reducePow, Int.reduceSub, Int.reduceToNat, Nat.reduceAdd, Nat.reduceBEq, Nat.reduceEqDiff, Nat.reduceLT, Nat.reduceLeDiff, Nat.reduceMul, Nat.reducePow, Nat.reduceSub, reduceCtorEq, reduceIte, IntKind.bits.eq_def, ti, tin]) | (simp (disch := omega) only [w64, wu64, wu32, Nat.min_eq_left]) | (refine aL ti_ok ?_) | (refine dL ti_ok ?_) | (refine dE (by kernel_rfl) ?_) | ((first | refine cC ?_ ?_ | refine gS ?_ ?_ | refine dS ?_ ?_) <;> intro hc <;> first | (exfalso; simp only [dcT, dcF, bnT, bnF, bnU, bnV] at hc; omega) | (simp only [hc]; try simp only [dcT, dcF, bnT, bnF, bnU, bnV] at hc)) | (refine aN (by omega) ?_) | (refine dN (by omega) ?_))
    exact fin_same trivial rfl
theorem r49_Slope_err (l : List (Int × Int)) (n : Int) (hl : l.length ≤ 4611686018427387904) (h : ckS l n ≠ 0) : CallOK Tryz.prog gl 79 [.sl 2 (rws prow l), .v (.int .i64 n)] (.tup [.agg [.v (.bool (sg (Iv.zero).lo)), .sl 1 (u32s (ms (Iv.zero).lo)), .v (.int .i64 (dn (Iv.zero).lo)), .v (.bool (sg (Iv.zero).hi)), .sl 1 (u32s (ms (Iv.zero).hi)), .v (.int .i64 (dn (Iv.zero).hi))], .v (.int .i64 ((ckS l n)))]) := by
  refine call_ok (C := ⟨Tryz.prog, gl, ti, 59, false⟩) ti_ok mixed 3000 Tryz.call79 Tryz.func79 rfl Tryz.ntmps79 (by simp) byClL byCl ?_
  rw [Tryz.results79]
  have c1 := r49_Check l n (by omega)
  generalize ckS l n = e at *
  repeat' (first | (simp only [go_sem, Int.reduceAdd, Int.reduceEq, Int.reduceLE, Int.reduceLT, Int.reduceMul, Int.reduceNeg, Int.reducePow, Int.reduceSub, Int.reduceToNat, Nat.reduceAdd, Nat.reduceBEq, Nat.reduceEqDiff, Nat.reduceLT, Nat.reduceLeDiff, Nat.reduceMul, Nat.reducePow, Nat.reduceSub, reduceCtorEq, reduceIte, IntKind.bits.eq_def, ti, tin]) | (simp (disch := omega) only [w64, wu64, wu32, Nat.min_eq_left]) | (with_reducible first | refine cF (c1) ?_ | refine dF (c1) ?_) | (refine aL ti_ok ?_) | (refine dL ti_ok ?_) | (refine dE (by kernel_rfl) ?_) | ((first | refine cC ?_ ?_ | refine gS ?_ ?_ | refine dS ?_ ?_) <;> intro hc <;> first | (exfalso; simp only [dcT, dcF, bnT, bnF, bnU, bnV] at hc; omega) | (simp only [hc]; try simp only [dcT, dcF, bnT, bnF, bnU, bnV] at hc)) | (refine aN (by omega) ?_) | (refine dN (by omega) ?_))
  all_goals exact fin_le trivial (Le.tup (.cons Le.iv0 (.cons (.refl _) .nil)))
theorem r49_Slope (l : List (Int × Int)) (n : Int) (h : ckS l n = 0) : CallOK Tryz.prog gl 79 [.sl 2 (rws prow l), .v (.int .i64 n)] (.tup [.agg [.v (.bool (sg ((BS.of (LC (limS n l l.length) (limS n l l.length).length)).out.lo))), .sl 1 (u32s (ms ((BS.of (LC (limS n l l.length) (limS n l l.length).length)).out.lo))), .v (.int .i64 (dn ((BS.of (LC (limS n l l.length) (limS n l l.length).length)).out.lo))), .v (.bool (sg ((BS.of (LC (limS n l l.length) (limS n l l.length).length)).out.hi))), .sl 1 (u32s (ms ((BS.of (LC (limS n l l.length) (limS n l l.length).length)).out.hi))), .v (.int .i64 (dn ((BS.of (LC (limS n l l.length) (limS n l l.length).length)).out.hi)))], .v (.int .i64 ((BS.of (LC (limS n l l.length) (limS n l l.length).length)).out.err))]) := by
  refine call_ok (C := ⟨Tryz.prog, gl, ti, 59, false⟩) ti_ok mixed 3000 Tryz.call79 Tryz.func79 rfl Tryz.ntmps79 (by simp) byClL byCl ?_
  rw [Tryz.results79]
  obtain ⟨g1, g2, g3, g4, g5⟩ := ck_ok h
  have c1 := r49_Check l n (by omega)
  rw [h] at c1
  have hc1 := clrow_lI
  obtain ⟨N, hN⟩ : ∃ N, l.length = N := ⟨_, rfl⟩
  have ll : ∀ k, k ≤ N → (limS n l k).length ≤ 4160 := fun k hk => Nat.le_trans (lims_length (fun _ => Nat.zero_le _) (by omega) (by omega)) (by omega)
  have el := r49_least (limS n l N) _ rfl (by have := ll N (Nat.le_refl _); omega) (limS_sm g3 g4 g5 (by omega)) clrow_lI
  rw [hN] at g1 g2 ⊢
  repeat' (first | (simp only [go_sem, Int.reduceAdd, Int.reduceEq, Int.reduceLE, Int.reduceLT, Int.reduceMul, Int.reduceNeg, Int.reducePow, Int.reduceSub, Int.reduceToNat, Nat.reduceAdd, Nat.reduceBEq, Nat.reduceEqDiff, Nat.reduceLT, Nat.reduceLeDiff, Nat.reduceMul, Nat.reducePow, Nat.reduceSub, reduceCtorEq, reduceIte, IntKind.bits.eq_def, ti, tin, rws_length, hN]) | (simp (disch := omega) only [w64, wu64, wu32, Nat.min_eq_left]) | (with_reducible first | refine cF (c1) ?_ | refine dF (c1) ?_) | (refine aL ti_ok ?_) | (refine dL ti_ok ?_) | (refine dE (by kernel_rfl) ?_) | ((first | refine cC ?_ ?_ | refine gS ?_ ?_ | refine dS ?_ ?_) <;> intro hc <;> first | (exfalso; simp only [dcT, dcF, bnT, bnF, bnU, bnV] at hc; omega) | (simp only [hc]; try simp only [dcT, dcF, bnT, bnF, bnU, bnV] at hc)) | (refine aN (by omega) ?_) | (refine dN (by omega) ?_))
  refine l_loop (α := Nat) (fun k => ⟨[(0, .sl 2 (rws prow l)), (1, .v (.int .i64 n)), (4, .p 0 6 0 0), (7, .ps 1 9 0 (limS n l k).length), (19, .sl 2 (rws prow l)), (20, .v (.int .i64 N)), (21, .v (.int .i64 k))], [(0, ⟨6, [[.v (.bool false), .v (.slice none 0 0), .v (.int .i64 0), .v (.bool false), .v (.slice none 0 0), .v (.int .i64 0)]]⟩), (1, ⟨9, rws lrowI (limS n l k)⟩)], 2⟩) (fun k => k ≤ N) (fun k => N - k) (0) _ byFresh (fun _ h => by first | (cases h; done) | exact Nat.le_of_ble_eq_true rfl) ?_ ?_ ?_
  · exact Nat.zero_le _
  · exact Weak.trans (Weak.newnil 1 9 (Nat.le_of_ble_eq_true rfl)) (Nat.le_of_ble_eq_true rfl) (by exact byWeak)
  intro k hk
  by_cases hkn : k < N
  ·
    have rk := rws_getD (f := prow) (l := l) (i := k) (0, 0) (by omega)
    obtain ⟨p, hp⟩ : ∃ p, l.getD k (0, 0) = p := ⟨_, rfl⟩
    have bp := g3 p (by rw [← hp, List.getD, List.getElem?_eq_getElem (by omega)]; exact List.getElem_mem _)
    have st : limS n l (k + 1) = limS n l k ++ prs (slG n) l p k := lims_end hp
    have lk := ll k hk
    rw [hp] at rk
    obtain ⟨x, y⟩ := p
    rw [prow_mk] at rk
    simp only at bp
    obtain ⟨L, hL⟩ : ∃ L, limS n l k = L := ⟨_, rfl⟩
    rw [hL] at st lk ⊢
    have lt : (l.take k).length = k := by rw [List.length_take]; omega
    have ek : (rws prow l).take (k - 0) = rws prow (l.take k) := rws_take _ _
    repeat' (first | (simp only [go_sem, Int.reduceAdd, Int.reduceEq, Int.reduceLE, Int.reduceLT, Int.reduceMul, Int.reduceNeg, Int.reducePow, Int.reduceSub, Int.reduceToNat, Nat.reduceAdd, Nat.reduceBEq, Nat.reduceEqDiff, Nat.reduceLT, Nat.reduceLeDiff, Nat.reduceMul, Nat.reducePow, Nat.reduceSub, reduceCtorEq, reduceIte, IntKind.bits.eq_def, ti, tin, rws_length, hN, rk, ek, lt]) | (simp (disch := omega) only [w64, wu64, wu32, Nat.min_eq_left]) | (refine aL ti_ok ?_) | (refine dL ti_ok ?_) | (refine dE (by kernel_rfl) ?_) | ((first | refine cC ?_ ?_ | refine gS ?_ ?_ | refine dS ?_ ?_) <;> intro hc <;> first | (exfalso; simp only [dcT, dcF, bnT, bnF, bnU, bnV] at hc; omega) | (simp only [hc]; try simp only [dcT, dcF, bnT, bnF, bnU, bnV] at hc)) | (refine aN (by omega) ?_) | (refine dN (by omega) ?_))
    refine l_loop (α := Nat) (fun j => ⟨[(0, .sl 2 (rws prow l)), (1, .v (.int .i64 n)), (4, .p 0 6 0 0), (7, .ps 1 9 0 (L ++ prs (slG n) l (x, y) j).length), (8, .v (.int .i64 k)), (9, .p 2 2 0 0), (19, .sl 2 (rws prow l)), (20, .v (.int .i64 N)), (21, .v (.int .i64 k)), (28, .sl 2 (rws prow (l.take k))), (29, .v (.int .i64 k)), (30, .v (.int .i64 j))], [(0, ⟨6, [[.v (.bool false), .v (.slice none 0 0), .v (.int .i64 0), .v (.bool false), .v (.slice none 0 0), .v (.int .i64 0)]]⟩), (1, ⟨9, rws lrowI (L ++ prs (slG n) l (x, y) j)⟩), (2, ⟨2, [[.v (.int .i64 x), .v (.int .i64 y)]]⟩)], 3⟩) (fun j => j ≤ k) (fun j => k - j) (0) _ byFresh (fun _ h => by first | (cases h; done) | exact Nat.le_of_ble_eq_true rfl) ?_ ?_ ?_
    · exact Nat.zero_le _
    · rw [show L ++ prs (slG n) l (x, y) 0 = L from List.append_nil L]; exact byWeak
    intro j hj
    by_cases hjk : j < k
    ·
      have rj := rws_getD (f := prow) (l := l.take k) (i := j) (0, 0) (by omega)
      obtain ⟨q, hq⟩ : ∃ q, l.getD j (0, 0) = q := ⟨_, rfl⟩
      have bq := g3 q (by rw [← hq, List.getD, List.getElem?_eq_getElem (by omega)]; exact List.getElem_mem _)
      have tq : (l.take k).getD j (0, 0) = q := by rw [← hq, List.getD, List.getD, List.getElem?_take, if_pos hjk]
      have sj := prs_succ (g := slG n) (s := (x, y)) (by omega) hq
      rw [tq] at rj
      obtain ⟨xj, yj⟩ := q
      rw [prow_mk] at rj
      simp only at bq
      have lp := prs_length (slG n) l (x, y) (j := j) (by omega)
      obtain ⟨M, hM⟩ : ∃ M, L ++ prs (slG n) l (x, y) j = M := ⟨_, rfl⟩
      obtain ⟨m, hm⟩ : ∃ m, M.length = m := ⟨_, rfl⟩
      have lm : m ≤ 4300 := by rw [← hm, ← hM, List.length_append, lp]; omega
      have sm : L ++ prs (slG n) l (x, y) (j + 1) = M ++ [(x - xj, y - yj, 2 * n)] := by rw [sj, ← List.append_assoc, hM]; rfl
      have e9 : (rws lrowI M).take m ++ [lrowI (x - xj, y - yj, 2 * n)] = rws lrowI (M ++ [(x - xj, y - yj, 2 * n)]) := rws_snoc hm
      have e8 : (M ++ [(x - xj, y - yj, 2 * n)]).length = m + 1 := by rw [List.length_append, hm]; rfl
      rw [lrowI_mk] at e9
      rw [hM, hm]
      have i1 := r49_of' (x - xj) (by omega)
      have i2 := r49_of' (y - yj) (by omega)
      have i3 := r49_of' (2 * n) (by omega)
      clear st g3 el ll sj
      obtain ⟨M', hM'⟩ : ∃ M', M ++ [(x - xj, y - yj, 2 * n)] = M' := ⟨_, rfl⟩
      rw [hM'] at sm e9 e8
      clear hM'
      generalize Dy.int (x - xj) = z1 at *
      generalize Dy.int (y - yj) = z2 at *
      generalize Dy.int (2 * n) = z3 at *
      repeat' (first | (simp only [go_sem, Int.reduceAdd, Int.reduceEq, Int.reduceLE, Int.reduceLT, Int.reduceMul, Int.reduceNeg, Int.reducePow, Int.reduceSub, Int.reduceToNat, Nat.reduceAdd, Nat.reduceBEq, Nat.reduceEqDiff, Nat.reduceLT, Nat.reduceLeDiff, Nat.reduceMul, Nat.reducePow, Nat.reduceSub, reduceCtorEq, reduceIte, IntKind.bits.eq_def, ti, tin, rws_length, hN, rj, hm, e9, lt]) | (simp (disch := omega) only [w64, wu64, wu32, Nat.min_eq_left]) | (with_reducible first | refine cF (i1) ?_ | refine dF (i1) ?_) | (with_reducible first | refine cF (i2) ?_ | refine dF (i2) ?_) | (with_reducible first | refine cF (i3) ?_ | refine dF (i3) ?_) | (refine drawAfter_app ti_ok rfl rfl rfl rfl rfl ⟨rfl, rfl, by decide⟩ rfl ⟨trivial, by (try simp only [List.length_cons, List.length_nil, List.length_append, u32s_length, List.length_map, rws_length, hN, rj, hm, e9, lt]); omega, by (try simp only [List.length_cons, List.length_nil, List.length_append, u32s_length, List.length_map, rws_length, hN, rj, hm, e9, lt]); omega, by (try simp only [List.length_cons, List.length_nil, List.length_append, u32s_length, List.length_map, rws_length, hN, rj, hm, e9, lt]); omega⟩ byRows ?_) | (refine aL ti_ok ?_) | (refine dL ti_ok ?_) | (refine dE (by kernel_rfl) ?_) | ((first | refine cC ?_ ?_ | refine gS ?_ ?_ | refine dS ?_ ?_) <;> intro hc <;> first | (exfalso; simp only [dcT, dcF, bnT, bnF, bnU, bnV] at hc; omega) | (simp only [hc]; try simp only [dcT, dcF, bnT, bnF, bnU, bnV] at hc)) | (refine aN (by omega) ?_) | (refine dN (by omega) ?_))
      refine roundEnd_of (α := Nat) (j + 1) ?_ ?_ ?_
      · show j + 1 ≤ k; omega
      · omega
      · rw [sm, e8]; exact Weak.ren2 22 1 24 (Nat.le_refl _) (by decide) (Nat.le_of_ble_eq_true rfl) byRenE byNoM byWeak
    ·
      obtain rfl : j = k := by omega
      rw [← st]
      repeat' (first | (simp only [go_sem, Int.reduceAdd, Int.reduceEq, Int.reduceLE, Int.reduceLT, Int.reduceMul, Int.reduceNeg, Int.reducePow, Int.reduceSub, Int.reduceToNat, Nat.reduceAdd, Nat.reduceBEq, Nat.reduceEqDiff, Nat.reduceLT, Nat.reduceLeDiff, Nat.reduceMul, Nat.reducePow, Nat.reduceSub, reduceCtorEq, reduceIte, IntKind.bits.eq_def, ti, tin, rws_length, hN, lt]) | (simp (disch := omega) only [w64, wu64, wu32, Nat.min_eq_left]) | (refine aL ti_ok ?_) | (refine dL ti_ok ?_) | (refine dE (by kernel_rfl) ?_) | ((first | refine cC ?_ ?_ | refine gS ?_ ?_ | refine dS ?_ ?_) <;> intro hc <;> first | (exfalso; simp only [dcT, dcF, bnT, bnF, bnU, bnV] at hc; omega) | (simp only [hc]; try simp only [dcT, dcF, bnT, bnF, bnU, bnV] at hc)) | (refine aN (by omega) ?_) | (refine dN (by omega) ?_))
      refine roundEnd_of (α := Nat) (j + 1) ?_ ?_ ?_
      · show j + 1 ≤ N; omega
      · omega
      · exact byWeak
  ·
    obtain rfl : k = N := by omega
    have lk := ll k hk
    repeat' (first | (simp only [go_sem, Int.reduceAdd, Int.reduceEq, Int.reduceLE, Int.reduceLT, Int.reduceMul, Int.reduceNeg, Int.reducePow, Int.reduceSub, Int.reduceToNat, Nat.reduceAdd, Nat.reduceBEq, Nat.reduceEqDiff, Nat.reduceLT, Nat.reduceLeDiff, Nat.reduceMul, Nat.reducePow, Nat.reduceSub, reduceCtorEq, reduceIte, IntKind.bits.eq_def, ti, tin, rws_length, hN]) | (simp (disch := omega) only [w64, wu64, wu32, Nat.min_eq_left]) | (refine aL ti_ok ?_) | (refine dL ti_ok ?_) | (refine dE (by kernel_rfl) ?_) | ((first | refine cC ?_ ?_ | refine gS ?_ ?_ | refine dS ?_ ?_) <;> intro hc <;> first | (exfalso; simp only [dcT, dcF, bnT, bnF, bnU, bnV] at hc; omega) | (simp only [hc]; try simp only [dcT, dcF, bnT, bnF, bnU, bnV] at hc)) | (refine aN (by omega) ?_) | (refine dN (by omega) ?_))
    refine callF_frz 1 rfl (.cons (frz_ps rfl (by show _ ≤ (rws lrowI _).length; rw [rws_length]; omega)) .nil) (.cons (by rw [show (rws lrowI (limS n l k)).drop 0 = rws lrowI (limS n l k) from rfl, List.take_of_length_le (by rw [rws_length]; omega)]; exact .refl _) .nil) el ?_
    clear g3 el
    generalize BS.of (LC (limS n l k) (limS n l k).length) = b at *
    repeat' (first | (simp only [go_sem, Int.reduceAdd, Int.reduceEq, Int.reduceLE, Int.reduceLT, Int.reduceMul, Int.reduceNeg, Int.reducePow, Int.reduceSub, Int.reduceToNat, Nat.reduceAdd, Nat.reduceBEq, Nat.reduceEqDiff, Nat.reduceLT, Nat.reduceLeDiff, Nat.reduceMul, Nat.reducePow, Nat.reduceSub, reduceCtorEq, reduceIte, IntKind.bits.eq_def, ti, tin]) | (simp (disch := omega) only [w64, wu64, wu32, Nat.min_eq_left]) | (refine aL ti_ok ?_) | (refine dL ti_ok ?_) | (refine dE (by kernel_rfl) ?_) | ((first | refine cC ?_ ?_ | refine gS ?_ ?_ | refine dS ?_ ?_) <;> intro hc <;> first | (exfalso; simp only [dcT, dcF, bnT, bnF, bnU, bnV] at hc; omega) | (simp only [hc]; try simp only [dcT, dcF, bnT, bnF, bnU, bnV] at hc)) | (refine aN (by omega) ?_) | (refine dN (by omega) ?_))
    exact fin_same trivial rfl
end Go.Proofs.YtkdpaoicekgalaaGreatDoor
