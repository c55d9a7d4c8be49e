/- The statement WholeIdentify: its code returns true. -/
import Derived.Test.YtfmgfjmfogmeeaaGreatDoorTrp1
import Derived.Test.YtfmgfjmfogmeeaaGreatDoorCv1
import Derived.Test.YtfmgfjmfogmeeaaGreatDoorMc2
import Derived.Test.YtfmgfjmfogmeeaaGreatDoorRc26b
import Derived.Test.YtfmgfjmfogmeeaaGreatDoorMat1
import Derived.Test.YtfmgfjmfogmeeaaGreatDoorU5
set_option linter.unusedSimpArgs false
set_option linter.unusedVariables false
set_option linter.deprecated false
namespace Go.Proofs.YtfmgfjmfogmeeaaGreatDoor
open Go Go.Ax
set_option maxRecDepth 100000
set_option maxHeartbeats 4000000
theorem w_Abs (n : Int) (h : -4611686018427387904 ≤ n ∧ n ≤ 4611686018427387904) : CallOK Tryz.prog gl 21 [.v (.int .i64 n)] (.v (.int .i64 ((max n (0 - n))))) := by
  refine call_ok (C := ⟨Tryz.prog, gl, ti, 9, false⟩) ti_ok mixed 3000 Tryz.call21 Tryz.func21 rfl Tryz.ntmps21 (by simp) byClL byCl ?_
  rw [Tryz.results21]
  repeat' (first | (simp only [go_sem, seval, IntKind.bits.eq_def, ti, tin]) | (simp (disch := omega) only [wA]) | refine aL ti_ok ?_ | refine dL ti_ok ?_ | refine dG ?_ | ((first | refine cC ?_ ?_ | refine gS ?_ ?_ | refine dS ?_ ?_) <;> intro hc <;> first | (exfalso; simp only [dcA] at hc; omega) | (simp only [hc]; try simp only [dcA] at hc)) | refine aO ?_ | refine dO ?_)
  all_goals exact fin_same trivial (by simp [one] <;> omega)
theorem wid_out (R M : Int) (DX DY QX QY : List Int) (P S F : Int) (l : List (Int × Int)) (hl : l.length ≤ 9223372036854775807) (e : Int) (c1 : CallOK Tryz.prog gl 16 [.agg [.v (.int .i64 R), .v (.int .i64 M), .sl 1 (rws irow DX), .sl 1 (rws irow DY), .sl 1 (rws irow QX), .sl 1 (rws irow QY), .v (.int .i64 P), .v (.int .i64 S), .v (.int .i64 F)]] (.v (.int .i64 e))) (h : e ≠ 0 ∨ 20 < l.length) : CallOK Tryz.prog gl 5 [.agg [.v (.int .i64 R), .v (.int .i64 M), .sl 1 (rws irow DX), .sl 1 (rws irow DY), .sl 1 (rws irow QX), .sl 1 (rws irow QY), .v (.int .i64 P), .v (.int .i64 S), .v (.int .i64 F)], .sl 2 (rws prow l)] (.v (.bool (true))) := by
  refine call_ok (C := ⟨Tryz.prog, gl, ti, 209, false⟩) ti_ok mixed 3000 Tryz.call5 Tryz.func5 rfl Tryz.ntmps5 (by simp) byClL byCl ?_
  rw [Tryz.results5]
  by_cases h1 : e = 0
  · have h2 := h.resolve_left (fun g => g h1)
    subst h1
    clear h
    repeat' (first | (simp only [go_sem, seval, IntKind.bits.eq_def, ti, tin, rws_length]) | (simp (disch := omega) only [wA]) | (with_reducible first | refine cF guarded ?_ | refine dF guarded ?_ | refine cF c1 ?_ | refine dF c1 ?_) | refine aL ti_ok ?_ | refine dL ti_ok ?_ | refine dG ?_ | ((first | refine cC ?_ ?_ | refine gS ?_ ?_ | refine dS ?_ ?_) <;> intro hc <;> first | (exfalso; simp only [dcA] at hc; omega) | (simp only [hc]; try simp only [dcA] at hc)) | refine aO ?_ | refine dO ?_)
    all_goals exact fin_same trivial rfl
  · clear h
    repeat' (first | (simp only [go_sem, seval, IntKind.bits.eq_def, ti, tin, rws_length]) | (simp (disch := omega) only [wA]) | (with_reducible first | refine cF guarded ?_ | refine dF guarded ?_ | refine cF c1 ?_ | refine dF c1 ?_) | refine aL ti_ok ?_ | refine dL ti_ok ?_ | refine dG ?_ | ((first | refine cC ?_ ?_ | refine gS ?_ ?_ | refine dS ?_ ?_) <;> intro hc <;> first | (exfalso; simp only [dcA] at hc; omega) | (simp only [hc]; try simp only [dcA] at hc)) | refine aO ?_ | refine dO ?_)
    all_goals exact fin_same trivial rfl
theorem prow_two (a b c d : Int) : [[AV.v (.int .i64 a), .v (.int .i64 b)], [.v (.int .i64 c), .v (.int .i64 d)]] = rws prow [(a, b), (c, d)] := (rfl)
theorem wid_in (R M : Int) (DX DY QX QY : List Int) (P S F : Int) (nd nq : Nat) (h : Mc R M DX DY QX QY P S F nd nq) (l : List (Int × Int)) (N : Nat) (hN : l.length = N) (hl : N ≤ 20) (c1 : CallOK Tryz.prog gl 16 [.agg [.v (.int .i64 R), .v (.int .i64 M), .sl 1 (rws irow DX), .sl 1 (rws irow DY), .sl 1 (rws irow QX), .sl 1 (rws irow QY), .v (.int .i64 P), .v (.int .i64 S), .v (.int .i64 F)]] (.v (.int .i64 0))) : CallOK Tryz.prog gl 5 [.agg [.v (.int .i64 R), .v (.int .i64 M), .sl 1 (rws irow DX), .sl 1 (rws irow DY), .sl 1 (rws irow QX), .sl 1 (rws irow QY), .v (.int .i64 P), .v (.int .i64 S), .v (.int .i64 F)], .sl 2 (rws prow l)] (.v (.bool (true))) := by
  refine call_ok (C := ⟨Tryz.prog, gl, ti, 209, false⟩) ti_ok mixed 3000 Tryz.call5 Tryz.func5 rfl Tryz.ntmps5 (by simp) byClL byCl ?_
  rw [Tryz.results5]
  have c2 := m_Start R M DX DY QX QY P S F nd nq h
  have dn1 := h.d.c.h1
  have qn1 := h.q.c.h1
  have dn2 := h.d.c.h2
  have qn2 := h.q.c.h2
  have dL := h.d.c.hX
  have qL := h.q.c.hX
  repeat' (first | (simp only [go_sem, seval, IntKind.bits.eq_def, ti, tin, rws_length, hN]) | (simp (disch := omega) only [wA]) | (with_reducible first | refine cF guarded ?_ | refine dF guarded ?_ | refine cF c1 ?_ | refine dF c1 ?_ | refine cF c2 ?_ | refine dF c2 ?_) | refine aL ti_ok ?_ | refine dL ti_ok ?_ | refine dG ?_ | ((first | refine cC ?_ ?_ | refine gS ?_ ?_ | refine dS ?_ ?_) <;> intro hc <;> first | (exfalso; simp only [dcA] at hc; omega) | (simp only [hc]; try simp only [dcA] at hc)) | refine aO ?_ | refine dO ?_)
  refine l_loop (α := Nat × List (Int × Int) × Int × Int) (fun y => ⟨[(2, .p 0 9 0 0), (5, .p 1 2 0 0), (7, .ps 2 2 0 (2 * y.1)), (39, .sl 2 (rws prow l)), (40, .v (.int .i64 N)), (41, .v (.int .i64 y.1))], [(0, ⟨9, [[.v (.int .i64 R), .v (.int .i64 M), .sl 1 (rws irow DX), .sl 1 (rws irow DY), .sl 1 (rws irow QX), .sl 1 (rws irow QY), .v (.int .i64 P), .v (.int .i64 S), .v (.int .i64 F)]]⟩), (1, ⟨2, [[.v (.int .i64 y.2.2.1), .v (.int .i64 y.2.2.2)]]⟩), (2, ⟨2, rws prow y.2.1⟩)], 3⟩) (fun y => y.1 ≤ N ∧ y.2.1.length = 2 * y.1 ∧ Ms M DX QX nd nq y.2.2.1 y.2.2.2 ∧ ∀ s ∈ y.2.1, smpOK R s) (fun y => N - y.1) ((0, [], M, 0)) _ byFresh (fun _ h => by first | (cases h; done) | exact Nat.le_of_ble_eq_true rfl) ?_ ?_ ?_
  · have x0 := h.d.x0
    have xn := h.d.xn
    have y0 := h.q.x0
    have yn := h.q.xn
    have hM := h.m
    exact ⟨Nat.zero_le _, rfl, ⟨by simp only; omega, by simp only; omega, by simp only; omega, by simp only; omega⟩, fun s hs => by cases hs⟩
  · exact Weak.trans (Weak.newnil 2 2 (Nat.le_refl _)) (Nat.le_of_ble_eq_true rfl) (by exact byWeak)
  rintro ⟨k, sm, d, q⟩ ⟨hk, hlen, hs, hok⟩
  simp only at hk hlen hs hok
  by_cases hkn : k < N
  · have rk := rws_getD (f := prow) (l := l) (i := k) (0, 0) (by omega)
    obtain ⟨v1, v2, hv⟩ : ∃ v1 v2, l.getD k (0, 0) = (v1, v2) := ⟨_, _, rfl⟩
    rw [hv] at rk
    have rk : (rws prow l).getD k [] = [.v (.int .i64 v1), .v (.int .i64 v2)] := rk
    have k1 := base_Clip v1 (-1048576) 1048576
    have k2 := base_Clip v2 (-1048576) 1048576
    have b1 := clip_bd (lo := -1048576) (hi := 1048576) (by decide) v1
    have b2 := clip_bd (lo := -1048576) (hi := 1048576) (by decide) v2
    generalize clip v1 (-1048576) 1048576 = u at *
    generalize clip v2 (-1048576) 1048576 = w at *
    obtain ⟨x, hx, bx⟩ := at_ex h.d.c (d - M)
    obtain ⟨y, hy, bw⟩ := at_ex h.q.c q
    have c3 := m_Currents R M DX DY QX QY P S F nd nq h d q hs x y hx hy
    have c4 := m_Step R M DX DY QX QY P S F nd nq h d q hs x y hx hy bx bw u w b1 b2
    have sx := smp_mk h.r bx
    have sy := smp_mk h.r bw
    have hM := h.m
    have D1 := h.d.c.bX 0 (by omega)
    have D2 := h.d.c.bX (nd - 1) (by omega)
    have Q1 := h.q.c.bX 0 (by omega)
    have Q2 := h.q.c.bX (nq - 1) (by omega)
    have rd := ig (l := DX) (i := 0) (by omega)
    have rdn := ig (l := DX) (i := nd - 1) (by omega)
    have rq := ig (l := QX) (i := 0) (by omega)
    have rqn := ig (l := QX) (i := nq - 1) (by omega)
    have ed : (nd : Int) - 1 = ((nd - 1 : Nat) : Int) := by omega
    have eq' : (nq : Int) - 1 = ((nq - 1 : Nat) : Int) := by omega
    obtain ⟨m1, m2, m3, m4⟩ := hs
    have st : ∀ a b : Int, ¬ ((b ≤ QX.getD 0 0 ∨ QX.getD (nq - 1) 0 ≤ b) ∨ (a - M ≤ DX.getD 0 0 ∨ DX.getD (nd - 1) 0 ≤ a - M) ∨ 1073741824 ≤ max a (0 - a)) → Ms M DX QX nd nq a b := fun a b g => ⟨by omega, by omega, by omega, by omega⟩
    clear h hx hy m3 m4 c1 c2
    generalize (R * x).tdiv 1000 = p at *
    generalize (R * y).tdiv 1000 = r at *
    have px : (1000 * p).natAbs ≤ 1099511627776 := by have := sx.2.1; omega
    have py : (1000 * r).natAbs ≤ 1099511627776 := by have := sy.2.1; omega
    generalize DX.getD 0 0 = d0 at *
    generalize DX.getD (nd - 1) 0 = dn at *
    generalize QX.getD 0 0 = q0 at *
    generalize QX.getD (nq - 1) 0 = qn at *
    obtain ⟨a, ha⟩ : ∃ a, a = M + min (max (d + (u - p) - M) d0) dn := ⟨_, rfl⟩
    obtain ⟨b, hb⟩ : ∃ b, b = min (max (q + (w - r)) q0) qn := ⟨_, rfl⟩
    rw [← ha, ← hb] at c4
    have ca := w_Abs a (by omega)
    by_cases ho : (b ≤ q0 ∨ qn ≤ b) ∨ (a - M ≤ d0 ∨ dn ≤ a - M) ∨ 1073741824 ≤ max a (0 - a)
    · clear st sx sy px py hok
      have ba : -4611686018427387904 ≤ a ∧ a ≤ 4611686018427387904 := by omega
      clear ha hb
      generalize max a (0 - a) = z at *
      repeat' (first | (simp only [go_sem, seval, IntKind.bits.eq_def, ti, tin, rws_length, hN, rk, rd, rdn, rq, rqn, ed, eq', dL, qL]) | (simp (disch := omega) only [wA]) | (with_reducible first | refine cF k1 ?_ | refine dF k1 ?_ | refine cF k2 ?_ | refine dF k2 ?_ | refine cF c3 ?_ | refine dF c3 ?_ | refine cF c4 ?_ | refine dF c4 ?_ | refine cF ca ?_ | refine dF ca ?_) | refine aL ti_ok ?_ | refine dL ti_ok ?_ | refine dG ?_ | ((first | refine cC ?_ ?_ | refine gS ?_ ?_ | refine dS ?_ ?_) <;> intro hc <;> first | (exfalso; simp only [dcA] at hc; omega) | (simp only [hc]; try simp only [dcA] at hc)) | refine aO ?_ | refine dO ?_)
      all_goals exact fin_same trivial rfl
    · have st := st a b ho
      have f1 : u - a + d = p := by omega
      have f2 : w - b + q = r := by omega
      have ba : -4611686018427387904 ≤ a ∧ a ≤ 4611686018427387904 := by omega
      have bb : -4611686018427387904 ≤ b ∧ b ≤ 4611686018427387904 := by omega
      have hz : max a (0 - a) < 1073741824 := by omega
      have hll : (rws prow sm).length = 2 * k := by rw [rws_length, hlen]
      have e9 : (rws prow sm).take (2 * k) ++ [[AV.v (.int .i64 x), .v (.int .i64 (1000 * p))], [.v (.int .i64 y), .v (.int .i64 (1000 * r))]] = rws prow (sm ++ [(x, 1000 * p), (y, 1000 * r)]) := by
        rw [List.take_of_length_le (by omega), prow_two, ← rws_append]
      clear ha hb
      generalize max a (0 - a) = z at *
      have q1 : Cl (.agg [.v (.int .i64 a), .v (.int .i64 b)]) := byCl
      have q2 : Cl (.agg [.v (.int .i64 x), .v (.int .i64 y)]) := byCl
      repeat' (first | (simp only [go_sem, seval, IntKind.bits.eq_def, ti, tin, rws_length, hN, hlen, rk, rd, rdn, rq, rqn, ed, eq', dL, qL, f1, f2, e9]) | (simp (disch := omega) only [wA]) | (with_reducible first | refine cF k1 ?_ | refine dF k1 ?_ | refine cF k2 ?_ | refine dF k2 ?_ | refine cF c3 ?_ | refine dF c3 ?_ | refine cF c4 ?_ | refine dF c4 ?_ | refine cF ca ?_ | refine dF ca ?_) | (refine after_append_nil ti_ok rfl rfl rfl rfl ⟨rfl, by decide⟩ rfl ⟨trivial, by (try simp only [List.length_cons, List.length_nil, List.length_append, u32s_length, List.length_map, hll]); omega, by (try simp only [List.length_cons, List.length_nil, List.length_append, u32s_length, List.length_map, hll]); omega⟩ (fun _ => byRows) ?_) | (refine after_append_own ti_ok rfl rfl rfl rfl rfl ⟨rfl, rfl, by decide, Nat.le_of_ble_eq_true rfl⟩ (fun h => by first | (cases h; done) | decide) rfl ⟨trivial, by (try simp only [List.length_cons, List.length_nil, List.length_append, u32s_length, List.length_map, hll]); omega, by (try simp only [List.length_cons, List.length_nil, List.length_append, u32s_length, List.length_map, hll]); omega, by (try simp only [List.length_cons, List.length_nil, List.length_append, u32s_length, List.length_map, hll]); omega⟩ byRows byNoE byNoM ?_) | refine aL ti_ok ?_ | refine dL ti_ok ?_ | refine dG ?_ | ((first | refine cC ?_ ?_ | refine gS ?_ ?_ | refine dS ?_ ?_) <;> intro hc <;> first | (exfalso; simp only [dcA] at hc; omega) | (simp only [hc]; try simp only [dcA] at hc)) | refine aO ?_ | refine dO ?_)
      refine roundEnd_of (α := Nat × List (Int × Int) × Int × Int) (k + 1, sm ++ [(x, 1000 * p), (y, 1000 * r)], a, b) ?_ ?_ ?_
      · refine ⟨hkn, by show (sm ++ _).length = _; rw [List.length_append, hlen]; rfl, st, fun s hs => ?_⟩
        rcases List.mem_append.1 hs with g | g
        · exact hok s g
        · simp only [List.mem_cons, List.not_mem_nil, or_false] at g
          rcases g with rfl | rfl
          · exact sx
          · exact sy
      · show N - (k + 1) < N - k
        omega
      · exact byWeak
  · obtain rfl : k = N := by omega
    have hR := h.r
    clear h c1 c2 hs
    by_cases hk0 : k = 0
    · subst hk0
      clear hok
      repeat' (first | (simp only [go_sem, seval, IntKind.bits.eq_def, ti, tin, rws_length, hN]) | (simp (disch := omega) only [wA]) | refine aL ti_ok ?_ | refine dL ti_ok ?_ | refine dG ?_ | ((first | refine cC ?_ ?_ | refine gS ?_ ?_ | refine dS ?_ ?_) <;> intro hc <;> first | (exfalso; simp only [dcA] at hc; omega) | (simp only [hc]; try simp only [dcA] at hc)) | refine aO ?_ | refine dO ?_)
      all_goals exact fin_same trivial rfl
    · obtain ⟨L, hL⟩ : ∃ L, 2 * k = L := ⟨_, rfl⟩
      rw [hL] at hlen ⊢
      have hL0 : 2 ≤ L := by omega
      have hL4 : L ≤ 40 := by omega
      have ck := smp_ck hok (by omega) (by omega)
      have okf : ∀ s ∈ sm.take (L - 1), smpOK R s := fun s hs => hok s (List.mem_of_mem_take hs)
      have ckf := smp_ck okf (by rw [List.length_take]; omega) (by rw [List.length_take]; omega)
      have ho := has_out gainF (smp_fit hok)
      have mw := more_wider gainF (l := sm) (l' := sm.take (L - 1)) (fun s hs => List.mem_of_mem_take hs) (Int.le_refl 999)
      have g1 := id_GainI sm 999 ck
      have g2 := id_GainI (sm.take (L - 1)) 999 ckf
      have ga := mg_Gain ck
      have gf := mg_Gain ckf
      have gR : Mg 201 (Dy.int R) := Mg.int (Nat.lt_of_lt_of_le (show R.natAbs < 2 ^ 21 by omega) (Nat.pow_le_pow_right (by decide) (by decide)))
      have o1 := Of_ok R (by omega)
      have n1 := iv_Contains _ _ _ _ _ _ _ _ _ (IArg.of ga) _ _ _ _ gR.arg
      have n2 := iv_Inside _ _ _ _ _ _ _ _ _ (IArg.of ga) _ _ _ _ _ _ _ _ _ (IArg.of gf)
      have n3 := ref_Cmp _ _ _ _ _ _ _ _ ga.1.arg ga.2.arg
      have hc := (oIv gainF 999 sm).h
      have hle : (oIv gainF 999 sm).lo.cmp (oIv gainF 999 sm).hi ≤ 0 := by
        unfold Dy.cmp
        split
        · decide
        · split
          · rename_i q; exact absurd (show (oIv gainF 999 sm).lo.v ≤ (oIv gainF 999 sm).hi.v from hc) (Rat.not_le.2 q)
          · decide
      have e0 : (L : Int) - 1 = ((L - 1 : Nat) : Int) := by omega
      have e1 : ((rws prow sm).drop 0).take (L - 1) = rws prow (sm.take (L - 1)) := by rw [List.drop_zero, rws_take]
      have e2 : (rws prow sm).take (L - 1) = rws prow (sm.take (L - 1)) := by rw [rws_take]
      have hll : (rws prow sm).length = L := by rw [rws_length, hlen]
      have i1 := base_IsE 22 22
      clear ck ckf okf hc hok ga gf gR
      rw [decide_eq_true rfl] at i1
      rcases ho with ho | ⟨ho, hh⟩
      · rw [ho, eV_ne (by decide)] at g1
        clear mw g2 n1 n2 n3 hle
        generalize oIv gainF 999 sm = a1 at *
        repeat' (first | (simp only [go_sem, seval, IntKind.bits.eq_def, ti, tin, rws_length, hN, hlen, hL]) | (simp (disch := omega) only [wA]) | refine aL ti_ok ?_ | refine dL ti_ok ?_ | refine dG ?_ | ((first | refine cC ?_ ?_ | refine gS ?_ ?_ | refine dS ?_ ?_) <;> intro hc <;> first | (exfalso; simp only [dcA] at hc; omega) | (simp only [hc]; try simp only [dcA] at hc)) | refine aO ?_ | refine dO ?_)
        refine callF_wk (as1 := [.sl 2 (rws prow sm), .v (.int .i64 999)]) (s1 := ⟨[(2, .p 0 9 0 0), (7, .sl 2 (rws prow sm))], [(0, ⟨9, [[.v (.int .i64 R), .v (.int .i64 M), .sl 1 (rws irow DX), .sl 1 (rws irow DY), .sl 1 (rws irow QX), .sl 1 (rws irow QY), .v (.int .i64 P), .v (.int .i64 S), .v (.int .i64 F)]]⟩)], 3⟩) g1 rfl (Nat.zero_lt_succ _) rfl rfl (Weak.frzA 2 _ L hll) ?_
        repeat' (first | (simp only [go_sem, seval, IntKind.bits.eq_def, ti, tin, rws_length, hlen, e0, e1, e2, Nat.sub_zero]) | (simp (disch := omega) only [wA]) | (with_reducible first | refine cF i1 ?_ | refine dF i1 ?_) | refine aL ti_ok ?_ | refine dL ti_ok ?_ | refine dG ?_ | ((first | refine cC ?_ ?_ | refine gS ?_ ?_ | refine dS ?_ ?_) <;> intro hc <;> first | (exfalso; simp only [dcA] at hc; omega) | (simp only [hc]; try simp only [dcA] at hc)) | refine aO ?_ | refine dO ?_)
        all_goals exact fin_same trivial rfl
      · rw [ho, eV_zero] at g1
        rw [hh] at n1
        have mw := mw.resolve_left (fun g => by rw [ho] at g; cases g)
        generalize (oIv gainF 999 sm).lo.cmp (oIv gainF 999 sm).hi = c at *
        rcases mw with mw | ⟨mw, _, mi⟩
        · rw [mw, eV_ne (by decide)] at g2
          clear n2
          generalize oIv gainF 999 (sm.take (L - 1)) = a2 at *
          generalize oIv gainF 999 sm = a1 at *
          generalize sm.take (L - 1) = sf at *
          repeat' (first | (simp only [go_sem, seval, IntKind.bits.eq_def, ti, tin, rws_length, hN, hlen, hL]) | (simp (disch := omega) only [wA]) | refine aL ti_ok ?_ | refine dL ti_ok ?_ | refine dG ?_ | ((first | refine cC ?_ ?_ | refine gS ?_ ?_ | refine dS ?_ ?_) <;> intro hc <;> first | (exfalso; simp only [dcA] at hc; omega) | (simp only [hc]; try simp only [dcA] at hc)) | refine aO ?_ | refine dO ?_)
          refine callF_wk (as1 := [.sl 2 (rws prow sm), .v (.int .i64 999)]) (s1 := ⟨[(2, .p 0 9 0 0), (7, .sl 2 (rws prow sm))], [(0, ⟨9, [[.v (.int .i64 R), .v (.int .i64 M), .sl 1 (rws irow DX), .sl 1 (rws irow DY), .sl 1 (rws irow QX), .sl 1 (rws irow QY), .v (.int .i64 P), .v (.int .i64 S), .v (.int .i64 F)]]⟩)], 3⟩) g1 rfl (Nat.zero_lt_succ _) rfl rfl (Weak.frzA 2 _ L hll) ?_
          repeat' (first | (simp only [go_sem, seval, IntKind.bits.eq_def, ti, tin, rws_length, hlen, e0, e1, e2, Nat.sub_zero]) | (simp (disch := omega) only [wA]) | (with_reducible first | refine cF g2 ?_ | refine dF g2 ?_ | refine cF o1 ?_ | refine dF o1 ?_ | refine cF n1 ?_ | refine dF n1 ?_ | refine cF n3 ?_ | refine dF n3 ?_) | refine aL ti_ok ?_ | refine dL ti_ok ?_ | refine dG ?_ | ((first | refine cC ?_ ?_ | refine gS ?_ ?_ | refine dS ?_ ?_) <;> intro hc <;> first | (exfalso; simp only [dcA] at hc; omega) | (simp only [hc]; try simp only [dcA] at hc)) | refine aO ?_ | refine dO ?_)
          all_goals exact fin_same trivial (by simp [one, hle])
        · rw [mw, eV_zero] at g2
          rw [mi] at n2
          generalize oIv gainF 999 (sm.take (L - 1)) = a2 at *
          generalize oIv gainF 999 sm = a1 at *
          generalize sm.take (L - 1) = sf at *
          repeat' (first | (simp only [go_sem, seval, IntKind.bits.eq_def, ti, tin, rws_length, hN, hlen, hL]) | (simp (disch := omega) only [wA]) | refine aL ti_ok ?_ | refine dL ti_ok ?_ | refine dG ?_ | ((first | refine cC ?_ ?_ | refine gS ?_ ?_ | refine dS ?_ ?_) <;> intro hc <;> first | (exfalso; simp only [dcA] at hc; omega) | (simp only [hc]; try simp only [dcA] at hc)) | refine aO ?_ | refine dO ?_)
          refine callF_wk (as1 := [.sl 2 (rws prow sm), .v (.int .i64 999)]) (s1 := ⟨[(2, .p 0 9 0 0), (7, .sl 2 (rws prow sm))], [(0, ⟨9, [[.v (.int .i64 R), .v (.int .i64 M), .sl 1 (rws irow DX), .sl 1 (rws irow DY), .sl 1 (rws irow QX), .sl 1 (rws irow QY), .v (.int .i64 P), .v (.int .i64 S), .v (.int .i64 F)]]⟩)], 3⟩) g1 rfl (Nat.zero_lt_succ _) rfl rfl (Weak.frzA 2 _ L hll) ?_
          repeat' (first | (simp only [go_sem, seval, IntKind.bits.eq_def, ti, tin, rws_length, hlen, e0, e1, e2, Nat.sub_zero]) | (simp (disch := omega) only [wA]) | (with_reducible first | refine cF g2 ?_ | refine dF g2 ?_ | refine cF o1 ?_ | refine dF o1 ?_ | refine cF n1 ?_ | refine dF n1 ?_ | refine cF n2 ?_ | refine dF n2 ?_ | refine cF n3 ?_ | refine dF n3 ?_) | refine aL ti_ok ?_ | refine dL ti_ok ?_ | refine dG ?_ | ((first | refine cC ?_ ?_ | refine gS ?_ ?_ | refine dS ?_ ?_) <;> intro hc <;> first | (exfalso; simp only [dcA] at hc; omega) | (simp only [hc]; try simp only [dcA] at hc)) | refine aO ?_ | refine dO ?_)
          all_goals exact fin_same trivial (by simp [one, hle])
theorem wid_law (R M : Int) (r1 r2 r3 r4 : List (List AV)) (P S F : Int) (r5 : List (List AV)) (m1 : r1.length ≤ maxLen) (f1 : ∀ x ∈ r1, FitL [.int .i64] x) (m2 : r2.length ≤ maxLen) (f2 : ∀ x ∈ r2, FitL [.int .i64] x) (m3 : r3.length ≤ maxLen) (f3 : ∀ x ∈ r3, FitL [.int .i64] x) (m4 : r4.length ≤ maxLen) (f4 : ∀ x ∈ r4, FitL [.int .i64] x) (m5 : r5.length ≤ maxLen) (f5 : ∀ x ∈ r5, FitL [.int .i64, .int .i64] x) :
    CallOK Tryz.prog gl 5 [.agg [.v (.int .i64 R), .v (.int .i64 M), .sl 1 r1, .sl 1 r2, .sl 1 r3, .sl 1 r4, .v (.int .i64 P), .v (.int .i64 S), .v (.int .i64 F)], .sl 2 r5] (.v (.bool true)) := by
  unfold maxLen at *
  obtain ⟨DX, _, rfl, z1⟩ := fit_irows f1
  obtain ⟨DY, _, rfl, z2⟩ := fit_irows f2
  obtain ⟨QX, _, rfl, z3⟩ := fit_irows f3
  obtain ⟨QY, _, rfl, z4⟩ := fit_irows f4
  obtain ⟨l, _, rfl, z5⟩ := fit_prows f5
  obtain ⟨e, c1, g⟩ := r26_Check_ex R M DX DY QX QY P S F (by omega) (by omega) (by omega) (by omega)
  by_cases h : e ≠ 0 ∨ 20 < l.length
  · exact wid_out R M DX DY QX QY P S F l (by omega) e c1 h
  · obtain rfl : e = 0 := by omega
    obtain ⟨nd, nq, hm⟩ := g rfl
    exact wid_in R M DX DY QX QY P S F nd nq hm l _ rfl (by omega) c1
end Go.Proofs.YtfmgfjmfogmeeaaGreatDoor
