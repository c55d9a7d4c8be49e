/- The statement IdentifySuits: its code returns true. -/
import Derived.Test.YtkdpaoicekgalaaGreatDoorL49
import Derived.Test.YtkdpaoicekgalaaGreatDoorRefB
import Derived.Test.YtkdpaoicekgalaaGreatDoorU4
set_option linter.unusedSimpArgs false
set_option linter.unusedVariables false
set_option linter.deprecated false
namespace Go.Proofs.YtkdpaoicekgalaaGreatDoor
open Go Go.Ax
set_option maxRecDepth 100000
set_option maxHeartbeats 4000000

theorem suits_out (l : List (Int × Int)) (n : Int) (hl : l.length ≤ 9223372036854775807) (h : ckS l n ≠ 0 ∨ 8 < l.length) : CallOK Tryz.prog gl 11 [.sl 2 (rws prow l), .v (.int .i64 n)] (.v (.bool (true))) := by
  refine call_ok (C := ⟨Tryz.prog, gl, ti, 106, false⟩) ti_ok mixed 3000 Tryz.call11 Tryz.func11 rfl Tryz.ntmps11 (by simp) byClL byCl ?_
  rw [Tryz.results11]
  have c1 := r49_Check l n hl
  by_cases h1 : ckS l n = 0
  · have h2 : 8 < l.length := h.resolve_left (fun hh => hh h1)
    rw [h1] at c1
    clear h
    repeat' (first | (simp only [go_sem, Int.reduceAdd, Int.reduceEq, Int.reduceLE, Int.reduceLT, Int.reduceMul, Int.reduceNeg, Int.reducePow, Int.reduceSub, Int.reduceToNat, Nat.reduceAdd, Nat.reduceBEq, Nat.reduceEqDiff, Nat.reduceLT, Nat.reduceLeDiff, Nat.reduceMul, Nat.reducePow, Nat.reduceSub, reduceCtorEq, reduceIte, IntKind.bits.eq_def, ti, tin, rws_length]) | (simp (disch := omega) only [w64, wu64, wu32, Nat.min_eq_left]) | (with_reducible first | refine cF (awake49) ?_ | refine dF (awake49) ?_) | (with_reducible first | refine cF (c1) ?_ | refine dF (c1) ?_) | (refine aL ti_ok ?_) | (refine dL ti_ok ?_) | (refine dE (by kernel_rfl) ?_) | ((first | refine cC ?_ ?_ | refine gS ?_ ?_ | refine dS ?_ ?_) <;> intro hc <;> first | (exfalso; simp only [dcT, dcF, bnT, bnF, bnU, bnV] at hc; omega) | (simp only [hc]; try simp only [dcT, dcF, bnT, bnF, bnU, bnV] at hc)) | (refine aN (by omega) ?_) | (refine dN (by omega) ?_))
    all_goals exact fin_same trivial rfl
  · clear h
    generalize ckS l n = e at *
    repeat' (first | (simp only [go_sem, Int.reduceAdd, Int.reduceEq, Int.reduceLE, Int.reduceLT, Int.reduceMul, Int.reduceNeg, Int.reducePow, Int.reduceSub, Int.reduceToNat, Nat.reduceAdd, Nat.reduceBEq, Nat.reduceEqDiff, Nat.reduceLT, Nat.reduceLeDiff, Nat.reduceMul, Nat.reducePow, Nat.reduceSub, reduceCtorEq, reduceIte, IntKind.bits.eq_def, ti, tin, rws_length]) | (simp (disch := omega) only [w64, wu64, wu32, Nat.min_eq_left]) | (with_reducible first | refine cF (awake49) ?_ | refine dF (awake49) ?_) | (with_reducible first | refine cF (c1) ?_ | refine dF (c1) ?_) | (refine aL ti_ok ?_) | (refine dL ti_ok ?_) | (refine dE (by kernel_rfl) ?_) | ((first | refine cC ?_ ?_ | refine gS ?_ ?_ | refine dS ?_ ?_) <;> intro hc <;> first | (exfalso; simp only [dcT, dcF, bnT, bnF, bnU, bnV] at hc; omega) | (simp only [hc]; try simp only [dcT, dcF, bnT, bnF, bnU, bnV] at hc)) | (refine aN (by omega) ?_) | (refine dN (by omega) ?_))
    all_goals exact fin_same trivial rfl
theorem suits_err (l : List (Int × Int)) (n : Int) (h : ckS l n = 0) (hl : l.length ≤ 8) (he : oErr slopeF n l = 22 ∨ oErr slopeF n l = 23) : CallOK Tryz.prog gl 11 [.sl 2 (rws prow l), .v (.int .i64 n)] (.v (.bool (true))) := by
  refine call_ok (C := ⟨Tryz.prog, gl, ti, 106, false⟩) ti_ok mixed 3000 Tryz.call11 Tryz.func11 rfl Tryz.ntmps11 (by simp) byClL byCl ?_
  rw [Tryz.results11]
  have c1 := r49_Check l n (by omega)
  rw [h] at c1
  have g1 := id_SlopeI l n h
  have i1 := is_err (oErr slopeF n l) 23 (by decide)
  have i2 := is_err (oErr slopeF n l) 22 (by decide)
  generalize oIv slopeF n l = a at *
  generalize oErr slopeF n l = e at *
  rcases he with rfl | rfl
  ·
    rw [eV_ne (by decide)] at g1 i1 i2
    rw [decide_eq_false (by decide)] at i1
    rw [decide_eq_true rfl] at i2
    repeat' (first | (simp only [go_sem, Int.reduceAdd, Int.reduceEq, Int.reduceLE, Int.reduceLT, Int.reduceMul, Int.reduceNeg, Int.reducePow, Int.reduceSub, Int.reduceToNat, Nat.reduceAdd, Nat.reduceBEq, Nat.reduceEqDiff, Nat.reduceLT, Nat.reduceLeDiff, Nat.reduceMul, Nat.reducePow, Nat.reduceSub, reduceCtorEq, reduceIte, IntKind.bits.eq_def, ti, tin, rws_length]) | (simp (disch := omega) only [w64, wu64, wu32, Nat.min_eq_left]) | (with_reducible first | refine cF (awake49) ?_ | refine dF (awake49) ?_) | (with_reducible first | refine cF (c1) ?_ | refine dF (c1) ?_) | (with_reducible first | refine cF (g1) ?_ | refine dF (g1) ?_) | (with_reducible first | refine cF (i1) ?_ | refine dF (i1) ?_) | (with_reducible first | refine cF (i2) ?_ | refine dF (i2) ?_) | (refine aL ti_ok ?_) | (refine dL ti_ok ?_) | (refine dE (by kernel_rfl) ?_) | ((first | refine cC ?_ ?_ | refine gS ?_ ?_ | refine dS ?_ ?_) <;> intro hc <;> first | (exfalso; simp only [dcT, dcF, bnT, bnF, bnU, bnV] at hc; omega) | (simp only [hc]; try simp only [dcT, dcF, bnT, bnF, bnU, bnV] at hc)) | (refine aN (by omega) ?_) | (refine dN (by omega) ?_))
    all_goals exact fin_same trivial rfl
  ·
    rw [eV_ne (by decide)] at g1 i1 i2
    rw [decide_eq_true rfl] at i1
    rw [decide_eq_false (by decide)] at i2
    repeat' (first | (simp only [go_sem, Int.reduceAdd, Int.reduceEq, Int.reduceLE, Int.reduceLT, Int.reduceMul, Int.reduceNeg, Int.reducePow, Int.reduceSub, Int.reduceToNat, Nat.reduceAdd, Nat.reduceBEq, Nat.reduceEqDiff, Nat.reduceLT, Nat.reduceLeDiff, Nat.reduceMul, Nat.reducePow, Nat.reduceSub, reduceCtorEq, reduceIte, IntKind.bits.eq_def, ti, tin, rws_length]) | (simp (disch := omega) only [w64, wu64, wu32, Nat.min_eq_left]) | (with_reducible first | refine cF (awake49) ?_ | refine dF (awake49) ?_) | (with_reducible first | refine cF (c1) ?_ | refine dF (c1) ?_) | (with_reducible first | refine cF (g1) ?_ | refine dF (g1) ?_) | (with_reducible first | refine cF (i1) ?_ | refine dF (i1) ?_) | (with_reducible first | refine cF (i2) ?_ | refine dF (i2) ?_) | (refine aL ti_ok ?_) | (refine dL ti_ok ?_) | (refine dE (by kernel_rfl) ?_) | ((first | refine cC ?_ ?_ | refine gS ?_ ?_ | refine dS ?_ ?_) <;> intro hc <;> first | (exfalso; simp only [dcT, dcF, bnT, bnF, bnU, bnV] at hc; omega) | (simp only [hc]; try simp only [dcT, dcF, bnT, bnF, bnU, bnV] at hc)) | (refine aN (by omega) ?_) | (refine dN (by omega) ?_))
    all_goals exact fin_same trivial rfl
def grid : Dy := (Dy.int 1).shift (-16)
theorem grid_v : grid.v = 1 / 2 ^ 16 := by
  unfold grid
  have := v_shift_neg (x := Dy.int 1) (j := 16) (by decide)
  rw [show (-((16 : Nat) : Int)) = -16 from rfl] at this
  rw [this, Dy.v_int]; rfl
theorem grid_mg : Mg 64 grid := by
  have h := grid_v
  have hp := p2pos 64
  unfold Mg
  rw [h]
  constructor <;> grind
theorem suits_end (l : List (Int × Int)) (n : Int) (h : ckS l n = 0) (hl : l.length ≤ 8) (he : oErr slopeF n l = 0) (hc0 : 0 ≤ ((oIv slopeF n l).lo.add ((Dy.int 1).shift (-16))).cmp (oIv slopeF n l).hi) : CallOK Tryz.prog gl 11 [.sl 2 (rws prow l), .v (.int .i64 n)] (.v (.bool (true))) := by
  refine call_ok (C := ⟨Tryz.prog, gl, ti, 106, false⟩) ti_ok mixed 3000 Tryz.call11 Tryz.func11 rfl Tryz.ntmps11 (by simp) byClL byCl ?_
  rw [Tryz.results11]
  have c1 := r49_Check l n (by omega)
  rw [h] at c1
  have g1 := id_SlopeI l n h
  have gm := mg_Slope h
  rw [he, eV_zero] at g1
  have o1 := Of_ok 1 (by omega)
  have s1 := Shift_ok _ _ _ (-16) _ (Arg.of (mg_i64 (n := 1) (by omega)) (by omega))
  change CallOK _ _ _ _ (.agg [.v (.bool (sg grid)), .sl 1 (u32s (ms grid)), .v (.int .i64 (dn grid))]) at s1
  have gv := grid_v
  have gg := grid_mg
  have ga := gg.mono (show 64 ≤ 201 by omega)
  have a1 := Add_ok _ _ _ _ _ _ _ _ gm.1.arg gg.arg
  have k1 := gm.1.add ga
  have v1 := Dy.v_add (oIv slopeF n l).lo grid
  rw [gv] at v1
  have c2 := Cmp_ok _ _ _ _ _ _ _ _ k1.arg gm.2.arg
  change 0 ≤ ((oIv slopeF n l).lo.add grid).cmp (oIv slopeF n l).hi at hc0
  clear v1 gm k1
  generalize oIv slopeF n l = a at *
  generalize (a.lo.add grid).cmp a.hi = m at *
  generalize a.lo.add grid = z1 at *
  generalize grid = z5 at *
  repeat' (first | (simp only [go_sem, Int.reduceAdd, Int.reduceEq, Int.reduceLE, Int.reduceLT, Int.reduceMul, Int.reduceNeg, Int.reducePow, Int.reduceSub, Int.reduceToNat, Nat.reduceAdd, Nat.reduceBEq, Nat.reduceEqDiff, Nat.reduceLT, Nat.reduceLeDiff, Nat.reduceMul, Nat.reducePow, Nat.reduceSub, reduceCtorEq, reduceIte, IntKind.bits.eq_def, ti, tin, rws_length]) | (simp (disch := omega) only [w64, wu64, wu32, Nat.min_eq_left]) | (with_reducible first | refine cF (awake49) ?_ | refine dF (awake49) ?_) | (with_reducible first | refine cF (c1) ?_ | refine dF (c1) ?_) | (with_reducible first | refine cF (g1) ?_ | refine dF (g1) ?_) | (with_reducible first | refine cF (o1) ?_ | refine dF (o1) ?_) | (with_reducible first | refine cF (s1) ?_ | refine dF (s1) ?_) | (with_reducible first | refine cF (a1) ?_ | refine dF (a1) ?_) | (with_reducible first | refine cF (c2) ?_ | refine dF (c2) ?_) | (refine aL ti_ok ?_) | (refine dL ti_ok ?_) | (refine dE (by kernel_rfl) ?_) | ((first | refine cC ?_ ?_ | refine gS ?_ ?_ | refine dS ?_ ?_) <;> intro hc <;> first | (exfalso; simp only [dcT, dcF, bnT, bnF, bnU, bnV] at hc; omega) | (simp only [hc]; try simp only [dcT, dcF, bnT, bnF, bnU, bnV] at hc)) | (refine aN (by omega) ?_) | (refine dN (by omega) ?_))
  all_goals exact fin_same trivial rfl
theorem suits_ok (l : List (Int × Int)) (n : Int) (h : ckS l n = 0) (hl : l.length ≤ 8) (he : oErr slopeF n l = 0) (hc0 : ((oIv slopeF n l).lo.add ((Dy.int 1).shift (-16))).cmp (oIv slopeF n l).hi < 0) : CallOK Tryz.prog gl 11 [.sl 2 (rws prow l), .v (.int .i64 n)] (.v (.bool (true))) := by
  refine call_ok (C := ⟨Tryz.prog, gl, ti, 106, false⟩) ti_ok mixed 3000 Tryz.call11 Tryz.func11 rfl Tryz.ntmps11 (by simp) byClL byCl ?_
  rw [Tryz.results11]
  have c1 := r49_Check l n (by omega)
  rw [h] at c1
  have g1 := id_SlopeI l n h
  have gm := mg_Slope h
  rw [he, eV_zero] at g1
  have o1 := Of_ok 1 (by omega)
  have s1 := Shift_ok _ _ _ (-16) _ (Arg.of (mg_i64 (n := 1) (by omega)) (by omega))
  change CallOK _ _ _ _ (.agg [.v (.bool (sg grid)), .sl 1 (u32s (ms grid)), .v (.int .i64 (dn grid))]) at s1
  have gv := grid_v
  have gg := grid_mg
  have ga := gg.mono (show 64 ≤ 201 by omega)
  have a1 := Add_ok _ _ _ _ _ _ _ _ gm.1.arg gg.arg
  have k1 := gm.1.add ga
  have v1 := Dy.v_add (oIv slopeF n l).lo grid
  rw [gv] at v1
  have c2 := Cmp_ok _ _ _ _ _ _ _ _ k1.arg gm.2.arg
  change ((oIv slopeF n l).lo.add grid).cmp (oIv slopeF n l).hi < 0 at hc0
  have hlt := (cmp_lt _ _).1 hc0
  rw [v1] at hlt
  obtain ⟨⟨za, hza⟩, zb, hzb⟩ := out_grid (outOf slopeF n l)
  have hnx := (out_next (outOf_ok slopeF n l) he).2.2 (((oIv slopeF n l).lo.add grid).v) (by rw [v1]; exact Rat.le_refl) (by rw [v1]; exact grid_next hza hzb hlt)
  have sp := slope_pairs hnx
  obtain ⟨c3, c4, g3, c5, c6⟩ := ck_ok h
  clear hza hzb hlt hnx v1
  generalize hp : (oIv slopeF n l).lo.add grid = p at *
  generalize p.cmp (oIv slopeF n l).hi = m at *
  obtain ⟨N, hN⟩ : ∃ N, l.length = N := ⟨_, rfl⟩
  have gp : Mg 400 p := k1.mono (by omega)
  have rest_mg : ∀ s ∈ l, Mg 500 (restD p s) := fun s hs => by
    have b := g3 s hs
    have gx : Mg 64 (Dy.int s.1) := mg_i64 (by omega)
    have gy : Mg 64 (Dy.int s.2) := mg_i64 (by omega)
    exact ((gy.mono (show 64 ≤ 400 + 64 by omega)).sub (gp.mul gx)).mono (by omega)
  rw [hN] at c3 c4 hl
  repeat' (first | (simp only [go_sem, Int.reduceAdd, Int.reduceEq, Int.reduceLE, Int.reduceLT, Int.reduceMul, Int.reduceNeg, Int.reducePow, Int.reduceSub, Int.reduceToNat, Nat.reduceAdd, Nat.reduceBEq, Nat.reduceEqDiff, Nat.reduceLT, Nat.reduceLeDiff, Nat.reduceMul, Nat.reducePow, Nat.reduceSub, reduceCtorEq, reduceIte, IntKind.bits.eq_def, ti, tin, rws_length, hN]) | (simp (disch := omega) only [w64, wu64, wu32, Nat.min_eq_left]) | (with_reducible first | refine cF (awake49) ?_ | refine dF (awake49) ?_) | (with_reducible first | refine cF (c1) ?_ | refine dF (c1) ?_) | (with_reducible first | refine cF (g1) ?_ | refine dF (g1) ?_) | (with_reducible first | refine cF (o1) ?_ | refine dF (o1) ?_) | (with_reducible first | refine cF (s1) ?_ | refine dF (s1) ?_) | (with_reducible first | refine cF (a1) ?_ | refine dF (a1) ?_) | (with_reducible first | refine cF (c2) ?_ | refine dF (c2) ?_) | (refine aL ti_ok ?_) | (refine dL ti_ok ?_) | (refine dE (by kernel_rfl) ?_) | ((first | refine cC ?_ ?_ | refine gS ?_ ?_ | refine dS ?_ ?_) <;> intro hc <;> first | (exfalso; simp only [dcT, dcF, bnT, bnF, bnU, bnV] at hc; omega) | (simp only [hc]; try simp only [dcT, dcF, bnT, bnF, bnU, bnV] at hc)) | (refine aN (by omega) ?_) | (refine dN (by omega) ?_))
  refine l_loop (α := Nat × Dy × Dy) (fun x => ⟨[(0, .sl 2 (rws prow l)), (1, .v (.int .i64 n)), (7, .p 6 3 0 0), (8, .p 8 3 0 0), (9, .p 9 3 0 0), (54, .sl 2 (rws prow l)), (55, .v (.int .i64 N)), (56, .v (.int .i64 x.1))], [(6, ⟨3, [[.v (.bool (sg p)), .sl 1 (u32s (ms p)), .v (.int .i64 (dn p))]]⟩), (8, ⟨3, [[.v (.bool (sg x.2.1)), .sl 1 (u32s (ms x.2.1)), .v (.int .i64 (dn x.2.1))]]⟩), (9, ⟨3, [[.v (.bool (sg x.2.2)), .sl 1 (u32s (ms x.2.2)), .v (.int .i64 (dn x.2.2))]]⟩)], 10⟩) (fun x => x.1 ≤ N ∧ (Mg 500 x.2.1 ∧ Mg 500 x.2.2) ∧ (0 < x.1 → (∀ i, i < x.1 → x.2.1.v ≤ (restD p (l.getD i (0, 0))).v ∧ (restD p (l.getD i (0, 0))).v ≤ x.2.2.v) ∧ (∃ s ∈ l, x.2.1 = restD p s) ∧ ∃ s ∈ l, x.2.2 = restD p s)) (fun x => N - x.1) ((0, Dy.int 0, Dy.int 0)) _ byFresh (fun _ h => by first | (cases h; done) | exact Nat.le_of_ble_eq_true rfl) ?_ ?_ ?_
  · exact ⟨Nat.zero_le _, ⟨Mg.zero _, Mg.zero _⟩, fun h => absurd h (Nat.lt_irrefl _)⟩
  · refine Weak.trans (Weak.mle 8 ⟨3, [[.v (.bool (sg (Dy.int 0))), .sl 1 (u32s (ms (Dy.int 0))), .v (.int .i64 (dn (Dy.int 0)))]]⟩ rfl (MLe.one (.cons (.refl _) (.cons Le.int0 (.cons (.refl _) .nil))))) (Nat.le_refl _) ?_
    exact Weak.trans (Weak.mle 9 ⟨3, [[.v (.bool (sg (Dy.int 0))), .sl 1 (u32s (ms (Dy.int 0))), .v (.int .i64 (dn (Dy.int 0)))]]⟩ rfl (MLe.one (.cons (.refl _) (.cons Le.int0 (.cons (.refl _) .nil))))) (Nat.le_refl _) (by exact byWeak)
  rintro ⟨k, lo, hi⟩ ⟨hk, ⟨glo, ghi⟩, hinv⟩
  simp only at hk glo ghi hinv
  by_cases hkn : k < N
  ·
    have rk := rws_getD (f := prow) (l := l) (i := k) (0, 0) (by omega)
    obtain ⟨s0, hs0⟩ : ∃ s0, l.getD k (0, 0) = s0 := ⟨_, rfl⟩
    have hm0 : s0 ∈ l := by rw [← hs0, List.getD, List.getElem?_eq_getElem (by omega)]; exact List.getElem_mem _
    have bp := g3 s0 hm0
    have gr := rest_mg s0 hm0
    have stp : ∀ lo2 hi2 : Dy, lo2.v ≤ (restD p s0).v ∧ (restD p s0).v ≤ hi2.v → (0 < k → lo2.v ≤ lo.v ∧ hi.v ≤ hi2.v) → ∀ i, i < k + 1 → lo2.v ≤ (restD p (l.getD i (0, 0))).v ∧ (restD p (l.getD i (0, 0))).v ≤ hi2.v := fun lo2 hi2 q1 q2 i hi => by
      by_cases h4 : i = k
      · rw [h4, hs0]; exact q1
      · have q3 := (hinv (by omega)).1 i (by omega)
        have q4 := q2 (by omega)
        exact ⟨Rat.le_trans q4.1 q3.1, Rat.le_trans q3.2 q4.2⟩
    rw [hs0] at rk
    obtain ⟨x, y⟩ := s0
    rw [prow_mk] at rk
    simp only at bp
    have o3 := ref_Of y (by omega)
    have o4 := ref_Of x (by omega)
    have gx : Mg 64 (Dy.int x) := mg_i64 (by omega)
    have gy : Mg 64 (Dy.int y) := mg_i64 (by omega)
    have m1 := ref_Mul _ _ _ _ _ _ _ _ gp.arg gx.arg
    have s2 := ref_Sub _ _ _ _ _ _ _ _ gy.arg ((gp.mul gx).arg)
    change CallOK _ _ _ _ (.agg [.v (.bool (sg (restD p (x, y)))), .sl 1 (u32s (ms (restD p (x, y)))), .v (.int .i64 (dn (restD p (x, y))))]) at s2
    have q1 := ref_Cmp _ _ _ _ _ _ _ _ gr.arg glo.arg
    have q2 := ref_Cmp _ _ _ _ _ _ _ _ gr.arg ghi.arg
    have j1 := cmp_lt (restD p (x, y)) lo
    have j2 := cmp_gt (restD p (x, y)) hi
    clear sp rest_mg
    by_cases hk0 : k = 0
    ·
      subst hk0
      have inv2 := stp (restD p (x, y)) (restD p (x, y)) ⟨Rat.le_refl, Rat.le_refl⟩ (fun h => absurd h (Nat.lt_irrefl _))
      clear stp hinv j1 j2
      generalize hr : restD p (x, y) = r at *
      generalize p.mul (Dy.int x) = z4 at *
      generalize Dy.int x = z6 at *
      generalize Dy.int y = z7 at *
      repeat' (first | (simp only [go_sem, Int.reduceAdd, Int.reduceEq, Int.reduceLE, Int.reduceLT, Int.reduceMul, Int.reduceNeg, Int.reducePow, Int.reduceSub, Int.reduceToNat, Nat.reduceAdd, Nat.reduceBEq, Nat.reduceEqDiff, Nat.reduceLT, Nat.reduceLeDiff, Nat.reduceMul, Nat.reducePow, Nat.reduceSub, reduceCtorEq, reduceIte, IntKind.bits.eq_def, ti, tin, rws_length, hN, rk]) | (simp (disch := omega) only [w64, wu64, wu32, Nat.min_eq_left]) | (with_reducible first | refine cF (o3) ?_ | refine dF (o3) ?_) | (with_reducible first | refine cF (o4) ?_ | refine dF (o4) ?_) | (with_reducible first | refine cF (m1) ?_ | refine dF (m1) ?_) | (with_reducible first | refine cF (s2) ?_ | refine dF (s2) ?_) | (refine aL ti_ok ?_) | (refine dL ti_ok ?_) | (refine dE (by kernel_rfl) ?_) | ((first | refine cC ?_ ?_ | refine gS ?_ ?_ | refine dS ?_ ?_) <;> intro hc <;> first | (exfalso; simp only [dcT, dcF, bnT, bnF, bnU, bnV] at hc; omega) | (simp only [hc]; try simp only [dcT, dcF, bnT, bnF, bnU, bnV] at hc)) | (refine aN (by omega) ?_) | (refine dN (by omega) ?_))
      refine roundEnd_of (α := Nat × Dy × Dy) (0 + 1, r, r) ?_ ?_ ?_
      · exact ⟨by omega, ⟨gr, gr⟩, fun _ => ⟨inv2, ⟨_, hm0, hr.symm⟩, ⟨_, hm0, hr.symm⟩⟩⟩
      · show N - (0 + 1) < N - 0; omega
      · exact byWeak
    ·
      obtain ⟨i1, i2, i3⟩ := hinv (by omega)
      by_cases hlo : (restD p (x, y)).v < lo.v
      ·
        have w1 := j1.2 hlo
        by_cases hhi : hi.v < (restD p (x, y)).v
        ·
          have w2 := j2.2 hhi
          have inv2 := stp (restD p (x, y)) (restD p (x, y)) ⟨Rat.le_refl, Rat.le_refl⟩ (fun _ => ⟨Rat.le_of_lt hlo, Rat.le_of_lt hhi⟩)
          clear stp hinv j1 j2
          generalize hr : restD p (x, y) = r at *
          generalize r.cmp lo = u1 at *
          generalize r.cmp hi = u2 at *
          generalize p.mul (Dy.int x) = z4 at *
          generalize Dy.int x = z6 at *
          generalize Dy.int y = z7 at *
          repeat' (first | (simp only [go_sem, Int.reduceAdd, Int.reduceEq, Int.reduceLE, Int.reduceLT, Int.reduceMul, Int.reduceNeg, Int.reducePow, Int.reduceSub, Int.reduceToNat, Nat.reduceAdd, Nat.reduceBEq, Nat.reduceEqDiff, Nat.reduceLT, Nat.reduceLeDiff, Nat.reduceMul, Nat.reducePow, Nat.reduceSub, reduceCtorEq, reduceIte, IntKind.bits.eq_def, ti, tin, rws_length, hN, rk]) | (simp (disch := omega) only [w64, wu64, wu32, Nat.min_eq_left]) | (with_reducible first | refine cF (o3) ?_ | refine dF (o3) ?_) | (with_reducible first | refine cF (o4) ?_ | refine dF (o4) ?_) | (with_reducible first | refine cF (m1) ?_ | refine dF (m1) ?_) | (with_reducible first | refine cF (s2) ?_ | refine dF (s2) ?_) | (with_reducible first | refine cF (q1) ?_ | refine dF (q1) ?_) | (with_reducible first | refine cF (q2) ?_ | refine dF (q2) ?_) | (refine aL ti_ok ?_) | (refine dL ti_ok ?_) | (refine dE (by kernel_rfl) ?_) | ((first | refine cC ?_ ?_ | refine gS ?_ ?_ | refine dS ?_ ?_) <;> intro hc <;> first | (exfalso; simp only [dcT, dcF, bnT, bnF, bnU, bnV] at hc; omega) | (simp only [hc]; try simp only [dcT, dcF, bnT, bnF, bnU, bnV] at hc)) | (refine aN (by omega) ?_) | (refine dN (by omega) ?_))
          refine roundEnd_of (α := Nat × Dy × Dy) (k + 1, r, r) ?_ ?_ ?_
          · exact ⟨by omega, ⟨gr, gr⟩, fun _ => ⟨inv2, ⟨_, hm0, hr.symm⟩, ⟨_, hm0, hr.symm⟩⟩⟩
          · show N - (k + 1) < N - k; omega
          · exact byWeak
        ·
          have w2 : ¬ 0 < (restD p (x, y)).cmp hi := fun h => hhi (j2.1 h)
          have inv2 := stp (restD p (x, y)) hi ⟨Rat.le_refl, by grind⟩ (fun _ => ⟨Rat.le_of_lt hlo, Rat.le_refl⟩)
          clear stp hinv j1 j2
          generalize hr : restD p (x, y) = r at *
          generalize r.cmp lo = u1 at *
          generalize r.cmp hi = u2 at *
          generalize p.mul (Dy.int x) = z4 at *
          generalize Dy.int x = z6 at *
          generalize Dy.int y = z7 at *
          repeat' (first | (simp only [go_sem, Int.reduceAdd, Int.reduceEq, Int.reduceLE, Int.reduceLT, Int.reduceMul, Int.reduceNeg, Int.reducePow, Int.reduceSub, Int.reduceToNat, Nat.reduceAdd, Nat.reduceBEq, Nat.reduceEqDiff, Nat.reduceLT, Nat.reduceLeDiff, Nat.reduceMul, Nat.reducePow, Nat.reduceSub, reduceCtorEq, reduceIte, IntKind.bits.eq_def, ti, tin, rws_length, hN, rk]) | (simp (disch := omega) only [w64, wu64, wu32, Nat.min_eq_left]) | (with_reducible first | refine cF (o3) ?_ | refine dF (o3) ?_) | (with_reducible first | refine cF (o4) ?_ | refine dF (o4) ?_) | (with_reducible first | refine cF (m1) ?_ | refine dF (m1) ?_) | (with_reducible first | refine cF (s2) ?_ | refine dF (s2) ?_) | (with_reducible first | refine cF (q1) ?_ | refine dF (q1) ?_) | (with_reducible first | refine cF (q2) ?_ | refine dF (q2) ?_) | (refine aL ti_ok ?_) | (refine dL ti_ok ?_) | (refine dE (by kernel_rfl) ?_) | ((first | refine cC ?_ ?_ | refine gS ?_ ?_ | refine dS ?_ ?_) <;> intro hc <;> first | (exfalso; simp only [dcT, dcF, bnT, bnF, bnU, bnV] at hc; omega) | (simp only [hc]; try simp only [dcT, dcF, bnT, bnF, bnU, bnV] at hc)) | (refine aN (by omega) ?_) | (refine dN (by omega) ?_))
          refine roundEnd_of (α := Nat × Dy × Dy) (k + 1, r, hi) ?_ ?_ ?_
          · exact ⟨by omega, ⟨gr, ghi⟩, fun _ => ⟨inv2, ⟨_, hm0, hr.symm⟩, i3⟩⟩
          · show N - (k + 1) < N - k; omega
          · exact byWeak
      ·
        have w1 : ¬ (restD p (x, y)).cmp lo < 0 := fun h => hlo (j1.1 h)
        by_cases hhi : hi.v < (restD p (x, y)).v
        ·
          have w2 := j2.2 hhi
          have inv2 := stp lo (restD p (x, y)) ⟨by grind, Rat.le_refl⟩ (fun _ => ⟨Rat.le_refl, Rat.le_of_lt hhi⟩)
          clear stp hinv j1 j2
          generalize hr : restD p (x, y) = r at *
          generalize r.cmp lo = u1 at *
          generalize r.cmp hi = u2 at *
          generalize p.mul (Dy.int x) = z4 at *
          generalize Dy.int x = z6 at *
          generalize Dy.int y = z7 at *
          repeat' (first | (simp only [go_sem, Int.reduceAdd, Int.reduceEq, Int.reduceLE, Int.reduceLT, Int.reduceMul, Int.reduceNeg, Int.reducePow, Int.reduceSub, Int.reduceToNat, Nat.reduceAdd, Nat.reduceBEq, Nat.reduceEqDiff, Nat.reduceLT, Nat.reduceLeDiff, Nat.reduceMul, Nat.reducePow, Nat.reduceSub, reduceCtorEq, reduceIte, IntKind.bits.eq_def, ti, tin, rws_length, hN, rk]) | (simp (disch := omega) only [w64, wu64, wu32, Nat.min_eq_left]) | (with_reducible first | refine cF (o3) ?_ | refine dF (o3) ?_) | (with_reducible first | refine cF (o4) ?_ | refine dF (o4) ?_) | (with_reducible first | refine cF (m1) ?_ | refine dF (m1) ?_) | (with_reducible first | refine cF (s2) ?_ | refine dF (s2) ?_) | (with_reducible first | refine cF (q1) ?_ | refine dF (q1) ?_) | (with_reducible first | refine cF (q2) ?_ | refine dF (q2) ?_) | (refine aL ti_ok ?_) | (refine dL ti_ok ?_) | (refine dE (by kernel_rfl) ?_) | ((first | refine cC ?_ ?_ | refine gS ?_ ?_ | refine dS ?_ ?_) <;> intro hc <;> first | (exfalso; simp only [dcT, dcF, bnT, bnF, bnU, bnV] at hc; omega) | (simp only [hc]; try simp only [dcT, dcF, bnT, bnF, bnU, bnV] at hc)) | (refine aN (by omega) ?_) | (refine dN (by omega) ?_))
          refine roundEnd_of (α := Nat × Dy × Dy) (k + 1, lo, r) ?_ ?_ ?_
          · exact ⟨by omega, ⟨glo, gr⟩, fun _ => ⟨inv2, i2, ⟨_, hm0, hr.symm⟩⟩⟩
          · show N - (k + 1) < N - k; omega
          · exact byWeak
        ·
          have w2 : ¬ 0 < (restD p (x, y)).cmp hi := fun h => hhi (j2.1 h)
          have inv2 := stp lo hi ⟨by grind, by grind⟩ (fun _ => ⟨Rat.le_refl, Rat.le_refl⟩)
          clear stp hinv j1 j2
          generalize hr : restD p (x, y) = r at *
          generalize r.cmp lo = u1 at *
          generalize r.cmp hi = u2 at *
          generalize p.mul (Dy.int x) = z4 at *
          generalize Dy.int x = z6 at *
          generalize Dy.int y = z7 at *
          repeat' (first | (simp only [go_sem, Int.reduceAdd, Int.reduceEq, Int.reduceLE, Int.reduceLT, Int.reduceMul, Int.reduceNeg, Int.reducePow, Int.reduceSub, Int.reduceToNat, Nat.reduceAdd, Nat.reduceBEq, Nat.reduceEqDiff, Nat.reduceLT, Nat.reduceLeDiff, Nat.reduceMul, Nat.reducePow, Nat.reduceSub, reduceCtorEq, reduceIte, IntKind.bits.eq_def, ti, tin, rws_length, hN, rk]) | (simp (disch := omega) only [w64, wu64, wu32, Nat.min_eq_left]) | (with_reducible first | refine cF (o3) ?_ | refine dF (o3) ?_) | (with_reducible first | refine cF (o4) ?_ | refine dF (o4) ?_) | (with_reducible first | refine cF (m1) ?_ | refine dF (m1) ?_) | (with_reducible first | refine cF (s2) ?_ | refine dF (s2) ?_) | (with_reducible first | refine cF (q1) ?_ | refine dF (q1) ?_) | (with_reducible first | refine cF (q2) ?_ | refine dF (q2) ?_) | (refine aL ti_ok ?_) | (refine dL ti_ok ?_) | (refine dE (by kernel_rfl) ?_) | ((first | refine cC ?_ ?_ | refine gS ?_ ?_ | refine dS ?_ ?_) <;> intro hc <;> first | (exfalso; simp only [dcT, dcF, bnT, bnF, bnU, bnV] at hc; omega) | (simp only [hc]; try simp only [dcT, dcF, bnT, bnF, bnU, bnV] at hc)) | (refine aN (by omega) ?_) | (refine dN (by omega) ?_))
          refine roundEnd_of (α := Nat × Dy × Dy) (k + 1, lo, hi) ?_ ?_ ?_
          · exact ⟨by omega, ⟨glo, ghi⟩, fun _ => ⟨inv2, i2, i3⟩⟩
          · show N - (k + 1) < N - k; omega
          · exact byWeak
  ·
    obtain rfl : k = N := by omega
    obtain ⟨i1, ⟨t1, ht1, rfl⟩, t2, ht2, rfl⟩ := hinv (by omega)
    have a2 := Add_ok _ _ _ _ _ _ _ _ glo.arg ghi.arg
    have k2 := glo.add ghi
    have dd := Dy.d_add (restD p t1) (restD p t2)
    have s3 := Shift_ok _ _ _ (-1) _ k2.arg
    have gq : Mg 501 (((restD p t1).add (restD p t2)).shift (-1)) := (k2.shift (-1)).mono (by decide)
    have dp : p.d ≤ 16 := by
      have q1 := Dy.d_add (oIv slopeF n l).lo grid
      have q2 := (out_d (outOf slopeF n l)).1
      have q3 : (oIv slopeF n l).lo.d ≤ 16 := q2
      have q4 : grid.d ≤ 16 := by decide +kernel
      rw [← hp]; omega
    have hv := half_v (x := (restD p t1).add (restD p t2)) (by have := rest_d (s := t1) dp; have := rest_d (s := t2) dp; omega)
    rw [Dy.v_add] at hv
    have ft := mid_fit (n := n) (l := l) hv (fun s hs => by
      obtain ⟨i, hi⟩ := List.getElem?_of_mem hs
      have hlt := (List.getElem?_eq_some_iff.1 hi).1
      have := i1 i (by omega)
      rw [List.getD, hi] at this
      exact this) (by
      have := sp t1 ht1 t2 ht2
      rw [rest_v, rest_v]; exact this)
    have f1 := id_Fits l n h _ _ _ _ _ _ p _ gp.arg gq.arg (gp.mono (by omega)) (gq.mono (by omega))
    rw [decide_eq_true ft] at f1
    clear i1 ft hv dp gq k2 hinv rest_mg sp
    generalize ((restD p t1).add (restD p t2)).shift (-1) = y1 at *
    generalize (restD p t1).add (restD p t2) = y2 at *
    generalize restD p t1 = y3 at *
    generalize restD p t2 = y4 at *
    repeat' (first | (simp only [go_sem, Int.reduceAdd, Int.reduceEq, Int.reduceLE, Int.reduceLT, Int.reduceMul, Int.reduceNeg, Int.reducePow, Int.reduceSub, Int.reduceToNat, Nat.reduceAdd, Nat.reduceBEq, Nat.reduceEqDiff, Nat.reduceLT, Nat.reduceLeDiff, Nat.reduceMul, Nat.reducePow, Nat.reduceSub, reduceCtorEq, reduceIte, IntKind.bits.eq_def, ti, tin, rws_length, hN]) | (simp (disch := omega) only [w64, wu64, wu32, Nat.min_eq_left]) | (with_reducible first | refine cF (a2) ?_ | refine dF (a2) ?_) | (with_reducible first | refine cF (s3) ?_ | refine dF (s3) ?_) | (with_reducible first | refine cF (f1) ?_ | refine dF (f1) ?_) | (refine aL ti_ok ?_) | (refine dL ti_ok ?_) | (refine dE (by kernel_rfl) ?_) | ((first | refine cC ?_ ?_ | refine gS ?_ ?_ | refine dS ?_ ?_) <;> intro hc <;> first | (exfalso; simp only [dcT, dcF, bnT, bnF, bnU, bnV] at hc; omega) | (simp only [hc]; try simp only [dcT, dcF, bnT, bnF, bnU, bnV] at hc)) | (refine aN (by omega) ?_) | (refine dN (by omega) ?_))
    all_goals exact fin_same trivial rfl
theorem suits_law (r : List (List AV)) (n : Int) (m1 : r.length ≤ maxLen) (f1 : ∀ x ∈ r, FitL [.int .i64, .int .i64] x) : CallOK Tryz.prog gl 11 [.sl 2 r, .v (.int .i64 n)] (.v (.bool true)) := by
  unfold maxLen at *
  obtain ⟨l, b1, rfl, z1⟩ := fit_prows f1
  by_cases h : ckS l n ≠ 0 ∨ 8 < l.length
  · exact suits_out l n (by omega) h
  · have h1 : ckS l n = 0 := by omega
    have h2 : l.length ≤ 8 := by omega
    rcases oErr_cases slopeF n l with he | he | he
    · by_cases hc : 0 ≤ ((oIv slopeF n l).lo.add ((Dy.int 1).shift (-16))).cmp (oIv slopeF n l).hi
      · exact suits_end l n h1 h2 he hc
      · exact suits_ok l n h1 h2 he (by omega)
    · exact suits_err l n h1 h2 (.inl he)
    · exact suits_err l n h1 h2 (.inr he)
end Go.Proofs.YtkdpaoicekgalaaGreatDoor
