/- The statement IdentifyTight: its code returns true. -/
import Derived.Test.YtkdpaoicekgalaaDoorL49
set_option linter.unusedSimpArgs false
set_option linter.unusedVariables false
set_option linter.deprecated false
namespace Go.Proofs.YtkdpaoicekgalaaDoor
open Go Go.Ax
set_option maxRecDepth 100000
set_option maxHeartbeats 4000000

theorem tight_out (l : List (Int × Int)) (n : Int) (hl : l.length ≤ 9223372036854775807) (h : ckS l n ≠ 0 ∨ 12 < l.length) : CallOK Tryd.prog gl 6 [.sl 2 (rws prow l), .v (.int .i64 n)] (.v (.bool (true))) := by
  refine call_ok (C := ⟨Tryd.prog, gl, ti, 122, false⟩) ti_ok mixed 3000 Tryd.call6 Tryd.func6 rfl Tryd.ntmps6 (by simp) byClL byCl ?_
  rw [Tryd.results6]
  have c1 := r49_Check l n hl
  by_cases h1 : ckS l n = 0
  · have h2 : 12 < l.length := h.resolve_left (fun hh => hh h1)
    rw [h1] at c1
    clear h
    repeat' (first | (simp only [go_sem, Int.reduceAdd, Int.reduceEq, Int.reduceLE, Int.reduceLT, Int.reduceMul, Int.reduceNeg, Int.reducePow, Int.reduceSub, Int.reduceToNat, Nat.reduceAdd, Nat.reduceBEq, Nat.reduceEqDiff, Nat.reduceLT, Nat.reduceLeDiff, Nat.reduceMul, Nat.reducePow, Nat.reduceSub, reduceCtorEq, reduceIte, IntKind.bits.eq_def, ti, tin, rws_length]) | (simp (disch := omega) only [w64, wu64, wu32, Nat.min_eq_left]) | (with_reducible first | refine callF_of (awake49) ?_ | refine drawF_of (awake49) ?_) | (with_reducible first | refine callF_of (c1) ?_ | refine drawF_of (c1) ?_) | (refine after_lit ti_ok ?_) | (refine drawAfter_lit ti_ok ?_) | (refine drawEnd_of (by kernel_rfl) ?_) | ((first | refine cond_cases (fun hc => ?_) (fun hc => ?_) | refine guard_split (fun hc => ?_) (fun hc => ?_) | refine drawGuard_split (fun hc => ?_) (fun hc => ?_)) <;> first | (exfalso; simp only [dcT, dcF, bnT, bnF, bnU, bnV] at hc; omega) | (simp only [hc]; try simp only [dcT, dcF, bnT, bnF, bnU, bnV] at hc)) | (refine after_need (by omega) ?_) | (refine drawAfter_need (by omega) ?_))
    all_goals exact fin_same trivial rfl
  · clear h
    generalize ckS l n = e at *
    repeat' (first | (simp only [go_sem, Int.reduceAdd, Int.reduceEq, Int.reduceLE, Int.reduceLT, Int.reduceMul, Int.reduceNeg, Int.reducePow, Int.reduceSub, Int.reduceToNat, Nat.reduceAdd, Nat.reduceBEq, Nat.reduceEqDiff, Nat.reduceLT, Nat.reduceLeDiff, Nat.reduceMul, Nat.reducePow, Nat.reduceSub, reduceCtorEq, reduceIte, IntKind.bits.eq_def, ti, tin, rws_length]) | (simp (disch := omega) only [w64, wu64, wu32, Nat.min_eq_left]) | (with_reducible first | refine callF_of (awake49) ?_ | refine drawF_of (awake49) ?_) | (with_reducible first | refine callF_of (c1) ?_ | refine drawF_of (c1) ?_) | (refine after_lit ti_ok ?_) | (refine drawAfter_lit ti_ok ?_) | (refine drawEnd_of (by kernel_rfl) ?_) | ((first | refine cond_cases (fun hc => ?_) (fun hc => ?_) | refine guard_split (fun hc => ?_) (fun hc => ?_) | refine drawGuard_split (fun hc => ?_) (fun hc => ?_)) <;> first | (exfalso; simp only [dcT, dcF, bnT, bnF, bnU, bnV] at hc; omega) | (simp only [hc]; try simp only [dcT, dcF, bnT, bnF, bnU, bnV] at hc)) | (refine after_need (by omega) ?_) | (refine drawAfter_need (by omega) ?_))
    all_goals exact fin_same trivial rfl
theorem tight_err (l : List (Int × Int)) (n : Int) (h : ckS l n = 0) (hl : l.length ≤ 12) (he : oErr gainF n l = 22 ∨ oErr gainF n l = 23) : CallOK Tryd.prog gl 6 [.sl 2 (rws prow l), .v (.int .i64 n)] (.v (.bool (true))) := by
  refine call_ok (C := ⟨Tryd.prog, gl, ti, 122, false⟩) ti_ok mixed 3000 Tryd.call6 Tryd.func6 rfl Tryd.ntmps6 (by simp) byClL byCl ?_
  rw [Tryd.results6]
  have c1 := r49_Check l n (by omega)
  rw [h] at c1
  have g1 := id_GainI l n h
  have i1 := is_err (oErr gainF n l) 23 (by decide)
  have i2 := is_err (oErr gainF n l) 22 (by decide)
  generalize oIv gainF n l = a at *
  generalize oErr gainF n l = e at *
  rcases he with rfl | rfl
  ·
    rw [eV_ne (by decide)] at g1 i1 i2
    rw [decide_eq_false (by decide)] at i1
    rw [decide_eq_true rfl] at i2
    repeat' (first | (simp only [go_sem, Int.reduceAdd, Int.reduceEq, Int.reduceLE, Int.reduceLT, Int.reduceMul, Int.reduceNeg, Int.reducePow, Int.reduceSub, Int.reduceToNat, Nat.reduceAdd, Nat.reduceBEq, Nat.reduceEqDiff, Nat.reduceLT, Nat.reduceLeDiff, Nat.reduceMul, Nat.reducePow, Nat.reduceSub, reduceCtorEq, reduceIte, IntKind.bits.eq_def, ti, tin, rws_length]) | (simp (disch := omega) only [w64, wu64, wu32, Nat.min_eq_left]) | (with_reducible first | refine callF_of (awake49) ?_ | refine drawF_of (awake49) ?_) | (with_reducible first | refine callF_of (c1) ?_ | refine drawF_of (c1) ?_) | (with_reducible first | refine callF_of (g1) ?_ | refine drawF_of (g1) ?_) | (with_reducible first | refine callF_of (i1) ?_ | refine drawF_of (i1) ?_) | (with_reducible first | refine callF_of (i2) ?_ | refine drawF_of (i2) ?_) | (refine after_lit ti_ok ?_) | (refine drawAfter_lit ti_ok ?_) | (refine drawEnd_of (by kernel_rfl) ?_) | ((first | refine cond_cases (fun hc => ?_) (fun hc => ?_) | refine guard_split (fun hc => ?_) (fun hc => ?_) | refine drawGuard_split (fun hc => ?_) (fun hc => ?_)) <;> first | (exfalso; simp only [dcT, dcF, bnT, bnF, bnU, bnV] at hc; omega) | (simp only [hc]; try simp only [dcT, dcF, bnT, bnF, bnU, bnV] at hc)) | (refine after_need (by omega) ?_) | (refine drawAfter_need (by omega) ?_))
    all_goals exact fin_same trivial rfl
  ·
    rw [eV_ne (by decide)] at g1 i1 i2
    rw [decide_eq_true rfl] at i1
    rw [decide_eq_false (by decide)] at i2
    repeat' (first | (simp only [go_sem, Int.reduceAdd, Int.reduceEq, Int.reduceLE, Int.reduceLT, Int.reduceMul, Int.reduceNeg, Int.reducePow, Int.reduceSub, Int.reduceToNat, Nat.reduceAdd, Nat.reduceBEq, Nat.reduceEqDiff, Nat.reduceLT, Nat.reduceLeDiff, Nat.reduceMul, Nat.reducePow, Nat.reduceSub, reduceCtorEq, reduceIte, IntKind.bits.eq_def, ti, tin, rws_length]) | (simp (disch := omega) only [w64, wu64, wu32, Nat.min_eq_left]) | (with_reducible first | refine callF_of (awake49) ?_ | refine drawF_of (awake49) ?_) | (with_reducible first | refine callF_of (c1) ?_ | refine drawF_of (c1) ?_) | (with_reducible first | refine callF_of (g1) ?_ | refine drawF_of (g1) ?_) | (with_reducible first | refine callF_of (i1) ?_ | refine drawF_of (i1) ?_) | (with_reducible first | refine callF_of (i2) ?_ | refine drawF_of (i2) ?_) | (refine after_lit ti_ok ?_) | (refine drawAfter_lit ti_ok ?_) | (refine drawEnd_of (by kernel_rfl) ?_) | ((first | refine cond_cases (fun hc => ?_) (fun hc => ?_) | refine guard_split (fun hc => ?_) (fun hc => ?_) | refine drawGuard_split (fun hc => ?_) (fun hc => ?_)) <;> first | (exfalso; simp only [dcT, dcF, bnT, bnF, bnU, bnV] at hc; omega) | (simp only [hc]; try simp only [dcT, dcF, bnT, bnF, bnU, bnV] at hc)) | (refine after_need (by omega) ?_) | (refine drawAfter_need (by omega) ?_))
    all_goals exact fin_same trivial rfl
def grid : Dy := (Dy.int 1).shift (-16)
theorem grid_v : grid.v = 1 / 2 ^ 16 := by
  unfold grid
  have := v_shift_neg (x := Dy.int 1) (j := 16) (by decide)
  rw [show (-((16 : Nat) : Int)) = -16 from rfl] at this
  rw [this, Dy.v_int]; rfl
theorem grid_mg : Mg 64 grid := by
  have h := grid_v
  have hp := p2pos 64
  unfold Mg
  rw [h]
  constructor <;> grind
theorem tight_ok (l : List (Int × Int)) (n : Int) (h : ckS l n = 0) (hl : l.length ≤ 12) (he : oErr gainF n l = 0) : CallOK Tryd.prog gl 6 [.sl 2 (rws prow l), .v (.int .i64 n)] (.v (.bool (true))) := by
  refine call_ok (C := ⟨Tryd.prog, gl, ti, 122, false⟩) ti_ok mixed 3000 Tryd.call6 Tryd.func6 rfl Tryd.ntmps6 (by simp) byClL byCl ?_
  rw [Tryd.results6]
  have c1 := r49_Check l n (by omega)
  rw [h] at c1
  have g1 := id_GainI l n h
  have gm := mg_Gain h
  have nx := out_next (outOf_ok gainF n l) he
  rw [he, eV_zero] at g1
  have key : ∀ p : Dy, (p.v < (oIv gainF n l).lo.v → ¬ fitAll p Dy.zero n l) ∧ ((oIv gainF n l).hi.v < p.v → ¬ fitAll p Dy.zero n l) ∧ ((oIv gainF n l).lo.v + 1 / 2 ^ 16 ≤ p.v → p.v ≤ (oIv gainF n l).hi.v - 1 / 2 ^ 16 → fitAll p Dy.zero n l) := fun p =>
    ⟨fun hp hf => nx.1 p.v hp ((gain_fit p n l).2 hf), fun hp hf => nx.2.1 p.v hp ((gain_fit p n l).2 hf), fun h1 h2 => (gain_fit p n l).1 (nx.2.2 p.v h1 h2)⟩
  clear nx he
  generalize oIv gainF n l = a at *
  have o1 := Of_ok 1 (by omega)
  have s1 := Shift_ok _ _ _ (-16) _ (Arg.of (mg_i64 (n := 1) (by omega)) (by omega))
  change CallOK _ _ _ _ (.agg [.v (.bool (sg grid)), .sl 1 (u32s (ms grid)), .v (.int .i64 (dn grid))]) at s1
  have gv := grid_v
  have gg := grid_mg
  have hp16 : (0 : Rat) < 1 / 2 ^ 16 := by decide +kernel
  generalize (1 : Rat) / 2 ^ 16 = r at *
  have ga := gg.mono (show 64 ≤ 201 by omega)
  have a1 := Add_ok _ _ _ _ _ _ _ _ gm.1.arg gg.arg
  have a2 := Sub_ok _ _ _ _ _ _ _ _ gm.2.arg gg.arg
  have a3 := Sub_ok _ _ _ _ _ _ _ _ gm.1.arg gg.arg
  have a4 := Add_ok _ _ _ _ _ _ _ _ gm.2.arg gg.arg
  have k1 := gm.1.add ga
  have k2 := gm.2.sub ga
  have k3 := gm.1.sub ga
  have k4 := gm.2.add ga
  have v1 := Dy.v_add a.lo grid
  have v2 := Dy.v_sub a.hi grid
  have v3 := Dy.v_sub a.lo grid
  have v4 := Dy.v_add a.hi grid
  rw [gv] at v1 v2 v3 v4
  have f1 := id_Fits0 l n h (a.lo.add grid) (k1.mono (by omega))
  have f2 := id_Fits0 l n h (a.hi.sub grid) (k2.mono (by omega))
  have f3 := id_Fits0 l n h (a.lo.sub grid) (k3.mono (by omega))
  have f4 := id_Fits0 l n h (a.hi.add grid) (k4.mono (by omega))
  rw [decide_eq_false ((key _).1 (by rw [v3]; grind))] at f3
  rw [decide_eq_false ((key _).2.1 (by rw [v4]; grind))] at f4
  have c2 := Cmp_ok _ _ _ _ _ _ _ _ k1.arg k2.arg
  have q2 := cmp_gt (a.lo.add grid) (a.hi.sub grid)
  by_cases hc0 : (a.hi.sub grid).v < (a.lo.add grid).v
  ·
    have q3 := q2.2 hc0
    clear q2 v1 v2 v3 v4 k1 k2 k3 k4 hc0 key f1 f2
    generalize (a.lo.add grid).cmp (a.hi.sub grid) = m at *
    generalize a.lo.add grid = z1 at *
    generalize a.hi.sub grid = z2 at *
    generalize a.lo.sub grid = z3 at *
    generalize a.hi.add grid = z4 at *
    generalize grid = z5 at *
    repeat' (first | (simp only [go_sem, Int.reduceAdd, Int.reduceEq, Int.reduceLE, Int.reduceLT, Int.reduceMul, Int.reduceNeg, Int.reducePow, Int.reduceSub, Int.reduceToNat, Nat.reduceAdd, Nat.reduceBEq, Nat.reduceEqDiff, Nat.reduceLT, Nat.reduceLeDiff, Nat.reduceMul, Nat.reducePow, Nat.reduceSub, reduceCtorEq, reduceIte, IntKind.bits.eq_def, ti, tin, rws_length]) | (simp (disch := omega) only [w64, wu64, wu32, Nat.min_eq_left]) | (with_reducible first | refine callF_of (awake49) ?_ | refine drawF_of (awake49) ?_) | (with_reducible first | refine callF_of (c1) ?_ | refine drawF_of (c1) ?_) | (with_reducible first | refine callF_of (g1) ?_ | refine drawF_of (g1) ?_) | (with_reducible first | refine callF_of (o1) ?_ | refine drawF_of (o1) ?_) | (with_reducible first | refine callF_of (s1) ?_ | refine drawF_of (s1) ?_) | (with_reducible first | refine callF_of (a1) ?_ | refine drawF_of (a1) ?_) | (with_reducible first | refine callF_of (a2) ?_ | refine drawF_of (a2) ?_) | (with_reducible first | refine callF_of (a3) ?_ | refine drawF_of (a3) ?_) | (with_reducible first | refine callF_of (a4) ?_ | refine drawF_of (a4) ?_) | (with_reducible first | refine callF_of (f3) ?_ | refine drawF_of (f3) ?_) | (with_reducible first | refine callF_of (f4) ?_ | refine drawF_of (f4) ?_) | (with_reducible first | refine callF_of (c2) ?_ | refine drawF_of (c2) ?_) | (refine after_lit ti_ok ?_) | (refine drawAfter_lit ti_ok ?_) | (refine drawEnd_of (by kernel_rfl) ?_) | ((first | refine cond_cases (fun hc => ?_) (fun hc => ?_) | refine guard_split (fun hc => ?_) (fun hc => ?_) | refine drawGuard_split (fun hc => ?_) (fun hc => ?_)) <;> first | (exfalso; simp only [dcT, dcF, bnT, bnF, bnU, bnV] at hc; omega) | (simp only [hc]; try simp only [dcT, dcF, bnT, bnF, bnU, bnV] at hc)) | (refine after_need (by omega) ?_) | (refine drawAfter_need (by omega) ?_))
    all_goals exact fin_same trivial rfl
  ·
    have q3 : ¬ 0 < (a.lo.add grid).cmp (a.hi.sub grid) := fun h => hc0 (q2.1 h)
    rw [decide_eq_true ((key _).2.2 (by rw [v1]; grind) (by rw [v1]; grind))] at f1
    rw [decide_eq_true ((key _).2.2 (by rw [v2]; grind) (by rw [v2]; grind))] at f2
    clear q2 v1 v2 v3 v4 k1 k2 k3 k4 hc0 key
    generalize (a.lo.add grid).cmp (a.hi.sub grid) = m at *
    generalize a.lo.add grid = z1 at *
    generalize a.hi.sub grid = z2 at *
    generalize a.lo.sub grid = z3 at *
    generalize a.hi.add grid = z4 at *
    generalize grid = z5 at *
    repeat' (first | (simp only [go_sem, Int.reduceAdd, Int.reduceEq, Int.reduceLE, Int.reduceLT, Int.reduceMul, Int.reduceNeg, Int.reducePow, Int.reduceSub, Int.reduceToNat, Nat.reduceAdd, Nat.reduceBEq, Nat.reduceEqDiff, Nat.reduceLT, Nat.reduceLeDiff, Nat.reduceMul, Nat.reducePow, Nat.reduceSub, reduceCtorEq, reduceIte, IntKind.bits.eq_def, ti, tin, rws_length]) | (simp (disch := omega) only [w64, wu64, wu32, Nat.min_eq_left]) | (with_reducible first | refine callF_of (awake49) ?_ | refine drawF_of (awake49) ?_) | (with_reducible first | refine callF_of (c1) ?_ | refine drawF_of (c1) ?_) | (with_reducible first | refine callF_of (g1) ?_ | refine drawF_of (g1) ?_) | (with_reducible first | refine callF_of (o1) ?_ | refine drawF_of (o1) ?_) | (with_reducible first | refine callF_of (s1) ?_ | refine drawF_of (s1) ?_) | (with_reducible first | refine callF_of (a1) ?_ | refine drawF_of (a1) ?_) | (with_reducible first | refine callF_of (a2) ?_ | refine drawF_of (a2) ?_) | (with_reducible first | refine callF_of (a3) ?_ | refine drawF_of (a3) ?_) | (with_reducible first | refine callF_of (a4) ?_ | refine drawF_of (a4) ?_) | (with_reducible first | refine callF_of (f1) ?_ | refine drawF_of (f1) ?_) | (with_reducible first | refine callF_of (f2) ?_ | refine drawF_of (f2) ?_) | (with_reducible first | refine callF_of (f3) ?_ | refine drawF_of (f3) ?_) | (with_reducible first | refine callF_of (f4) ?_ | refine drawF_of (f4) ?_) | (with_reducible first | refine callF_of (c2) ?_ | refine drawF_of (c2) ?_) | (refine after_lit ti_ok ?_) | (refine drawAfter_lit ti_ok ?_) | (refine drawEnd_of (by kernel_rfl) ?_) | ((first | refine cond_cases (fun hc => ?_) (fun hc => ?_) | refine guard_split (fun hc => ?_) (fun hc => ?_) | refine drawGuard_split (fun hc => ?_) (fun hc => ?_)) <;> first | (exfalso; simp only [dcT, dcF, bnT, bnF, bnU, bnV] at hc; omega) | (simp only [hc]; try simp only [dcT, dcF, bnT, bnF, bnU, bnV] at hc)) | (refine after_need (by omega) ?_) | (refine drawAfter_need (by omega) ?_))
    all_goals exact fin_same trivial rfl
theorem tight_law (r : List (List AV)) (n : Int) (m1 : r.length ≤ maxLen) (f1 : ∀ x ∈ r, FitL [.int .i64, .int .i64] x) : CallOK Tryd.prog gl 6 [.sl 2 r, .v (.int .i64 n)] (.v (.bool true)) := by
  unfold maxLen at *
  obtain ⟨l, b1, rfl, z1⟩ := fit_prows f1
  by_cases h : ckS l n ≠ 0 ∨ 12 < l.length
  · exact tight_out l n (by omega) h
  · have h1 : ckS l n = 0 := by omega
    have h2 : l.length ≤ 12 := by omega
    rcases oErr_cases gainF n l with he | he | he
    · exact tight_ok l n h1 h2 he
    · exact tight_err l n h1 h2 (.inl he)
    · exact tight_err l n h1 h2 (.inr he)
end Go.Proofs.YtkdpaoicekgalaaDoor
