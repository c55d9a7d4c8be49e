/- Layer 38 (servo): Model, at arguments that are in range. -/
import Derived.Test.YtfoadddlmehpnaaDoorMod38c
set_option linter.unusedSimpArgs false
set_option linter.unusedVariables false
set_option linter.deprecated false
namespace Go.Proofs.YtfoadddlmehpnaaDoor
open Go Go.Ax
set_option maxRecDepth 100000
set_option maxHeartbeats 8000000

theorem sv_Model (kv sh kp ki lo hi gn dv ds : Int) (h : ¬ svBad kv sh kp ki lo hi) (h2 : ¬ mdBad gn dv ds) (g hh k a b : Dy) (eg : nrm gn 16 = g) (eh : nrm dv 16 = hh) (ek : nrm kv 12 = k) (ea : nrm (kp + ki) (12 + sh).toNat = a) (eb : nrm ki (12 + sh).toNat = b) : CallOK Tryd.prog gl 28 [.agg [.v (.int .i64 kv), .v (.int .i64 sh), .v (.int .i64 kp), .v (.int .i64 ki), .v (.int .i64 lo), .v (.int .i64 hi)], .v (.int .i64 gn), .v (.int .i64 dv), .v (.int .i64 ds)] (.tup [.agg [.sl 1 (mrows (cM (m38A g a b k))), .sl 1 (mrows (cM (m38D hh a k))), .sl 3 (vrows ((m38W g hh a b sh ds).map can))], .v .nilIface]) := by
  refine call_ok (C := ⟨Tryd.prog, gl, ti, 144, false⟩) ti_ok mixed 3000 Tryd.call28 Tryd.func28 rfl Tryd.ntmps28 (by simp) byClL byCl ?_
  rw [Tryd.results28]
  have ck := servo_Check _ _ _ _ _ _ h
  unfold svBad piBad at h
  unfold mdBad at h2
  have gg : Mg 64 g := by rw [← eg]; exact mg_make (by omega)
  have gh : Mg 64 hh := by rw [← eh]; exact mg_make (by omega)
  have gk : Mg 64 k := by rw [← ek]; exact mg_make (by omega)
  have ga : Mg 64 a := by rw [← ea]; exact mg_make (by omega)
  have gb : Mg 64 b := by rw [← eb]; exact mg_make (by omega)
  have g1 : Mg 64 (Dy.int 1) := Mg.int (by decide)
  have u {x : Dy} (q : Mg 64 x) : Mg 128 x := q.mono (by omega)
  have p1 := sv_part gn 16 (by omega) (by omega)
  have p2 := sv_part dv 16 (by omega) (by omega)
  have p3 := sv_part kv 12 (by omega) (by omega)
  have p4 := sv_part (kp + ki) (12 + sh).toNat (by omega) (by omega)
  have p5 := sv_part ki (12 + sh).toNat (by omega) (by omega)
  rw [show ((16 : Nat) : Int) = 16 from rfl, eg] at p1
  rw [show ((16 : Nat) : Int) = 16 from rfl, eh] at p2
  rw [show ((12 : Nat) : Int) = 12 from rfl, ek] at p3
  rw [show (((12 + sh).toNat : Nat) : Int) = 12 + sh by omega, ea] at p4
  rw [show (((12 + sh).toNat : Nat) : Int) = 12 + sh by omega, eb] at p5
  have o1 := Of_ok 1 (by omega)
  have q1 := svt3 g a k (u gg) (u ga) (u gk)
  have q2 := svt2 g a (u gg) (u ga)
  have q3 := svt1 g (u gg)
  have q4 := svt2 b k (u gb) (u gk)
  have m1 := mg_t3 (u gg) (u ga) (u gk)
  have m2 := mg_t2 (u gg) (u ga)
  have m4 := mg_t2 (u gb) (u gk)
  have l1 := sv_less _ _ m1 g1
  have l2 := sv_less _ _ m2 g1
  have n1 := Neg_ok _ _ _ _ m1.arg
  have n4 := Neg_ok _ _ _ _ m4.arg
  have nb := Neg_ok _ _ _ _ gb.arg
  have lo1 := sv_loose hh a k (u gh) (u ga) (u gk)
  have pu := sv_push a g hh kv sh kp ki lo hi ds ga gg gh (by omega) (by omega)
  have sb := Shift_ok _ _ _ (sh + 1) _ (gb.arg)
  rw [tms1] at lo1
  have RES : mrows (cM (m38A g a b k)) = [[.sl 3 [crow ((Dy.int 1).sub (tms [g, a, k])), crow ((Dy.int 1).sub (tms [g, a])), crow g]], [.sl 3 [crow (tms [g, a, k]).neg, crow ((Dy.int 1).sub (tms [g, a])), crow g]], [.sl 3 [crow (tms [b, k]).neg, crow b.neg, crow (Dy.int 1)]]] := rfl
  have RES2 : vrows ((m38W g hh a b sh ds).map can) = [crow (m38w g hh a sh ds), crow (m38w g hh a sh ds), crow (b.shift (sh + 1))] := rfl
  have RES3 : mrows (cM (m38D hh a k)) = [[.sl 3 (vrows ([tms [hh, a, k], tms [hh, a], hh].map can))], [.sl 3 (vrows ([tms [hh, a, k], tms [hh, a], hh].map can))], [.sl 3 [vrow (can Dy.zero), vrow (can Dy.zero), vrow (can Dy.zero)]]] := rfl
  rw [RES, RES2, RES3]
  clear RES RES2 RES3 m1 m2 m4 gg gh gk ga gb g1 u eg eh ek ea eb
  generalize vrows ([tms [hh, a, k], tms [hh, a], hh].map can) = V at *
  generalize m38w g hh a sh ds = w at *
  generalize b.shift (sh + 1) = bs at *
  generalize b.neg = bn at *
  generalize (tms [b, k]).neg = x1 at *
  generalize tms [b, k] = x2 at *
  generalize (Dy.int 1).sub (tms [g, a, k]) = x3 at *
  generalize (tms [g, a, k]).neg = x4 at *
  generalize tms [g, a, k] = x5 at *
  generalize (Dy.int 1).sub (tms [g, a]) = x6 at *
  generalize tms [g, a] = x7 at *
  generalize Dy.int 1 = x8 at *
  unfold crow at q1 q2 q3 q4 ⊢
  repeat' (first
    | (simp only [go_sem, Int.reduceAdd, Int.reduceEq, Int.reduceLE, Int.reduceLT, Int.reduceMul, Int.reduceNeg, Int.reducePow, Int.reduceSub, Int.reduceToNat, Nat.reduceAdd, Nat.reduceBEq, Nat.reduceEqDiff, Nat.reduceLT, Nat.reduceLeDiff, Nat.reduceMul, Nat.reducePow, Nat.reduceSub, reduceCtorEq, reduceIte, IntKind.bits.eq_def, ti, tin])
    | (simp (disch := omega) only [w64, wu64, wu32, Nat.min_eq_left])
    | (with_reducible refine callF_of (ck) ?_)
    | (with_reducible refine drawF_of (ck) ?_)
    | (with_reducible refine callF_of (p1) ?_)
    | (with_reducible refine drawF_of (p1) ?_)
    | (with_reducible refine callF_of (p2) ?_)
    | (with_reducible refine drawF_of (p2) ?_)
    | (with_reducible refine callF_of (p3) ?_)
    | (with_reducible refine drawF_of (p3) ?_)
    | (with_reducible refine callF_of (p4) ?_)
    | (with_reducible refine drawF_of (p4) ?_)
    | (with_reducible refine callF_of (p5) ?_)
    | (with_reducible refine drawF_of (p5) ?_)
    | (with_reducible refine callF_of (o1) ?_)
    | (with_reducible refine drawF_of (o1) ?_)
    | (with_reducible refine callF_of (q1) ?_)
    | (with_reducible refine drawF_of (q1) ?_)
    | (with_reducible refine callF_of (q2) ?_)
    | (with_reducible refine drawF_of (q2) ?_)
    | (with_reducible refine callF_of (q3) ?_)
    | (with_reducible refine drawF_of (q3) ?_)
    | (with_reducible refine callF_of (q4) ?_)
    | (with_reducible refine drawF_of (q4) ?_)
    | (with_reducible refine callF_of (l1) ?_)
    | (with_reducible refine drawF_of (l1) ?_)
    | (with_reducible refine callF_of (l2) ?_)
    | (with_reducible refine drawF_of (l2) ?_)
    | (with_reducible refine callF_of (n1) ?_)
    | (with_reducible refine drawF_of (n1) ?_)
    | (with_reducible refine callF_of (n4) ?_)
    | (with_reducible refine drawF_of (n4) ?_)
    | (with_reducible refine callF_of (nb) ?_)
    | (with_reducible refine drawF_of (nb) ?_)
    | (with_reducible refine callF_of (lo1) ?_)
    | (with_reducible refine drawF_of (lo1) ?_)
    | (with_reducible refine callF_of (pu) ?_)
    | (with_reducible refine drawF_of (pu) ?_)
    | (with_reducible refine callF_of (sb) ?_)
    | (with_reducible refine drawF_of (sb) ?_)
    | (refine after_thaws ti_ok [38] (by (repeat' (first | exact trivial | exact fun _ => ⟨rfl, Nat.le_of_ble_eq_true rfl⟩ | exact fun h => absurd h (by decide) | refine And.intro ?_ ?_))) rfl rfl trivial ?_)
    | (refine after_thaws ti_ok [11, 34, 12] (by (repeat' (first | exact trivial | exact fun _ => ⟨rfl, Nat.le_of_ble_eq_true rfl⟩ | exact fun h => absurd h (by decide) | refine And.intro ?_ ?_))) rfl rfl trivial ?_)
    | (refine after_thaws ti_ok [0, 10, 1] (by (repeat' (first | exact trivial | exact fun _ => ⟨rfl, Nat.le_of_ble_eq_true rfl⟩ | exact fun h => absurd h (by decide) | refine And.intro ?_ ?_))) rfl rfl trivial ?_)
    | (refine after_lit ti_ok ?_)
    | (refine drawAfter_lit ti_ok ?_)
    | (refine drawEnd_of (by kernel_rfl) ?_)
    | ((first | refine cond_cases (fun hc => ?_) (fun hc => ?_) | refine guard_split (fun hc => ?_) (fun hc => ?_) | refine drawGuard_split (fun hc => ?_) (fun hc => ?_)) <;> first | (exfalso; simp only [decide_eq_true_eq, decide_eq_false_iff_not, Bool.not_eq_true, Bool.not_eq_false, Bool.not_eq_true', Bool.not_eq_false'] at hc; omega) | (simp only [hc]; try simp only [decide_eq_true_eq, decide_eq_false_iff_not, Bool.not_eq_true, Bool.not_eq_false, Bool.not_eq_true', Bool.not_eq_false'] at hc))
    | (refine after_need (by omega) ?_)
    | (refine drawAfter_need (by omega) ?_))
  exact fin_pub trivial (.tup (.cons (.agg (.cons .same (.cons (.sl (.cons (.cons .same .nil) (.cons (.cons .same .nil) (.cons (.cons (.ps rfl rfl (by decide)) .nil) .nil)))) (.cons .same .nil)))) (.cons (.one .same) .nil)))
    (Le.tup (.cons (Le.agg (.cons (Le.of_eq rfl) (.cons (Le.sl (.cons (.refl _) (.cons (.refl _) (.cons (.cons (Le.sl (.cons dyz (.cons dyz (.cons dyz .nil)))) .nil) .nil)))) (.cons (Le.of_eq rfl) .nil)))) (.cons (.refl _) .nil)))
theorem ref38_Model (kv sh kp ki lo hi gn dv ds : Int) (h : ¬ svBad kv sh kp ki lo hi) (h2 : ¬ mdBad gn dv ds) (g hh k a b : Dy) (eg : nrm gn 16 = g) (eh : nrm dv 16 = hh) (ek : nrm kv 12 = k) (ea : nrm (kp + ki) (12 + sh).toNat = a) (eb : nrm ki (12 + sh).toNat = b) : CallOK Tryd.prog gl 29 [.agg [.v (.int .i64 kv), .v (.int .i64 sh), .v (.int .i64 kp), .v (.int .i64 ki), .v (.int .i64 lo), .v (.int .i64 hi)], .v (.int .i64 gn), .v (.int .i64 dv), .v (.int .i64 ds)] (.tup [.agg [.sl 1 (mrows (cM (m38A g a b k))), .sl 1 (mrows (cM (m38D hh a k))), .sl 3 (vrows ((m38W g hh a b sh ds).map can))], .v (.int .i64 0)]) := by
  refine call_ok (C := ⟨Tryd.prog, gl, ti, 167, false⟩) ti_ok mixed 3000 Tryd.call29 Tryd.func29 rfl Tryd.ntmps29 (by simp) byClL byCl ?_
  rw [Tryd.results29]
  have ck := ref38_Check _ _ _ _ _ _ h
  unfold svBad piBad at h
  unfold mdBad at h2
  have gg : Mg 64 g := by rw [← eg]; exact mg_make (by omega)
  have gh : Mg 64 hh := by rw [← eh]; exact mg_make (by omega)
  have gk : Mg 64 k := by rw [← ek]; exact mg_make (by omega)
  have ga : Mg 64 a := by rw [← ea]; exact mg_make (by omega)
  have gb : Mg 64 b := by rw [← eb]; exact mg_make (by omega)
  have g1 : Mg 64 (Dy.int 1) := Mg.int (by decide)
  have u {x : Dy} (q : Mg 64 x) : Mg 128 x := q.mono (by omega)
  have p1 := ref38_scaled gn 16 (by omega) (by omega)
  have p2 := ref38_scaled dv 16 (by omega) (by omega)
  have p3 := ref38_scaled kv 12 (by omega) (by omega)
  have p4 := ref38_scaled (kp + ki) (12 + sh).toNat (by omega) (by omega)
  have p5 := ref38_scaled ki (12 + sh).toNat (by omega) (by omega)
  rw [show ((16 : Nat) : Int) = 16 from rfl, eg] at p1
  rw [show ((16 : Nat) : Int) = 16 from rfl, eh] at p2
  rw [show ((12 : Nat) : Int) = 12 from rfl, ek] at p3
  rw [show (((12 + sh).toNat : Nat) : Int) = 12 + sh by omega, ea] at p4
  rw [show (((12 + sh).toNat : Nat) : Int) = 12 + sh by omega, eb] at p5
  have hp : 1 ≤ (2 : Int) ^ sh.toNat ∧ (2 : Int) ^ sh.toNat ≤ 1073741824 := by
    obtain ⟨n, rfl⟩ : ∃ n : Nat, sh = n := ⟨sh.toNat, by omega⟩
    have h1 := Nat.pow_le_pow_right (show 1 ≤ 2 by omega) (show n ≤ 30 by omega)
    have h2 := Nat.two_pow_pos n
    have : ((2 ^ n : Nat) : Int) = 2 ^ n := by simp
    rw [Int.toNat_natCast]
    omega
  have o1 := ref_Of 1 (by omega)
  have o2 := ref_Of (2 * 2 ^ sh.toNat) (by omega)
  have o3 := ref_Of ds (by omega)
  have g2 : Mg 64 (Dy.int (2 * 2 ^ sh.toNat)) := Mg.int (by omega)
  have g3 : Mg 64 (Dy.int ds) := Mg.int (by omega)
  have q1 := rft3 g a k (u gg) (u ga) (u gk)
  have q2 := rft2 g a (u gg) (u ga)
  have q4 := rft2 b k (u gb) (u gk)
  have q5 := rft2 a _ (u ga) (u g2)
  have q6 := rft2 b _ (u gb) (u g2)
  have q7 := rft3 hh a k (u gh) (u ga) (u gk)
  have q8 := rft2 hh a (u gh) (u ga)
  rw [sh_mul (by omega)] at q5 q6
  have m1 := mg_t3 (u gg) (u ga) (u gk)
  have m2 := mg_t2 (u gg) (u ga)
  have m4 := mg_t2 (u gb) (u gk)
  have m5 := mg_sh ga (sh := sh) (by omega)
  have s1 := ref_Sub _ _ _ _ _ _ _ _ g1.arg m1.arg
  have s2 := ref_Sub _ _ _ _ _ _ _ _ g1.arg m2.arg
  have n1 := ref_Neg _ _ _ _ m1.arg
  have n4 := ref_Neg _ _ _ _ m4.arg
  have nb := ref_Neg _ _ _ _ gb.arg
  have a1 := ref_Add _ _ _ _ _ _ _ _ gg.arg gh.arg
  have a2 := ref_Add _ _ _ _ _ _ _ _ m5.arg g1.arg
  have ma1 := gg.add gh
  have ma2 := m5.add (g1.mono (show 64 ≤ 96 by omega))
  have q9 := rft2 _ _ (ma1.mono (show 64 + 1 ≤ 128 by omega)) (ma2.mono (show 96 + 1 ≤ 128 by omega))
  have m9 := mg_t2 (ma1.mono (show 64 + 1 ≤ 128 by omega)) (ma2.mono (show 96 + 1 ≤ 128 by omega))
  have a3 := ref_Add _ _ _ _ _ _ _ _ m9.arg g3.arg
  have RES : mrows (cM (m38A g a b k)) = [[.sl 3 [crow ((Dy.int 1).sub (tms [g, a, k])), crow ((Dy.int 1).sub (tms [g, a])), crow g]], [.sl 3 [crow (tms [g, a, k]).neg, crow ((Dy.int 1).sub (tms [g, a])), crow g]], [.sl 3 [crow (tms [b, k]).neg, crow b.neg, crow (Dy.int 1)]]] := rfl
  have RES2 : vrows ((m38W g hh a b sh ds).map can) = [crow ((tms [g.add hh, (a.shift (sh + 1)).add (Dy.int 1)]).add (Dy.int ds)), crow ((tms [g.add hh, (a.shift (sh + 1)).add (Dy.int 1)]).add (Dy.int ds)), crow (b.shift (sh + 1))] := rfl
  have RES3 : mrows (cM (m38D hh a k)) = [[.sl 3 [crow (tms [hh, a, k]), crow (tms [hh, a]), crow hh]], [.sl 3 [crow (tms [hh, a, k]), crow (tms [hh, a]), crow hh]], [.sl 3 [vrow (can Dy.zero), vrow (can Dy.zero), vrow (can Dy.zero)]]] := rfl
  rw [RES, RES2, RES3]
  clear RES RES2 RES3 m1 m2 m4 m5 m9 ma1 ma2 gg gh gk ga gb g1 g2 g3 u eg eh ek ea eb
  generalize (tms [g.add hh, (a.shift (sh + 1)).add (Dy.int 1)]).add (Dy.int ds) = w at *
  generalize tms [g.add hh, (a.shift (sh + 1)).add (Dy.int 1)] = w1 at *
  generalize (a.shift (sh + 1)).add (Dy.int 1) = w2 at *
  generalize g.add hh = w3 at *
  generalize a.shift (sh + 1) = ash at *
  generalize b.shift (sh + 1) = bs at *
  generalize b.neg = bn at *
  generalize (tms [b, k]).neg = x1 at *
  generalize tms [b, k] = x2 at *
  generalize (Dy.int 1).sub (tms [g, a, k]) = x3 at *
  generalize (tms [g, a, k]).neg = x4 at *
  generalize tms [g, a, k] = x5 at *
  generalize (Dy.int 1).sub (tms [g, a]) = x6 at *
  generalize tms [g, a] = x7 at *
  generalize tms [hh, a, k] = x9 at *
  generalize tms [hh, a] = x10 at *
  generalize Dy.int 1 = x8 at *
  generalize Dy.int (2 * 2 ^ sh.toNat) = x11 at *
  generalize Dy.int ds = x12 at *
  unfold crow at q1 q2 q4 q5 q6 q7 q8 q9 ⊢
  repeat' (first
    | (simp only [go_sem, Int.reduceAdd, Int.reduceEq, Int.reduceLE, Int.reduceLT, Int.reduceMul, Int.reduceNeg, Int.reducePow, Int.reduceSub, Int.reduceToNat, Nat.reduceAdd, Nat.reduceBEq, Nat.reduceEqDiff, Nat.reduceLT, Nat.reduceLeDiff, Nat.reduceMul, Nat.reducePow, Nat.reduceSub, reduceCtorEq, reduceIte, IntKind.bits.eq_def, ti, tin])
    | (simp (disch := omega) only [w64, wu64, wu32, Nat.min_eq_left])
    | (with_reducible refine callF_of (ck) ?_)
    | (with_reducible refine drawF_of (ck) ?_)
    | (with_reducible refine callF_of (p1) ?_)
    | (with_reducible refine drawF_of (p1) ?_)
    | (with_reducible refine callF_of (p2) ?_)
    | (with_reducible refine drawF_of (p2) ?_)
    | (with_reducible refine callF_of (p3) ?_)
    | (with_reducible refine drawF_of (p3) ?_)
    | (with_reducible refine callF_of (p4) ?_)
    | (with_reducible refine drawF_of (p4) ?_)
    | (with_reducible refine callF_of (p5) ?_)
    | (with_reducible refine drawF_of (p5) ?_)
    | (with_reducible refine callF_of (o1) ?_)
    | (with_reducible refine drawF_of (o1) ?_)
    | (with_reducible refine callF_of (o2) ?_)
    | (with_reducible refine drawF_of (o2) ?_)
    | (with_reducible refine callF_of (o3) ?_)
    | (with_reducible refine drawF_of (o3) ?_)
    | (with_reducible refine callF_of (q1) ?_)
    | (with_reducible refine drawF_of (q1) ?_)
    | (with_reducible refine callF_of (q2) ?_)
    | (with_reducible refine drawF_of (q2) ?_)
    | (with_reducible refine callF_of (q4) ?_)
    | (with_reducible refine drawF_of (q4) ?_)
    | (with_reducible refine callF_of (q5) ?_)
    | (with_reducible refine drawF_of (q5) ?_)
    | (with_reducible refine callF_of (q6) ?_)
    | (with_reducible refine drawF_of (q6) ?_)
    | (with_reducible refine callF_of (q7) ?_)
    | (with_reducible refine drawF_of (q7) ?_)
    | (with_reducible refine callF_of (q8) ?_)
    | (with_reducible refine drawF_of (q8) ?_)
    | (with_reducible refine callF_of (q9) ?_)
    | (with_reducible refine drawF_of (q9) ?_)
    | (with_reducible refine callF_of (s1) ?_)
    | (with_reducible refine drawF_of (s1) ?_)
    | (with_reducible refine callF_of (s2) ?_)
    | (with_reducible refine drawF_of (s2) ?_)
    | (with_reducible refine callF_of (n1) ?_)
    | (with_reducible refine drawF_of (n1) ?_)
    | (with_reducible refine callF_of (n4) ?_)
    | (with_reducible refine drawF_of (n4) ?_)
    | (with_reducible refine callF_of (nb) ?_)
    | (with_reducible refine drawF_of (nb) ?_)
    | (with_reducible refine callF_of (a1) ?_)
    | (with_reducible refine drawF_of (a1) ?_)
    | (with_reducible refine callF_of (a2) ?_)
    | (with_reducible refine drawF_of (a2) ?_)
    | (with_reducible refine callF_of (a3) ?_)
    | (with_reducible refine drawF_of (a3) ?_)
    | (refine drawAfter_lit0 ti_ok rfl rfl ?_)
    | (refine drawAfter_app ti_ok rfl rfl rfl rfl rfl ⟨rfl, rfl, by decide⟩ rfl ⟨trivial, by (try simp only [List.length_cons, List.length_nil]); omega, by (try simp only [List.length_cons, List.length_nil]); omega, by (try simp only [List.length_cons, List.length_nil]); omega⟩ byRows ?_)
    | (refine after_lit ti_ok ?_)
    | (refine drawAfter_lit ti_ok ?_)
    | (refine drawEnd_of (by kernel_rfl) ?_)
    | ((first | refine cond_cases (fun hc => ?_) (fun hc => ?_) | refine guard_split (fun hc => ?_) (fun hc => ?_) | refine drawGuard_split (fun hc => ?_) (fun hc => ?_)) <;> first | (exfalso; simp only [decide_eq_true_eq, decide_eq_false_iff_not, Bool.not_eq_true, Bool.not_eq_false, Bool.not_eq_true', Bool.not_eq_false'] at hc; omega) | (simp only [hc]; try simp only [decide_eq_true_eq, decide_eq_false_iff_not, Bool.not_eq_true, Bool.not_eq_false, Bool.not_eq_true', Bool.not_eq_false'] at hc))
    | (refine after_need (by omega) ?_)
    | (refine drawAfter_need (by omega) ?_))
  exact fin_pub trivial (.tup (.cons (.agg (.cons .same (.cons (.sl (.cons (.cons .same .nil) (.cons (.cons (.ps rfl rfl (Nat.le_of_ble_eq_true rfl)) .nil) (.cons (.cons .same .nil) .nil)))) (.cons .same .nil)))) (.cons (.one .same) .nil)))
    (Le.tup (.cons (Le.agg (.cons (Le.of_eq rfl) (.cons (Le.sl (.cons (.refl _) (.cons (.refl _) (.cons (.cons (Le.sl (.cons dyz (.cons dyz (.cons dyz .nil)))) .nil) .nil)))) (.cons (Le.of_eq rfl) .nil)))) (.cons (.refl _) .nil)))
end Go.Proofs.YtfoadddlmehpnaaDoor
