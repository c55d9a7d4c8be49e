/- Layer 18 (tube): CheckCert, quotients rounded up, norms, reaches. -/
import Derived.Test.YtpggiabnhodjpaaDoorTub2
import Derived.Test.YtpggiabnhodjpaaDoorDy6
import Derived.Test.YtpggiabnhodjpaaDoorU4
set_option linter.unusedSimpArgs false
set_option linter.unusedVariables false
set_option linter.deprecated false
namespace Go.Proofs.YtpggiabnhodjpaaDoor
open Go Go.Ax
set_option maxRecDepth 100000
set_option maxHeartbeats 4000000

theorem matP_Id (n : Nat) (h1 : 1 ≤ n) (h8 : n ≤ 8) : CallOK Tryd.prog gl 55 [.v (.int .i64 n)] (.tup [.sl 1 (mrows (crM (unitD n))), .v .nilIface]) := by
  refine call_ok (C := ⟨Tryd.prog, gl, ti, 13, false⟩) ti_ok mixed 3000 Tryd.call55 Tryd.func55 rfl Tryd.ntmps55 (by simp) byClL byCl ?_
  rw [Tryd.results55]
  have u := mat_unit n h8
  generalize crM (unitD n) = z at *
  repeat' (first | (simp only [go_sem, Int.reduceAdd, Int.reduceEq, Int.reduceLE, Int.reduceLT, Int.reduceMul, Int.reduceNeg, Int.reducePow, Int.reduceSub, Int.reduceToNat, Nat.reduceAdd, Nat.reduceBEq, Nat.reduceEqDiff, Nat.reduceLT, Nat.reduceLeDiff, Nat.reduceMul, Nat.reducePow, Nat.reduceSub, reduceCtorEq, reduceIte, IntKind.bits.eq_def, ti, tin]) | (simp (disch := omega) only [w64, wu64, wu32, Nat.min_eq_left]) | (with_reducible first | refine cF (u) ?_ | refine dF (u) ?_) | (refine aL ti_ok ?_) | (refine dL ti_ok ?_) | (refine dE (by kernel_rfl) ?_) | ((first | refine cC ?_ ?_ | refine gS ?_ ?_ | refine dS ?_ ?_) <;> intro hc <;> first | (exfalso; simp only [dcT, dcF, bnT, bnF, bnU, bnV] at hc; omega) | (simp only [hc]; try simp only [dcT, dcF, bnT, bnF, bnU, bnV] at hc)) | (refine aN (by omega) ?_) | (refine dN (by omega) ?_))
  all_goals exact fin_same trivial rfl
theorem tub_up (x y : Dy) (k q : Nat) (den : Nat) (hk : k ≤ 100000) (hq : q ≤ 100000) (hd : den ≤ 65536) (gx : Mg k x) (gy : Mg q y) (hy : y.n ≠ 0) : CallOK Tryd.prog gl 41 [.agg [.v (.bool (sg (x))), .sl 1 (u32s (ms (x))), .v (.int .i64 (dn (x)))], .agg [.v (.bool (sg (y))), .sl 1 (u32s (ms (y))), .v (.int .i64 (dn (y)))], .v (.int .i64 den)] (.agg [.v (.bool (sg (upD x y den))), .sl 1 (u32s (ms (upD x y den))), .v (.int .i64 (dn (upD x y den)))]) := by
  refine call_ok (C := ⟨Tryd.prog, gl, ti, 19, false⟩) ti_ok mixed 3000 Tryd.call41 Tryd.func41 rfl Tryd.ntmps41 (by simp) byClL byCl ?_
  rw [Tryd.results41]
  have n1 := Neg_ok _ _ _ _ (gx.arg)
  have q1 := Quo_ok _ _ _ _ _ _ den hd _ _ (gx.neg.arg) (gy.arg) hy
  have hyd := y.ok.1
  have gq : Mg (k + y.d + 1) (x.neg.quo y den) := gx.neg.quo hy
  have n2 := Neg_ok _ _ _ _ (gq.arg)
  unfold upD
  clear gq gx gy
  generalize (x.neg.quo y den).neg = z1 at *
  generalize x.neg.quo y den = z2 at *
  generalize x.neg = z3 at *
  repeat' (first | (simp only [go_sem, Int.reduceAdd, Int.reduceEq, Int.reduceLE, Int.reduceLT, Int.reduceMul, Int.reduceNeg, Int.reducePow, Int.reduceSub, Int.reduceToNat, Nat.reduceAdd, Nat.reduceBEq, Nat.reduceEqDiff, Nat.reduceLT, Nat.reduceLeDiff, Nat.reduceMul, Nat.reducePow, Nat.reduceSub, reduceCtorEq, reduceIte, IntKind.bits.eq_def, ti, tin]) | (simp (disch := omega) only [w64, wu64, wu32, Nat.min_eq_left]) | (with_reducible first | refine cF (n1) ?_ | refine dF (n1) ?_) | (with_reducible first | refine cF (q1) ?_ | refine dF (q1) ?_) | (with_reducible first | refine cF (n2) ?_ | refine dF (n2) ?_) | (refine aL ti_ok ?_) | (refine dL ti_ok ?_) | (refine dE (by kernel_rfl) ?_) | ((first | refine cC ?_ ?_ | refine gS ?_ ?_ | refine dS ?_ ?_) <;> intro hc <;> first | (exfalso; simp only [dcT, dcF, bnT, bnF, bnU, bnV] at hc; omega) | (simp only [hc]; try simp only [dcT, dcF, bnT, bnF, bnU, bnV] at hc)) | (refine aN (by omega) ?_) | (refine dN (by omega) ?_))
  all_goals exact fin_same trivial rfl

/-! ### the norms of the powers -/
theorem tub_norms (a : List (List RD)) (k p n : Nat) (hp : p ≤ 1000) (h : ckM a = 0) (hn : a.length = n) (hs : (a.getD 0 []).length = n) (hk : k ≤ 32) (oa : okM p a) : CallOK Tryd.prog gl 34 [.sl 1 (mrows (a)), .v (.int .i64 k)] (.tup [.agg [.v (.bool (sg (normD (powD (dyM a) k)))), .sl 1 (u32s (ms (normD (powD (dyM a) k)))), .v (.int .i64 (dn (normD (powD (dyM a) k))))], .agg [.v (.bool (sg (normsM (dyM a) k))), .sl 1 (u32s (ms (normsM (dyM a) k))), .v (.int .i64 (dn (normsM (dyM a) k)))], .agg [.v (.bool (sg (normsS (dyM a) k))), .sl 1 (u32s (ms (normsS (dyM a) k))), .v (.int .i64 (dn (normsS (dyM a) k)))]]) := by
  refine call_ok (C := ⟨Tryd.prog, gl, ti, 46, false⟩) ti_ok mixed 3000 Tryd.call34 Tryd.func34 rfl Tryd.ntmps34 (by simp) byClL byCl ?_
  rw [Tryd.results34]
  obtain ⟨a1, a2, a3, a4, a5⟩ := ckM_ok h
  have hr := rect_of h
  rw [hn, hs] at hr
  rw [hn] at a1 a2
  have id1 := matP_Id n a1 a2
  rw [show unitD n = powD (dyM a) 0 by unfold powD; rw [dyM_len, hn]] at id1
  have gp : ∀ i, i ≤ 32 → ∀ x y, Mg 50000 (el (powD (dyM a) i) x y) := fun i hi x y => (mg_powD hr a1 (mg_el_raw oa) i x y).mono (by
    have : i * (p + n) ≤ 32 * 1008 := Nat.mul_le_mul hi (by omega)
    omega)
  have gn : ∀ i, i ≤ 32 → Mg 50008 (normD (powD (dyM a) i)) := fun i hi => by
    have hri := pow_rect hr a1 i
    unfold normD
    refine mg_maxD fun j hj => ?_
    rw [hri.1] at hj
    unfold rowN
    rw [hri.2 j hj]
    exact (mg_sumD (n := n) fun t _ => Mg.abs (gp i hi j t)).mono (by omega)
  have nm : ∀ i, i ≤ 32 → CallOK Tryd.prog gl 35 [.sl 1 (mrows (crM (powD (dyM a) i)))] (.tup [.agg (crow (normD (powD (dyM a) i))), .v .nilIface]) := fun i hi => by
    have := mat_Norm (crM (powD (dyM a) i)) 50000 (by omega) (ckM_rect (pow_rect hr a1 i) a1 a2 a1 a2) (okM_cr (gp i hi) (by omega))
    rwa [dyM_cr] at this
  have mu : ∀ i, i ≤ 32 → CallOK Tryd.prog gl 57 [.sl 1 (mrows (crM (powD (dyM a) i))), .sl 1 (mrows a)] (.tup [.sl 1 (mrows (crM (powD (dyM a) (i + 1)))), .v .nilIface]) := fun i hi => by
    have hri := pow_rect hr a1 i
    have := mat_Mul (crM (powD (dyM a) i)) a 50000 p (by omega) (by
      unfold bothE fitMul
      rw [if_pos (ckM_rect hri a1 a2 a1 a2), if_pos h, if_pos (decide_eq_true (by rw [crM_get, List.length_map, hri.2 0 a1, hn]))]) (okM_cr (gp i hi) (by omega)) oa
    rwa [dyM_cr] at this
  have gM : ∀ i, i ≤ 32 → Mg 50008 (normsM (dyM a) i) := fun i hi => mg_maxD fun j hj => gn j (by omega)
  have gS : ∀ i, i ≤ 32 → Mg (50008 + i) (normsS (dyM a) i) := fun i hi => mg_sumD fun j hj => gn j (by omega)
  clear gp oa a5 a3 a4 hs
  repeat' (first | (simp only [go_sem, Int.reduceAdd, Int.reduceEq, Int.reduceLE, Int.reduceLT, Int.reduceMul, Int.reduceNeg, Int.reducePow, Int.reduceSub, Int.reduceToNat, Nat.reduceAdd, Nat.reduceBEq, Nat.reduceEqDiff, Nat.reduceLT, Nat.reduceLeDiff, Nat.reduceMul, Nat.reducePow, Nat.reduceSub, reduceCtorEq, reduceIte, IntKind.bits.eq_def, ti, tin, mrows_length, hn]) | (simp (disch := omega) only [w64, wu64, wu32, Nat.min_eq_left]) | (with_reducible first | refine cF (id1) ?_ | refine dF (id1) ?_) | (refine aL ti_ok ?_) | (refine dL ti_ok ?_) | (refine dE (by kernel_rfl) ?_) | ((first | refine cC ?_ ?_ | refine gS ?_ ?_ | refine dS ?_ ?_) <;> intro hc <;> first | (exfalso; simp only [dcT, dcF, bnT, bnF, bnU, bnV] at hc; omega) | (simp only [hc]; try simp only [dcT, dcF, bnT, bnF, bnU, bnV] at hc)) | (refine aN (by omega) ?_) | (refine dN (by omega) ?_))
  refine l_loop (α := Nat) (fun i => ⟨[(0, .sl 1 (mrows (a))), (4, .p 0 3 0 0), (5, .p 1 3 0 0), (6, .p 2 3 0 0), (7, .sl 1 (mrows (crM (powD (dyM a) i)))), (17, .v (.int .i64 k)), (18, .v (.int .i64 i))], [(0, ⟨3, [[.v (.bool (false)), .v (.slice none 0 0), .v (.int .i64 0)]]⟩), (1, ⟨3, [crow (normsM (dyM a) i)]⟩), (2, ⟨3, [crow (normsS (dyM a) i)]⟩)], 3⟩) (fun i => i ≤ k) (fun i => k - i) (0) _ byFresh (fun _ h => by first | (cases h; done) | exact Nat.le_of_ble_eq_true rfl) ?_ ?_ ?_
  · exact Nat.zero_le _
  · exact Weak.trans (Weak.mle 1 ⟨3, [crow Dy.zero]⟩ rfl MLe.dy0) (Nat.le_refl _) (Weak.trans (Weak.mle 2 ⟨3, [crow Dy.zero]⟩ rfl MLe.dy0) (Nat.le_refl _) byWeak)
  rintro i hi
  by_cases hik : i < k
  ·
    have c1 := nm i (by omega)
    have c2 := mu i (by omega)
    have mx := Max_ok _ _ _ _ _ _ _ _ ((gM i (by omega)).arg) ((gn i (by omega)).arg)
    have ad := Add_ok _ _ _ _ _ _ _ _ ((gS i (by omega)).arg) ((gn i (by omega)).arg)
    have e1 : normsM (dyM a) (i + 1) = (normsM (dyM a) i).max (normD (powD (dyM a) i)) := rfl
    have e2 : normsS (dyM a) (i + 1) = (normsS (dyM a) i).add (normD (powD (dyM a) i)) := rfl
    clear nm mu gM gS gn
    generalize hN : normD (powD (dyM a) i) = N1 at *
    generalize hA : normsM (dyM a) i = A1 at *
    generalize hB : normsS (dyM a) i = B1 at *
    repeat' (first | (simp only [go_sem, Int.reduceAdd, Int.reduceEq, Int.reduceLE, Int.reduceLT, Int.reduceMul, Int.reduceNeg, Int.reducePow, Int.reduceSub, Int.reduceToNat, Nat.reduceAdd, Nat.reduceBEq, Nat.reduceEqDiff, Nat.reduceLT, Nat.reduceLeDiff, Nat.reduceMul, Nat.reducePow, Nat.reduceSub, reduceCtorEq, reduceIte, IntKind.bits.eq_def, ti, tin]) | (simp (disch := omega) only [w64, wu64, wu32, Nat.min_eq_left]) | (with_reducible first | refine cF (c1) ?_ | refine dF (c1) ?_) | (with_reducible first | refine cF (c2) ?_ | refine dF (c2) ?_) | (with_reducible first | refine cF (mx) ?_ | refine dF (mx) ?_) | (with_reducible first | refine cF (ad) ?_ | refine dF (ad) ?_) | (refine aL ti_ok ?_) | (refine dL ti_ok ?_) | (refine dE (by kernel_rfl) ?_) | ((first | refine cC ?_ ?_ | refine gS ?_ ?_ | refine dS ?_ ?_) <;> intro hc <;> first | (exfalso; simp only [dcT, dcF, bnT, bnF, bnU, bnV] at hc; omega) | (simp only [hc]; try simp only [dcT, dcF, bnT, bnF, bnU, bnV] at hc)) | (refine aN (by omega) ?_) | (refine dN (by omega) ?_))
    refine roundEnd_of (α := Nat) (i + 1) (show i + 1 ≤ k by omega) (by omega) ?_
    simp only [e1, e2]
    exact byWeak
  ·
    have hik2 : i = k := by omega
    subst hik2
    have c1 := nm i (by omega)
    clear nm mu gM gS gn
    repeat' (first | (simp only [go_sem, Int.reduceAdd, Int.reduceEq, Int.reduceLE, Int.reduceLT, Int.reduceMul, Int.reduceNeg, Int.reducePow, Int.reduceSub, Int.reduceToNat, Nat.reduceAdd, Nat.reduceBEq, Nat.reduceEqDiff, Nat.reduceLT, Nat.reduceLeDiff, Nat.reduceMul, Nat.reducePow, Nat.reduceSub, reduceCtorEq, reduceIte, IntKind.bits.eq_def, ti, tin]) | (simp (disch := omega) only [w64, wu64, wu32, Nat.min_eq_left]) | (with_reducible first | refine cF (c1) ?_ | refine dF (c1) ?_) | (refine aL ti_ok ?_) | (refine dL ti_ok ?_) | (refine dE (by kernel_rfl) ?_) | ((first | refine cC ?_ ?_ | refine gS ?_ ?_ | refine dS ?_ ?_) <;> intro hc <;> first | (exfalso; simp only [dcT, dcF, bnT, bnF, bnU, bnV] at hc; omega) | (simp only [hc]; try simp only [dcT, dcF, bnT, bnF, bnU, bnV] at hc)) | (refine aN (by omega) ?_) | (refine dN (by omega) ?_))
    all_goals exact fin_same trivial rfl
end Go.Proofs.YtpggiabnhodjpaaDoor
