/- The reference of layer 18: quotients rounded up, certificates compared, Make. -/
import Derived.Test.YtpggiabnhodjpaaGreatDoorT18r
import Derived.Test.YtpggiabnhodjpaaGreatDoorQuo4
import Derived.Test.YtpggiabnhodjpaaGreatDoorU4
set_option linter.unusedSimpArgs false
set_option linter.unusedVariables false
set_option linter.deprecated false
namespace Go.Proofs.YtpggiabnhodjpaaGreatDoor
open Go Go.Ax
set_option maxRecDepth 100000
set_option maxHeartbeats 4000000
theorem r18_up (x y : Dy) (k q : Nat) (den : Nat) (hk : k ≤ 100000) (hq : q ≤ 100000) (hd : den ≤ 65536) (gx : Mg k x) (gy : Mg q y) (hy : y.n ≠ 0) : CallOK Tryz.prog gl 71 [.agg [.v (.bool (sg (x))), .sl 1 (u32s (ms (x))), .v (.int .i64 (dn (x)))], .agg [.v (.bool (sg (y))), .sl 1 (u32s (ms (y))), .v (.int .i64 (dn (y)))], .v (.int .i64 den)] (.agg [.v (.bool (sg (upD x y den))), .sl 1 (u32s (ms (upD x y den))), .v (.int .i64 (dn (upD x y den)))]) := by
  refine call_ok (C := ⟨Tryz.prog, gl, ti, 19, false⟩) ti_ok mixed 3000 Tryz.call71 Tryz.func71 rfl Tryz.ntmps71 (by simp) byClL byCl ?_
  rw [Tryz.results71]
  have n1 := ref_Neg _ _ _ _ (gx.arg)
  have q1 := ref_Quo _ _ _ _ _ _ den hd _ _ (gx.neg.arg) (gy.arg) hy
  have hyd := y.ok.1
  have gq : Mg (k + y.d + 1) (x.neg.quo y den) := gx.neg.quo hy
  have n2 := ref_Neg _ _ _ _ (gq.arg)
  unfold upD
  clear gq gx gy
  generalize (x.neg.quo y den).neg = z1 at *
  generalize x.neg.quo y den = z2 at *
  generalize x.neg = z3 at *
  repeat' (first | (simp only [go_sem, seval, IntKind.bits.eq_def, ti, tin]) | (simp (disch := omega) only [wA]) | (with_reducible first | refine cF n1 ?_ | refine dF n1 ?_ | refine cF q1 ?_ | refine dF q1 ?_ | refine cF n2 ?_ | refine dF n2 ?_) | refine aL ti_ok ?_ | refine dL ti_ok ?_ | refine dG ?_ | ((first | refine cC ?_ ?_ | refine gS ?_ ?_ | refine dS ?_ ?_) <;> intro hc <;> first | (exfalso; simp only [dcA] at hc; omega) | (simp only [hc]; try simp only [dcA] at hc)) | refine aO ?_ | refine dO ?_)
  all_goals exact fin_same trivial rfl
theorem same_box {n k : Nat} {x : Dy} (hn : n ≤ 1000) (h : Mg k x) (hk : k ≤ 1099511627776) : CallOK Tryz.prog gl 25 [.sl 3 (vrows (List.replicate n (can x))), .sl 3 (vrows (List.replicate n (can x)))] (.v (.bool true)) := by
  have := same_vec (a := boxD n x) (n := n) (k := k) (by simp [boxD]) hn hk (fun i => by
    unfold boxD
    rw [List.getD, List.getElem?_replicate]
    split
    · exact h
    · exact Mg.zero _)
  rwa [show (boxD n x).map can = List.replicate n (can x) by unfold boxD; rw [List.map_replicate]] at this
theorem same_cert (k n : Nat) (o : Option (Dy × Dy)) (hn : n ≤ 1000) (h : ∀ t u, o = some (t, u) → Mg 200000 t ∧ Mg 200000 u) : CallOK Tryz.prog gl 15 [certAV k n o, certAV k n o] (.v (.bool true)) := by
  cases o with
  | none => exact same_cert0
  | some p =>
    obtain ⟨t, u⟩ := p
    obtain ⟨gt, gu⟩ := h t u rfl
    have s1 := same_box hn gt (by omega)
    have s2 := same_box hn gu (by omega)
    simp only [certAV]
    refine call_ok (C := ⟨Tryz.prog, gl, ti, 24, false⟩) ti_ok mixed 3000 Tryz.call15 Tryz.func15 rfl Tryz.ntmps15 (by simp) byClL byCl ?_
    rw [Tryz.results15]
    generalize vrows (List.replicate n (can t)) = X at *
    generalize vrows (List.replicate n (can u)) = Y at *
    repeat' (first | (simp only [go_sem, seval, IntKind.bits.eq_def, ti, tin]) | (simp (disch := omega) only [wA]) | (with_reducible first | refine cF s1 ?_ | refine dF s1 ?_ | refine cF s2 ?_ | refine dF s2 ?_) | refine aL ti_ok ?_ | refine dL ti_ok ?_ | refine dG ?_ | ((first | refine cC ?_ ?_ | refine gS ?_ ?_ | refine dS ?_ ?_) <;> intro hc <;> first | (exfalso; simp only [dcA] at hc; omega) | (simp only [hc]; try simp only [dcA] at hc)) | refine aO ?_ | refine dO ?_)
    all_goals exact fin_same trivial rfl
theorem tubeD_box {p n : Nat} {a dv : List (List RD)} {w : List RD} {k : Nat} {t u : Dy} {P Q : Nat} (hp : p ≤ 100) (oa : okM p a) (od : okM p dv) (ow : okV p w) (he : ckT a dv w = 0) (hn : a.length = n) (h1 : 1 ≤ k) (h2 : k ≤ 32) (gt : Mg 200000 t) (gu : Mg 200000 u) (nt : 0 ≤ t.v) (nu : 0 ≤ u.v) :
    TubOK p 200000 n a dv w (List.replicate n (can t)) (List.replicate n (can u)) := by
  have := tubOK_of (q := 200000) hp (Nat.le_refl _) oa od (fun i => ⟨(ow i).1, (ow i).2.mono (by omega)⟩) (okV_rep gt (Nat.le_refl _)) (okV_rep gu (Nat.le_refl _)) (ckC_make he hn h1 h2 nt nu)
  rwa [hn] at this
theorem r18_Make (a dv : List (List RD)) (w : List RD) (k p n : Nat) (hp : p ≤ 100) (oa : okM p a) (od : okM p dv) (ow : okV p w) (fa : fine 100 (dyM a)) (fd : fine 100 (dyM dv)) (fw : fineV 100 (dyV w)) (he : ckT a dv w = 0) (hn : a.length = n) (h1 : 1 ≤ k) (h2 : k ≤ 32) :
    CallOK Tryz.prog gl 14 [.agg [.sl 1 (mrows a), .sl 1 (mrows dv), .sl 3 (vrows w)], .v (.int .i64 k)] (.tup [certAV k n (makeD k (dyM a) (dyM dv) (dyV w)), .v (.bool (makeD k (dyM a) (dyM dv) (dyV w)).isSome)]) := by
  refine call_ok (C := ⟨Tryz.prog, gl, ti, 129, false⟩) ti_ok mixed 3000 Tryz.call14 Tryz.func14 rfl Tryz.ntmps14 (by simp) byClL (Cl.tup fun x hx => ?_) ?_
  · simp only [List.mem_cons, List.not_mem_nil, or_false] at hx
    rcases hx with rfl | rfl
    · exact certAV_cl _ _ _
    · exact Cl.v _
  rw [Tryz.results14]
  obtain ⟨t1, t2, t3, t4, t5, t6, t7, t8, t9⟩ := ckT_zero he
  have hn1 := (ckM_zero t1).1
  have hn2 := (ckM_zero t2).2
  rw [hn] at t4
  have nm : ∀ i : Nat, i ≤ 32 → CallOK Tryz.prog gl 65 [.agg [.sl 1 (mrows a), .sl 1 (mrows dv), .sl 3 (vrows w)], .v (.int .i64 i)] (.agg (crow (normD (powD (dyM a) i)))) := fun i hi => r18_norm a dv w p n i hp t1 hn t4 (by omega) (by omega) oa
  have k3 := refm_Norm dv p (by omega) t2 od
  have hr := rect_of t1
  rw [t4, hn] at hr
  have hrd := rect_of t2
  have gn : ∀ i, i ≤ 32 → Mg 4008 (normD (powD (dyM a) i)) := fun i hi => by
    have hri := pow_rect hr (by omega) i
    unfold normD
    refine (mg_maxD (k := 4008) fun j hj => ?_)
    rw [hri.1] at hj
    unfold rowN
    rw [hri.2 j hj]
    have hb : i * (p + n) ≤ 32 * 106 := Nat.mul_le_mul hi (by omega)
    exact (mg_sumD (n := n) fun t _ => Mg.abs ((mg_powD hr (by omega) (mg_el_raw oa) i j t).mono (show _ ≤ 4000 by omega))).mono (by omega)
  have gq := gn k h2
  have gc : Mg 4008 (normsM (dyM a) k) := mg_maxD fun j hj => gn j (by omega)
  have gs : Mg 4040 (normsS (dyM a) k) := (mg_sumD fun j hj => gn j (by omega)).mono (by omega)
  have gC : ∀ i, i ≤ k → Mg 4008 (normsM (dyM a) i) := fun i hi => mg_maxD fun j hj => gn j (by omega)
  have gS : ∀ i, i ≤ k → Mg 4040 (normsS (dyM a) i) := fun i hi => (mg_sumD fun j hj => gn j (by omega)).mono (by omega)
  have gd : Mg 108 (normD (dyM dv)) := by
    unfold normD
    refine mg_maxD fun j hj => ?_
    rw [hrd.1] at hj
    unfold rowN
    rw [hrd.2 j hj]
    exact (mg_sumD fun t _ => Mg.abs (mg_el_raw od j t)).mono (by omega)
  have nq := norm_nn (powD (dyM a) k)
  have nc := normsM_nn (dyM a) k
  have ns := normsS_nn (dyM a) k
  have gW : ∀ i, Mg 100 (maxD i fun i => (dyV w).getD i Dy.zero) := fun i => mg_maxD fun j _ => (okV_get ow j).mono hp
  have hmk : makeD k (dyM a) (dyM dv) (dyV w) = makeN k (dyM a) (dyM dv) (dyV w) (normD (powD (dyM a) k)) (normsM (dyM a) k) (normsS (dyM a) k) (normD (dyM dv)) (maxD n fun i => (dyV w).getD i Dy.zero) := by
    unfold makeD maxV; rw [dyV_len, t7, hn]
  rw [hmk]
  clear hmk hr hrd t4 t5 t6 t8 t9 hn2
  have nk := nm k h2
  generalize normD (dyM dv) = d at *
  generalize hqq : normD (powD (dyM a) k) = q at *
  have o1 := ref_Of 1 (by omega)
  have hwn : w.length = n := by omega
  repeat' (first | (simp only [go_sem, seval, IntKind.bits.eq_def, ti, tin]) | (simp (disch := omega) only [wA]) | (with_reducible first | refine cF o1 ?_ | refine dF o1 ?_ | refine cF nk ?_ | refine dF nk ?_) | refine aL ti_ok ?_ | refine dL ti_ok ?_ | refine dG ?_ | ((first | refine cC ?_ ?_ | refine gS ?_ ?_ | refine dS ?_ ?_) <;> intro hc <;> first | (exfalso; simp only [dcA] at hc; omega) | (simp only [hc]; try simp only [dcA] at hc)) | refine aO ?_ | refine dO ?_)
  refine l_loop (α := Nat) (fun i => ⟨[(1, .v (.int .i64 k)), (2, .p 0 3 0 0), (4, .p 1 3 0 0), (6, .p 2 3 0 0), (7, .p 3 3 0 0), (8, .p 4 3 0 0), (9, .p 5 3 0 0), (10, .p 6 3 0 0), (27, .v (.int .i64 k)), (28, .v (.int .i64 i))], [(6, ⟨3, [[.v (.bool (false)), .v (.slice none 0 0), .v (.int .i64 0)]]⟩), (5, ⟨3, [crow (normsS (dyM a) i)]⟩), (4, ⟨3, [crow (normsM (dyM a) i)]⟩), (3, ⟨3, [crow q]⟩), (2, ⟨3, [crow (Dy.int 1)]⟩), (1, ⟨3, [[.v (.int .i64 0), .v (.slice none 0 0), .v (.slice none 0 0)]]⟩), (0, ⟨3, [[.sl 1 (mrows a), .sl 1 (mrows dv), .sl 3 (vrows w)]]⟩)], 7⟩) (fun i => i ≤ k) (fun i => k - i) (0) _ byFresh (fun _ h => by first | (cases h; done) | exact Nat.le_of_ble_eq_true rfl) ?_ ?_ ?_
  · exact Nat.zero_le _
  · exact Weak.trans (Weak.mle 4 ⟨3, [crow Dy.zero]⟩ rfl MLe.dy0) (Nat.le_refl _) (Weak.trans (Weak.mle 5 ⟨3, [crow Dy.zero]⟩ rfl MLe.dy0) (Nat.le_refl _) byWeak)
  rintro i hi
  by_cases hik : i < k
  ·
    have c1 := nm i (by omega)
    have mx := ref_Max _ _ _ _ _ _ _ _ ((gC i (by omega)).arg) ((gn i (by omega)).arg)
    have ad := ref_Add _ _ _ _ _ _ _ _ ((gS i (by omega)).arg) ((gn i (by omega)).arg)
    have e1 : normsM (dyM a) (i + 1) = (normsM (dyM a) i).max (normD (powD (dyM a) i)) := rfl
    have e2 : normsS (dyM a) (i + 1) = (normsS (dyM a) i).add (normD (powD (dyM a) i)) := rfl
    clear nm gC gS gn gW gq gc gs gd nq nc ns nk k3 oa od ow fa fd fw he hqq
    generalize hN : normD (powD (dyM a) i) = N1 at *
    generalize hA : normsM (dyM a) i = A1 at *
    generalize hB : normsS (dyM a) i = B1 at *
    repeat' (first | (simp only [go_sem, seval, IntKind.bits.eq_def, ti, tin]) | (simp (disch := omega) only [wA]) | (with_reducible first | refine cF c1 ?_ | refine dF c1 ?_ | refine cF mx ?_ | refine dF mx ?_ | refine cF ad ?_ | refine dF ad ?_) | refine aL ti_ok ?_ | refine dL ti_ok ?_ | refine dG ?_ | ((first | refine cC ?_ ?_ | refine gS ?_ ?_ | refine dS ?_ ?_) <;> intro hc <;> first | (exfalso; simp only [dcA] at hc; omega) | (simp only [hc]; try simp only [dcA] at hc)) | refine aO ?_ | refine dO ?_)
    refine roundEnd_of (α := Nat) (i + 1) (show i + 1 ≤ k by omega) (by omega) ?_
    simp only [e1, e2]
    exact byWeak
  have hik2 : i = k := by omega
  subst hik2
  clear hik hi nm gC gS gn nk hqq
  generalize normsM (dyM a) i = c at *
  generalize normsS (dyM a) i = s at *
  repeat' (first | (simp only [go_sem, seval, IntKind.bits.eq_def, ti, tin, vrows_length, hwn]) | (simp (disch := omega) only [wA]) | refine aL ti_ok ?_ | refine dL ti_ok ?_ | refine dG ?_ | ((first | refine cC ?_ ?_ | refine gS ?_ ?_ | refine dS ?_ ?_) <;> intro hc <;> first | (exfalso; simp only [dcA] at hc; omega) | (simp only [hc]; try simp only [dcA] at hc)) | refine aO ?_ | refine dO ?_)
  refine l_loop (α := Nat) (fun j => ⟨[(1, .v (.int .i64 i)), (2, .p 0 3 0 0), (4, .p 1 3 0 0), (6, .p 2 3 0 0), (7, .p 3 3 0 0), (8, .p 4 3 0 0), (9, .p 5 3 0 0), (10, .p 6 3 0 0), (43, .sl 3 (vrows (w))), (44, .v (.int .i64 n)), (45, .v (.int .i64 j))], [(6, ⟨3, [crow (maxD j fun i => (dyV w).getD i Dy.zero)]⟩), (5, ⟨3, [crow s]⟩), (4, ⟨3, [crow c]⟩), (3, ⟨3, [crow q]⟩), (2, ⟨3, [crow (Dy.int 1)]⟩), (1, ⟨3, [[.v (.int .i64 0), .v (.slice none 0 0), .v (.slice none 0 0)]]⟩), (0, ⟨3, [[.sl 1 (mrows a), .sl 1 (mrows dv), .sl 3 (vrows w)]]⟩)], 7⟩) (fun j => j ≤ n) (fun j => n - j) (0) _ byFresh (fun _ h => by first | (cases h; done) | exact Nat.le_of_ble_eq_true rfl) ?_ ?_ ?_
  · exact Nat.zero_le _
  · exact Weak.trans (Weak.mle 6 ⟨3, [crow Dy.zero]⟩ rfl MLe.dy0) (Nat.le_refl _) byWeak
  rintro j hj
  by_cases hin : j < n
  ·
    have ri := vrows_getD (l := w) (i := j) (by omega)
    have mx := ref_Max _ _ _ _ _ _ _ _ ((gW j).arg) (RD.arg (ow j).1)
    have e1 : (maxD (j + 1) fun i => (dyV w).getD i Dy.zero) = (maxD j fun i => (dyV w).getD i Dy.zero).max (w.getD j RD.zero).dy := by
      simp only [maxD]; rw [dyV_get]
    unfold vrow at ri
    clear gW ow
    generalize w.getD j RD.zero = r at *
    generalize (maxD j fun i => (dyV w).getD i Dy.zero) = W0 at *
    repeat' (first | (simp only [go_sem, seval, IntKind.bits.eq_def, ti, tin, vrows_length, hwn, ri]) | (simp (disch := omega) only [wA]) | (with_reducible first | refine cF mx ?_ | refine dF mx ?_) | refine aL ti_ok ?_ | refine dL ti_ok ?_ | refine dG ?_ | ((first | refine cC ?_ ?_ | refine gS ?_ ?_ | refine dS ?_ ?_) <;> intro hc <;> first | (exfalso; simp only [dcA] at hc; omega) | (simp only [hc]; try simp only [dcA] at hc)) | refine aO ?_ | refine dO ?_)
    refine roundEnd_of (α := Nat) (j + 1) (show j + 1 ≤ n by omega) (by omega) ?_
    simp only [e1]
    exact byWeak
  have hin2 : j = n := by omega
  subst hin2
  clear hin hj
  have g0 := gW j
  have n0 : 0 ≤ (maxD j fun i => (dyV w).getD i Dy.zero).v := (v_maxD _ _).1
  clear gW
  generalize (maxD j fun i => (dyV w).getD i Dy.zero) = W0 at *
  have m1 := ref_Mul _ _ _ _ _ _ _ _ (gs.arg) (gd.arg)
  have m2 := ref_Mul _ _ _ _ _ _ _ _ (gs.arg) (g0.arg)
  have gone : Mg 1 (Dy.int 1) := Mg.int (by decide)
  have gSD := gs.mul gd
  have gSW := gs.mul g0
  have gH := gone.mono (show 1 ≤ 4148 by omega) |>.sub (gSD.mono (show _ ≤ 4148 by omega))
  have gL := gone.mono (show 1 ≤ 4008 by omega) |>.sub gq
  have s1 := ref_Sub _ _ _ _ _ _ _ _ (gone.arg) (gSD.arg)
  have s2 := ref_Sub _ _ _ _ _ _ _ _ (gone.arg) (gq.arg)
  have m3 := ref_Mul _ _ _ _ _ _ _ _ (gL.arg) (gH.arg)
  have m4 := ref_Mul _ _ _ _ _ _ _ _ (gSD.arg) (gc.arg)
  have gLH := (gL.mul gH).mono (show _ ≤ 9000 by omega)
  have gSC := (gSD.mul gc).mono (show _ ≤ 9000 by omega)
  have s3 := ref_Sub _ _ _ _ _ _ _ _ (gLH.arg) (gSC.arg)
  have gG := gLH.sub gSC
  have p1 := ref_Cmp _ _ _ _ _ _ _ _ (gq.arg) (gone.arg)
  have hsw : q.cmp (Dy.int 1) = -(mkL q).sign := by unfold mkL; rw [sign_sub, cmp_swap]
  have p2 := ref_Sign _ _ _ _ (gH.arg)
  have p3 := ref_Sign _ _ _ _ (gG.arg)
  have sh := ref_Shift _ _ _ 1 _ (gSW.arg)
  have gS2 := (gSW.shift 1).mono (show _ ≤ 5000 by rw [show clipD 1 = 1 from rfl]; omega)
  have u1 : 0 < (mkG q c s d).v → CallOK Tryz.prog gl 71 [.agg (crow ((s.mul W0).shift 1)), .agg (crow (mkG q c s d)), .v (.int .i64 (16 : Nat))] (.agg (crow (mkT q c s d W0))) := fun h => r18_up _ _ 5000 9001 16 (by omega) (by omega) (by omega) gS2 gG (fun h0 => by rw [Dy.v_pos_iff, h0] at h; omega)
  have gT : 0 < (mkG q c s d).v → Mg 80000 (mkT q c s d W0) := fun h => by
    have hd := (mkG q c s d).ok.1
    have h0 : (mkG q c s d).n ≠ 0 := fun h0 => by rw [Dy.v_pos_iff, h0] at h; omega
    have := Mg.neg (gS2.neg.quo (y := mkG q c s d) (den := 16) h0)
    exact this.mono (by omega)
  by_cases hb : mkBad q c s d
  ·
    have hmk : makeN i (dyM a) (dyM dv) (dyV w) q c s d W0 = none := by unfold makeN; rw [if_pos hb]
    rw [hmk]
    clear hmk u1 gT gG gLH gSC gS2 gSD gSW gH gL gq gc gs gd g0 n0 nq nc ns oa od ow he t1 sh fa fd fw gone
    simp only [mkBad, mkG, mkH, mkL] at hb hsw
    generalize q.cmp (Dy.int 1) = cq at *
    generalize s.mul d = SD at *
    generalize s.mul W0 = SW at *
    generalize (Dy.int 1).sub SD = H at *
    generalize (Dy.int 1).sub q = L at *
    generalize L.mul H = LH at *
    generalize SD.mul c = SC at *
    generalize LH.sub SC = G at *
    generalize Dy.int 1 = one1 at *
    by_cases c1 : L.sign ≤ 0
    ·
      have c4 : cq ≥ 0 := by omega
      repeat' (first | (simp only [go_sem, seval, IntKind.bits.eq_def, ti, tin]) | (simp (disch := omega) only [wA]) | (with_reducible first | refine cF k3 ?_ | refine dF k3 ?_ | refine cF m1 ?_ | refine dF m1 ?_ | refine cF m2 ?_ | refine dF m2 ?_ | refine cF s1 ?_ | refine dF s1 ?_ | refine cF s2 ?_ | refine dF s2 ?_ | refine cF m3 ?_ | refine dF m3 ?_ | refine cF m4 ?_ | refine dF m4 ?_ | refine cF s3 ?_ | refine dF s3 ?_ | refine cF p1 ?_ | refine dF p1 ?_ | refine cF p2 ?_ | refine dF p2 ?_ | refine cF p3 ?_ | refine dF p3 ?_) | refine aL ti_ok ?_ | refine dL ti_ok ?_ | refine dG ?_ | ((first | refine cC ?_ ?_ | refine gS ?_ ?_ | refine dS ?_ ?_) <;> intro hc <;> first | (exfalso; simp only [dcA] at hc; omega) | (simp only [hc]; try simp only [dcA] at hc)) | refine aO ?_ | refine dO ?_)
      all_goals exact fin_same trivial rfl
    · have c4 : ¬ cq ≥ 0 := by omega
      by_cases c2 : H.sign ≤ 0
      ·
        repeat' (first | (simp only [go_sem, seval, IntKind.bits.eq_def, ti, tin]) | (simp (disch := omega) only [wA]) | (with_reducible first | refine cF k3 ?_ | refine dF k3 ?_ | refine cF m1 ?_ | refine dF m1 ?_ | refine cF m2 ?_ | refine dF m2 ?_ | refine cF s1 ?_ | refine dF s1 ?_ | refine cF s2 ?_ | refine dF s2 ?_ | refine cF m3 ?_ | refine dF m3 ?_ | refine cF m4 ?_ | refine dF m4 ?_ | refine cF s3 ?_ | refine dF s3 ?_ | refine cF p1 ?_ | refine dF p1 ?_ | refine cF p2 ?_ | refine dF p2 ?_ | refine cF p3 ?_ | refine dF p3 ?_) | refine aL ti_ok ?_ | refine dL ti_ok ?_ | refine dG ?_ | ((first | refine cC ?_ ?_ | refine gS ?_ ?_ | refine dS ?_ ?_) <;> intro hc <;> first | (exfalso; simp only [dcA] at hc; omega) | (simp only [hc]; try simp only [dcA] at hc)) | refine aO ?_ | refine dO ?_)
        all_goals exact fin_same trivial rfl
      ·
        have c3 : G.sign ≤ 0 := by omega
        repeat' (first | (simp only [go_sem, seval, IntKind.bits.eq_def, ti, tin]) | (simp (disch := omega) only [wA]) | (with_reducible first | refine cF k3 ?_ | refine dF k3 ?_ | refine cF m1 ?_ | refine dF m1 ?_ | refine cF m2 ?_ | refine dF m2 ?_ | refine cF s1 ?_ | refine dF s1 ?_ | refine cF s2 ?_ | refine dF s2 ?_ | refine cF m3 ?_ | refine dF m3 ?_ | refine cF m4 ?_ | refine dF m4 ?_ | refine cF s3 ?_ | refine dF s3 ?_ | refine cF p1 ?_ | refine dF p1 ?_ | refine cF p2 ?_ | refine dF p2 ?_ | refine cF p3 ?_ | refine dF p3 ?_) | refine aL ti_ok ?_ | refine dL ti_ok ?_ | refine dG ?_ | ((first | refine cC ?_ ?_ | refine gS ?_ ?_ | refine dS ?_ ?_) <;> intro hc <;> first | (exfalso; simp only [dcA] at hc; omega) | (simp only [hc]; try simp only [dcA] at hc)) | refine aO ?_ | refine dO ?_)
        all_goals exact fin_same trivial rfl
  obtain ⟨b1, b2, b3⟩ := mkBad_not.1 hb
  have v1 := u1 b3
  have gT := gT b3
  have vT := mkT_nn ns n0 hb
  have vU := mkU_nn nc ns n0 hb
  have m5 := ref_Mul _ _ _ _ _ _ _ _ (gc.arg) (gT.arg)
  have gCT := gc.mul gT
  have a1 := ref_Add _ _ _ _ _ _ _ _ (gCT.arg) (gSW.arg)
  have gCS := (gCT.mono (show _ ≤ 84008 by omega)).add (gSW.mono (show _ ≤ 84008 by omega))
  have hH0 : (mkH s d).n ≠ 0 := fun h0 => by rw [Dy.v_pos_iff, h0] at b2; omega
  have v2 := r18_up _ (mkH s d) 84009 4149 32 (by omega) (by omega) (by omega) gCS gH hH0
  have gU : Mg 160000 (mkU q c s d W0) := by
    have hd := (mkH s d).ok.1
    have := Mg.neg (gCS.neg.quo (y := mkH s d) (den := 32) hH0)
    exact this.mono (by omega)
  have he2 := ckC_make he hn h1 h2 vT vU
  have TB := tubeD_box (P := 100) (Q := 100) hp oa od ow he hn h1 h2 (gT.mono (by omega)) (gU.mono (by omega)) vT vU
  have ac := r18_Accepts TB i h2
  have T := tubeD_mk (P := 100) (Q := 100) (by rw [hn]; exact TB) he2 fa fd fw (by rw [dyV_rep]; exact fine_box (Nat.le_trans (d_upD (by omega)) (by omega))) (by rw [dyV_rep]; exact fine_box (Nat.le_trans (d_upD (by omega)) (by omega)))
  rw [T.acceptsR (by omega)] at ac
  rw [dyV_rep, dyV_rep] at ac
  have hmk : makeN i (dyM a) (dyM dv) (dyV w) q c s d W0 = if acceptsD i (dyM a) (dyM dv) (dyV w) (boxD j (mkT q c s d W0)) (boxD j (mkU q c s d W0)) then some (mkT q c s d W0, mkU q c s d W0) else none := by
    unfold makeN; rw [if_neg hb, dyM_len, hn]
  rw [hmk]
  have c1 := (sign_pos _).2 b1
  have c2 := (sign_pos _).2 b2
  have c3 := (sign_pos _).2 b3
  have c4 : ¬ q.cmp (Dy.int 1) ≥ 0 := by omega
  generalize hz : acceptsD i (dyM a) (dyM dv) (dyV w) (boxD j (mkT q c s d W0)) (boxD j (mkU q c s d W0)) = z at *
  have eU : mkU q c s d W0 = upD ((c.mul (mkT q c s d W0)).add (s.mul W0)) (mkH s d) 32 := rfl
  rw [← eU] at v2
  have hi0 : 0 < j := by omega
  clear hz eU hmk u1 gT gG gLH gSC gSD gSW gH gL gq gc gs gd g0 n0 nq nc ns oa od ow he t1 he2 gU gCS gCT b1 b2 b3 hb vT vU hH0 T TB fa fd fw hsw gone
  clear gS2
  generalize mkU q c s d W0 = U at *
  generalize mkT q c s d W0 = T at *
  simp only [mkG, mkH, mkL] at *
  generalize q.cmp (Dy.int 1) = cq at *
  generalize s.mul d = SD at *
  generalize s.mul W0 = SW at *
  generalize (Dy.int 1).sub SD = H at *
  generalize (Dy.int 1).sub q = L at *
  generalize Dy.int 1 = one1 at *
  generalize L.mul H = LH at *
  generalize SD.mul c = SC at *
  generalize LH.sub SC = G at *
  generalize SW.shift 1 = S2 at *
  generalize c.mul T = CT at *
  generalize CT.add SW = CS at *
  repeat' (first | (simp only [go_sem, seval, IntKind.bits.eq_def, ti, tin, mrows_length, hn]) | (simp (disch := omega) only [wA]) | (with_reducible first | refine cF k3 ?_ | refine dF k3 ?_ | refine cF m1 ?_ | refine dF m1 ?_ | refine cF m2 ?_ | refine dF m2 ?_ | refine cF s1 ?_ | refine dF s1 ?_ | refine cF s2 ?_ | refine dF s2 ?_ | refine cF m3 ?_ | refine dF m3 ?_ | refine cF m4 ?_ | refine dF m4 ?_ | refine cF s3 ?_ | refine dF s3 ?_ | refine cF p1 ?_ | refine dF p1 ?_ | refine cF p2 ?_ | refine dF p2 ?_ | refine cF p3 ?_ | refine dF p3 ?_ | refine cF sh ?_ | refine dF sh ?_ | refine cF v1 ?_ | refine dF v1 ?_ | refine cF m5 ?_ | refine dF m5 ?_ | refine cF a1 ?_ | refine dF a1 ?_ | refine cF v2 ?_ | refine dF v2 ?_) | refine aL ti_ok ?_ | refine dL ti_ok ?_ | refine dG ?_ | ((first | refine cC ?_ ?_ | refine gS ?_ ?_ | refine dS ?_ ?_) <;> intro hc <;> first | (exfalso; simp only [dcA] at hc; omega) | (simp only [hc]; try simp only [dcA] at hc)) | refine aO ?_ | refine dO ?_)
  refine l_loop (α := Nat × Nat) (fun x => ⟨[(2, .p 0 3 0 0), (4, .p 1 3 0 0), (20, .p 2 3 0 0), (21, .p 3 3 0 0), (22, .p 4 3 0 0), (107, .v (.int .i64 j)), (108, .v (.int .i64 x.2))], fz x.1 [(4, ⟨3, [[.v (.int .i64 i), .sl 3 (vrows (List.replicate j (can T))), .sl 3 (vrows (List.replicate j (can U)))]]⟩), (3, ⟨3, [crow U]⟩), (2, ⟨3, [crow T]⟩), (1, ⟨3, [[.v (.int .i64 0), .v (.slice none 0 0), .v (.slice none 0 0)]]⟩), (0, ⟨3, [[.sl 1 (mrows a), .sl 1 (mrows dv), .sl 3 (vrows w)]]⟩)] [(4, ⟨3, [[.v (.int .i64 i), .ps 5 3 0 x.2, .ps 6 3 0 x.2]]⟩), (5, ⟨3, vrows (List.replicate x.2 (can T))⟩), (6, ⟨3, vrows (List.replicate x.2 (can U))⟩), (3, ⟨3, [crow U]⟩), (2, ⟨3, [crow T]⟩), (1, ⟨3, [[.v (.int .i64 0), .v (.slice none 0 0), .v (.slice none 0 0)]]⟩), (0, ⟨3, [[.sl 1 (mrows a), .sl 1 (mrows dv), .sl 3 (vrows w)]]⟩)], 7⟩) (fun x => x.1 + x.2 = j) (fun x => x.1) ((j, 0)) _ byFresh (fun _ h => by first | (cases h; done) | exact Nat.le_of_ble_eq_true rfl) ?_ ?_ ?_
  · exact Nat.add_zero j
  ·
    simp only [fz_pos hi0]
    exact Weak.map [(0, 0), (1, 1), (2, 34), (3, 43), (4, 45)] rfl (by decide) (by decide) byGE byGN
  rintro ⟨r, m⟩ hrm
  simp only at hrm ⊢
  rcases r with _ | r
  ·
    have hm : m = j := by omega
    subst hm
    simp only [fz_zero]
    cases z with
    | false =>
      repeat' (first | (simp only [go_sem, seval, IntKind.bits.eq_def, ti, tin]) | (simp (disch := omega) only [wA]) | (with_reducible first | refine cF ac ?_ | refine dF ac ?_) | refine aL ti_ok ?_ | refine dL ti_ok ?_ | refine dG ?_ | ((first | refine cC ?_ ?_ | refine gS ?_ ?_ | refine dS ?_ ?_) <;> intro hc <;> first | (exfalso; simp only [dcA] at hc; omega) | (simp only [hc]; try simp only [dcA] at hc)) | refine aO ?_ | refine dO ?_)
      all_goals exact fin_same trivial rfl
    | true =>
      repeat' (first | (simp only [go_sem, seval, IntKind.bits.eq_def, ti, tin]) | (simp (disch := omega) only [wA]) | (with_reducible first | refine cF ac ?_ | refine dF ac ?_) | refine aL ti_ok ?_ | refine dL ti_ok ?_ | refine dG ?_ | ((first | refine cC ?_ ?_ | refine gS ?_ ?_ | refine dS ?_ ?_) <;> intro hc <;> first | (exfalso; simp only [dcA] at hc; omega) | (simp only [hc]; try simp only [dcA] at hc)) | refine aO ?_ | refine dO ?_)
      all_goals exact fin_same trivial rfl
  ·
    have lT : (vrows (List.replicate m (can T))).length = m := by rw [vrows_length, List.length_replicate]
    have lU : (vrows (List.replicate m (can U))).length = m := by rw [vrows_length, List.length_replicate]
    have sT := vrep_step (n := m + 1) (i := m) (x := T) (by omega)
    have sU := vrep_step (n := m + 1) (i := m) (x := U) (by omega)
    simp only [fz_succ]
    repeat' (first | (simp only [go_sem, seval, IntKind.bits.eq_def, ti, tin, lT, lU]) | (simp (disch := omega) only [wA]) | (refine drawAfter_app ti_ok rfl rfl rfl rfl rfl ⟨rfl, rfl, by decide⟩ rfl ⟨trivial, by (try simp only [List.length_cons, List.length_nil, List.length_append, u32s_length, List.length_map, lT, lU]); omega, by (try simp only [List.length_cons, List.length_nil, List.length_append, u32s_length, List.length_map, lT, lU]); omega, by (try simp only [List.length_cons, List.length_nil, List.length_append, u32s_length, List.length_map, lT, lU]); omega⟩ byRows ?_) | refine aL ti_ok ?_ | refine dL ti_ok ?_ | refine dG ?_ | ((first | refine cC ?_ ?_ | refine gS ?_ ?_ | refine dS ?_ ?_) <;> intro hc <;> first | (exfalso; simp only [dcA] at hc; omega) | (simp only [hc]; try simp only [dcA] at hc)) | refine aO ?_ | refine dO ?_)
    rw [sT, sU]
    refine roundEnd_of (α := Nat × Nat) (r, m + 1) (show r + (m + 1) = j by omega) (show r < r + 1 by omega) ?_
    refine Weak.trans0 (s1 := ⟨[(2, .p 0 3 0 0), (4, .p 1 3 0 0), (20, .p 2 3 0 0), (21, .p 3 3 0 0), (22, .p 4 3 0 0), (107, .v (.int .i64 j)), (108, .v (.int .i64 ((m + 1 : Nat))))], [(4, ⟨3, [[.v (.int .i64 i), .ps 5 3 0 (m + 1), .ps 6 3 0 (m + 1)]]⟩), (5, ⟨3, vrows (List.replicate (m + 1) (can T))⟩), (6, ⟨3, vrows (List.replicate (m + 1) (can U))⟩), (3, ⟨3, [crow U]⟩), (2, ⟨3, [crow T]⟩), (1, ⟨3, [[.v (.int .i64 0), .v (.slice none 0 0), .v (.slice none 0 0)]]⟩), (0, ⟨3, [[.sl 1 (mrows a), .sl 1 (mrows dv), .sl 3 (vrows w)]]⟩)], 7⟩) (Weak.map [(0, 0), (1, 1), (2, 2), (3, 3), (4, 4), (5, 11), (6, 16)] rfl (by decide) (by decide) byGE byGN) (Nat.zero_lt_succ _) ?_
    cases r with
    | succ r => simp only [fz_succ]; exact byWeak
    | zero =>
      have hm2 : j = m + 1 := by omega
      subst hm2
      have l1 : (vrows (List.replicate (m + 1) (can T))).length = m + 1 := by rw [vrows_length, List.length_replicate]
      have l2 : (vrows (List.replicate (m + 1) (can U))).length = m + 1 := by rw [vrows_length, List.length_replicate]
      simp only [fz_zero]
      refine Weak.trans0 (s1 := ⟨[(2, .p 0 3 0 0), (4, .p 1 3 0 0), (20, .p 2 3 0 0), (21, .p 3 3 0 0), (22, .p 4 3 0 0), (107, .v (.int .i64 ((m + 1 : Nat)))), (108, .v (.int .i64 ((m + 1 : Nat))))], [(4, ⟨3, [[.v (.int .i64 i), .sl 3 (vrows (List.replicate (m + 1) (can T))), .ps 6 3 0 (m + 1)]]⟩), (6, ⟨3, vrows (List.replicate (m + 1) (can U))⟩), (3, ⟨3, [crow U]⟩), (2, ⟨3, [crow T]⟩), (1, ⟨3, [[.v (.int .i64 0), .v (.slice none 0 0), .v (.slice none 0 0)]]⟩), (0, ⟨3, [[.sl 1 (mrows a), .sl 1 (mrows dv), .sl 3 (vrows w)]]⟩)], 7⟩) (Weak.frzA 5 _ (m + 1) l1) (Nat.zero_lt_succ _) ?_
      refine Weak.trans0 (s1 := ⟨[(2, .p 0 3 0 0), (4, .p 1 3 0 0), (20, .p 2 3 0 0), (21, .p 3 3 0 0), (22, .p 4 3 0 0), (107, .v (.int .i64 ((m + 1 : Nat)))), (108, .v (.int .i64 ((m + 1 : Nat))))], [(4, ⟨3, [[.v (.int .i64 i), .sl 3 (vrows (List.replicate (m + 1) (can T))), .sl 3 (vrows (List.replicate (m + 1) (can U)))]]⟩), (3, ⟨3, [crow U]⟩), (2, ⟨3, [crow T]⟩), (1, ⟨3, [[.v (.int .i64 0), .v (.slice none 0 0), .v (.slice none 0 0)]]⟩), (0, ⟨3, [[.sl 1 (mrows a), .sl 1 (mrows dv), .sl 3 (vrows w)]]⟩)], 7⟩) (Weak.frzA 6 _ (m + 1) l2) (Nat.zero_lt_succ _) ?_
      exact byWeak
end Go.Proofs.YtpggiabnhodjpaaGreatDoor
