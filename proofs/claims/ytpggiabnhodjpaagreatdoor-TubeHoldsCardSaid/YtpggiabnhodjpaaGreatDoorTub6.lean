/- Layer 18 (tube): Make. -/
import Derived.Test.YtpggiabnhodjpaaGreatDoorTub5
set_option linter.unusedSimpArgs false
set_option linter.unusedVariables false
set_option linter.deprecated false
namespace Go.Proofs.YtpggiabnhodjpaaGreatDoor
open Go Go.Ax
set_option maxRecDepth 100000
set_option maxHeartbeats 4000000
def certAV (k n : Nat) : Option (Dy × Dy) → AV
  | none => .agg [.v (.int .i64 0), .v (.slice none 0 0), .v (.slice none 0 0)]
  | some p => .agg [.v (.int .i64 k), .sl 3 (vrows (List.replicate n (can p.1))), .sl 3 (vrows (List.replicate n (can p.2)))]
theorem fz_pos {α : Type} {k : Nat} {a b : α} (h : 0 < k) : fz k a b = b := by
  cases k with
  | zero => omega
  | succ k => rfl
theorem nonneg_rep {n : Nat} {x : Dy} (h : 0 ≤ x.v) : nonneg (List.replicate n (can x)) := fun i hi => by
  rw [List.length_replicate] at hi
  rw [List.getD, List.getElem?_replicate, if_pos hi, Option.getD_some, can_dy]
  intro hs
  exact Rat.not_lt.2 h ((sign_lt0 x).1 hs)
theorem dyV_rep {n : Nat} {x : Dy} : dyV (List.replicate n (can x)) = boxD n x := by
  unfold dyV boxD
  rw [List.map_replicate, can_dy]
theorem okV_rep {n q : Nat} {x : Dy} (h : Mg q x) (hq : q ≤ 200000) : okV q (List.replicate n (can x)) := by
  rw [show List.replicate n (can x) = (boxD n x).map can by unfold boxD; rw [List.map_replicate]]
  refine okV_can (fun i => ?_) (by omega)
  unfold boxD
  rw [List.getD, List.getElem?_replicate]
  split
  · exact h
  · exact Mg.zero _
theorem ckC_make {a dv : List (List RD)} {w : List RD} {k n : Nat} {t u : Dy} (h : ckT a dv w = 0) (hn : a.length = n) (h1 : 1 ≤ k) (h2 : k ≤ 32) (ht : 0 ≤ t.v) (hu : 0 ≤ u.v) : ckC a dv w k (List.replicate n (can t)) (List.replicate n (can u)) = 0 := by
  unfold ckC
  rw [if_neg (by omega), if_neg (by omega), if_neg (by rw [List.length_replicate, List.length_replicate]; omega), if_pos ⟨nonneg_rep ht, nonneg_rep hu⟩]
theorem vrep_step {n i : Nat} {x : Dy} (h : i < n) : (vrows (List.replicate i (can x))).take i ++ [[.v (.bool (sg x)), .sl 1 (u32s (ms x)), .v (.int .i64 (dn x))]] = vrows (List.replicate (i + 1) (can x)) := by
  rw [List.take_of_length_le (by rw [vrows_length, List.length_replicate]; exact Nat.le_refl _), List.replicate_succ']
  unfold vrows
  rw [List.map_append]; rfl
theorem certAV_cl (k n : Nat) (o : Option (Dy × Dy)) : Cl (certAV k n o) := by
  cases o with
  | none => exact byCl
  | some p => exact byCl
theorem tub_Make (a dv : List (List RD)) (w : List RD) (k p n : Nat) (hp : p ≤ 100) (oa : okM p a) (od : okM p dv) (ow : okV p w) (he : ckT a dv w = 0) (hn : a.length = n) (h1 : 1 ≤ k) (h2 : k ≤ 32) :
    CallOK Tryz.prog gl 13 [.agg [.sl 1 (mrows a), .sl 1 (mrows dv), .sl 3 (vrows w)], .v (.int .i64 k)] (.tup [certAV k n (makeD k (dyM a) (dyM dv) (dyV w)), .v (.bool (makeD k (dyM a) (dyM dv) (dyV w)).isSome), .v .nilIface]) := by
  refine call_ok (C := ⟨Tryz.prog, gl, ti, 143, false⟩) ti_ok mixed 3000 Tryz.call13 Tryz.func13 rfl Tryz.ntmps13 (by simp) byClL (Cl.tup fun x hx => ?_) ?_
  · simp only [List.mem_cons, List.not_mem_nil, or_false] at hx
    rcases hx with rfl | rfl | rfl
    · exact certAV_cl _ _ _
    · exact Cl.v _
    · exact Cl.v _
  rw [Tryz.results13]
  obtain ⟨t1, t2, t3, t4, t5, t6, t7, t8, t9⟩ := ckT_zero he
  have hn1 := (ckM_zero t1).1
  have hn2 := (ckM_zero t2).2
  have k1 := tub_Check a dv w (by omega) (by omega) (by omega) (okM_all od fun i hi => by rw [hn2.2 i hi]; exact hn2.1.2) (okV_all ow)
  rw [he, eV_zero] at k1
  have k2 := tub_norms a k p n (by omega) t1 hn (by omega) h2 oa
  have k3 := mat_Norm dv p (by omega) t2 od
  have hr := rect_of t1
  rw [t4, hn] at hr
  have hrd := rect_of t2
  have gn : ∀ i, i ≤ 32 → Mg 4008 (normD (powD (dyM a) i)) := fun i hi => by
    have hri := pow_rect hr (by omega) i
    unfold normD
    refine (mg_maxD (k := 4008) fun j hj => ?_)
    rw [hri.1] at hj
    unfold rowN
    rw [hri.2 j hj]
    have hb : i * (p + n) ≤ 32 * 106 := Nat.mul_le_mul hi (by omega)
    exact (mg_sumD (n := n) fun t _ => Mg.abs ((mg_powD hr (by omega) (mg_el_raw oa) i j t).mono (show _ ≤ 4000 by omega))).mono (by omega)
  have gq := gn k h2
  have gc : Mg 4008 (normsM (dyM a) k) := mg_maxD fun j hj => gn j (by omega)
  have gs : Mg 4040 (normsS (dyM a) k) := (mg_sumD fun j hj => gn j (by omega)).mono (by omega)
  have gd : Mg 108 (normD (dyM dv)) := by
    unfold normD
    refine mg_maxD fun j hj => ?_
    rw [hrd.1] at hj
    unfold rowN
    rw [hrd.2 j hj]
    exact (mg_sumD fun t _ => Mg.abs (mg_el_raw od j t)).mono (by omega)
  have nq := norm_nn (powD (dyM a) k)
  have nc := normsM_nn (dyM a) k
  have ns := normsS_nn (dyM a) k
  have gW : ∀ i, Mg 100 (maxD i fun i => (dyV w).getD i Dy.zero) := fun i => mg_maxD fun j _ => (okV_get ow j).mono hp
  have hmk : makeD k (dyM a) (dyM dv) (dyV w) = makeN k (dyM a) (dyM dv) (dyV w) (normD (powD (dyM a) k)) (normsM (dyM a) k) (normsS (dyM a) k) (normD (dyM dv)) (maxD n fun i => (dyV w).getD i Dy.zero) := by
    unfold makeD maxV; rw [dyV_len, t7, hn]
  rw [hmk]
  clear hmk gn hr hrd t4 t5 t6 t8 t9 t2 hn2
  generalize normD (powD (dyM a) k) = q at *
  generalize normsM (dyM a) k = c at *
  generalize normsS (dyM a) k = s at *
  generalize normD (dyM dv) = d at *
  have o1 := Of_ok 1 (by omega)
  have hwn : w.length = n := by omega
  repeat' (first | (simp only [go_sem, seval, IntKind.bits.eq_def, ti, tin, vrows_length, hwn]) | (simp (disch := omega) only [wA]) | (with_reducible first | refine cF k1 ?_ | refine dF k1 ?_ | refine cF k2 ?_ | refine dF k2 ?_ | refine cF k3 ?_ | refine dF k3 ?_) | refine aL ti_ok ?_ | refine dL ti_ok ?_ | refine dG ?_ | ((first | refine cC ?_ ?_ | refine gS ?_ ?_ | refine dS ?_ ?_) <;> intro hc <;> first | (exfalso; simp only [dcA] at hc; omega) | (simp only [hc]; try simp only [dcA] at hc)) | refine aO ?_ | refine dO ?_)
  refine l_loop (α := Nat) (fun i => ⟨[(1, .v (.int .i64 k)), (2, .p 0 3 0 0), (4, .p 1 3 0 0), (8, .p 2 3 0 0), (9, .p 3 3 0 0), (10, .p 4 3 0 0), (11, .p 5 3 0 0), (13, .p 6 3 0 0), (56, .sl 3 (vrows (w))), (57, .v (.int .i64 n)), (58, .v (.int .i64 i))], [(6, ⟨3, [crow (maxD i fun i => (dyV w).getD i Dy.zero)]⟩), (5, ⟨3, [crow d]⟩), (4, ⟨3, [crow s]⟩), (3, ⟨3, [crow c]⟩), (2, ⟨3, [crow q]⟩), (1, ⟨3, [[.v (.int .i64 0), .v (.slice none 0 0), .v (.slice none 0 0)]]⟩), (0, ⟨3, [[.sl 1 (mrows a), .sl 1 (mrows dv), .sl 3 (vrows w)]]⟩)], 7⟩) (fun i => i ≤ n) (fun i => n - i) (0) _ byFresh (fun _ h => by first | (cases h; done) | exact Nat.le_of_ble_eq_true rfl) ?_ ?_ ?_
  · exact Nat.zero_le _
  · exact Weak.trans (Weak.mle 6 ⟨3, [crow Dy.zero]⟩ rfl MLe.dy0) (Nat.le_refl _) byWeak
  rintro i hi
  by_cases hin : i < n
  ·
    have ri := vrows_getD (l := w) (i := i) (by omega)
    have mx := Max_ok _ _ _ _ _ _ _ _ ((gW i).arg) (RD.arg (ow i).1)
    have e1 : (maxD (i + 1) fun i => (dyV w).getD i Dy.zero) = (maxD i fun i => (dyV w).getD i Dy.zero).max (w.getD i RD.zero).dy := by
      simp only [maxD]; rw [dyV_get]
    unfold vrow at ri
    clear gW ow
    generalize w.getD i RD.zero = r at *
    generalize (maxD i fun i => (dyV w).getD i Dy.zero) = W0 at *
    repeat' (first | (simp only [go_sem, seval, IntKind.bits.eq_def, ti, tin, vrows_length, hwn, ri]) | (simp (disch := omega) only [wA]) | (with_reducible first | refine cF mx ?_ | refine dF mx ?_) | refine aL ti_ok ?_ | refine dL ti_ok ?_ | refine dG ?_ | ((first | refine cC ?_ ?_ | refine gS ?_ ?_ | refine dS ?_ ?_) <;> intro hc <;> first | (exfalso; simp only [dcA] at hc; omega) | (simp only [hc]; try simp only [dcA] at hc)) | refine aO ?_ | refine dO ?_)
    refine roundEnd_of (α := Nat) (i + 1) (show i + 1 ≤ n by omega) (by omega) ?_
    simp only [e1]
    exact byWeak
  ·
    have hin2 : i = n := by omega
    subst hin2
    clear hin
    have g0 := gW i
    have n0 : 0 ≤ (maxD i fun i => (dyV w).getD i Dy.zero).v := (v_maxD _ _).1
    clear gW
    generalize (maxD i fun i => (dyV w).getD i Dy.zero) = W0 at *
    have m1 := Mul_ok _ _ _ _ _ _ _ _ (gs.arg) (gd.arg)
    have m2 := Mul_ok _ _ _ _ _ _ _ _ (gs.arg) (g0.arg)
    have gone : Mg 1 (Dy.int 1) := Mg.int (by decide)
    have gSD := gs.mul gd
    have gSW := gs.mul g0
    have gH := gone.mono (show 1 ≤ 4148 by omega) |>.sub (gSD.mono (show _ ≤ 4148 by omega))
    have gL := gone.mono (show 1 ≤ 4008 by omega) |>.sub gq
    have s1 := Sub_ok _ _ _ _ _ _ _ _ (gone.arg) (gSD.arg)
    have s2 := Sub_ok _ _ _ _ _ _ _ _ (gone.arg) (gq.arg)
    have m3 := Mul_ok _ _ _ _ _ _ _ _ (gL.arg) (gH.arg)
    have m4 := Mul_ok _ _ _ _ _ _ _ _ (gSD.arg) (gc.arg)
    have gLH := (gL.mul gH).mono (show _ ≤ 9000 by omega)
    have gSC := (gSD.mul gc).mono (show _ ≤ 9000 by omega)
    have s3 := Sub_ok _ _ _ _ _ _ _ _ (gLH.arg) (gSC.arg)
    have gG := gLH.sub gSC
    have p1 := Sign_ok _ _ _ _ (gL.arg)
    have p2 := Sign_ok _ _ _ _ (gH.arg)
    have p3 := Sign_ok _ _ _ _ (gG.arg)
    have sh := Shift_ok _ _ _ 1 _ (gSW.arg)
    have gS2 := (gSW.shift 1).mono (show _ ≤ 5000 by rw [show clipD 1 = 1 from rfl]; omega)
    have u1 : 0 < (mkG q c s d).v → CallOK Tryz.prog gl 62 [.agg (crow ((s.mul W0).shift 1)), .agg (crow (mkG q c s d)), .v (.int .i64 (16 : Nat))] (.agg (crow (mkT q c s d W0))) := fun h => tub_up _ _ 5000 9001 16 (by omega) (by omega) (by omega) gS2 gG (fun h0 => by rw [Dy.v_pos_iff, h0] at h; omega)
    have gT : 0 < (mkG q c s d).v → Mg 80000 (mkT q c s d W0) := fun h => by
      have hd := (mkG q c s d).ok.1
      have h0 : (mkG q c s d).n ≠ 0 := fun h0 => by rw [Dy.v_pos_iff, h0] at h; omega
      have := Mg.neg (gS2.neg.quo (y := mkG q c s d) (den := 16) h0)
      exact this.mono (by omega)
    by_cases hb : mkBad q c s d
    ·
      have hmk : makeN k (dyM a) (dyM dv) (dyV w) q c s d W0 = none := by unfold makeN; rw [if_pos hb]
      rw [hmk]
      clear hmk u1 gT gG gLH gSC gS2 gSD gSW gH gL gq gc gs gd g0 n0 nq nc ns oa od ow he t1 sh
      simp only [mkBad, mkG, mkH, mkL] at hb
      generalize s.mul d = SD at *
      generalize s.mul W0 = SW at *
      generalize (Dy.int 1).sub SD = H at *
      generalize (Dy.int 1).sub q = L at *
      generalize L.mul H = LH at *
      generalize SD.mul c = SC at *
      generalize LH.sub SC = G at *
      by_cases c1 : L.sign ≤ 0
      ·
        repeat' (first | (simp only [go_sem, seval, IntKind.bits.eq_def, ti, tin]) | (simp (disch := omega) only [wA]) | (with_reducible first | refine cF o1 ?_ | refine dF o1 ?_ | refine cF m1 ?_ | refine dF m1 ?_ | refine cF m2 ?_ | refine dF m2 ?_ | refine cF s1 ?_ | refine dF s1 ?_ | refine cF s2 ?_ | refine dF s2 ?_ | refine cF m3 ?_ | refine dF m3 ?_ | refine cF m4 ?_ | refine dF m4 ?_ | refine cF s3 ?_ | refine dF s3 ?_ | refine cF p1 ?_ | refine dF p1 ?_ | refine cF p2 ?_ | refine dF p2 ?_ | refine cF p3 ?_ | refine dF p3 ?_) | refine aL ti_ok ?_ | refine dL ti_ok ?_ | refine dG ?_ | ((first | refine cC ?_ ?_ | refine gS ?_ ?_ | refine dS ?_ ?_) <;> intro hc <;> first | (exfalso; simp only [dcA] at hc; omega) | (simp only [hc]; try simp only [dcA] at hc)) | refine aO ?_ | refine dO ?_)
        all_goals exact fin_same trivial rfl
      · by_cases c2 : H.sign ≤ 0
        ·
          repeat' (first | (simp only [go_sem, seval, IntKind.bits.eq_def, ti, tin]) | (simp (disch := omega) only [wA]) | (with_reducible first | refine cF o1 ?_ | refine dF o1 ?_ | refine cF m1 ?_ | refine dF m1 ?_ | refine cF m2 ?_ | refine dF m2 ?_ | refine cF s1 ?_ | refine dF s1 ?_ | refine cF s2 ?_ | refine dF s2 ?_ | refine cF m3 ?_ | refine dF m3 ?_ | refine cF m4 ?_ | refine dF m4 ?_ | refine cF s3 ?_ | refine dF s3 ?_ | refine cF p1 ?_ | refine dF p1 ?_ | refine cF p2 ?_ | refine dF p2 ?_ | refine cF p3 ?_ | refine dF p3 ?_) | refine aL ti_ok ?_ | refine dL ti_ok ?_ | refine dG ?_ | ((first | refine cC ?_ ?_ | refine gS ?_ ?_ | refine dS ?_ ?_) <;> intro hc <;> first | (exfalso; simp only [dcA] at hc; omega) | (simp only [hc]; try simp only [dcA] at hc)) | refine aO ?_ | refine dO ?_)
          all_goals exact fin_same trivial rfl
        ·
          have c3 : G.sign ≤ 0 := by omega
          repeat' (first | (simp only [go_sem, seval, IntKind.bits.eq_def, ti, tin]) | (simp (disch := omega) only [wA]) | (with_reducible first | refine cF o1 ?_ | refine dF o1 ?_ | refine cF m1 ?_ | refine dF m1 ?_ | refine cF m2 ?_ | refine dF m2 ?_ | refine cF s1 ?_ | refine dF s1 ?_ | refine cF s2 ?_ | refine dF s2 ?_ | refine cF m3 ?_ | refine dF m3 ?_ | refine cF m4 ?_ | refine dF m4 ?_ | refine cF s3 ?_ | refine dF s3 ?_ | refine cF p1 ?_ | refine dF p1 ?_ | refine cF p2 ?_ | refine dF p2 ?_ | refine cF p3 ?_ | refine dF p3 ?_) | refine aL ti_ok ?_ | refine dL ti_ok ?_ | refine dG ?_ | ((first | refine cC ?_ ?_ | refine gS ?_ ?_ | refine dS ?_ ?_) <;> intro hc <;> first | (exfalso; simp only [dcA] at hc; omega) | (simp only [hc]; try simp only [dcA] at hc)) | refine aO ?_ | refine dO ?_)
          all_goals exact fin_same trivial rfl
    ·
      obtain ⟨b1, b2, b3⟩ := mkBad_not.1 hb
      have v1 := u1 b3
      have gT := gT b3
      have vT := mkT_nn ns n0 hb
      have vU := mkU_nn nc ns n0 hb
      have m5 := Mul_ok _ _ _ _ _ _ _ _ (gc.arg) (gT.arg)
      have gCT := gc.mul gT
      have a1 := Add_ok _ _ _ _ _ _ _ _ (gCT.arg) (gSW.arg)
      have gCS := (gCT.mono (show _ ≤ 84008 by omega)).add (gSW.mono (show _ ≤ 84008 by omega))
      have hH0 : (mkH s d).n ≠ 0 := fun h0 => by rw [Dy.v_pos_iff, h0] at b2; omega
      have v2 := tub_up _ (mkH s d) 84009 4149 32 (by omega) (by omega) (by omega) gCS gH hH0
      have gU : Mg 160000 (mkU q c s d W0) := by
        have hd := (mkH s d).ok.1
        have := Mg.neg (gCS.neg.quo (y := mkH s d) (den := 32) hH0)
        exact this.mono (by omega)
      have he2 := ckC_make he hn h1 h2 vT vU
      have ac := tub_Accepts a dv w (List.replicate i (can (mkT q c s d W0))) (List.replicate i (can (mkU q c s d W0))) k p 200000 i (by
        have := tubOK_of (q := 200000) hp (Nat.le_refl _) oa od (fun i => ⟨(ow i).1, (ow i).2.mono (by omega)⟩) (okV_rep (gT.mono (by omega)) (Nat.le_refl _)) (okV_rep (gU.mono (by omega)) (Nat.le_refl _)) he2
        rwa [hn] at this) he2
      rw [dyV_rep, dyV_rep] at ac
      have hmk : makeN k (dyM a) (dyM dv) (dyV w) q c s d W0 = if acceptsD k (dyM a) (dyM dv) (dyV w) (boxD i (mkT q c s d W0)) (boxD i (mkU q c s d W0)) then some (mkT q c s d W0, mkU q c s d W0) else none := by
        unfold makeN; rw [if_neg hb, dyM_len, hn]
      rw [hmk]
      have c1 := (sign_pos _).2 b1
      have c2 := (sign_pos _).2 b2
      have c3 := (sign_pos _).2 b3
      generalize hz : acceptsD k (dyM a) (dyM dv) (dyV w) (boxD i (mkT q c s d W0)) (boxD i (mkU q c s d W0)) = z at *
      have eU : mkU q c s d W0 = upD ((c.mul (mkT q c s d W0)).add (s.mul W0)) (mkH s d) 32 := rfl
      have sT := (gT.arg)
      have sU := (gU.arg)
      have z1 := Shift_ok _ _ _ 0 _ sT
      have z2 := Shift_ok _ _ _ 0 _ sU
      rw [shift0] at z1 z2
      rw [← eU] at v2
      clear hz eU sT sU hmk u1 gT gG gLH gSC gS2 gSD gSW gH gL gq gc gs gd g0 n0 nq nc ns oa od ow he t1 he2 gU gCS gCT b1 b2 b3 hb vT vU hH0
      generalize mkU q c s d W0 = U at *
      generalize mkT q c s d W0 = T at *
      simp only [mkG, mkH, mkL] at *
      generalize s.mul d = SD at *
      generalize s.mul W0 = SW at *
      generalize (Dy.int 1).sub SD = H at *
      generalize (Dy.int 1).sub q = L at *
      generalize L.mul H = LH at *
      generalize SD.mul c = SC at *
      generalize LH.sub SC = G at *
      generalize SW.shift 1 = S2 at *
      generalize c.mul T = CT at *
      generalize CT.add SW = CS at *
      repeat' (first | (simp only [go_sem, seval, IntKind.bits.eq_def, ti, tin, mrows_length, hn]) | (simp (disch := omega) only [wA]) | (with_reducible first | refine cF o1 ?_ | refine dF o1 ?_ | refine cF m1 ?_ | refine dF m1 ?_ | refine cF m2 ?_ | refine dF m2 ?_ | refine cF s1 ?_ | refine dF s1 ?_ | refine cF s2 ?_ | refine dF s2 ?_ | refine cF m3 ?_ | refine dF m3 ?_ | refine cF m4 ?_ | refine dF m4 ?_ | refine cF s3 ?_ | refine dF s3 ?_ | refine cF p1 ?_ | refine dF p1 ?_ | refine cF p2 ?_ | refine dF p2 ?_ | refine cF p3 ?_ | refine dF p3 ?_ | refine cF sh ?_ | refine dF sh ?_ | refine cF v1 ?_ | refine dF v1 ?_ | refine cF m5 ?_ | refine dF m5 ?_ | refine cF a1 ?_ | refine dF a1 ?_ | refine cF v2 ?_ | refine dF v2 ?_) | refine aL ti_ok ?_ | refine dL ti_ok ?_ | refine dG ?_ | ((first | refine cC ?_ ?_ | refine gS ?_ ?_ | refine dS ?_ ?_) <;> intro hc <;> first | (exfalso; simp only [dcA] at hc; omega) | (simp only [hc]; try simp only [dcA] at hc)) | refine aO ?_ | refine dO ?_)
      have hi0 : 0 < i := by omega
      refine l_loop (α := Nat × Nat) (fun x => ⟨[(2, .p 0 3 0 0), (4, .p 1 3 0 0), (22, .p 2 3 0 0), (23, .p 3 3 0 0), (24, .p 4 3 0 0), (115, .v (.int .i64 i)), (116, .v (.int .i64 x.2))], fz x.1 [(4, ⟨3, [[.v (.int .i64 k), .sl 3 (vrows (List.replicate i (can T))), .sl 3 (vrows (List.replicate i (can U)))]]⟩), (3, ⟨3, [crow U]⟩), (2, ⟨3, [crow T]⟩), (1, ⟨3, [[.v (.int .i64 0), .v (.slice none 0 0), .v (.slice none 0 0)]]⟩), (0, ⟨3, [[.sl 1 (mrows a), .sl 1 (mrows dv), .sl 3 (vrows w)]]⟩)] [(4, ⟨3, [[.v (.int .i64 k), .ps 5 3 0 x.2, .ps 6 3 0 x.2]]⟩), (5, ⟨3, vrows (List.replicate x.2 (can T))⟩), (6, ⟨3, vrows (List.replicate x.2 (can U))⟩), (3, ⟨3, [crow U]⟩), (2, ⟨3, [crow T]⟩), (1, ⟨3, [[.v (.int .i64 0), .v (.slice none 0 0), .v (.slice none 0 0)]]⟩), (0, ⟨3, [[.sl 1 (mrows a), .sl 1 (mrows dv), .sl 3 (vrows w)]]⟩)], 7⟩) (fun x => x.1 + x.2 = i) (fun x => x.1) ((i, 0)) _ byFresh (fun _ h => by first | (cases h; done) | exact Nat.le_of_ble_eq_true rfl) ?_ ?_ ?_
      · exact Nat.add_zero i
      ·
        simp only [fz_pos hi0]
        exact Weak.map [(0, 0), (1, 1), (2, 41), (3, 50), (4, 52)] rfl (by decide) (by decide) byGE byGM
      rintro ⟨r, m⟩ hrm
      simp only at hrm ⊢
      rcases r with _ | r
      ·
        have hm : m = i := by omega
        subst hm
        simp only [fz_zero]
        cases z with
        | false =>
          repeat' (first | (simp only [go_sem, seval, IntKind.bits.eq_def, ti, tin]) | (simp (disch := omega) only [wA]) | (with_reducible first | refine cF ac ?_ | refine dF ac ?_) | refine aL ti_ok ?_ | refine dL ti_ok ?_ | refine dG ?_ | ((first | refine cC ?_ ?_ | refine gS ?_ ?_ | refine dS ?_ ?_) <;> intro hc <;> first | (exfalso; simp only [dcA] at hc; omega) | (simp only [hc]; try simp only [dcA] at hc)) | refine aO ?_ | refine dO ?_)
          exact fin_same trivial rfl
        | true =>
          repeat' (first | (simp only [go_sem, seval, IntKind.bits.eq_def, ti, tin]) | (simp (disch := omega) only [wA]) | (with_reducible first | refine cF ac ?_ | refine dF ac ?_) | refine aL ti_ok ?_ | refine dL ti_ok ?_ | refine dG ?_ | ((first | refine cC ?_ ?_ | refine gS ?_ ?_ | refine dS ?_ ?_) <;> intro hc <;> first | (exfalso; simp only [dcA] at hc; omega) | (simp only [hc]; try simp only [dcA] at hc)) | refine aO ?_ | refine dO ?_)
          exact fin_same trivial rfl
      ·
        have lT : (vrows (List.replicate m (can T))).length = m := by rw [vrows_length, List.length_replicate]
        have lU : (vrows (List.replicate m (can U))).length = m := by rw [vrows_length, List.length_replicate]
        have sT := vrep_step (n := m + 1) (i := m) (x := T) (by omega)
        have sU := vrep_step (n := m + 1) (i := m) (x := U) (by omega)
        simp only [fz_succ]
        repeat' (first | (simp only [go_sem, seval, IntKind.bits.eq_def, ti, tin, lT, lU]) | (simp (disch := omega) only [wA]) | (with_reducible first | refine cF z1 ?_ | refine dF z1 ?_ | refine cF z2 ?_ | refine dF z2 ?_) | (refine drawAfter_app ti_ok rfl rfl rfl rfl rfl ⟨rfl, rfl, by decide⟩ rfl ⟨trivial, by (try simp only [List.length_cons, List.length_nil, List.length_append, u32s_length, List.length_map, lT, lU]); omega, by (try simp only [List.length_cons, List.length_nil, List.length_append, u32s_length, List.length_map, lT, lU]); omega, by (try simp only [List.length_cons, List.length_nil, List.length_append, u32s_length, List.length_map, lT, lU]); omega⟩ byRows ?_) | refine aL ti_ok ?_ | refine dL ti_ok ?_ | refine dG ?_ | ((first | refine cC ?_ ?_ | refine gS ?_ ?_ | refine dS ?_ ?_) <;> intro hc <;> first | (exfalso; simp only [dcA] at hc; omega) | (simp only [hc]; try simp only [dcA] at hc)) | refine aO ?_ | refine dO ?_)
        rw [sT, sU]
        refine roundEnd_of (α := Nat × Nat) (r, m + 1) (show r + (m + 1) = i by omega) (show r < r + 1 by omega) ?_
        refine Weak.trans0 (s1 := ⟨[(2, .p 0 3 0 0), (4, .p 1 3 0 0), (22, .p 2 3 0 0), (23, .p 3 3 0 0), (24, .p 4 3 0 0), (115, .v (.int .i64 i)), (116, .v (.int .i64 ((m + 1 : Nat) : Int)))], [(4, ⟨3, [[.v (.int .i64 k), .ps 5 3 0 (m + 1), .ps 6 3 0 (m + 1)]]⟩), (5, ⟨3, vrows (List.replicate (m + 1) (can T))⟩), (6, ⟨3, vrows (List.replicate (m + 1) (can U))⟩), (3, ⟨3, [crow U]⟩), (2, ⟨3, [crow T]⟩), (1, ⟨3, [[.v (.int .i64 0), .v (.slice none 0 0), .v (.slice none 0 0)]]⟩), (0, ⟨3, [[.sl 1 (mrows a), .sl 1 (mrows dv), .sl 3 (vrows w)]]⟩)], 7⟩) (Weak.map [(0, 0), (1, 1), (2, 2), (3, 3), (4, 4), (5, 12), (6, 20)] rfl (by decide) (by decide) byGE byGM) (Nat.zero_lt_succ _) ?_
        cases r with
        | succ r => simp only [fz_succ]; exact byWeak
        | zero =>
          have hi2 : i = m + 1 := by omega
          subst hi2
          simp only [fz_zero]
          refine Weak.trans0 (s1 := ⟨[(2, .p 0 3 0 0), (4, .p 1 3 0 0), (22, .p 2 3 0 0), (23, .p 3 3 0 0), (24, .p 4 3 0 0), (115, .v (.int .i64 (m + 1 : Nat))), (116, .v (.int .i64 ((m + 1 : Nat) : Int)))], [(4, ⟨3, [[.v (.int .i64 k), .sl 3 (vrows (List.replicate (m + 1) (can T))), .ps 6 3 0 (m + 1)]]⟩), (6, ⟨3, vrows (List.replicate (m + 1) (can U))⟩), (3, ⟨3, [crow U]⟩), (2, ⟨3, [crow T]⟩), (1, ⟨3, [[.v (.int .i64 0), .v (.slice none 0 0), .v (.slice none 0 0)]]⟩), (0, ⟨3, [[.sl 1 (mrows a), .sl 1 (mrows dv), .sl 3 (vrows w)]]⟩)], 7⟩) (Weak.frz 5 ⟨3, vrows (List.replicate (m + 1) (can T))⟩ rfl ?_ ?_ (Nat.le_refl _)) (Nat.zero_lt_succ _) (Weak.frz 6 ⟨3, vrows (List.replicate (m + 1) (can U))⟩ rfl ?_ ?_ (Nat.le_refl _))
          · repeat' (first | exact trivial | exact ⟨_, _, rfl, .same, .refl _⟩ | refine And.intro ?_ ?_)
          · refine ⟨⟨by decide, _, rfl, .row ⟨⟨_, .same, .refl _⟩, ⟨_, frz_ps rfl (by show 0 + (m + 1) ≤ _; rw [vrows_length, List.length_replicate]; omega), Le.take (by rw [vrows_length, List.length_replicate]; exact Nat.le_refl _)⟩, ⟨_, .same, .refl _⟩, trivial⟩⟩, ?_⟩
            repeat' (first | exact trivial | exact ⟨by decide, _, rfl, .refl _ _ _⟩ | refine And.intro ?_ ?_)
          · repeat' (first | exact trivial | exact ⟨_, _, rfl, .same, .refl _⟩ | refine And.intro ?_ ?_)
          · refine ⟨⟨by decide, _, rfl, .row ⟨⟨_, .same, .refl _⟩, ⟨_, .same, .refl _⟩, ⟨_, frz_ps rfl (by show 0 + (m + 1) ≤ _; rw [vrows_length, List.length_replicate]; omega), Le.take (by rw [vrows_length, List.length_replicate]; exact Nat.le_refl _)⟩, trivial⟩⟩, ?_⟩
            repeat' (first | exact trivial | exact ⟨by decide, _, rfl, .refl _ _ _⟩ | refine And.intro ?_ ?_)
end Go.Proofs.YtpggiabnhodjpaaGreatDoor
