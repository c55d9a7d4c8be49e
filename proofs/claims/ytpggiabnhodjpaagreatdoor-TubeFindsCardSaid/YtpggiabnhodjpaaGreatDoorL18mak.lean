/- The reference's matrices (ref04): Zero, whose result is only read. -/
import Derived.Test.YtpggiabnhodjpaaGreatDoorMatA
import Derived.Test.YtpggiabnhodjpaaGreatDoorU4
import Derived.Test.YtpggiabnhodjpaaGreatDoorT18s
set_option linter.unusedSimpArgs false
set_option linter.unusedVariables false
set_option linter.deprecated false
namespace Go.Proofs.YtpggiabnhodjpaaGreatDoor
open Go Go.Ax
set_option maxRecDepth 100000
set_option maxHeartbeats 4000000
theorem tabV_zero (m : Nat) : tabV m (fun _ => Dy.zero) = List.replicate m Dy.zero := by
  unfold tabV; rw [List.map_const', List.length_range]
theorem refm_ZeroR (n m : Nat) (hn : n ≤ 10) (hm : m ≤ 10) : CallOK Tryz.prog gl 17 [.v (.int .i64 n), .v (.int .i64 m)] (.sl 1 (mrows (crM (tabD n m fun _ _ => Dy.zero)))) := by
  refine call_ok (C := ⟨Tryz.prog, gl, ti, 21, false⟩) ti_ok mixed 3000 Tryz.call17 Tryz.func17 rfl Tryz.ntmps17 (by simp) byClL byCl ?_
  rw [Tryz.results17]
  repeat' (first | (simp only [go_sem, seval, IntKind.bits.eq_def, ti, tin, List.length_replicate]) | (simp (disch := omega) only [wA]) | refine aL ti_ok ?_ | refine dL ti_ok ?_ | refine dG ?_ | ((first | refine cC ?_ ?_ | refine gS ?_ ?_ | refine dS ?_ ?_) <;> intro hc <;> first | (exfalso; simp only [dcA] at hc; omega) | (simp only [hc]; try simp only [dcA] at hc)) | refine aO ?_ | refine dO ?_)
  refine l_loop (α := Nat) (fun i => ⟨[(1, .v (.int .i64 m)), (5, .ps 0 1 0 n), (10, .v (.int .i64 n)), (11, .v (.int .i64 i))], [(0, ⟨1, bRows n m (fun _ _ => Dy.zero) i⟩)], 1⟩) (fun i => i ≤ n) (fun i => n - i) (0) _ byFresh (fun _ h => by first | (cases h; done) | exact Nat.le_of_ble_eq_true rfl) ?_ ?_ ?_
  · exact Nat.zero_le _
  · rw [bRows_zero]
    exact byWeak
  rintro i hi
  by_cases hin : i < n
  ·
    rw [bRows_cons hin]
    have hD : (mrows (crM (tabD i m fun _ _ => Dy.zero))).length = i := done_len
    obtain ⟨q, hq⟩ : ∃ q, n - i - 1 = q := ⟨_, rfl⟩
    have e1 := getD_mid (d := []) (x := [AV.v (.slice none 0 0)]) (R := List.replicate q [AV.v (.slice none 0 0)]) hD
    have e2 : ∀ v : List AV, _ := fun v => set_mid (x := [AV.v (.slice none 0 0)]) (y := v) (R := List.replicate q [AV.v (.slice none 0 0)]) hD
    have e3 : (mrows (crM (tabD i m fun _ _ => Dy.zero)) ++ [AV.v (.slice none 0 0)] :: List.replicate q [AV.v (.slice none 0 0)]).length = n := by rw [List.length_append, hD, List.length_cons, List.length_replicate]; omega
    rw [hq]
    repeat' (first | (simp only [go_sem, seval, IntKind.bits.eq_def, ti, tin, List.length_replicate, e1, e2, e3]) | (simp (disch := omega) only [wA]) | refine aL ti_ok ?_ | refine dL ti_ok ?_ | refine dG ?_ | ((first | refine cC ?_ ?_ | refine gS ?_ ?_ | refine dS ?_ ?_) <;> intro hc <;> first | (exfalso; simp only [dcA] at hc; omega) | (simp only [hc]; try simp only [dcA] at hc)) | refine aO ?_ | refine dO ?_)
    refine roundEnd_of (α := Nat) (i + 1) (show i + 1 ≤ n by omega) (by omega) ?_
    rw [bRows_succ, hq]
    refine Weak.trans0 (Weak.mle 1 ⟨3, vrows ((List.replicate m Dy.zero).map can)⟩ rfl (MLe.zr m)) (by first | exact Nat.zero_lt_succ _ | exact Nat.le_of_ble_eq_true rfl) ?_
    rw [tabV_zero]
    refine Weak.trans0 (Weak.rowDone (T := []) (E := [(1, .v (.int .i64 m)), (5, .ps 0 1 0 n), (10, .v (.int .i64 n)), (11, .v (.int .i64 (i + 1 : Nat)))]) ?_ rfl rfl (by rw [crows_length, List.length_replicate]) (fun b M h => by cases h) (no_cl (mrows_cl _)) (Nat.le_refl _)) (by first | exact Nat.zero_lt_succ _ | exact Nat.le_of_ble_eq_true rfl) ?_
    · repeat' (first | exact trivial | exact ⟨_, rfl, .refl _⟩ | refine And.intro ?_ ?_)
    ·
      have hcl : ∀ r ∈ (mrows (crM (tabD i m fun _ _ => Dy.zero)) ++ [[AV.sl 3 (vrows ((List.replicate m Dy.zero).map can))]]) ++ List.replicate q [AV.v (.slice none 0 0)], ∀ a ∈ r, Cl a := fun r hr a ha => by
        rcases List.mem_append.1 hr with hr | hr
        · rcases List.mem_append.1 hr with hr | hr
          · exact mrows_cl _ r hr a ha
          · simp only [List.mem_cons, List.not_mem_nil, or_false] at hr
            subst hr
            simp only [List.mem_cons, List.not_mem_nil, or_false] at ha
            subst ha; exact Cl.vec
        · exact nil_cl r hr a ha
      (first | exact Weak.of (by (repeat' (first | exact trivial | exact ⟨_, rfl, .refl _⟩ | exact ⟨_, rfl, Le.nil _⟩ | exact ⟨_, rfl, Le.ps0 _ _ _⟩ | exact ⟨_, rfl, Le.top _⟩ | exact nbRows_of hcl | refine And.intro ?_ ?_))) (by (repeat' (first | exact trivial | exact rfl | exact nbRows_of hcl | refine And.intro ?_ ?_))) (by first | exact Nat.le_refl _ | exact Nat.le_of_ble_eq_true rfl) | exact Weak.cut (by (repeat' (first | exact trivial | exact ⟨_, rfl, .refl _⟩ | exact ⟨_, rfl, Le.nil _⟩ | exact ⟨_, rfl, Le.ps0 _ _ _⟩ | exact ⟨_, rfl, Le.top _⟩ | exact nbRows_of hcl | refine And.intro ?_ ?_))) (by (repeat' (first | exact trivial | exact rfl | exact nbRows_of hcl | refine And.intro ?_ ?_))) (by (repeat' (first | exact trivial | exact .v | exact .top | exact .p (Nat.le_of_ble_eq_true rfl) | exact .ps (Nat.le_of_ble_eq_true rfl) | exact nbRows_u32s | exact nbRows_strs | exact nbRows_vrows | exact nbRows_mrows | exact .cl (by (first | exact Cl.v _ | exact Cl.u32s | exact Cl.vec | exact Cl.mat | exact Cl.strs | exact Cl.i64s | exact Cl.sl (by assumption) | assumption | ((first | refine Cl.agg ?_ | refine Cl.rp ?_ | refine Cl.sl ?_ | refine Cl.tup ?_); simp only [List.mem_cons, List.not_mem_nil, or_false, forall_eq_or_imp, forall_eq]; (repeat' (first | exact Cl.v _ | exact Cl.u32s | exact Cl.vec | exact Cl.mat | exact Cl.strs | exact Cl.sl (by assumption) | assumption | refine And.intro ?_ ?_))))) | exact nbRows_of hcl | refine And.intro ?_ ?_))) (by (repeat' (first | exact trivial | exact Nat.le_of_ble_eq_true rfl | exact .v | exact .top | exact .p (Nat.le_of_ble_eq_true rfl) | exact .ps (Nat.le_of_ble_eq_true rfl) | exact nbRows_u32s | exact nbRows_strs | exact nbRows_vrows | exact nbRows_mrows | exact .cl (by (first | exact Cl.v _ | exact Cl.u32s | exact Cl.vec | exact Cl.mat | exact Cl.strs | exact Cl.i64s | exact Cl.sl (by assumption) | assumption | ((first | refine Cl.agg ?_ | refine Cl.rp ?_ | refine Cl.sl ?_ | refine Cl.tup ?_); simp only [List.mem_cons, List.not_mem_nil, or_false, forall_eq_or_imp, forall_eq]; (repeat' (first | exact Cl.v _ | exact Cl.u32s | exact Cl.vec | exact Cl.mat | exact Cl.strs | exact Cl.sl (by assumption) | assumption | refine And.intro ?_ ?_))))) | exact nbRows_of hcl | refine And.intro ?_ ?_))))
  ·
    have hin2 : i = n := by omega
    subst hin2
    repeat' (first | (simp only [go_sem, seval, IntKind.bits.eq_def, ti, tin]) | (simp (disch := omega) only [wA]) | refine aL ti_ok ?_ | refine dL ti_ok ?_ | refine dG ?_ | ((first | refine cC ?_ ?_ | refine gS ?_ ?_ | refine dS ?_ ?_) <;> intro hc <;> first | (exfalso; simp only [dcA] at hc; omega) | (simp only [hc]; try simp only [dcA] at hc)) | refine aO ?_ | refine dO ?_)
    rw [bRows_all]
    refine fin_pub trivial (.one (.one (.ps rfl rfl (by show 0 + i ≤ _; rw [done_len]; omega)))) ?_
    rw [List.drop_zero, List.take_of_length_le (by rw [done_len]; exact Nat.le_refl _)]
    exact .refl _
end Go.Proofs.YtpggiabnhodjpaaGreatDoor
/- The statements on layer 18: what Make makes of short models. -/
set_option linter.unusedSimpArgs false
set_option linter.unusedVariables false
set_option linter.deprecated false
namespace Go.Proofs.YtpggiabnhodjpaaGreatDoor
open Go Go.Ax
set_option maxRecDepth 100000
set_option maxHeartbeats 4000000
section
variable {a dv : List (List RD)} {w inner outer : List RD}
theorem In18.rmk (h : In18 a dv w) (k n : Nat) (hc : ckT a dv w = 0) (hn : a.length = n) (h1 : 1 ≤ k) (h2 : k ≤ 32) : CallOK Tryz.prog gl 14 [.agg [.sl 1 (mrows a), .sl 1 (mrows dv), .sl 3 (vrows w)], .v (.int .i64 k)] (.tup [certAV k n (makeD k (dyM a) (dyM dv) (dyV w)), .v (.bool (makeD k (dyM a) (dyM dv) (dyV w)).isSome)]) :=
  r18_Make a dv w k 64 n (by omega) h.oa h.od h.ow (fine.mono h.fa (by omega)) (fine.mono h.fd (by omega)) (h.fw.mono (by omega)) hc hn h1 h2
end
theorem mk_mg {a dv : List (List RD)} {w : List RD} {k p n : Nat} (hp : p ≤ 100) (oa : okM p a) (od : okM p dv) (ow : okV p w) (he : ckT a dv w = 0) (hn : a.length = n) (h2 : k ≤ 32) {t u : Dy} (h : makeD k (dyM a) (dyM dv) (dyV w) = some (t, u)) :
    Mg 200000 t ∧ Mg 200000 u ∧ 0 ≤ t.v ∧ 0 ≤ u.v ∧ t.d ≤ 32 ∧ u.d ≤ 32 ∧ acceptsD k (dyM a) (dyM dv) (dyV w) (boxD n t) (boxD n u) = true := by
  obtain ⟨t1, t2, t3, t4, t5, t6, t7, t8, t9⟩ := ckT_zero he
  have hn1 := (ckM_zero t1).1
  rw [hn] at t4 hn1 t3 t7
  have hr := rect_of t1
  rw [t4, hn] at hr
  have hrd := rect_of t2
  have gn : ∀ i, i ≤ 32 → Mg 4008 (normD (powD (dyM a) i)) := fun i hi => by
    have hri := pow_rect hr (by omega) i
    unfold normD
    refine (mg_maxD (k := 4008) fun j hj => ?_)
    rw [hri.1] at hj
    unfold rowN
    rw [hri.2 j hj]
    have hb : i * (p + n) ≤ 32 * 106 := Nat.mul_le_mul hi (by omega)
    exact (mg_sumD (n := n) fun t _ => Mg.abs ((mg_powD hr (by omega) (mg_el_raw oa) i j t).mono (show _ ≤ 4000 by omega))).mono (by omega)
  have gq := gn k h2
  have gc : Mg 4008 (normsM (dyM a) k) := mg_maxD fun j hj => gn j (by omega)
  have gs : Mg 4040 (normsS (dyM a) k) := (mg_sumD fun j hj => gn j (by omega)).mono (by omega)
  have gd : Mg 108 (normD (dyM dv)) := by
    unfold normD
    refine mg_maxD fun j hj => ?_
    rw [hrd.1] at hj
    unfold rowN
    rw [hrd.2 j hj]
    exact (mg_sumD fun t _ => Mg.abs (mg_el_raw od j t)).mono (by omega)
  have nc := normsM_nn (dyM a) k
  have ns := normsS_nn (dyM a) k
  have g0 : Mg 100 (maxV (dyV w)) := mg_maxD fun j _ => (okV_get ow j).mono hp
  have n0 := maxV_nn (dyV w)
  unfold makeD makeN at h
  generalize normD (powD (dyM a) k) = q at *
  generalize normsM (dyM a) k = c at *
  generalize normsS (dyM a) k = s at *
  generalize normD (dyM dv) = d at *
  generalize maxV (dyV w) = W0 at *
  have gone : Mg 1 (Dy.int 1) := Mg.int (by decide)
  have gSD := gs.mul gd
  have gSW := gs.mul g0
  have gH := gone.mono (show 1 ≤ 4148 by omega) |>.sub (gSD.mono (show _ ≤ 4148 by omega))
  have gL := gone.mono (show 1 ≤ 4008 by omega) |>.sub gq
  have gLH := (gL.mul gH).mono (show _ ≤ 9000 by omega)
  have gSC := (gSD.mul gc).mono (show _ ≤ 9000 by omega)
  have gG := gLH.sub gSC
  have gS2 := (gSW.shift 1).mono (show _ ≤ 5000 by rw [show clipD 1 = 1 from rfl]; omega)
  by_cases hb : mkBad q c s d
  · rw [if_pos hb] at h; cases h
  rw [if_neg hb] at h
  split at h
  · rename_i hacc
    injection h with h
    injection h with e1 e2
    subst e1 e2
    obtain ⟨b1, b2, b3⟩ := mkBad_not.1 hb
    have gT : Mg 80000 (mkT q c s d W0) := by
      have hd := (mkG q c s d).ok.1
      have h0 : (mkG q c s d).n ≠ 0 := fun h0 => by rw [Dy.v_pos_iff, h0] at b3; omega
      have := Mg.neg (gS2.neg.quo (y := mkG q c s d) (den := 16) h0)
      exact this.mono (by omega)
    have gCT := gc.mul gT
    have gCS := (gCT.mono (show _ ≤ 84008 by omega)).add (gSW.mono (show _ ≤ 84008 by omega))
    have hH0 : (mkH s d).n ≠ 0 := fun h0 => by rw [Dy.v_pos_iff, h0] at b2; omega
    have gU : Mg 160000 (mkU q c s d W0) := by
      have hd := (mkH s d).ok.1
      have := Mg.neg (gCS.neg.quo (y := mkH s d) (den := 32) hH0)
      exact this.mono (by omega)
    rw [dyM_len, hn] at hacc
    exact ⟨gT.mono (by omega), gU.mono (by omega), mkT_nn ns n0 hb, mkU_nn nc ns n0 hb, Nat.le_trans (d_upD (by omega)) (by omega), d_upD (by omega), hacc⟩
  · cases h
theorem mk_acc {a dv : List (List RD)} {w : List RD} {k p n : Nat} (hp : p ≤ 100) (oa : okM p a) (od : okM p dv) (ow : okV p w) (he : ckT a dv w = 0) (hn : a.length = n) (h1 : 1 ≤ k) (h2 : k ≤ 32) {t u : Dy} (h : makeD k (dyM a) (dyM dv) (dyV w) = some (t, u)) :
    CallOK Tryz.prog gl 16 [.agg [.sl 1 (mrows a), .sl 1 (mrows dv), .sl 3 (vrows w)], certAV k n (some (t, u))] (.tup [.v (.bool true), .v .nilIface]) := by
  obtain ⟨gt, gu, nt, nu, _, _, hacc⟩ := mk_mg hp oa od ow he hn h2 h
  have he2 := ckC_make he hn h1 h2 nt nu
  have TB := tubeD_box (P := 100) (Q := 100) hp oa od ow he hn h1 h2 gt gu nt nu
  have := tub_Accepts a dv w _ _ k p 200000 n TB he2
  rw [dyV_rep, dyV_rep, hacc] at this
  exact this
theorem u8_mod {k : Int} (h : (Lit.int .u8 k).wf = true) : ∃ m : Nat, k.tmod 6 + 1 = (m : Int) ∧ 1 ≤ m ∧ m ≤ 6 ∧ 0 ≤ k ∧ k ≤ 255 ∧ 0 ≤ k.tmod 6 ∧ k.tmod 6 ≤ 5 := by
  have hb2 : 0 ≤ k ∧ k ≤ 255 := by simpa [Lit.wf, IntKind.min, IntKind.max, IntKind.signed, IntKind.bits] using h
  have e := Int.tmod_eq_emod_of_nonneg (b := 6) hb2.1
  exact ⟨(k.tmod 6 + 1).toNat, by omega, by omega, by omega, hb2.1, hb2.2, by omega, by omega⟩
end Go.Proofs.YtpggiabnhodjpaaGreatDoor
/- The statement TubeMakes: its code returns true. -/
set_option linter.unusedSimpArgs false
set_option linter.unusedVariables false
set_option linter.deprecated false
namespace Go.Proofs.YtpggiabnhodjpaaGreatDoor
open Go Go.Ax
set_option maxRecDepth 100000
set_option maxHeartbeats 4000000
theorem mak_out (a dv : List (List RD)) (w : List RD) (k : Int) (ha : a.length ≤ 9223372036854775807) (hd : dv.length ≤ 9223372036854775807) (hw : w.length ≤ 9223372036854775807) (ga : argM a) (gd : argM dv) (gw : argV w) (hl : ¬ lightP a dv w) : CallOK Tryz.prog gl 3 [.agg [.sl 1 (mrows a), .sl 1 (mrows dv), .sl 3 (vrows w)], .v (.int .u8 k)] (.v (.bool (true))) := by
  refine call_ok (C := ⟨Tryz.prog, gl, ti, 69, false⟩) ti_ok mixed 3000 Tryz.call3 Tryz.func3 rfl Tryz.ntmps3 (by simp) byClL byCl ?_
  rw [Tryz.results3]
  have f1 := law18_light a dv w ha hd hw ga gd gw
  have aw := awake18
  rw [decide_eq_false hl] at f1
  clear hl
  repeat' (first | (simp only [go_sem, seval, IntKind.bits.eq_def, ti, tin]) | (simp (disch := omega) only [wA]) | (with_reducible first | refine cF f1 ?_ | refine dF f1 ?_ | refine cF aw ?_ | refine dF aw ?_) | refine aL ti_ok ?_ | refine dL ti_ok ?_ | refine dG ?_ | ((first | refine cC ?_ ?_ | refine gS ?_ ?_ | refine dS ?_ ?_) <;> intro hc <;> first | (exfalso; simp only [dcA] at hc; omega) | (simp only [hc]; try simp only [dcA] at hc)) | refine aO ?_ | refine dO ?_)
  all_goals exact fin_same trivial rfl
theorem mak_err (a dv : List (List RD)) (w : List RD) (k : Int) (ga : argM a) (gd : argM dv) (gw : argV w) (hl : lightP a dv w) (hc : ckT a dv w ≠ 0) : CallOK Tryz.prog gl 3 [.agg [.sl 1 (mrows a), .sl 1 (mrows dv), .sl 3 (vrows w)], .v (.int .u8 k)] (.v (.bool (true))) := by
  refine call_ok (C := ⟨Tryz.prog, gl, ti, 69, false⟩) ti_ok mixed 3000 Tryz.call3 Tryz.func3 rfl Tryz.ntmps3 (by simp) byClL byCl ?_
  rw [Tryz.results3]
  have X := in18_of ga gd gw hl
  have f1 := law18_light a dv w (by have := X.la; omega) (by have := X.ld; omega) (by have := X.lw; omega) ga gd gw
  rw [decide_eq_true hl] at f1
  have aw := awake18
  have k1 := X.check
  clear X hl ga gd gw
  generalize ckT a dv w = e at *
  repeat' (first | (simp only [go_sem, seval, IntKind.bits.eq_def, ti, tin]) | (simp (disch := omega) only [wA]) | (with_reducible first | refine cF f1 ?_ | refine dF f1 ?_ | refine cF aw ?_ | refine dF aw ?_ | refine cF k1 ?_ | refine dF k1 ?_) | refine aL ti_ok ?_ | refine dL ti_ok ?_ | refine dG ?_ | ((first | refine cC ?_ ?_ | refine gS ?_ ?_ | refine dS ?_ ?_) <;> intro hc <;> first | (exfalso; simp only [dcA] at hc; omega) | (simp only [hc]; try simp only [dcA] at hc)) | refine aO ?_ | refine dO ?_)
  all_goals exact fin_same trivial rfl
theorem mak_ok (a dv : List (List RD)) (w : List RD) (k : Int) (n : Nat) (hk : (Lit.int .u8 k).wf = true) (hn : a.length = n) (ga : argM a) (gd : argM dv) (gw : argV w) (hl : lightP a dv w) (hc : ckT a dv w = 0) : CallOK Tryz.prog gl 3 [.agg [.sl 1 (mrows a), .sl 1 (mrows dv), .sl 3 (vrows w)], .v (.int .u8 k)] (.v (.bool (true))) := by
  refine call_ok (C := ⟨Tryz.prog, gl, ti, 69, false⟩) ti_ok mixed 3000 Tryz.call3 Tryz.func3 rfl Tryz.ntmps3 (by simp) byClL byCl ?_
  rw [Tryz.results3]
  have X := in18_of ga gd gw hl
  have f1 := law18_light a dv w (by have := X.la; omega) (by have := X.ld; omega) (by have := X.lw; omega) ga gd gw
  rw [decide_eq_true hl] at f1
  have aw := awake18
  have k1 := X.check
  rw [hc] at k1
  have hn3 : n ≤ 3 := by have := X.few; omega
  obtain ⟨m, hm, m1, m6, q1, q2, q3, q4⟩ := u8_mod hk
  have c1 := X.mko m hc m1 (by omega)
  have c2 := X.rmk m n hc hn m1 (by omega)
  rw [hn] at c1
  rw [← hm] at c1 c2
  have gk := fun t u h => mk_mg (k := m) (t := t) (u := u) (by omega) X.oa X.od X.ow hc hn (by omega) h
  have sc := same_cert m n (makeD m (dyM a) (dyM dv) (dyV w)) (by omega) (fun t u h => ⟨(gk t u h).1, (gk t u h).2.1⟩)
  have ac := fun t u h => mk_acc (k := m) (t := t) (u := u) (by omega) X.oa X.od X.ow hc hn m1 (by omega) h
  clear X hl ga gd gw gk hm
  generalize hmo : makeD m (dyM a) (dyM dv) (dyV w) = o at *
  cases o with
  | none =>
    simp only [certAV, Option.isSome] at c1 c2 sc
    clear ac
    repeat' (first | (simp only [go_sem, seval, IntKind.bits.eq_def, ti, tin]) | (simp (disch := omega) only [wA]) | (with_reducible first | refine cF f1 ?_ | refine dF f1 ?_ | refine cF aw ?_ | refine dF aw ?_ | refine cF k1 ?_ | refine dF k1 ?_ | refine cF c1 ?_ | refine dF c1 ?_ | refine cF c2 ?_ | refine dF c2 ?_ | refine cF sc ?_ | refine dF sc ?_) | refine aL ti_ok ?_ | refine dL ti_ok ?_ | refine dG ?_ | ((first | refine cC ?_ ?_ | refine gS ?_ ?_ | refine dS ?_ ?_) <;> intro hc <;> first | (exfalso; simp only [dcA] at hc; omega) | (simp only [hc]; try simp only [dcA] at hc)) | refine aO ?_ | refine dO ?_)
    all_goals exact fin_same trivial rfl
  | some pr =>
    obtain ⟨t, u⟩ := pr
    have ac := ac t u rfl
    simp only [certAV, Option.isSome] at c1 c2 sc ac
    generalize vrows (List.replicate n (can t)) = A1 at *
    generalize vrows (List.replicate n (can u)) = A2 at *
    repeat' (first | (simp only [go_sem, seval, IntKind.bits.eq_def, ti, tin]) | (simp (disch := omega) only [wA]) | (with_reducible first | refine cF f1 ?_ | refine dF f1 ?_ | refine cF aw ?_ | refine dF aw ?_ | refine cF k1 ?_ | refine dF k1 ?_ | refine cF c1 ?_ | refine dF c1 ?_ | refine cF c2 ?_ | refine dF c2 ?_ | refine cF sc ?_ | refine dF sc ?_ | refine cF ac ?_ | refine dF ac ?_) | refine aL ti_ok ?_ | refine dL ti_ok ?_ | refine dG ?_ | ((first | refine cC ?_ ?_ | refine gS ?_ ?_ | refine dS ?_ ?_) <;> intro hc <;> first | (exfalso; simp only [dcA] at hc; omega) | (simp only [hc]; try simp only [dcA] at hc)) | refine aO ?_ | refine dO ?_)
    all_goals exact fin_same trivial rfl
theorem makes18_law (r d : List (List AV)) (w : List (List AV)) (k : Int) (hk : (Lit.int .u8 k).wf = true) (hr : r.length ≤ maxLen) (fr : ∀ x ∈ r, FitL [.sl [.bool, .sl [.int .u32], .int .i64]] x) (hd : d.length ≤ maxLen) (fd : ∀ x ∈ d, FitL [.sl [.bool, .sl [.int .u32], .int .i64]] x)
    (hw : w.length ≤ maxLen) (fw : ∀ x ∈ w, FitL [.bool, .sl [.int .u32], .int .i64] x) :
    CallOK Tryz.prog gl 3 [.agg [.sl 1 r, .sl 1 d, .sl 3 w], .v (.int .u8 k)] (.v (.bool true)) := by
  unfold maxLen at hr hd hw
  obtain ⟨a, ga, rfl, e1⟩ := fit_mrows fr
  obtain ⟨dv, gd, rfl, e2⟩ := fit_mrows fd
  obtain ⟨w, gw, rfl, e3⟩ := fit_vrows fw
  by_cases h : lightP a dv w
  · by_cases h2 : ckT a dv w = 0
    · exact mak_ok a dv w k a.length hk rfl ga gd gw h h2
    · exact mak_err a dv w k ga gd gw h h2
  · exact mak_out a dv w k (by omega) (by omega) (by omega) ga gd gw h
end Go.Proofs.YtpggiabnhodjpaaGreatDoor
