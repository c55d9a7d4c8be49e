/- The statement ObserverLocks: its code returns true. -/
import Derived.Test.YtpggiabnhodjpaaGreatDoorLk39
import Derived.Test.YtpggiabnhodjpaaGreatDoorU4
set_option linter.unusedSimpArgs false
set_option linter.unusedVariables false
set_option linter.deprecated false
namespace Go.Proofs.YtpggiabnhodjpaaGreatDoor
open Go Go.Ax
set_option maxRecDepth 100000
set_option maxHeartbeats 8000000
theorem lock_bad (R L lk kp ki nz ac an sp : Int) (acl erl : List Int) (hca : ∀ r ∈ rws bytes acl, ∀ a ∈ r, Cl a) (hce : ∀ r ∈ rws bytes erl, ∀ a ∈ r, Cl a) (h : obBad R L lk kp ki) : CallOK Tryz.prog gl 9 [.agg [.v (.int .i64 R), .v (.int .i64 L), .v (.int .i64 lk), .v (.int .i64 kp), .v (.int .i64 ki)], .agg [.v (.int .u8 nz), .v (.int .u8 ac)], .agg [.v (.int .i64 an), .v (.int .i64 sp), .sl 1 (rws bytes acl), .sl 1 (rws bytes erl)]] (.v (.bool (true))) := by
  refine call_ok (C := ⟨Tryz.prog, gl, ti, 190, false⟩) ti_ok mixed 3000 Tryz.call9 Tryz.func9 rfl Tryz.ntmps9 (by simp) byClL byCl ?_
  rw [Tryz.results9]
  have c1 := ref39_Check_bad _ _ _ _ _ h
  have aw := awake39
  clear h
  repeat' (first | (simp only [go_sem, seval, IntKind.bits.eq_def, ti, tin]) | (simp (disch := omega) only [wA]) | (with_reducible first | refine cF c1 ?_ | refine dF c1 ?_ | refine cF aw ?_ | refine dF aw ?_) | refine aL ti_ok ?_ | refine dL ti_ok ?_ | refine dG ?_ | ((first | refine cC ?_ ?_ | refine gS ?_ ?_ | refine dS ?_ ?_) <;> intro hc <;> first | (exfalso; simp only [dcA] at hc; omega) | (simp only [hc]; try simp only [dcA] at hc)) | refine aO ?_ | refine dO ?_)
  all_goals exact fin_same trivial rfl
theorem lock_long (R L lk kp ki nz ac an sp : Int) (acl erl : List Int) (hca : ∀ r ∈ rws bytes acl, ∀ a ∈ r, Cl a) (hce : ∀ r ∈ rws bytes erl, ∀ a ∈ r, Cl a) (na ne : Nat) (hna : acl.length = na) (hne : erl.length = ne) (la : na ≤ 9223372036854775807) (le : ne ≤ 9223372036854775807) (h : ¬ obBad R L lk kp ki) (h2 : 60 < na ∨ 60 < ne) : CallOK Tryz.prog gl 9 [.agg [.v (.int .i64 R), .v (.int .i64 L), .v (.int .i64 lk), .v (.int .i64 kp), .v (.int .i64 ki)], .agg [.v (.int .u8 nz), .v (.int .u8 ac)], .agg [.v (.int .i64 an), .v (.int .i64 sp), .sl 1 (rws bytes acl), .sl 1 (rws bytes erl)]] (.v (.bool (true))) := by
  refine call_ok (C := ⟨Tryz.prog, gl, ti, 190, false⟩) ti_ok mixed 3000 Tryz.call9 Tryz.func9 rfl Tryz.ntmps9 (by simp) byClL byCl ?_
  rw [Tryz.results9]
  have c1 := ref39_Check _ _ _ _ _ h
  have aw := awake39
  clear h
  by_cases h3 : 60 < na
  ·
    clear h2
    repeat' (first | (simp only [go_sem, seval, IntKind.bits.eq_def, ti, tin, rws_length, hna, hne]) | (simp (disch := omega) only [wA]) | (with_reducible first | refine cF c1 ?_ | refine dF c1 ?_ | refine cF aw ?_ | refine dF aw ?_) | refine aL ti_ok ?_ | refine dL ti_ok ?_ | refine dG ?_ | ((first | refine cC ?_ ?_ | refine gS ?_ ?_ | refine dS ?_ ?_) <;> intro hc <;> first | (exfalso; simp only [dcA] at hc; omega) | (simp only [hc]; try simp only [dcA] at hc)) | refine aO ?_ | refine dO ?_)
    all_goals exact fin_same trivial rfl
  ·
    have h4 : 60 < ne := by omega
    clear h2
    repeat' (first | (simp only [go_sem, seval, IntKind.bits.eq_def, ti, tin, rws_length, hna, hne]) | (simp (disch := omega) only [wA]) | (with_reducible first | refine cF c1 ?_ | refine dF c1 ?_ | refine cF aw ?_ | refine dF aw ?_) | refine aL ti_ok ?_ | refine dL ti_ok ?_ | refine dG ?_ | ((first | refine cC ?_ ?_ | refine gS ?_ ?_ | refine dS ?_ ?_) <;> intro hc <;> first | (exfalso; simp only [dcA] at hc; omega) | (simp only [hc]; try simp only [dcA] at hc)) | refine aO ?_ | refine dO ?_)
    all_goals exact fin_same trivial rfl
def certR : Option (Nat × Dy × Dy) → List (List AV)
  | none => [[.v (.int .i64 0), .v (.slice none 0 0), .v (.slice none 0 0)]]
  | some p => [[.v (.int .i64 p.1), .sl 3 (vrows (List.replicate 2 (can p.2.1))), .sl 3 (vrows (List.replicate 2 (can p.2.2)))]]
theorem lock_ok (R L lk kp ki nz ac an sp : Int) (acl erl : List Int) (hca : ∀ r ∈ rws bytes acl, ∀ a ∈ r, Cl a) (hce : ∀ r ∈ rws bytes erl, ∀ a ∈ r, Cl a) (na ne nk : Nat) (hna : acl.length = na) (hne : erl.length = ne) (la : na ≤ 60) (le : ne ≤ 60) (hmx : max (na : Int) (ne : Int) = (nk : Int)) (h60 : nk ≤ 60) (hba : ∀ n ∈ acl, isByte n) (hbe : ∀ n ∈ erl, isByte n) (hz : 0 ≤ nz ∧ nz ≤ 255) (ha : 0 ≤ ac ∧ ac ≤ 255) (h : ¬ obBad R L lk kp ki) : CallOK Tryz.prog gl 9 [.agg [.v (.int .i64 R), .v (.int .i64 L), .v (.int .i64 lk), .v (.int .i64 kp), .v (.int .i64 ki)], .agg [.v (.int .u8 nz), .v (.int .u8 ac)], .agg [.v (.int .i64 an), .v (.int .i64 sp), .sl 1 (rws bytes acl), .sl 1 (rws bytes erl)]] (.v (.bool (true))) := by
  refine call_ok (C := ⟨Tryz.prog, gl, ti, 190, false⟩) ti_ok mixed 3000 Tryz.call9 Tryz.func9 rfl Tryz.ntmps9 (by simp) byClL byCl ?_
  rw [Tryz.results9]
  have ck := ref39_Check _ _ _ _ _ h
  have aw := awake39
  have md : CallOK Tryz.prog gl 45 [.agg [.v (.int .i64 R), .v (.int .i64 L), .v (.int .i64 lk), .v (.int .i64 kp), .v (.int .i64 ki)], .v (.int .i64 nz), .v (.int .i64 ac)] (.tup [.agg [.sl 1 (mrows (crM (modA kp ki))), .sl 1 (mrows (crM modD)), .sl 3 (vrows ((modW kp ki nz ac).map can))], .v .nilIface]) := ob_Model R L lk kp ki nz ac h (by omega) (by omega)
  have hb := h
  unfold obBad at hb
  have hkp : 0 ≤ kp ∧ kp ≤ 65536 := by omega
  have hki : 0 ≤ ki ∧ ki ≤ 65536 := by omega
  obtain ⟨oa, od, ow, fa, fd, fw⟩ := lk_mg hkp hki hz ha
  have hct : ckT (crM (modA kp ki)) (crM modD) ((modW kp ki nz ac).map can) = 0 := model_ok kp ki nz ac hkp hki (by omega) (by omega)
  have hl : (crM (modA kp ki)).length = 2 := by simp [crM, modA]
  have mk : ∀ k : Nat, 1 ≤ k → k ≤ 32 → CallOK Tryz.prog gl 14 [.agg [.sl 1 (mrows (crM (modA kp ki))), .sl 1 (mrows (crM modD)), .sl 3 (vrows ((modW kp ki nz ac).map can))], .v (.int .i64 k)] (.tup [certAV k 2 (makeD k (modA kp ki) modD (modW kp ki nz ac)), .v (.bool (makeD k (modA kp ki) modD (modW kp ki nz ac)).isSome)]) := fun k h1 h2 => by
    have := r18_Make (crM (modA kp ki)) (crM modD) ((modW kp ki nz ac).map can) k 64 2 (by omega) oa od ow (by rw [dyM_cr]; exact fine.mono fa (by omega)) (by rw [dyM_cr]; exact fine.mono fd (by omega)) (by rw [dyV_can]; exact fw.mono (by omega)) hct hl h1 h2
    rwa [dyM_cr, dyM_cr, dyV_can] at this
  have good : ∀ k : Nat, 1 ≤ k → k ≤ 24 → ∀ t u, makeD k (modA kp ki) modD (modW kp ki nz ac) = some (t, u) → Mg 200000 u ∧ 0 ≤ t.v ∧ QAcc 2 k (elQ (modA kp ki)) (elQ modD) (vQ (modW kp ki nz ac)) (vQ (boxD 2 t)) (vQ (boxD 2 u))
      ∧ CallOK Tryz.prog gl 16 [.agg [.sl 1 (mrows (crM (modA kp ki))), .sl 1 (mrows (crM modD)), .sl 3 (vrows ((modW kp ki nz ac).map can))], .agg [.v (.int .i64 k), .sl 3 (vrows (List.replicate 2 (can t))), .sl 3 (vrows (List.replicate 2 (can u)))]] (.tup [.v (.bool true), .v .nilIface]) := fun k h1 h2 t u hm => by
    have hm' : makeD k (dyM (crM (modA kp ki))) (dyM (crM modD)) (dyV ((modW kp ki nz ac).map can)) = some (t, u) := by rw [dyM_cr, dyM_cr, dyV_can]; exact hm
    obtain ⟨gt, gu, nt, nu, dt, du, hacc⟩ := mk_mg (by omega) oa od ow hct hl (by omega) hm'
    have he2 := ckC_make hct hl h1 (by omega) nt nu
    have TB := tubeD_box (P := 100) (Q := 100) (by omega) oa od ow hct hl h1 (by omega) gt gu nt nu
    rw [← hl] at TB he2
    have T := tubeD_mk (P := 32) (Q := 32) TB he2 (by rw [dyM_cr]; exact fine.mono fa (by omega)) (by rw [dyM_cr]; exact fine.mono fd (by omega)) (by rw [dyV_can]; exact fw.mono (by omega)) (by rw [dyV_rep]; exact fine_box (by omega)) (by rw [dyV_rep]; exact fine_box (by omega))
    rw [dyM_cr, dyM_cr, dyV_can, dyV_rep, dyV_rep, hl] at T
    rw [dyM_cr, dyM_cr, dyV_can] at hacc
    exact ⟨gu, nt, T.qacc (by omega) hacc, mk_acc (by omega) oa od ow hct hl h1 (by omega) hm'⟩
  clear oa od ow fa fd fw hct hb hl
  have tr := fun L0 sp0 m => ob_Track R L lk kp ki 0 0 L0 sp0 m h
  have mf0 : mf 0 = 0 := by decide
  simp only [mf0] at tr
  repeat' (first | (simp only [go_sem, seval, IntKind.bits.eq_def, ti, tin, rws_length, hna, hne]) | (simp (disch := omega) only [wA]) | (with_reducible first | refine cF ck ?_ | refine dF ck ?_ | refine cF aw ?_ | refine dF aw ?_ | refine cF md ?_ | refine dF md ?_) | refine aL ti_ok ?_ | refine dL ti_ok ?_ | refine dG ?_ | ((first | refine cC ?_ ?_ | refine gS ?_ ?_ | refine dS ?_ ?_) <;> intro hc <;> first | (exfalso; simp only [dcA] at hc; omega) | (simp only [hc]; try simp only [dcA] at hc)) | refine aO ?_ | refine dO ?_)
  clear ck aw md
  refine l_loop (α := Option (Nat × Dy × Dy) × Nat) (fun x => ⟨[(3, .p 0 5 0 0), (5, .p 2 4 0 0), (7, .v (.int .i64 nz)), (8, .v (.int .i64 ac)), (9, .p 3 3 0 0), (11, .p 4 3 0 0), (12, .v (.bool (x.1.isSome))), (13, .v (.int .i64 (1 + 3 * x.2 : Nat)))], [(4, ⟨3, certR x.1⟩), (3, ⟨3, [[.sl 1 (mrows (crM (modA kp ki))), .sl 1 (mrows (crM modD)), .sl 3 (vrows ((modW kp ki nz ac).map can))]]⟩), (2, ⟨4, [[.v (.int .i64 an), .v (.int .i64 sp), .sl 1 (rws bytes acl), .sl 1 (rws bytes erl)]]⟩), (0, ⟨5, [[.v (.int .i64 R), .v (.int .i64 L), .v (.int .i64 lk), .v (.int .i64 kp), .v (.int .i64 ki)]]⟩)], 5⟩) (fun x => x.2 ≤ 8 ∧ ∀ k t u, x.1 = some (k, t, u) → 1 ≤ k ∧ k ≤ 24 ∧ makeD k (modA kp ki) modD (modW kp ki nz ac) = some (t, u)) (fun x => 9 - x.2) ((none, 0)) _ byFresh (fun _ h => by first | (cases h; done) | exact Nat.le_of_ble_eq_true rfl) ?_ ?_ ?_
  · exact ⟨Nat.zero_le _, fun k t u h => by cases h⟩
  ·
    simp only [certR, Option.isSome]
    exact Weak.map [(0, 0), (2, 2), (3, 11), (4, 12)] rfl (by decide) (by decide) byGE byGN
  rintro ⟨o, i⟩ ⟨hi, ho⟩
  simp only at hi ho ⊢
  rcases o with _ | ⟨k, t, u⟩
  ·
    simp only [certR, Option.isSome]
    clear good tr ho
    by_cases h24 : 1 + 3 * i ≤ 24
    ·
      have c1 := mk (1 + 3 * i) (by omega) (by omega)
      have e3 : ((1 + 3 * (i + 1) : Nat) : Int) = ((1 + 3 * i : Nat) : Int) + 3 := by omega
      have hk1 : 1 ≤ 1 + 3 * i := by omega
      clear mk
      cases hmo : makeD (1 + 3 * i) (modA kp ki) modD (modW kp ki nz ac) with
      | none =>
        rw [hmo] at c1
        simp only [certAV, Option.isSome] at c1
        generalize hkk : 1 + 3 * i = kk at *
        repeat' (first | (simp only [go_sem, seval, IntKind.bits.eq_def, ti, tin]) | (simp (disch := omega) only [wA]) | (with_reducible first | refine cF c1 ?_ | refine dF c1 ?_) | refine aL ti_ok ?_ | refine dL ti_ok ?_ | refine dG ?_ | ((first | refine cC ?_ ?_ | refine gS ?_ ?_ | refine dS ?_ ?_) <;> intro hc <;> first | (exfalso; simp only [dcA] at hc; omega) | (simp only [hc]; try simp only [dcA] at hc)) | refine aO ?_ | refine dO ?_)
        refine roundEnd_of (α := Option (Nat × Dy × Dy) × Nat) (none, i + 1) ⟨by show i + 1 ≤ 8; omega, fun k t u h => by cases h⟩ (show 9 - (i + 1) < 9 - i by omega) ?_
        simp only [certR, Option.isSome, e3]
        exact byWeak
      | some pr =>
        obtain ⟨t, u⟩ := pr
        rw [hmo] at c1
        simp only [certAV, Option.isSome] at c1
        generalize hkk : 1 + 3 * i = kk at *
        repeat' (first | (simp only [go_sem, seval, IntKind.bits.eq_def, ti, tin]) | (simp (disch := omega) only [wA]) | (with_reducible first | refine cF c1 ?_ | refine dF c1 ?_) | refine aL ti_ok ?_ | refine dL ti_ok ?_ | refine dG ?_ | ((first | refine cC ?_ ?_ | refine gS ?_ ?_ | refine dS ?_ ?_) <;> intro hc <;> first | (exfalso; simp only [dcA] at hc; omega) | (simp only [hc]; try simp only [dcA] at hc)) | refine aO ?_ | refine dO ?_)
        refine roundEnd_of (α := Option (Nat × Dy × Dy) × Nat) (some (kk, t, u), i + 1) ⟨by show i + 1 ≤ 8; omega, fun k t' u' h => by injection h with h; injection h with h1 h2; injection h2 with h2 h3; subst h1 h2 h3; exact ⟨hk1, h24, hmo⟩⟩ (show 9 - (i + 1) < 9 - i by omega) ?_
        simp only [certR, Option.isSome, e3]
        exact byWeak
    ·
      have h25 : (24 : Int) < ((1 + 3 * i : Nat) : Int) := by omega
      clear mk
      generalize 1 + 3 * i = kk at *
      repeat' (first | (simp only [go_sem, seval, IntKind.bits.eq_def, ti, tin]) | (simp (disch := omega) only [wA]) | refine aL ti_ok ?_ | refine dL ti_ok ?_ | refine dG ?_ | ((first | refine cC ?_ ?_ | refine gS ?_ ?_ | refine dS ?_ ?_) <;> intro hc <;> first | (exfalso; simp only [dcA] at hc; omega) | (simp only [hc]; try simp only [dcA] at hc)) | refine aO ?_ | refine dO ?_)
      all_goals exact fin_same trivial rfl
  obtain ⟨k1, k24, hmo⟩ := ho k t u rfl
  obtain ⟨gu, nt, acc, ac1⟩ := good k k1 k24 t u hmo
  clear ho good mk
  simp only [certR, Option.isSome]
  have o1 := ref_Of ((32766 - nz) * 65536) (by omega)
  have o2 := ref_Of 536870912 (by omega)
  have g1 : Mg 64 (Dy.int ((32766 - nz) * 65536)) := Mg.int (by omega)
  have g2 : Mg 64 (Dy.int 536870912) := Mg.int (by decide)
  have m1 := ref_Cmp _ _ _ _ _ _ _ _ (gu.arg) (g1.arg)
  have m2 := ref_Cmp _ _ _ _ _ _ _ _ (gu.arg) (g2.arg)
  have hu1 : u.cmp (Dy.int ((32766 - nz) * 65536)) ≤ 0 → u.v ≤ (((32766 - nz) * 65536 : Int) : Rat) := fun h => by have := (cmp_le _ _).1 h; rwa [Dy.v_int] at this
  have hu2 : u.cmp (Dy.int 536870912) ≤ 0 → u.v ≤ ((536870912 : Int) : Rat) := fun h => by have := (cmp_le _ _).1 h; rwa [Dy.v_int] at this
  have rU : vrows (List.replicate 2 (can u)) = [crow u, crow u] := rfl
  have ofs : ∀ n : Int, -4611686018427387904 ≤ n ∧ n ≤ 4611686018427387904 → ∃ f : Dy, CallOK Tryz.prog gl 21 [.v (.int .i64 n)] (.agg (crow f)) ∧ CallOK Tryz.prog gl 34 [.agg (crow f)] (.agg (crow f.abs)) ∧ CallOK Tryz.prog gl 20 [.agg (crow f.abs), .agg (crow u)] (.v (.int .i64 (f.abs.cmp u))) ∧ (absQ (n : Rat) ≤ u.v → f.abs.cmp u ≤ 0) := fun n hn => by
    have gn : Mg 64 (Dy.int n) := Mg.int (by omega)
    exact ⟨Dy.int n, ref_Of n (by omega), ref_Abs _ _ _ _ (gn.arg), ref_Cmp _ _ _ _ _ _ _ _ ((Mg.abs gn).arg) (gu.arg), fun h => (cmp_le _ _).2 (by rw [v_abs, Dy.v_int]; exact h)⟩
  clear g1 g2
  generalize hX1 : u.cmp (Dy.int ((32766 - nz) * 65536)) = x1 at *
  generalize hX2 : u.cmp (Dy.int 536870912) = x2 at *
  clear hX1 hX2
  generalize Dy.int ((32766 - nz) * 65536) = y1 at *
  generalize Dy.int 536870912 = y2 at *
  have hcT : ∀ r ∈ vrows (List.replicate 2 (can t)), ∀ a ∈ r, Cl a := vrows_cl _
  generalize vrows (List.replicate 2 (can t)) = rT at *
  rw [rU] at ac1 ⊢
  by_cases hx1 : x1 ≤ 0
  rotate_left
  ·
    clear hu1 hu2 ofs acc hmo tr
    repeat' (first | (simp only [go_sem, seval, IntKind.bits.eq_def, ti, tin]) | (simp (disch := omega) only [wA]) | (with_reducible first | refine cF o1 ?_ | refine dF o1 ?_ | refine cF o2 ?_ | refine dF o2 ?_ | refine cF m1 ?_ | refine dF m1 ?_ | refine cF m2 ?_ | refine dF m2 ?_) | refine aL ti_ok ?_ | refine dL ti_ok ?_ | refine dG ?_ | ((first | refine cC ?_ ?_ | refine gS ?_ ?_ | refine dS ?_ ?_) <;> intro hc <;> first | (exfalso; simp only [dcA] at hc; omega) | (simp only [hc]; try simp only [dcA] at hc)) | refine aO ?_ | refine dO ?_)
    all_goals exact fin_same trivial rfl
  by_cases hx2 : x2 ≤ 0
  rotate_left
  ·
    clear hu1 hu2 ofs acc hmo tr
    repeat' (first | (simp only [go_sem, seval, IntKind.bits.eq_def, ti, tin]) | (simp (disch := omega) only [wA]) | (with_reducible first | refine cF o1 ?_ | refine dF o1 ?_ | refine cF o2 ?_ | refine dF o2 ?_ | refine cF m1 ?_ | refine dF m1 ?_ | refine cF m2 ?_ | refine dF m2 ?_) | refine aL ti_ok ?_ | refine dL ti_ok ?_ | refine dG ?_ | ((first | refine cC ?_ ?_ | refine gS ?_ ?_ | refine dS ?_ ?_) <;> intro hc <;> first | (exfalso; simp only [dcA] at hc; omega) | (simp only [hc]; try simp only [dcA] at hc)) | refine aO ?_ | refine dO ?_)
    all_goals exact fin_same trivial rfl
  have hu1 := hu1 hx1
  have hu2 := hu2 hx2
  have q1 := base_Clip an 0 4294967295
  have q2 := base_Clip sp (-268435456) 268435456
  have s1 := clip_bd (lo := 0) (hi := 4294967295) (by omega) an
  have s2 := clip_bd (lo := -268435456) (hi := 268435456) (by omega) sp
  have H0 := lk_start (K := k) (t := t) (u := u) (kp := kp) (ki := ki) (nz := nz) (ac := ac) (clip an 0 4294967295) (clip sp (-268435456) 268435456) s1 s2 nt
  generalize clip an 0 4294967295 = T0 at *
  generalize clip sp (-268435456) 268435456 = S0 at *
  repeat' (first | (simp only [go_sem, seval, IntKind.bits.eq_def, ti, tin, rws_length, hna, hne, hmx]) | (simp (disch := omega) only [wA]) | (with_reducible first | refine cF o1 ?_ | refine dF o1 ?_ | refine cF o2 ?_ | refine dF o2 ?_ | refine cF m1 ?_ | refine dF m1 ?_ | refine cF m2 ?_ | refine dF m2 ?_ | refine cF ac1 ?_ | refine dF ac1 ?_ | refine cF q1 ?_ | refine dF q1 ?_ | refine cF q2 ?_ | refine dF q2 ?_) | refine aL ti_ok ?_ | refine dL ti_ok ?_ | refine dG ?_ | ((first | refine cC ?_ ?_ | refine gS ?_ ?_ | refine dS ?_ ?_) <;> intro hc <;> first | (exfalso; simp only [dcA] at hc; omega) | (simp only [hc]; try simp only [dcA] at hc)) | refine aO ?_ | refine dO ?_)
  all_goals
    have hcT : ∀ r ∈ rT, ∀ a ∈ r, Cl a := hcT
    have hcU : ∀ r ∈ [crow u, crow u], ∀ a ∈ r, Cl a := by rw [← rU]; exact vrows_cl _
    clear o1 o2 m1 m2 ac1 q1 q2
    refine l_loop (α := Nat × Int × Int × Int × Int) (fun x => ⟨[(3, .p 0 5 0 0), (5, .p 2 4 0 0), (7, .v (.int .i64 nz)), (8, .v (.int .i64 ac)), (11, .p 4 3 0 0), (16, .v (.int .i64 x.2.1)), (17, .v (.int .i64 x.2.2.2.2)), (18, .p 5 4 0 0), (123, .v (.int .i64 nk)), (124, .v (.int .i64 x.1))], [(5, ⟨4, [[.v (.int .i64 0), .v (.int .i64 0), .v (.int .i64 x.2.2.1), .v (.int .i64 x.2.2.2.1)]]⟩), (4, ⟨3, [[.v (.int .i64 k), .sl 3 rT, .sl 3 [crow u, crow u]]]⟩), (2, ⟨4, [[.v (.int .i64 an), .v (.int .i64 sp), .sl 1 (rws bytes acl), .sl 1 (rws bytes erl)]]⟩), (0, ⟨5, [[.v (.int .i64 R), .v (.int .i64 L), .v (.int .i64 lk), .v (.int .i64 kp), .v (.int .i64 ki)]]⟩)], 6⟩) (fun x => x.1 ≤ nk ∧ LkInv k t u kp ki nz ac x.1 x.2.1 x.2.2.1 x.2.2.2.1 x.2.2.2.2) (fun x => nk - x.1) ((0, T0, T0, S0, S0)) _ byFresh (fun _ h => by first | (cases h; done) | exact Nat.le_of_ble_eq_true rfl) ?_ ?_ ?_
    · exact ⟨Nat.zero_le _, H0⟩
    ·
      exact Weak.map [(0, 0), (2, 2), (4, 4), (5, 36)] rfl (by decide) (by decide) byGE byGN
    clear H0 s1 s2
    rintro ⟨j, T, L0, sp0, speed⟩ ⟨hj, H⟩
    simp only at hj H ⊢
    by_cases hjn : j < nk
    ·
      have a1 := law39_at erl j hce (by omega) (by omega) hbe
      have a2 := law39_at acl j hca (by omega) (by omega) hba
      have c1 := base_Clip (at39 erl j) (0 - nz) nz
      have c2 := base_Clip (at39 acl j) (0 - ac) ac
      have e1 := clip_bd (lo := 0 - nz) (hi := nz) (by omega) (at39 erl j)
      have e2 := clip_bd (lo := 0 - ac) (hi := ac) (by omega) (at39 acl j)
      have hT := H.hT
      have hS := H.hs
      have hL := H.hL
      have d1 := base_Div T 65536 (by omega) (by omega)
      have N := H.next k1 acc (by omega) hu1 hu2 hz hkp hki ha ⟨by omega, e1.2⟩ ⟨by omega, e2.2⟩
      obtain ⟨n1, n2, n3⟩ := N.high k1 acc hu1 hu2 hz
      have hT' := N.hT
      have hL' := N.hL
      have hS' := N.hs
      have nb := int_of_le n1 hu2
      have t1 := tr L0 sp0 (T / 65536 + clip (at39 erl j) (0 - nz) nz)
      have w1 := law39_near (T + (speed + clip (at39 acl j) (0 - ac) ac) - trA kp ki L0 sp0 (T / 65536 + clip (at39 erl j) (0 - nz) nz)) (by omega)
      obtain ⟨f1, p1, p2, p3, p4⟩ := ofs _ (show -4611686018427387904 ≤ nearI (T + (speed + clip (at39 acl j) (0 - ac) ac) - trA kp ki L0 sp0 (T / 65536 + clip (at39 erl j) (0 - nz) nz)) ∧ _ ≤ (4611686018427387904 : Int) by omega)
      obtain ⟨f2, r1, r2, r3, r4⟩ := ofs _ (show -4611686018427387904 ≤ speed + clip (at39 acl j) (0 - ac) ac - trS ki L0 sp0 (T / 65536 + clip (at39 erl j) (0 - nz) nz) ∧ _ ≤ (4611686018427387904 : Int) by omega)
      have p4 := p4 n1
      have r4 := r4 n2
      clear ofs tr acc H n1 n2 hu1 hu2
      have hq : T / 65536 ≤ 9223372036854775 ∧ -9223372036854775 ≤ T / 65536 := by omega
      generalize hN1 : nearI (T + (speed + clip (at39 acl j) (0 - ac) ac) - trA kp ki L0 sp0 (T / 65536 + clip (at39 erl j) (0 - nz) nz)) = nn at *
      generalize trA kp ki L0 sp0 (T / 65536 + clip (at39 erl j) (0 - nz) nz) = L1 at *
      generalize trS ki L0 sp0 (T / 65536 + clip (at39 erl j) (0 - nz) nz) = sp1 at *
      generalize clip (at39 erl j) (0 - nz) nz = er at *
      generalize clip (at39 acl j) (0 - ac) ac = cc at *
      generalize at39 erl j = ae at *
      generalize at39 acl j = aa at *
      generalize T / 65536 = Tq at *
      generalize f1.abs.cmp u = z1 at *
      generalize f2.abs.cmp u = z2 at *
      generalize f1.abs = f1a at *
      generalize f2.abs = f2a at *
      repeat' (first | (simp only [go_sem, seval, IntKind.bits.eq_def, ti, tin]) | (simp (disch := omega) only [wA]) | (with_reducible first | refine cF a1 ?_ | refine dF a1 ?_ | refine cF a2 ?_ | refine dF a2 ?_ | refine cF c1 ?_ | refine dF c1 ?_ | refine cF c2 ?_ | refine dF c2 ?_ | refine cF d1 ?_ | refine dF d1 ?_ | refine cF t1 ?_ | refine dF t1 ?_ | refine cF w1 ?_ | refine dF w1 ?_ | refine cF p1 ?_ | refine dF p1 ?_ | refine cF p2 ?_ | refine dF p2 ?_ | refine cF p3 ?_ | refine dF p3 ?_ | refine cF r1 ?_ | refine dF r1 ?_ | refine cF r2 ?_ | refine dF r2 ?_ | refine cF r3 ?_ | refine dF r3 ?_) | refine aL ti_ok ?_ | refine dL ti_ok ?_ | refine dG ?_ | ((first | refine cC ?_ ?_ | refine gS ?_ ?_ | refine dS ?_ ?_) <;> intro hc <;> first | (exfalso; simp only [dcA] at hc; omega) | (simp only [hc]; try simp only [dcA] at hc)) | refine aO ?_ | refine dO ?_)
      refine roundEnd_of (α := Nat × Int × Int × Int × Int) (j + 1, T + (speed + cc), L1, sp1, speed + cc) ⟨by show j + 1 ≤ nk; omega, N⟩ (show nk - (j + 1) < nk - j by omega) ?_
      exact byWeak
    ·
      clear ofs tr acc
      repeat' (first | (simp only [go_sem, seval, IntKind.bits.eq_def, ti, tin]) | (simp (disch := omega) only [wA]) | refine aL ti_ok ?_ | refine dL ti_ok ?_ | refine dG ?_ | ((first | refine cC ?_ ?_ | refine gS ?_ ?_ | refine dS ?_ ?_) <;> intro hc <;> first | (exfalso; simp only [dcA] at hc; omega) | (simp only [hc]; try simp only [dcA] at hc)) | refine aO ?_ | refine dO ?_)
      all_goals exact fin_same trivial rfl
theorem locks39 (R L lk kp ki nz ac an sp : Int) (al el : List (List AV)) (hnz : (Lit.int .u8 nz).wf = true) (hac : (Lit.int .u8 ac).wf = true) (ha : al.length ≤ maxLen) (fa : ∀ x ∈ al, FitL [.int .i8] x) (he : el.length ≤ maxLen) (fe : ∀ x ∈ el, FitL [.int .i8] x) :
    CallOK Tryz.prog gl 9 [.agg [.v (.int .i64 R), .v (.int .i64 L), .v (.int .i64 lk), .v (.int .i64 kp), .v (.int .i64 ki)], .agg [.v (.int .u8 nz), .v (.int .u8 ac)], .agg [.v (.int .i64 an), .v (.int .i64 sp), .sl 1 al, .sl 1 el]] (.v (.bool true)) := by
  unfold maxLen at ha he
  obtain ⟨acl, ba, rfl, e1⟩ := fit_bytes fa
  obtain ⟨erl, be, rfl, e2⟩ := fit_bytes fe
  have hca : ∀ r ∈ rws bytes acl, ∀ a ∈ r, Cl a := rws_cl clrow_b acl
  have hce : ∀ r ∈ rws bytes erl, ∀ a ∈ r, Cl a := rws_cl clrow_b erl
  have b1 : 0 ≤ nz ∧ nz ≤ 255 := by simpa [Lit.wf, IntKind.min, IntKind.max, IntKind.signed, IntKind.bits] using hnz
  have b2 : 0 ≤ ac ∧ ac ≤ 255 := by simpa [Lit.wf, IntKind.min, IntKind.max, IntKind.signed, IntKind.bits] using hac
  by_cases h : obBad R L lk kp ki
  · exact lock_bad R L lk kp ki nz ac an sp acl erl hca hce h
  · by_cases h2 : 60 < acl.length ∨ 60 < erl.length
    · exact lock_long R L lk kp ki nz ac an sp acl erl hca hce acl.length erl.length rfl rfl (by omega) (by omega) h h2
    · exact lock_ok R L lk kp ki nz ac an sp acl erl hca hce acl.length erl.length (max acl.length erl.length) rfl rfl (by omega) (by omega) (by omega) (by omega) ba be b1 b2 h
end Go.Proofs.YtpggiabnhodjpaaGreatDoor
