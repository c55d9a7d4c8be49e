/- Layer 18 (tube): CheckCert, reaches, Accepts, Reach. -/
import Derived.Test.YtpggiabnhodjpaaGreatDoorTub3
set_option linter.unusedSimpArgs false
set_option linter.unusedVariables false
set_option linter.deprecated false
namespace Go.Proofs.YtpggiabnhodjpaaGreatDoor
open Go Go.Ax
set_option maxRecDepth 100000
set_option maxHeartbeats 4000000
structure TubOK (p q n : Nat) (a dv : List (List RD)) (w inner outer : List RD) : Prop where
  n1 : 0 < n
  n6 : n ≤ 6
  hp : p ≤ 100
  hq : q ≤ 200000
  ca : ckM a = 0
  cd : ckM dv = 0
  la : a.length = n
  la0 : (a.getD 0 []).length = n
  ld : dv.length = n
  ld0 : (dv.getD 0 []).length = n
  lw : w.length = n
  li : inner.length = n
  lo : outer.length = n
  oa : okM p a
  od : okM p dv
  ow : okV q w
  oi : okV q inner
  oo : okV q outer
section
variable {p q n : Nat} {a dv : List (List RD)} {w inner outer : List RD}
theorem mg_sumV {k : Nat} {x y : List Dy} (hx : ∀ i, Mg k (x.getD i Dy.zero)) (hy : ∀ i, Mg k (y.getD i Dy.zero)) (i : Nat) : Mg (k + 1) ((sumV x y).getD i Dy.zero) := by
  by_cases h : i < x.length
  · rw [sumV_get h]; exact Mg.add (hx i) (hy i)
  · rw [List.getD, List.getElem?_eq_none (by rw [sumV_len]; omega)]; exact Mg.zero _
theorem mgA {n m q r : Nat} {a : List (List Dy)} {x : List Dy} (ha : rect n m a) (ga : ∀ i j, Mg q (el a i j)) (gx : ∀ i, Mg r (x.getD i Dy.zero)) (i : Nat) : Mg (q + r + m) ((appD a x).getD i Dy.zero) := by
  by_cases hi : i < n
  · rw [el_app ha hi]; exact mg_sumD fun k _ => Mg.mul (ga i k) (gx k)
  · rw [List.getD, List.getElem?_eq_none (by rw [app_len, ha.1]; omega)]; exact Mg.zero _
theorem mgAbs {n m q : Nat} {a : List (List Dy)} (ha : rect n m a) (hn : 0 < n) (ga : ∀ i j, Mg q (el a i j)) (i j : Nat) : Mg q (el (absD a) i j) := by
  by_cases hij : i < n ∧ j < m
  · rw [el_abs ha hn hij.1 hij.2]; exact Mg.abs (ga i j)
  · rw [el_out (rect_abs ha hn) hij]; exact Mg.zero _
theorem okV_get {x : List RD} (h : okV p x) (i : Nat) : Mg p ((dyV x).getD i Dy.zero) := by rw [dyV_get]; exact (h i).2
theorem TubOK.ra (h : TubOK p q n a dv w inner outer) : rect n n (dyM a) := by have := rect_of h.ca; rwa [h.la, h.la0] at this
theorem TubOK.rd (h : TubOK p q n a dv w inner outer) : rect n n (dyM dv) := by have := rect_of h.cd; rwa [h.ld, h.ld0] at this
theorem TubOK.gp (h : TubOK p q n a dv w inner outer) {j : Nat} (hj : j ≤ 33) (x y : Nat) : Mg 4000 (el (powD (dyM a) j) x y) := (mg_powD h.ra h.n1 (mg_el_raw h.oa) j x y).mono (by
  have := h.hp; have := h.n6
  have : j * (p + n) ≤ 33 * 106 := Nat.mul_le_mul hj (by omega)
  omega)
theorem TubOK.gs (h : TubOK p q n a dv w inner outer) {j : Nat} (hj : j ≤ 33) (x y : Nat) : Mg 4000 (el (absD (powD (dyM a) j)) x y) := mgAbs (pow_rect h.ra h.n1 j) h.n1 (fun x y => h.gp hj x y) x y
theorem TubOK.gpush (h : TubOK p q n a dv w inner outer) (i : Nat) : Mg (q + 300) ((pushD (dyM dv) (dyV w) (dyV outer)).getD i Dy.zero) := by
  have := h.hp; have := h.n6
  exact (mg_sumV (k := p + q + n) (mgA h.rd (mg_el_raw h.od) (okV_get h.oo)) (fun i => (okV_get h.ow i).mono (by omega)) i).mono (by omega)
theorem push_len (h : TubOK p q n a dv w inner outer) : (pushD (dyM dv) (dyV w) (dyV outer)).length = n := by unfold pushD; rw [sumV_len, app_len, dyM_len, h.ld]
theorem drift_len (h : TubOK p q n a dv w inner outer) (push : List Dy) : ∀ j, (driftD (dyM a) push j).length = n
  | 0 => by simp [driftD, zeroV, dyM_len, h.la]
  | j + 1 => by simp only [driftD]; rw [sumV_len]; exact drift_len h push j
theorem TubOK.gdrift (h : TubOK p q n a dv w inner outer) : ∀ j, j ≤ 33 → ∀ i, Mg (q + 5000 + j) ((driftD (dyM a) (pushD (dyM dv) (dyV w) (dyV outer)) j).getD i Dy.zero)
  | 0, _, i => by
    simp only [driftD, zeroV]
    rw [List.getD, List.getElem?_replicate]
    split <;> exact Mg.zero _
  | j + 1, hj, i => by
    have := h.n6
    simp only [driftD]
    exact mg_sumV (k := q + 5000 + j) (TubOK.gdrift h j (by omega)) (fun i => (mgA (rect_abs (pow_rect h.ra h.n1 j) h.n1) (fun x y => h.gs (by omega) x y) h.gpush i).mono (by omega)) i
theorem TubOK.greach (h : TubOK p q n a dv w inner outer) {j : Nat} (hj : j ≤ 33) (i : Nat) : Mg (q + 6000) ((reachD (dyM a) (dyM dv) (dyV w) (dyV inner) (dyV outer) j).getD i Dy.zero) := by
  have := h.n6; have := h.hp
  exact (mg_sumV (k := q + 5033) (fun i => (mgA (rect_abs (pow_rect h.ra h.n1 j) h.n1) (fun x y => h.gs hj x y) (okV_get h.oi) i).mono (by omega)) (fun i => (h.gdrift j hj i).mono (by omega)) i).mono (by omega)
theorem reach_len (h : TubOK p q n a dv w inner outer) (j : Nat) : (reachD (dyM a) (dyM dv) (dyV w) (dyV inner) (dyV outer) j).length = n := by
  unfold reachD; rw [sumV_len, app_len, (rect_abs (pow_rect h.ra h.n1 j) h.n1).1]
end
theorem tub_reaches {p q n : Nat} {a dv : List (List RD)} {w inner outer : List RD} (h : TubOK p q n a dv w inner outer) (K : Int) (m : Nat) (hm : m ≤ 32) :
    CallOK Tryz.prog gl 74 [.agg [.sl 1 (mrows a), .sl 1 (mrows dv), .sl 3 (vrows w)], .agg [.v (.int .i64 K), .sl 3 (vrows inner), .sl 3 (vrows outer)], .v (.int .i64 m)]
      (.sl 1 (mrows (crM (tabS (m + 1) (reachD (dyM a) (dyM dv) (dyV w) (dyV inner) (dyV outer)))))) := by
  refine call_ok (C := ⟨Tryz.prog, gl, ti, 65, false⟩) ti_ok mixed 3000 Tryz.call74 Tryz.func74 rfl Tryz.ntmps74 (by simp) byClL byCl ?_
  rw [Tryz.results74]
  have hn6 := h.n6
  have hp := h.hp
  have hq := h.hq
  let R := reachD (dyM a) (dyM dv) (dyV w) (dyV inner) (dyV outer)
  let PU := pushD (dyM dv) (dyV w) (dyV outer)
  let DR := driftD (dyM a) PU
  let PO := powD (dyM a)
  have hPU : PU = sumV (appD (dyM dv) (dyV outer)) (dyV w) := rfl
  have x1 := tub_apply dv outer p q (by omega) h.cd (by rw [h.lo, h.ld0]) h.od h.oo
  have x2 := tub_sum ((appD (dyM dv) (dyV outer)).map can) w (p + q + n) (by rw [List.length_map, app_len, dyM_len, h.ld]; omega) (by rw [List.length_map, app_len, dyM_len, h.ld, h.lw]) (okV_can (mgA h.rd (mg_el_raw h.od) (okV_get h.oo)) (by omega)) (fun i => (h.ow i).mono (by omega))
  rw [dyV_can, ← hPU] at x2
  have id1 := matP_Id n h.n1 (by omega)
  rw [show unitD n = PO 0 by show _ = powD (dyM a) 0; unfold powD; rw [dyM_len, h.la]] at id1
  have s1 : ∀ j, j ≤ m → CallOK Tryz.prog gl 140 [.sl 1 (mrows (crM (PO j)))] (.tup [.sl 1 (mrows (crM (absD (PO j)))), .v .nilIface]) := fun j hj => by
    have := mat_Abs (crM (PO j)) 4000 (ckM_rect (pow_rect h.ra h.n1 j) h.n1 (by omega) h.n1 (by omega)) (okM_cr (fun x y => h.gp (by omega) x y) (by omega))
    rwa [dyM_cr] at this
  have ckS : ∀ j, ckM (crM (absD (PO j))) = 0 := fun j => ckM_rect (rect_abs (pow_rect h.ra h.n1 j) h.n1) h.n1 (by omega) h.n1 (by omega)
  have lS : ∀ j, ((crM (absD (PO j))).getD 0 []).length = n := fun j => by rw [crM_get, List.length_map]; exact (rect_abs (pow_rect h.ra h.n1 j) h.n1).2 0 h.n1
  have s2 : ∀ j, j ≤ m → CallOK Tryz.prog gl 87 [.sl 1 (mrows (crM (absD (PO j)))), .sl 3 (vrows inner)] (.sl 3 (vrows ((appD (absD (PO j)) (dyV inner)).map can))) := fun j hj => by
    have := tub_apply (crM (absD (PO j))) inner 4000 q (by omega) (ckS j) (by rw [h.li, lS j]) (okM_cr (fun x y => h.gs (by omega) x y) (by omega)) h.oi
    rwa [dyM_cr] at this
  have s3 : ∀ j, j ≤ m → CallOK Tryz.prog gl 86 [.sl 3 (vrows ((appD (absD (PO j)) (dyV inner)).map can)), .sl 3 (vrows ((DR j).map can))] (.sl 3 (vrows ((R j).map can))) := fun j hj => by
    have := tub_sum ((appD (absD (PO j)) (dyV inner)).map can) ((DR j).map can) (q + 6000) (by rw [List.length_map, app_len, (rect_abs (pow_rect h.ra h.n1 j) h.n1).1]; omega) (by rw [List.length_map, List.length_map, app_len, (rect_abs (pow_rect h.ra h.n1 j) h.n1).1, drift_len h])
      (okV_can (fun i => (mgA (rect_abs (pow_rect h.ra h.n1 j) h.n1) (fun x y => h.gs (by omega) x y) (okV_get h.oi) i).mono (by omega)) (by omega)) (okV_can (fun i => (h.gdrift j (by omega) i).mono (by omega)) (by omega))
    rwa [dyV_can, dyV_can] at this
  have s4 : ∀ j, j ≤ m → CallOK Tryz.prog gl 87 [.sl 1 (mrows (crM (absD (PO j)))), .sl 3 (vrows (PU.map can))] (.sl 3 (vrows ((appD (absD (PO j)) PU).map can))) := fun j hj => by
    have := tub_apply (crM (absD (PO j))) (PU.map can) 4000 (q + 300) (by omega) (ckS j) (by rw [List.length_map, push_len h, lS j]) (okM_cr (fun x y => h.gs (by omega) x y) (by omega)) (okV_can h.gpush (by omega))
    rwa [dyM_cr, dyV_can] at this
  have s5 : ∀ j, j ≤ m → CallOK Tryz.prog gl 86 [.sl 3 (vrows ((DR j).map can)), .sl 3 (vrows ((appD (absD (PO j)) PU).map can))] (.sl 3 (vrows ((DR (j + 1)).map can))) := fun j hj => by
    have := tub_sum ((DR j).map can) ((appD (absD (PO j)) PU).map can) (q + 6000) (by rw [List.length_map, drift_len h]; omega) (by rw [List.length_map, List.length_map, app_len, (rect_abs (pow_rect h.ra h.n1 j) h.n1).1, drift_len h])
      (okV_can (fun i => (h.gdrift j (by omega) i).mono (by omega)) (by omega)) (okV_can (fun i => (mgA (rect_abs (pow_rect h.ra h.n1 j) h.n1) (fun x y => h.gs (by omega) x y) h.gpush i).mono (by omega)) (by omega))
    rwa [dyV_can, dyV_can] at this
  have s6 : ∀ j, j ≤ m → CallOK Tryz.prog gl 121 [.sl 1 (mrows (crM (PO j))), .sl 1 (mrows a)] (.tup [.sl 1 (mrows (crM (PO (j + 1)))), .v .nilIface]) := fun j hj => by
    have hri := pow_rect h.ra h.n1 j
    have := mat_Mul (crM (PO j)) a 4000 p (by omega) (by
      unfold bothE fitMul
      rw [if_pos (ckM_rect hri h.n1 (by omega) h.n1 (by omega)), if_pos h.ca, if_pos (decide_eq_true (by rw [crM_get, List.length_map, hri.2 0 h.n1, h.la]))]) (okM_cr (fun x y => h.gp (by omega) x y) (by omega)) h.oa
    rwa [dyM_cr] at this
  have hla := h.la
  have hlen : (mrows a).length = n := by rw [mrows_length, hla]
  have hz : DR 0 = List.replicate n Dy.zero := by show zeroV (dyM a).length = _; rw [dyM_len, hla]; rfl
  repeat' (first | (simp only [go_sem, seval, IntKind.bits.eq_def, ti, tin, hlen]) | (simp (disch := omega) only [wA]) | (with_reducible first | refine cF x1 ?_ | refine dF x1 ?_ | refine cF x2 ?_ | refine dF x2 ?_ | refine cF id1 ?_ | refine dF id1 ?_) | refine aL ti_ok ?_ | refine dL ti_ok ?_ | refine dG ?_ | ((first | refine cC ?_ ?_ | refine gS ?_ ?_ | refine dS ?_ ?_) <;> intro hc <;> first | (exfalso; simp only [dcA] at hc; omega) | (simp only [hc]; try simp only [dcA] at hc)) | refine aO ?_ | refine dO ?_)
  clear x1 x2 id1
  refine loop_weak0 (s' := ⟨[(3, .p 0 3 0 0), (4, .p 1 3 0 0), (7, .sl 3 (vrows (PU.map can))), (8, .sl 3 (vrows ((DR 0).map can))), (9, .sl 1 (mrows (crM (PO 0)))), (11, .ps 12 1 0 0), (34, .v (.int .i64 (m + 1 : Nat))), (35, .v (.int .i64 ((0 : Nat) : Int)))], [(12, ⟨1, []⟩), (1, ⟨3, [[.v (.int .i64 K), .sl 3 (vrows inner), .sl 3 (vrows outer)]]⟩), (0, ⟨3, [[.sl 1 (mrows a), .sl 1 (mrows dv), .sl 3 (vrows w)]]⟩)], 13⟩) ?_ (Nat.zero_lt_succ _) ?_
  · refine Weak.trans0 (s1 := ⟨[(3, .p 0 3 0 0), (4, .p 1 3 0 0), (7, .sl 3 (vrows (PU.map can))), (8, .sl 3 (vrows ((DR 0).map can))), (9, .sl 1 (mrows (crM (PO 0)))), (11, .v (.slice none 0 0)), (34, .v (.int .i64 (m + 1 : Nat))), (35, .v (.int .i64 ((0 : Nat) : Int)))], [(1, ⟨3, [[.v (.int .i64 K), .sl 3 (vrows inner), .sl 3 (vrows outer)]]⟩), (0, ⟨3, [[.sl 1 (mrows a), .sl 1 (mrows dv), .sl 3 (vrows w)]]⟩)], 12⟩) ?_ (Nat.zero_lt_succ _) (Weak.trans0 (Weak.newnil 12 1 (Nat.le_refl _)) (Nat.zero_lt_succ _) byWeak)
    refine Weak.frz 11 ⟨3, zr n⟩ rfl ?_ ?_ (Nat.le_refl _)
    · refine ⟨⟨_, _, rfl, .same, .refl _⟩, ⟨_, _, rfl, .same, .refl _⟩, ⟨_, _, rfl, .same, .refl _⟩, ⟨_, _, rfl, frz_ps rfl (by show 0 + n ≤ (zr n).length; unfold zr; rw [List.length_replicate]; omega), ?_⟩, ⟨_, _, rfl, .same, .refl _⟩, ⟨_, _, rfl, .same, .refl _⟩, ⟨_, _, rfl, .same, .refl _⟩, ⟨_, _, rfl, .same, .refl _⟩, trivial⟩
      rw [hz, List.drop_zero, List.take_of_length_le (by show (zr n).length ≤ n; unfold zr; rw [List.length_replicate]; exact Nat.le_refl _)]
      rw [show (List.replicate n Dy.zero).map can = List.replicate n RD.zero by rw [List.map_replicate, can_zero]]
      exact Le.sl (LeR.vzero n)
    · exact ⟨⟨by decide, _, rfl, .refl _ _ _⟩, ⟨by decide, _, rfl, .refl _ _ _⟩, trivial⟩
  refine l_loop (α := Nat) (fun j => ⟨[(3, .p 0 3 0 0), (4, .p 1 3 0 0), (7, .sl 3 (vrows (PU.map can))), (8, .sl 3 (vrows ((DR j).map can))), (9, .sl 1 (mrows (crM (PO j)))), (11, .ps 12 1 0 j), (34, .v (.int .i64 (m + 1 : Nat))), (35, .v (.int .i64 j))], [(12, ⟨1, mrows (crM (tabS j R))⟩), (1, ⟨3, [[.v (.int .i64 K), .sl 3 (vrows inner), .sl 3 (vrows outer)]]⟩), (0, ⟨3, [[.sl 1 (mrows a), .sl 1 (mrows dv), .sl 3 (vrows w)]]⟩)], 13⟩) (fun j => j ≤ m + 1) (fun j => m + 1 - j) (0) _ byFresh (fun _ h => by first | (cases h; done) | exact Nat.le_of_ble_eq_true rfl) ?_ ?_ ?_
  · exact Nat.zero_le _
  · exact byWeak
  rintro j hj
  by_cases hjm : j < m + 1
  ·
    have y1 := s1 j (by omega)
    have y2 := s2 j (by omega)
    have y3 := s3 j (by omega)
    have y4 := s4 j (by omega)
    have y5 := s5 j (by omega)
    have y6 := s6 j (by omega)
    have l6 : (mrows (crM (tabS j R))).length = j := by rw [mrows_length, crM_len, tabS_len]
    have e6 : (mrows (crM (tabS j R))).take j ++ [[.sl 3 (vrows ((R j).map can))]] = mrows (crM (tabS (j + 1) R)) := by
      rw [List.take_of_length_le (by omega), tabS_succ, crM, crM, List.map_append, mrows_append]; rfl
    clear s1 s2 s3 s4 s5 s6
    repeat' (first | (simp only [go_sem, seval, IntKind.bits.eq_def, ti, tin, hlen, l6]) | (simp (disch := omega) only [wA]) | (with_reducible first | refine cF y1 ?_ | refine dF y1 ?_ | refine cF y2 ?_ | refine dF y2 ?_ | refine cF y3 ?_ | refine dF y3 ?_ | refine cF y4 ?_ | refine dF y4 ?_ | refine cF y5 ?_ | refine dF y5 ?_ | refine cF y6 ?_ | refine dF y6 ?_) | (refine after_append_nil ti_ok rfl rfl rfl rfl ⟨rfl, by decide⟩ rfl ⟨trivial, by (try simp only [List.length_cons, List.length_nil, List.length_append, u32s_length, List.length_map, l6]); omega, by (try simp only [List.length_cons, List.length_nil, List.length_append, u32s_length, List.length_map, l6]); omega⟩ (fun _ => byRows) ?_) | (refine after_append_own ti_ok rfl rfl rfl rfl rfl ⟨rfl, rfl, by decide, Nat.le_of_ble_eq_true rfl⟩ (fun h => by first | (cases h; done) | decide) rfl ⟨trivial, by (try simp only [List.length_cons, List.length_nil, List.length_append, u32s_length, List.length_map, l6]); omega, by (try simp only [List.length_cons, List.length_nil, List.length_append, u32s_length, List.length_map, l6]); omega, by (try simp only [List.length_cons, List.length_nil, List.length_append, u32s_length, List.length_map, l6]); omega⟩ byRows byNoE byNoM ?_) | refine aL ti_ok ?_ | refine dL ti_ok ?_ | refine dG ?_ | ((first | refine cC ?_ ?_ | refine gS ?_ ?_ | refine dS ?_ ?_) <;> intro hc <;> first | (exfalso; simp only [dcA] at hc; omega) | (simp only [hc]; try simp only [dcA] at hc)) | refine aO ?_ | refine dO ?_)
    refine roundEnd_of (α := Nat) (j + 1) (show j + 1 ≤ m + 1 by omega) (by omega) ?_
    rw [← e6]
    exact byWeak
  ·
    have hjm2 : j = m + 1 := by omega
    subst hjm2
    repeat' (first | (simp only [go_sem, seval, IntKind.bits.eq_def, ti, tin]) | (simp (disch := omega) only [wA]) | refine aL ti_ok ?_ | refine dL ti_ok ?_ | refine dG ?_ | ((first | refine cC ?_ ?_ | refine gS ?_ ?_ | refine dS ?_ ?_) <;> intro hc <;> first | (exfalso; simp only [dcA] at hc; omega) | (simp only [hc]; try simp only [dcA] at hc)) | refine aO ?_ | refine dO ?_)
    refine fin_pub trivial (.one (.one (.ps rfl rfl (by show 0 + (m + 1) ≤ _; rw [mrows_length, crM_len, tabS_len]; omega)))) ?_
    rw [List.drop_zero, List.take_of_length_le (by rw [mrows_length, crM_len, tabS_len]; exact Nat.le_refl _)]
    exact .refl _
end Go.Proofs.YtpggiabnhodjpaaGreatDoor
