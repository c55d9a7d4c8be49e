/- The reference of layer 18: sums, powers, Reach, Accepts. -/
import Derived.Test.YtpggiabnhodjpaaGreatDoorT18e
import Derived.Test.YtpggiabnhodjpaaGreatDoorMatB1
set_option linter.unusedSimpArgs false
set_option linter.unusedVariables false
set_option linter.deprecated false
namespace Go.Proofs.YtpggiabnhodjpaaGreatDoor
open Go Go.Ax
set_option maxRecDepth 100000
set_option maxHeartbeats 4000000
theorem r18_plus (x y : List RD) (p : Nat) (hx : x.length ≤ 1000) (hxy : x.length = y.length) (ox : okV p x) (oy : okV p y) : CallOK Tryz.prog gl 80 [.sl 3 (vrows (x)), .sl 3 (vrows (y))] (.sl 3 (vrows ((sumV (dyV x) (dyV y)).map can))) := by
  refine call_ok (C := ⟨Tryz.prog, gl, ti, 29, false⟩) ti_ok mixed 3000 Tryz.call80 Tryz.func80 rfl Tryz.ntmps80 (by simp) byClL byCl ?_
  rw [Tryz.results80]
  rw [sumV_raw]
  obtain ⟨n, hn⟩ : ∃ n, x.length = n := ⟨_, rfl⟩
  have hn' : y.length = n := by omega
  rw [hn] at hx ⊢
  generalize hg : (fun i => (x.getD i RD.zero).dy.add (y.getD i RD.zero).dy) = g
  have hgi : ∀ i, g i = (x.getD i RD.zero).dy.add (y.getD i RD.zero).dy := fun i => by rw [← hg]
  clear hg
  repeat' (first | (simp only [go_sem, seval, IntKind.bits.eq_def, ti, tin, vrows_length, hn]) | (simp (disch := omega) only [wA]) | refine aL ti_ok ?_ | refine dL ti_ok ?_ | refine dG ?_ | ((first | refine cC ?_ ?_ | refine gS ?_ ?_ | refine dS ?_ ?_) <;> intro hc <;> first | (exfalso; simp only [dcA] at hc; omega) | (simp only [hc]; try simp only [dcA] at hc)) | refine aO ?_ | refine dO ?_)
  refine l_loop (α := Nat) (fun i => ⟨[(0, .sl 3 (vrows (x))), (1, .sl 3 (vrows (y))), (5, .ps 0 3 0 n), (11, .v (.int .i64 n)), (12, .v (.int .i64 i))], [(0, ⟨3, vrows ((mixV n i g).map can)⟩)], 1⟩) (fun i => i ≤ n) (fun i => n - i) (0) _ byFresh (fun _ h => by first | (cases h; done) | exact Nat.le_of_ble_eq_true rfl) ?_ ?_ ?_
  · exact Nat.zero_le _
  · refine Weak.trans0 (Weak.mle 0 ⟨3, vrows ((List.replicate n Dy.zero).map can)⟩ rfl (MLe.zr n)) (by first | exact Nat.zero_lt_succ _ | exact Nat.le_of_ble_eq_true rfl) ?_
    rw [mix_zero]
    exact byWeak
  rintro i hi
  by_cases hin : i < n
  ·
    have ri := vrows_getD (l := x) (i := i) (by omega)
    have ri' := vrows_getD (l := y) (i := i) (by omega)
    have ad := ref_Add _ _ _ _ _ _ _ _ (RD.arg (ox i).1) (RD.arg (oy i).1)
    rw [← hgi i] at ad
    have e4 : (vrows ((mixV n i g).map can)).length = n := by rw [crows_length, mixV_len hi]
    have e6 : (vrows ((mixV n i g).map can)).set i (crow (g i)) = vrows ((mixV n (i + 1) g).map can) := by rw [crows_set, mixV_step hin]
    have e7 : (vrows ((mixV n i g).map can)).getD i [] = crow Dy.zero := by rw [crows_getD (by rw [mixV_len hi]; exact hin), mixV_get hin]
    unfold vrow at ri ri'
    generalize x.getD i RD.zero = r at *
    generalize y.getD i RD.zero = r' at *
    repeat' (first | (simp only [go_sem, seval, IntKind.bits.eq_def, ti, tin, vrows_length, hn, hn', ri, ri', e4, e6, e7]) | (simp (disch := omega) only [wA]) | (with_reducible first | refine cF ad ?_ | refine dF ad ?_) | refine aL ti_ok ?_ | refine dL ti_ok ?_ | refine dG ?_ | ((first | refine cC ?_ ?_ | refine gS ?_ ?_ | refine dS ?_ ?_) <;> intro hc <;> first | (exfalso; simp only [dcA] at hc; omega) | (simp only [hc]; try simp only [dcA] at hc)) | refine aO ?_ | refine dO ?_)
    refine roundEnd_of (α := Nat) (i + 1) (show i + 1 ≤ n by omega) (by omega) ?_
    exact byWeak
  ·
    have hin2 : i = n := by omega
    subst hin2
    repeat' (first | (simp only [go_sem, seval, IntKind.bits.eq_def, ti, tin]) | (simp (disch := omega) only [wA]) | refine aL ti_ok ?_ | refine dL ti_ok ?_ | refine dG ?_ | ((first | refine cC ?_ ?_ | refine gS ?_ ?_ | refine dS ?_ ?_) <;> intro hc <;> first | (exfalso; simp only [dcA] at hc; omega) | (simp only [hc]; try simp only [dcA] at hc)) | refine aO ?_ | refine dO ?_)
    rw [mixV_all]
    refine fin_pub trivial (.one (.one (.ps rfl rfl (by show 0 + i ≤ _; rw [vtab_len]; omega)))) ?_
    rw [List.drop_zero, List.take_of_length_le (by rw [vtab_len]; exact Nat.le_refl _)]
    exact .refl _
theorem r18_size (a dv : List (List RD)) (w x : List RD) (p q n j : Nat) (hp : p ≤ 100) (hq : q ≤ 300000) (h : ckM a = 0) (hn : a.length = n) (hs : (a.getD 0 []).length = n) (h6 : n ≤ 6) (hj : j ≤ 33) (hx : x.length = n) (oa : okM p a) (ox : okV q x) : CallOK Tryz.prog gl 81 [.agg [.sl 1 (mrows a), .sl 1 (mrows dv), .sl 3 (vrows w)], .v (.int .i64 j), .sl 3 (vrows (x))] (.sl 3 (vrows ((appD (absD (powD (dyM a) j)) (dyV x)).map can))) := by
  refine call_ok (C := ⟨Tryz.prog, gl, ti, 30, false⟩) ti_ok mixed 3000 Tryz.call81 Tryz.func81 rfl Tryz.ntmps81 (by simp) byClL byCl ?_
  rw [Tryz.results81]
  obtain ⟨a1, a2, a3, a4, a5⟩ := ckM_ok h
  have hr := rect_of h
  rw [hn, hs] at hr
  rw [hn] at a1 a2
  have hrj := pow_rect hr a1 j
  have gp : ∀ x y, Mg 4000 (el (powD (dyM a) j) x y) := fun x y => (mg_powD hr a1 (mg_el_raw oa) j x y).mono (by
    have : j * (p + n) ≤ 33 * 106 := Nat.mul_le_mul hj (by omega)
    omega)
  have p1 := refm_Power a j p n (by omega) h hn hs (by omega) oa
  have p2 := refm_Abs (crM (powD (dyM a) j)) 4000 (ckM_rect hrj a1 a2 a1 a2) (okM_cr gp (by omega))
  rw [dyM_cr] at p2
  have p3 := refm_Apply (crM (absD (powD (dyM a) j))) x 4000 q (by omega) (ckM_rect (rect_abs hrj a1) a1 a2 a1 a2) (by rw [crM_get, List.length_map, (rect_abs hrj a1).2 0 a1, hx]) (okM_cr (mgAbs hrj a1 gp) (by omega)) ox
  rw [dyM_cr] at p3
  clear gp oa ox
  generalize appD (absD (powD (dyM a) j)) (dyV x) = z at *
  generalize crM (absD (powD (dyM a) j)) = A at *
  generalize crM (powD (dyM a) j) = B at *
  repeat' (first | (simp only [go_sem, seval, IntKind.bits.eq_def, ti, tin]) | (simp (disch := omega) only [wA]) | (with_reducible first | refine cF p1 ?_ | refine dF p1 ?_ | refine cF p2 ?_ | refine dF p2 ?_ | refine cF p3 ?_ | refine dF p3 ?_) | refine aL ti_ok ?_ | refine dL ti_ok ?_ | refine dG ?_ | ((first | refine cC ?_ ?_ | refine gS ?_ ?_ | refine dS ?_ ?_) <;> intro hc <;> first | (exfalso; simp only [dcA] at hc; omega) | (simp only [hc]; try simp only [dcA] at hc)) | refine aO ?_ | refine dO ?_)
  all_goals exact fin_same trivial rfl
theorem leV_raw {x : List Dy} {y : List RD} : leV (x.map can) y = leVD x (dyV y) := by
  unfold leV leVD
  rw [List.length_map]
  exact decide_eq_decide.2 ⟨fun h j hj => by have := h j hj; rwa [canV_get, can_dy, ← dyV_get] at this, fun h j hj => by rw [canV_get, can_dy, ← dyV_get]; exact h j hj⟩
theorem r18_Reach {p q n : Nat} {a dv : List (List RD)} {w inner outer : List RD} (h : TubOK p q n a dv w inner outer) (K : Int) (j : Nat) (hj : j ≤ 32) :
    CallOK Tryz.prog gl 26 [.agg [.sl 1 (mrows a), .sl 1 (mrows dv), .sl 3 (vrows w)], .agg [.v (.int .i64 K), .sl 3 (vrows inner), .sl 3 (vrows outer)], .v (.int .i64 j)]
      (.sl 3 (vrows ((reachD (dyM a) (dyM dv) (dyV w) (dyV inner) (dyV outer) j).map can))) := by
  refine call_ok (C := ⟨Tryz.prog, gl, ti, 40, false⟩) ti_ok mixed 3000 Tryz.call26 Tryz.func26 rfl Tryz.ntmps26 (by simp) byClL byCl ?_
  rw [Tryz.results26]
  have hn6 := h.n6
  have hp := h.hp
  have hq := h.hq
  let PU := pushD (dyM dv) (dyV w) (dyV outer)
  have hPU : PU = sumV (appD (dyM dv) (dyV outer)) (dyV w) := rfl
  let X0 := appD (absD (powD (dyM a) j)) (dyV inner)
  let RR := refR (dyM a) PU X0
  have hX0 : X0.length = n := by show (appD _ _).length = n; rw [app_len, (rect_abs (pow_rect h.ra h.n1 j) h.n1).1]
  have x1 := refm_Apply dv outer p q (by omega) h.cd (by rw [h.lo, h.ld0]) h.od h.oo
  have x2 := r18_plus ((appD (dyM dv) (dyV outer)).map can) w (p + q + n) (by rw [List.length_map, app_len, dyM_len, h.ld]; omega) (by rw [List.length_map, app_len, dyM_len, h.ld, h.lw]) (okV_can (mgA h.rd (mg_el_raw h.od) (okV_get h.oo)) (by omega)) (fun i => (h.ow i).mono (by omega))
  rw [dyV_can, ← hPU] at x2
  have x3 := r18_size a dv w inner p q n j hp (by omega) h.ca h.la h.la0 hn6 (by omega) h.li h.oa h.oi
  have s1 : ∀ i, i < j → CallOK Tryz.prog gl 81 [.agg [.sl 1 (mrows a), .sl 1 (mrows dv), .sl 3 (vrows w)], .v (.int .i64 i), .sl 3 (vrows (PU.map can))] (.sl 3 (vrows ((appD (absD (powD (dyM a) i)) PU).map can))) := fun i hi => by
    have := r18_size a dv w (PU.map can) p (q + 300) n i hp (by omega) h.ca h.la h.la0 hn6 (by omega) (by rw [List.length_map, push_len h]) h.oa (okV_can h.gpush (by omega))
    rwa [dyV_can] at this
  have gR : ∀ i, i < j → ∀ k, Mg (q + 6000) ((RR i).getD k Dy.zero) := fun i hi k => by
    show Mg _ ((refR (dyM a) PU X0 i).getD k Dy.zero)
    rw [refR_eq h.ra hX0]
    exact (mg_sumV (k := q + 5033) (fun k => (mgA (rect_abs (pow_rect h.ra h.n1 j) h.n1) (fun x y => h.gs (by omega) x y) (okV_get h.oi) k).mono (by omega)) (fun k => (h.gdrift i (by omega) k).mono (by omega)) k).mono (by omega)
  have lR : ∀ i, (RR i).length = n := fun i => by
    show (refR (dyM a) PU X0 i).length = n
    rw [refR_eq h.ra hX0, sumV_len, hX0]
  have s2 : ∀ i, i < j → CallOK Tryz.prog gl 80 [.sl 3 (vrows ((RR i).map can)), .sl 3 (vrows ((appD (absD (powD (dyM a) i)) PU).map can))] (.sl 3 (vrows ((RR (i + 1)).map can))) := fun i hi => by
    have := r18_plus ((RR i).map can) ((appD (absD (powD (dyM a) i)) PU).map can) (q + 6000) (by rw [List.length_map, lR]; omega) (by rw [List.length_map, List.length_map, lR, app_len, (rect_abs (pow_rect h.ra h.n1 i) h.n1).1])
      (okV_can (gR i hi) (by omega)) (okV_can (fun k => (mgA (rect_abs (pow_rect h.ra h.n1 i) h.n1) (fun x y => h.gs (by omega) x y) h.gpush k).mono (by omega)) (by omega))
    rwa [dyV_can, dyV_can] at this
  have eR : reachD (dyM a) (dyM dv) (dyV w) (dyV inner) (dyV outer) j = RR j := (refR_reach h.ra h.n1 j).symm
  have e0 : X0 = RR 0 := rfl
  rw [eR]
  change CallOK _ _ _ _ (.sl 3 (vrows (X0.map can))) at x3
  rw [e0] at x3
  clear gR lR eR e0 hX0 hPU h
  clear_value RR
  clear_value PU
  repeat' (first | (simp only [go_sem, seval, IntKind.bits.eq_def, ti, tin]) | (simp (disch := omega) only [wA]) | (with_reducible first | refine cF x1 ?_ | refine dF x1 ?_ | refine cF x2 ?_ | refine dF x2 ?_ | refine cF x3 ?_ | refine dF x3 ?_) | refine aL ti_ok ?_ | refine dL ti_ok ?_ | refine dG ?_ | ((first | refine cC ?_ ?_ | refine gS ?_ ?_ | refine dS ?_ ?_) <;> intro hc <;> first | (exfalso; simp only [dcA] at hc; omega) | (simp only [hc]; try simp only [dcA] at hc)) | refine aO ?_ | refine dO ?_)
  refine l_loop (α := Nat) (fun i => ⟨[(3, .p 0 3 0 0), (4, .p 1 3 0 0), (7, .sl 3 (vrows (PU.map can))), (9, .sl 3 (vrows ((RR i).map can))), (28, .v (.int .i64 j)), (29, .v (.int .i64 i))], [(1, ⟨3, [[.v (.int .i64 K), .sl 3 (vrows inner), .sl 3 (vrows outer)]]⟩), (0, ⟨3, [[.sl 1 (mrows a), .sl 1 (mrows dv), .sl 3 (vrows w)]]⟩)], 2⟩) (fun i => i ≤ j) (fun i => j - i) (0) _ byFresh (fun _ h => by first | (cases h; done) | exact Nat.le_of_ble_eq_true rfl) ?_ ?_ ?_
  · exact Nat.zero_le _
  · exact byWeak
  rintro i hi
  by_cases hin : i < j
  ·
    have y1 := s1 i hin
    have y2 := s2 i hin
    clear s1 s2
    repeat' (first | (simp only [go_sem, seval, IntKind.bits.eq_def, ti, tin]) | (simp (disch := omega) only [wA]) | (with_reducible first | refine cF y1 ?_ | refine dF y1 ?_ | refine cF y2 ?_ | refine dF y2 ?_) | refine aL ti_ok ?_ | refine dL ti_ok ?_ | refine dG ?_ | ((first | refine cC ?_ ?_ | refine gS ?_ ?_ | refine dS ?_ ?_) <;> intro hc <;> first | (exfalso; simp only [dcA] at hc; omega) | (simp only [hc]; try simp only [dcA] at hc)) | refine aO ?_ | refine dO ?_)
    refine roundEnd_of (α := Nat) (i + 1) (show i + 1 ≤ j by omega) (by omega) ?_
    exact byWeak
  ·
    have hin2 : i = j := by omega
    subst hin2
    repeat' (first | (simp only [go_sem, seval, IntKind.bits.eq_def, ti, tin]) | (simp (disch := omega) only [wA]) | refine aL ti_ok ?_ | refine dL ti_ok ?_ | refine dG ?_ | ((first | refine cC ?_ ?_ | refine gS ?_ ?_ | refine dS ?_ ?_) <;> intro hc <;> first | (exfalso; simp only [dcA] at hc; omega) | (simp only [hc]; try simp only [dcA] at hc)) | refine aO ?_ | refine dO ?_)
    all_goals exact fin_same trivial rfl
theorem r18_Accepts {p q n : Nat} {a dv : List (List RD)} {w inner outer : List RD} (h : TubOK p q n a dv w inner outer) (K : Nat) (hK : K ≤ 32) :
    CallOK Tryz.prog gl 27 [.agg [.sl 1 (mrows a), .sl 1 (mrows dv), .sl 3 (vrows w)], .agg [.v (.int .i64 K), .sl 3 (vrows inner), .sl 3 (vrows outer)]]
      (.v (.bool (acceptsR K (dyM a) (dyM dv) (dyV w) (dyV inner) (dyV outer)))) := by
  refine call_ok (C := ⟨Tryz.prog, gl, ti, 28, false⟩) ti_ok mixed 3000 Tryz.call27 Tryz.func27 rfl Tryz.ntmps27 (by simp) byClL byCl ?_
  rw [Tryz.results27]
  have hq := h.hq
  have hn6 := h.n6
  let R := reachD (dyM a) (dyM dv) (dyV w) (dyV inner) (dyV outer)
  have rr : ∀ j, j ≤ K → CallOK Tryz.prog gl 26 [.agg [.sl 1 (mrows a), .sl 1 (mrows dv), .sl 3 (vrows w)], .agg [.v (.int .i64 K), .sl 3 (vrows inner), .sl 3 (vrows outer)], .v (.int .i64 j)] (.sl 3 (vrows ((R j).map can))) := fun j hj => r18_Reach h K j (by omega)
  have w1 : ∀ j, j ≤ K → CallOK Tryz.prog gl 82 [.sl 3 (vrows ((R j).map can)), .sl 3 (vrows outer)] (.v (.bool (leVD (R j) (dyV outer)))) := fun j hj => by
    have := ref_LeRow ((R j).map can) outer (q + 6000) (by rw [List.length_map, reach_len h]; omega) (by rw [List.length_map, reach_len h, h.lo]) (okV_can (fun i => h.greach (by omega) i) (by omega)) (fun i => ⟨(h.oo i).1, (h.oo i).2.mono (by omega)⟩)
    rwa [leV_raw] at this
  have w2 : CallOK Tryz.prog gl 82 [.sl 3 (vrows ((R K).map can)), .sl 3 (vrows inner)] (.v (.bool (leVD (R K) (dyV inner)))) := by
    have := ref_LeRow ((R K).map can) inner (q + 6000) (by rw [List.length_map, reach_len h]; omega) (by rw [List.length_map, reach_len h, h.li]) (okV_can (fun i => h.greach (by omega) i) (by omega)) (fun i => ⟨(h.oi i).1, (h.oi i).2.mono (by omega)⟩)
    rwa [leV_raw] at this
  obtain ⟨z, hz⟩ : ∃ z, acceptsR K (dyM a) (dyM dv) (dyV w) (dyV inner) (dyV outer) = z := ⟨_, rfl⟩
  rw [hz]
  have hzT : (∀ j, j < K → leVD (R j) (dyV outer) = true) → leVD (R K) (dyV inner) = z := fun h => by
    rw [← hz]; unfold acceptsR; rw [decide_eq_true h, Bool.true_and]
  have hzF : ¬ (∀ j, j < K → leVD (R j) (dyV outer) = true) → z = false := fun h => by
    rw [← hz]; unfold acceptsR; rw [decide_eq_false h, Bool.false_and]
  clear hz h
  clear_value R
  repeat' (first | (simp only [go_sem, seval, IntKind.bits.eq_def, ti, tin]) | (simp (disch := omega) only [wA]) | refine aL ti_ok ?_ | refine dL ti_ok ?_ | refine dG ?_ | ((first | refine cC ?_ ?_ | refine gS ?_ ?_ | refine dS ?_ ?_) <;> intro hc <;> first | (exfalso; simp only [dcA] at hc; omega) | (simp only [hc]; try simp only [dcA] at hc)) | refine aO ?_ | refine dO ?_)
  refine l_loop (α := Nat) (fun j => ⟨[(2, .p 0 3 0 0), (3, .p 1 3 0 0), (7, .v (.int .i64 K)), (8, .v (.int .i64 j))], [(1, ⟨3, [[.v (.int .i64 K), .sl 3 (vrows inner), .sl 3 (vrows outer)]]⟩), (0, ⟨3, [[.sl 1 (mrows a), .sl 1 (mrows dv), .sl 3 (vrows w)]]⟩)], 2⟩) (fun j => j ≤ K ∧ ∀ j', j' < j → leVD (R j') (dyV outer) = true) (fun j => K - j) (0) _ byFresh (fun _ h => by first | (cases h; done) | exact Nat.le_of_ble_eq_true rfl) ?_ ?_ ?_
  · exact ⟨Nat.zero_le _, fun j' h => by omega⟩
  · exact byWeak
  rintro j ⟨hj, hrow⟩
  by_cases hjm : j < K
  ·
    have y1 := rr j (by omega)
    have y2 := w1 j (by omega)
    have hz3 : ¬ leVD (R j) (dyV outer) = true → z = false := fun h => hzF (fun hh => h (hh j hjm))
    have hstep2 : leVD (R j) (dyV outer) = true → ∀ j', j' < j + 1 → leVD (R j') (dyV outer) = true := fun h j' hj' => by
      by_cases e : j' = j
      · rw [e]; exact h
      · exact hrow j' (by omega)
    clear hrow hzT hzF w1 w2 rr
    by_cases hc0 : leVD (R j) (dyV outer) = true
    ·
      have hrow2 := hstep2 hc0
      rw [hc0] at y2
      clear hstep2 hz3
      repeat' (first | (simp only [go_sem, seval, IntKind.bits.eq_def, ti, tin]) | (simp (disch := omega) only [wA]) | (with_reducible first | refine cF y1 ?_ | refine dF y1 ?_ | refine cF y2 ?_ | refine dF y2 ?_) | refine aL ti_ok ?_ | refine dL ti_ok ?_ | refine dG ?_ | ((first | refine cC ?_ ?_ | refine gS ?_ ?_ | refine dS ?_ ?_) <;> intro hc <;> first | (exfalso; simp only [dcA] at hc; omega) | (simp only [hc]; try simp only [dcA] at hc)) | refine aO ?_ | refine dO ?_)
      refine roundEnd_of (α := Nat) (j + 1) ⟨by omega, hrow2⟩ (by omega) ?_
      exact byWeak
    ·
      have hz4 := hz3 hc0
      subst hz4
      rw [Bool.not_eq_true] at hc0
      rw [hc0] at y2
      clear hstep2 hz3
      repeat' (first | (simp only [go_sem, seval, IntKind.bits.eq_def, ti, tin]) | (simp (disch := omega) only [wA]) | (with_reducible first | refine cF y1 ?_ | refine dF y1 ?_ | refine cF y2 ?_ | refine dF y2 ?_) | refine aL ti_ok ?_ | refine dL ti_ok ?_ | refine dG ?_ | ((first | refine cC ?_ ?_ | refine gS ?_ ?_ | refine dS ?_ ?_) <;> intro hc <;> first | (exfalso; simp only [dcA] at hc; omega) | (simp only [hc]; try simp only [dcA] at hc)) | refine aO ?_ | refine dO ?_)
      all_goals exact fin_same trivial rfl
  ·
    have hj2 : j = K := by omega
    subst hj2
    have hz2 := hzT hrow
    have y1 := rr j (Nat.le_refl _)
    rw [hz2] at w2
    clear hrow hzT hzF w1 rr hz2
    repeat' (first | (simp only [go_sem, seval, IntKind.bits.eq_def, ti, tin]) | (simp (disch := omega) only [wA]) | (with_reducible first | refine cF y1 ?_ | refine dF y1 ?_ | refine cF w2 ?_ | refine dF w2 ?_) | refine aL ti_ok ?_ | refine dL ti_ok ?_ | refine dG ?_ | ((first | refine cC ?_ ?_ | refine gS ?_ ?_ | refine dS ?_ ?_) <;> intro hc <;> first | (exfalso; simp only [dcA] at hc; omega) | (simp only [hc]; try simp only [dcA] at hc)) | refine aO ?_ | refine dO ?_)
    all_goals exact fin_same trivial rfl
end Go.Proofs.YtpggiabnhodjpaaGreatDoor
