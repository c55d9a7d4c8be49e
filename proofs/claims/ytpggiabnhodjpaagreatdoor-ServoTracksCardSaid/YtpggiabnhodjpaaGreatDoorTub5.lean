/- Layer 18 (tube): CheckCert, Reach, Accepts. -/
import Derived.Test.YtpggiabnhodjpaaGreatDoorTub4
set_option linter.unusedSimpArgs false
set_option linter.unusedVariables false
set_option linter.deprecated false
namespace Go.Proofs.YtpggiabnhodjpaaGreatDoor
open Go Go.Ax
set_option maxRecDepth 100000
set_option maxHeartbeats 4000000
def ckC (a dv : List (List RD)) (w : List RD) (K : Int) (inner outer : List RD) : Int :=
  if ckT a dv w ≠ 0 then ckT a dv w else if K < 1 ∨ 32 < K then 3 else if inner.length ≠ a.length ∨ outer.length ≠ a.length then 11 else if nonneg inner ∧ nonneg outer then 0 else 3
theorem tub_CheckCert (a dv : List (List RD)) (w inner outer : List RD) (K : Int) (ha : a.length ≤ 4611686018427387904) (hd : dv.length ≤ 4611686018427387904) (hw : w.length ≤ 4611686018427387904) (hi : inner.length ≤ 4611686018427387904) (ho : outer.length ≤ 4611686018427387904) (kd : ∀ l ∈ dv, l.length ≤ 4611686018427387904 ∧ ∀ r ∈ l, r.ok) (kw : ∀ r ∈ w, r.ok) (ki : ∀ r ∈ inner, r.ok) (ko : ∀ r ∈ outer, r.ok) : CallOK Tryz.prog gl 73 [.agg [.sl 1 (mrows a), .sl 1 (mrows dv), .sl 3 (vrows w)], .agg [.v (.int .i64 K), .sl 3 (vrows inner), .sl 3 (vrows outer)]] (.v (eV (ckC a dv w K inner outer))) := by
  refine call_ok (C := ⟨Tryz.prog, gl, ti, 49, false⟩) ti_ok mixed 3000 Tryz.call73 Tryz.func73 rfl Tryz.ntmps73 (by simp) byClL byCl ?_
  rw [Tryz.results73]
  obtain ⟨z, hz⟩ : ∃ z, ckC a dv w K inner outer = z := ⟨_, rfl⟩
  rw [hz]
  unfold ckC at hz
  have k1 := tub_Check a dv w ha hd hw kd kw
  by_cases h1 : ckT a dv w ≠ 0
  ·
    rw [if_pos h1] at hz
    subst hz
    rw [eV_ne h1] at k1 ⊢
    repeat' (first | (simp only [go_sem, seval, IntKind.bits.eq_def, ti, tin]) | (simp (disch := omega) only [wA]) | (with_reducible first | refine cF k1 ?_ | refine dF k1 ?_) | refine aL ti_ok ?_ | refine dL ti_ok ?_ | refine dG ?_ | ((first | refine cC ?_ ?_ | refine gS ?_ ?_ | refine dS ?_ ?_) <;> intro hc <;> first | (exfalso; simp only [dcA] at hc; omega) | (simp only [hc]; try simp only [dcA] at hc)) | refine aO ?_ | refine dO ?_)
    all_goals exact fin_same trivial rfl
  rw [if_neg h1] at hz
  have h1 : ckT a dv w = 0 := by omega
  rw [h1, eV_zero] at k1
  by_cases h2 : K < 1 ∨ 32 < K
  ·
    rw [if_pos h2] at hz
    subst hz
    by_cases h3 : K < 1
    ·
      repeat' (first | (simp only [go_sem, seval, IntKind.bits.eq_def, ti, tin, mrows_length, vrows_length]) | (simp (disch := omega) only [wA]) | (with_reducible first | refine cF k1 ?_ | refine dF k1 ?_) | refine aL ti_ok ?_ | refine dL ti_ok ?_ | refine dG ?_ | ((first | refine cC ?_ ?_ | refine gS ?_ ?_ | refine dS ?_ ?_) <;> intro hc <;> first | (exfalso; simp only [dcA] at hc; omega) | (simp only [hc]; try simp only [dcA] at hc)) | refine aO ?_ | refine dO ?_)
      all_goals exact fin_same trivial rfl
    ·
      have h4 : 32 < K := by omega
      repeat' (first | (simp only [go_sem, seval, IntKind.bits.eq_def, ti, tin, mrows_length, vrows_length]) | (simp (disch := omega) only [wA]) | (with_reducible first | refine cF k1 ?_ | refine dF k1 ?_) | refine aL ti_ok ?_ | refine dL ti_ok ?_ | refine dG ?_ | ((first | refine cC ?_ ?_ | refine gS ?_ ?_ | refine dS ?_ ?_) <;> intro hc <;> first | (exfalso; simp only [dcA] at hc; omega) | (simp only [hc]; try simp only [dcA] at hc)) | refine aO ?_ | refine dO ?_)
      all_goals exact fin_same trivial rfl
  rw [if_neg h2] at hz
  have h3 : ¬ K < 1 := by omega
  have h4 : ¬ 32 < K := by omega
  clear h2
  by_cases h5 : inner.length ≠ a.length ∨ outer.length ≠ a.length
  ·
    rw [if_pos h5] at hz
    subst hz
    by_cases h6 : inner.length = a.length
    ·
      have e1 : ((inner.length : Nat) : Int) = ((a.length : Nat) : Int) := by omega
      have e2 : ¬ ((outer.length : Nat) : Int) = ((a.length : Nat) : Int) := by omega
      clear h5 h6
      repeat' (first | (simp only [go_sem, seval, IntKind.bits.eq_def, ti, tin, mrows_length, vrows_length, e1, e2]) | (simp (disch := omega) only [wA]) | (with_reducible first | refine cF k1 ?_ | refine dF k1 ?_) | refine aL ti_ok ?_ | refine dL ti_ok ?_ | refine dG ?_ | ((first | refine cC ?_ ?_ | refine gS ?_ ?_ | refine dS ?_ ?_) <;> intro hc <;> first | (exfalso; simp only [dcA] at hc; omega) | (simp only [hc]; try simp only [dcA] at hc)) | refine aO ?_ | refine dO ?_)
      all_goals exact fin_same trivial rfl
    ·
      have e1 : ¬ ((inner.length : Nat) : Int) = ((a.length : Nat) : Int) := by omega
      clear h5 h6
      repeat' (first | (simp only [go_sem, seval, IntKind.bits.eq_def, ti, tin, mrows_length, vrows_length, e1]) | (simp (disch := omega) only [wA]) | (with_reducible first | refine cF k1 ?_ | refine dF k1 ?_) | refine aL ti_ok ?_ | refine dL ti_ok ?_ | refine dG ?_ | ((first | refine cC ?_ ?_ | refine gS ?_ ?_ | refine dS ?_ ?_) <;> intro hc <;> first | (exfalso; simp only [dcA] at hc; omega) | (simp only [hc]; try simp only [dcA] at hc)) | refine aO ?_ | refine dO ?_)
      all_goals exact fin_same trivial rfl
  rw [if_neg h5] at hz
  have e1 : ((inner.length : Nat) : Int) = ((a.length : Nat) : Int) := by omega
  have e2 : ((outer.length : Nat) : Int) = ((a.length : Nat) : Int) := by omega
  have b1 := tub_below0 inner hi ki
  have b2 := tub_below0 outer ho ko
  clear h5
  by_cases h7 : nonneg inner
  ·
    rw [decide_eq_true h7] at b1
    by_cases h8 : nonneg outer
    ·
      rw [decide_eq_true h8] at b2
      rw [if_pos ⟨h7, h8⟩] at hz
      subst hz
      clear h7 h8
      repeat' (first | (simp only [go_sem, seval, IntKind.bits.eq_def, ti, tin, mrows_length, vrows_length, e1, e2]) | (simp (disch := omega) only [wA]) | (with_reducible first | refine cF k1 ?_ | refine dF k1 ?_ | refine cF b1 ?_ | refine dF b1 ?_ | refine cF b2 ?_ | refine dF b2 ?_) | refine aL ti_ok ?_ | refine dL ti_ok ?_ | refine dG ?_ | ((first | refine cC ?_ ?_ | refine gS ?_ ?_ | refine dS ?_ ?_) <;> intro hc <;> first | (exfalso; simp only [dcA] at hc; omega) | (simp only [hc]; try simp only [dcA] at hc)) | refine aO ?_ | refine dO ?_)
      all_goals exact fin_same trivial rfl
    ·
      rw [decide_eq_false h8] at b2
      rw [if_neg (fun h => h8 h.2)] at hz
      subst hz
      clear h7 h8
      repeat' (first | (simp only [go_sem, seval, IntKind.bits.eq_def, ti, tin, mrows_length, vrows_length, e1, e2]) | (simp (disch := omega) only [wA]) | (with_reducible first | refine cF k1 ?_ | refine dF k1 ?_ | refine cF b1 ?_ | refine dF b1 ?_ | refine cF b2 ?_ | refine dF b2 ?_) | refine aL ti_ok ?_ | refine dL ti_ok ?_ | refine dG ?_ | ((first | refine cC ?_ ?_ | refine gS ?_ ?_ | refine dS ?_ ?_) <;> intro hc <;> first | (exfalso; simp only [dcA] at hc; omega) | (simp only [hc]; try simp only [dcA] at hc)) | refine aO ?_ | refine dO ?_)
      all_goals exact fin_same trivial rfl
  ·
    rw [decide_eq_false h7] at b1
    rw [if_neg (fun h => h7 h.1)] at hz
    subst hz
    clear h7
    repeat' (first | (simp only [go_sem, seval, IntKind.bits.eq_def, ti, tin, mrows_length, vrows_length, e1, e2]) | (simp (disch := omega) only [wA]) | (with_reducible first | refine cF k1 ?_ | refine dF k1 ?_ | refine cF b1 ?_ | refine dF b1 ?_ | refine cF b2 ?_ | refine dF b2 ?_) | refine aL ti_ok ?_ | refine dL ti_ok ?_ | refine dG ?_ | ((first | refine cC ?_ ?_ | refine gS ?_ ?_ | refine dS ?_ ?_) <;> intro hc <;> first | (exfalso; simp only [dcA] at hc; omega) | (simp only [hc]; try simp only [dcA] at hc)) | refine aO ?_ | refine dO ?_)
    all_goals exact fin_same trivial rfl
theorem tabSl_get {n : Nat} {f : Nat → List Dy} {i : Nat} (h : i < n) : (tabS n f).getD i [] = f i := by simp [tabS, List.getD, h]
theorem okV_all {q : Nat} {l : List RD} (h : okV q l) : ∀ r ∈ l, r.ok := fun r hr => by
  obtain ⟨i, hi, rfl⟩ := List.getElem_of_mem hr
  have := (h i).1
  rwa [List.getD, List.getElem?_eq_getElem hi] at this
theorem okM_all {p : Nat} {a : List (List RD)} (h : okM p a) (hl : ∀ i, i < a.length → (a.getD i []).length ≤ 8) : ∀ l ∈ a, l.length ≤ 4611686018427387904 ∧ ∀ r ∈ l, r.ok := fun l hm => by
  obtain ⟨i, hi, rfl⟩ := List.getElem_of_mem hm
  have h1 := hl i hi
  have h2 := okV_all (h i)
  rw [List.getD, List.getElem?_eq_getElem hi] at h1 h2
  exact ⟨Nat.le_trans h1 (by decide), h2⟩
theorem ckT_zero {a dv : List (List RD)} {w : List RD} (h : ckT a dv w = 0) : ckM a = 0 ∧ ckM dv = 0 ∧ a.length ≤ 6 ∧ (a.getD 0 []).length = a.length ∧ dv.length = a.length ∧ (dv.getD 0 []).length = a.length ∧ w.length = a.length ∧ nonnegM dv ∧ nonneg w := by
  unfold ckT at h
  by_cases h1 : ckM a = 0
  · rw [if_neg (by omega)] at h
    by_cases h2 : a.length ≠ (a.getD 0 []).length
    · rw [if_pos h2] at h; omega
    rw [if_neg h2] at h
    by_cases h3 : 6 < a.length
    · rw [if_pos h3] at h; omega
    rw [if_neg h3] at h
    by_cases h4 : ckM dv = 0
    · rw [if_neg (by omega)] at h
      by_cases h5 : dv.length ≠ a.length ∨ (dv.getD 0 []).length ≠ (a.getD 0 []).length ∨ w.length ≠ a.length
      · rw [if_pos h5] at h; omega
      rw [if_neg h5] at h
      by_cases h6 : nonnegM dv ∧ nonneg w
      · exact ⟨h1, h4, by omega, by omega, by omega, by omega, by omega, h6.1, h6.2⟩
      · rw [if_neg h6] at h; omega
    · rw [if_pos h4] at h; exact absurd h h4
  · rw [if_pos h1] at h; exact absurd h h1
theorem ckC_zero {a dv : List (List RD)} {w inner outer : List RD} {K : Int} (h : ckC a dv w K inner outer = 0) : ckT a dv w = 0 ∧ 1 ≤ K ∧ K ≤ 32 ∧ inner.length = a.length ∧ outer.length = a.length ∧ nonneg inner ∧ nonneg outer := by
  unfold ckC at h
  by_cases h1 : ckT a dv w = 0
  · rw [if_neg (by omega)] at h
    by_cases h2 : K < 1 ∨ 32 < K
    · rw [if_pos h2] at h; omega
    rw [if_neg h2] at h
    by_cases h3 : inner.length ≠ a.length ∨ outer.length ≠ a.length
    · rw [if_pos h3] at h; omega
    rw [if_neg h3] at h
    by_cases h4 : nonneg inner ∧ nonneg outer
    · exact ⟨h1, by omega, by omega, by omega, by omega, h4.1, h4.2⟩
    · rw [if_neg h4] at h; omega
  · rw [if_pos h1] at h; exact absurd h h1
theorem tubOK_of {p q : Nat} {a dv : List (List RD)} {w inner outer : List RD} {K : Int} (hp : p ≤ 100) (hq : q ≤ 200000) (oa : okM p a) (od : okM p dv) (ow : okV q w) (oi : okV q inner) (oo : okV q outer) (h : ckC a dv w K inner outer = 0) : TubOK p q a.length a dv w inner outer := by
  obtain ⟨c1, c2, c3, c4, c5, c6, c7⟩ := ckC_zero h
  obtain ⟨t1, t2, t3, t4, t5, t6, t7, t8, t9⟩ := ckT_zero c1
  have := (ckM_zero t1).1
  exact ⟨this.1, t3, hp, hq, t1, t2, rfl, t4, t5, t6, t7, c4, c5, oa, od, ow, oi, oo⟩
theorem TubOK.kd {p q n : Nat} {a dv : List (List RD)} {w inner outer : List RD} (h : TubOK p q n a dv w inner outer) : ∀ l ∈ dv, l.length ≤ 4611686018427387904 ∧ ∀ r ∈ l, r.ok := okM_all h.od fun i hi => by
  have := (ckM_zero h.cd).2
  rw [this.2 i hi]; exact this.1.2
theorem tub_CheckCert_ok {p q n : Nat} {a dv : List (List RD)} {w inner outer : List RD} (h : TubOK p q n a dv w inner outer) (K : Int) :
    CallOK Tryz.prog gl 73 [.agg [.sl 1 (mrows a), .sl 1 (mrows dv), .sl 3 (vrows w)], .agg [.v (.int .i64 K), .sl 3 (vrows inner), .sl 3 (vrows outer)]] (.v (eV (ckC a dv w K inner outer))) := by
  have := h.n6
  exact tub_CheckCert a dv w inner outer K (by rw [h.la]; omega) (by rw [h.ld]; omega) (by rw [h.lw]; omega) (by rw [h.li]; omega) (by rw [h.lo]; omega) h.kd (okV_all h.ow) (okV_all h.oi) (okV_all h.oo)
theorem tub_Accepts (a dv : List (List RD)) (w inner outer : List RD) (K p q n : Nat) (h : TubOK p q n a dv w inner outer) (he : ckC a dv w K inner outer = 0) : CallOK Tryz.prog gl 16 [.agg [.sl 1 (mrows a), .sl 1 (mrows dv), .sl 3 (vrows w)], .agg [.v (.int .i64 K), .sl 3 (vrows inner), .sl 3 (vrows outer)]] (.tup [.v (.bool (acceptsD K (dyM a) (dyM dv) (dyV w) (dyV inner) (dyV outer))), .v .nilIface]) := by
  refine call_ok (C := ⟨Tryz.prog, gl, ti, 40, false⟩) ti_ok mixed 3000 Tryz.call16 Tryz.func16 rfl Tryz.ntmps16 (by simp) byClL byCl ?_
  rw [Tryz.results16]
  obtain ⟨z, hz⟩ : ∃ z, acceptsD K (dyM a) (dyM dv) (dyV w) (dyV inner) (dyV outer) = z := ⟨_, rfl⟩
  rw [hz]
  unfold acceptsD at hz
  have k1 := tub_CheckCert_ok h K
  rw [he, eV_zero] at k1
  obtain ⟨c1, c2, c3, c4, c5, c6, c7⟩ := ckC_zero he
  have r1 := tub_reaches h K K (by omega)
  let R := reachD (dyM a) (dyM dv) (dyV w) (dyV inner) (dyV outer)
  have hR : R = reachD (dyM a) (dyM dv) (dyV w) (dyV inner) (dyV outer) := rfl
  rw [← hR] at r1 hz
  have hq := h.hq
  have hn6 := h.n6
  have w1 : ∀ j, j ≤ K → CallOK Tryz.prog gl 75 [.sl 3 (vrows ((R j).map can)), .sl 3 (vrows outer)] (.v (.bool (withinD (R j) (dyV outer)))) := fun j hj => by
    have := tub_within ((R j).map can) outer (q + 6000) (by omega) (by rw [List.length_map, reach_len h]; omega) (by rw [List.length_map, reach_len h, h.lo]) (okV_can (fun i => h.greach (by omega) i) (by omega)) (fun i => ⟨(h.oo i).1, (h.oo i).2.mono (by omega)⟩)
    rwa [dyV_can] at this
  have w2 : ∀ j, j ≤ K → CallOK Tryz.prog gl 75 [.sl 3 (vrows ((R j).map can)), .sl 3 (vrows inner)] (.v (.bool (withinD (R j) (dyV inner)))) := fun j hj => by
    have := tub_within ((R j).map can) inner (q + 6000) (by omega) (by rw [List.length_map, reach_len h]; omega) (by rw [List.length_map, reach_len h, h.li]) (okV_can (fun i => h.greach (by omega) i) (by omega)) (fun i => ⟨(h.oi i).1, (h.oi i).2.mono (by omega)⟩)
    rwa [dyV_can] at this
  have g1 : ∀ j, j ≤ K → (mrows (crM (tabS (K + 1) R))).getD j [] = [.sl 3 (vrows ((R j).map can))] := fun j hj => by
    rw [mrows_getD (by rw [crM_len, tabS_len]; omega), crM_get, tabSl_get (by omega)]
  have l1 : (mrows (crM (tabS (K + 1) R))).length = K + 1 := by rw [mrows_length, crM_len, tabS_len]
  have hzT : (∀ j, j < K + 1 → withinD (R j) (if j = K then dyV inner else dyV outer) = true) → z = true := fun h => by rw [← hz]; exact decide_eq_true h
  have hzF : ¬ (∀ j, j < K + 1 → withinD (R j) (if j = K then dyV inner else dyV outer) = true) → z = false := fun h => by rw [← hz]; exact decide_eq_false h
  clear hz h he c1 c4 c5 c6 c7 hR
  clear_value R
  repeat' (first | (simp only [go_sem, seval, IntKind.bits.eq_def, ti, tin, l1]) | (simp (disch := omega) only [wA]) | (with_reducible first | refine cF k1 ?_ | refine dF k1 ?_ | refine cF r1 ?_ | refine dF r1 ?_) | refine aL ti_ok ?_ | refine dL ti_ok ?_ | refine dG ?_ | ((first | refine cC ?_ ?_ | refine gS ?_ ?_ | refine dS ?_ ?_) <;> intro hc <;> first | (exfalso; simp only [dcA] at hc; omega) | (simp only [hc]; try simp only [dcA] at hc)) | refine aO ?_ | refine dO ?_)
  refine l_loop (α := Nat) (fun j => ⟨[(3, .p 1 3 0 0), (20, .sl 1 (mrows (crM (tabS (K + 1) R)))), (21, .v (.int .i64 (K + 1 : Nat))), (22, .v (.int .i64 j))], [(1, ⟨3, [[.v (.int .i64 K), .sl 3 (vrows inner), .sl 3 (vrows outer)]]⟩)], 2⟩) (fun j => j ≤ K + 1 ∧ ∀ j', j' < j → withinD (R j') (if j' = K then dyV inner else dyV outer) = true) (fun j => K + 1 - j) (0) _ byFresh (fun _ h => by first | (cases h; done) | exact Nat.le_of_ble_eq_true rfl) ?_ ?_ ?_
  · exact ⟨Nat.zero_le _, fun j' h => by omega⟩
  · exact byWeak
  rintro j ⟨hj, hrow⟩
  by_cases hjm : j < K + 1
  ·
    have y1 := w1 j (by omega)
    have y2 := w2 j (by omega)
    have y3 := g1 j (by omega)
    have hz3 : ¬ withinD (R j) (if j = K then dyV inner else dyV outer) = true → z = false := fun h => hzF (fun hh => h (hh j hjm))
    have hstep2 : withinD (R j) (if j = K then dyV inner else dyV outer) = true → ∀ j', j' < j + 1 → withinD (R j') (if j' = K then dyV inner else dyV outer) = true := fun h j' hj' => by
      by_cases e : j' = j
      · rw [e]; exact h
      · exact hrow j' (by omega)
    clear hrow hzT hzF w1 w2 g1
    by_cases hjk : j = K
    ·
      rw [if_pos hjk] at hz3 hstep2
      subst hjk
      by_cases hc0 : withinD (R j) (dyV inner) = true
      ·
        have hrow2 := hstep2 hc0
        rw [hc0] at y2
        clear hstep2 hz3 y1
        repeat' (first | (simp only [go_sem, seval, IntKind.bits.eq_def, ti, tin, l1, y3]) | (simp (disch := omega) only [wA]) | (with_reducible first | refine cF y2 ?_ | refine dF y2 ?_) | refine aL ti_ok ?_ | refine dL ti_ok ?_ | refine dG ?_ | ((first | refine cC ?_ ?_ | refine gS ?_ ?_ | refine dS ?_ ?_) <;> intro hc <;> first | (exfalso; simp only [dcA] at hc; omega) | (simp only [hc]; try simp only [dcA] at hc)) | refine aO ?_ | refine dO ?_)
        refine roundEnd_of (α := Nat) (j + 1) ⟨by omega, hrow2⟩ (by omega) ?_
        exact byWeak
      ·
        have hz4 := hz3 hc0
        subst hz4
        rw [Bool.not_eq_true] at hc0
        rw [hc0] at y2
        clear hstep2 hz3 y1
        repeat' (first | (simp only [go_sem, seval, IntKind.bits.eq_def, ti, tin, l1, y3]) | (simp (disch := omega) only [wA]) | (with_reducible first | refine cF y2 ?_ | refine dF y2 ?_) | refine aL ti_ok ?_ | refine dL ti_ok ?_ | refine dG ?_ | ((first | refine cC ?_ ?_ | refine gS ?_ ?_ | refine dS ?_ ?_) <;> intro hc <;> first | (exfalso; simp only [dcA] at hc; omega) | (simp only [hc]; try simp only [dcA] at hc)) | refine aO ?_ | refine dO ?_)
        all_goals exact fin_same trivial rfl
    ·
      have hjk' : ¬ ((j : Nat) : Int) = ((K : Nat) : Int) := by omega
      rw [if_neg hjk] at hz3 hstep2
      by_cases hc0 : withinD (R j) (dyV outer) = true
      ·
        have hrow2 := hstep2 hc0
        rw [hc0] at y1
        clear hstep2 hz3 y2
        repeat' (first | (simp only [go_sem, seval, IntKind.bits.eq_def, ti, tin, l1, y3, hjk']) | (simp (disch := omega) only [wA]) | (with_reducible first | refine cF y1 ?_ | refine dF y1 ?_) | refine aL ti_ok ?_ | refine dL ti_ok ?_ | refine dG ?_ | ((first | refine cC ?_ ?_ | refine gS ?_ ?_ | refine dS ?_ ?_) <;> intro hc <;> first | (exfalso; simp only [dcA] at hc; omega) | (simp only [hc]; try simp only [dcA] at hc)) | refine aO ?_ | refine dO ?_)
        refine roundEnd_of (α := Nat) (j + 1) ⟨by omega, hrow2⟩ (by omega) ?_
        exact byWeak
      ·
        have hz4 := hz3 hc0
        subst hz4
        rw [Bool.not_eq_true] at hc0
        rw [hc0] at y1
        clear hstep2 hz3 y2
        repeat' (first | (simp only [go_sem, seval, IntKind.bits.eq_def, ti, tin, l1, y3, hjk']) | (simp (disch := omega) only [wA]) | (with_reducible first | refine cF y1 ?_ | refine dF y1 ?_) | refine aL ti_ok ?_ | refine dL ti_ok ?_ | refine dG ?_ | ((first | refine cC ?_ ?_ | refine gS ?_ ?_ | refine dS ?_ ?_) <;> intro hc <;> first | (exfalso; simp only [dcA] at hc; omega) | (simp only [hc]; try simp only [dcA] at hc)) | refine aO ?_ | refine dO ?_)
        all_goals exact fin_same trivial rfl
  ·
    have hz2 : z = true := hzT (fun j' h => hrow j' (by omega))
    subst hz2
    repeat' (first | (simp only [go_sem, seval, IntKind.bits.eq_def, ti, tin]) | (simp (disch := omega) only [wA]) | refine aL ti_ok ?_ | refine dL ti_ok ?_ | refine dG ?_ | ((first | refine cC ?_ ?_ | refine gS ?_ ?_ | refine dS ?_ ?_) <;> intro hc <;> first | (exfalso; simp only [dcA] at hc; omega) | (simp only [hc]; try simp only [dcA] at hc)) | refine aO ?_ | refine dO ?_)
    all_goals exact fin_same trivial rfl
end Go.Proofs.YtpggiabnhodjpaaGreatDoor
