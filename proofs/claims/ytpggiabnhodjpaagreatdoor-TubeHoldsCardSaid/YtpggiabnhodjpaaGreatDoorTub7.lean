/- Layer 18 (tube): Step. -/
import Derived.Test.YtpggiabnhodjpaaGreatDoorTub5
import Derived.Test.YtpggiabnhodjpaaGreatDoorMat5
set_option linter.unusedSimpArgs false
set_option linter.unusedVariables false
set_option linter.deprecated false
namespace Go.Proofs.YtpggiabnhodjpaaGreatDoor
open Go Go.Ax
set_option maxRecDepth 100000
set_option maxHeartbeats 4000000
def stE (a dv : List (List RD)) (w x : List RD) (d : List (List RD)) (v : List RD) : Int :=
  if ckT a dv w ≠ 0 then ckT a dv w else if x.length ≠ a.length ∨ v.length ≠ a.length then 11 else if ckM d ≠ 0 then ckM d else if d.length ≠ a.length ∨ (d.getD 0 []).length ≠ a.length then 11 else 0
def devIn (d dv : List (List RD)) : Prop := ∀ i, i < d.length → withinD (dyV (d.getD i [])) (dyV (dv.getD i [])) = true
instance (d dv : List (List RD)) : Decidable (devIn d dv) := inferInstanceAs (Decidable (∀ i, i < d.length → withinD (dyV (d.getD i [])) (dyV (dv.getD i [])) = true))
def stIn (dv : List (List RD)) (w : List RD) (d : List (List RD)) (v : List RD) : Bool := decide (devIn d dv) && withinD (dyV v) (dyV w)
def stY (a : List (List Dy)) (x : List Dy) (d : List (List Dy)) (v : List Dy) : List Dy := sumV (appD (addD a d) x) v
def stAV (Y : List Dy) : Bool → AV
  | true => .tup [.sl 3 (vrows (Y.map can)), .v .nilIface]
  | false => .tup [.v (.slice none 0 0), .v (.iface 117 (.int .i64 16))]
theorem stE_zero {a dv : List (List RD)} {w x : List RD} {d : List (List RD)} {v : List RD} (h : stE a dv w x d v = 0) : ckT a dv w = 0 ∧ x.length = a.length ∧ v.length = a.length ∧ ckM d = 0 ∧ d.length = a.length ∧ (d.getD 0 []).length = a.length := by
  unfold stE at h
  by_cases h1 : ckT a dv w = 0
  · rw [if_neg (by omega)] at h
    by_cases h2 : x.length ≠ a.length ∨ v.length ≠ a.length
    · rw [if_pos h2] at h; omega
    rw [if_neg h2] at h
    by_cases h3 : ckM d = 0
    · rw [if_neg (by omega)] at h
      by_cases h4 : d.length ≠ a.length ∨ (d.getD 0 []).length ≠ a.length
      · rw [if_pos h4] at h; omega
      · exact ⟨h1, by omega, by omega, h3, by omega, by omega⟩
    · rw [if_pos h3] at h; exact absurd h h3
  · rw [if_pos h1] at h; exact absurd h h1
theorem okV.mono {k m : Nat} {l : List RD} (h : okV k l) (hk : k ≤ m) : okV m l := fun i => (h i).mono hk
theorem tub_Step (a dv : List (List RD)) (w x : List RD) (d : List (List RD)) (v : List RD) (p q : Nat) (hp : p ≤ 100) (hq : q ≤ 200000) (oa : okM p a) (od : okM p dv) (ow : okV p w) (ox : okV q x) (odd : okM p d) (ov : okV p v) (he : stE a dv w x d v = 0) :
    CallOK Tryz.prog gl 29 [.agg [.sl 1 (mrows a), .sl 1 (mrows dv), .sl 3 (vrows w)], .sl 3 (vrows x), .sl 1 (mrows d), .sl 3 (vrows v)] (stAV (stY (dyM a) (dyV x) (dyM d) (dyV v)) (stIn dv w d v)) := by
  refine call_ok (C := ⟨Tryz.prog, gl, ti, 82, false⟩) ti_ok mixed 3000 Tryz.call29 Tryz.func29 rfl Tryz.ntmps29 (by simp) byClL (by cases stIn dv w d v <;> exact byCl) ?_
  rw [Tryz.results29]
  obtain ⟨h1, hx, hv, h3, hl, hl0⟩ := stE_zero he
  obtain ⟨t1, t2, t3, t4, t5, t6, t7, t8, t9⟩ := ckT_zero h1
  have hn0 := (ckM_zero t1).1.1
  have k1 := tub_Check a dv w (by omega) (by omega) (by omega) (okM_all od fun i hi => by have := (ckM_zero t2).2; rw [this.2 i hi]; exact this.1.2) (okV_all ow)
  rw [h1, eV_zero] at k1
  have k2 := mat_Check d (by omega)
  rw [h3, eV_zero] at k2
  have k3 := tub_sameSize a d ⟨by omega, by omega⟩ ⟨by omega, by omega⟩
  rw [decide_eq_true (by omega)] at k3
  have rowD : ∀ i, i < a.length → (d.getD i []).length = a.length := fun i hi => by rw [(ckM_zero h3).2.2 i (by omega), hl0]
  have rowV : ∀ i, i < a.length → (dv.getD i []).length = a.length := fun i hi => by rw [(ckM_zero t2).2.2 i (by omega), t6]
  have w1 : ∀ i, i < a.length → CallOK Tryz.prog gl 75 [.sl 3 (vrows (d.getD i [])), .sl 3 (vrows (dv.getD i []))] (.v (.bool (withinD (dyV (d.getD i [])) (dyV (dv.getD i []))))) := fun i hi => tub_within _ _ p (by omega) (by rw [rowD i hi]; omega) (by rw [rowD i hi, rowV i hi]) (odd i) (od i)
  have w2 := tub_within v w p (by omega) (by omega) (by omega) ov ow
  have ra := rect_of t1
  rw [t4] at ra
  have rd2 := rect_of h3
  rw [hl, hl0] at rd2
  have m1 := mat_Add a d p (by
    unfold bothE fitAdd
    rw [if_pos t1, if_pos h3, if_pos (decide_eq_true ⟨by omega, by omega⟩)]) oa odd
  have gA : ∀ i j, Mg (p + 1) (el (addD (dyM a) (dyM d)) i j) := fun i j => by
    by_cases hij : i < a.length ∧ j < a.length
    · rw [el_add ra hn0 hij.1 hij.2]; exact Mg.add (mg_el_raw oa i j) (mg_el_raw odd i j)
    · rw [el_out (rect_add ra hn0) hij]; exact Mg.zero _
  have rA := rect_add (b := dyM d) ra hn0
  have m2 := tub_apply (crM (addD (dyM a) (dyM d))) x (p + 1) q (by omega) (ckM_rect rA hn0 (by omega) hn0 (by omega)) (by rw [crM_get, List.length_map, rA.2 0 hn0, hx]) (okM_cr gA (by omega)) ox
  rw [dyM_cr] at m2
  have m3 := tub_sum ((appD (addD (dyM a) (dyM d)) (dyV x)).map can) v (p + 1 + q + a.length) (by rw [List.length_map, app_len, rA.1]; omega) (by rw [List.length_map, app_len, rA.1, hv]) (okV_can (mgA rA gA (okV_get ox)) (by omega)) (okV.mono ov (by omega))
  rw [dyV_can] at m3
  have hT : stIn dv w d v = (decide (devIn d dv) && withinD (dyV v) (dyV w)) := rfl
  obtain ⟨n, hn⟩ : ∃ n, a.length = n := ⟨_, rfl⟩
  have hxn : x.length = n := by omega
  have hvn : v.length = n := by omega
  have hdn : d.length = n := by omega
  have hdvn : dv.length = n := by omega
  have hn6 : n ≤ 6 := by omega
  rw [hn] at w1 rowD rowV
  have hz1 : ¬ (∀ i, i < n → withinD (dyV (d.getD i [])) (dyV (dv.getD i [])) = true) → stIn dv w d v = false := fun h => by
    rw [hT, decide_eq_false (fun hh : devIn d dv => h (fun i hi => hh i (by omega))), Bool.false_and]
  have hz2 : (∀ i, i < n → withinD (dyV (d.getD i [])) (dyV (dv.getD i [])) = true) → stIn dv w d v = withinD (dyV v) (dyV w) := fun h => by
    rw [hT, decide_eq_true (show devIn d dv from fun i hi => h i (by omega)), Bool.true_and]
  have eY : stY (dyM a) (dyV x) (dyM d) (dyV v) = sumV (appD (addD (dyM a) (dyM d)) (dyV x)) (dyV v) := rfl
  rw [eY]
  clear hT he h1 t1 t2 t3 t4 t5 t6 t8 t9 h3 hl hl0 hx hv rowD rowV gA rA ra rd2 oa od ow ox odd ov eY
  generalize stIn dv w d v = z at *
  generalize sumV (appD (addD (dyM a) (dyM d)) (dyV x)) (dyV v) = Y at *
  generalize appD (addD (dyM a) (dyM d)) (dyV x) = Y1 at *
  generalize crM (addD (dyM a) (dyM d)) = A1 at *
  repeat' (first | (simp only [go_sem, seval, IntKind.bits.eq_def, ti, tin, mrows_length, vrows_length, hn, hxn, hvn, hdn]) | (simp (disch := omega) only [wA]) | (with_reducible first | refine cF k1 ?_ | refine dF k1 ?_ | refine cF k2 ?_ | refine dF k2 ?_ | refine cF k3 ?_ | refine dF k3 ?_) | refine aL ti_ok ?_ | refine dL ti_ok ?_ | refine dG ?_ | ((first | refine cC ?_ ?_ | refine gS ?_ ?_ | refine dS ?_ ?_) <;> intro hc <;> first | (exfalso; simp only [dcA] at hc; omega) | (simp only [hc]; try simp only [dcA] at hc)) | refine aO ?_ | refine dO ?_)
  refine l_loop (α := Nat) (fun i => ⟨[(1, .sl 3 (vrows (x))), (2, .sl 1 (mrows (d))), (3, .sl 3 (vrows (v))), (4, .p 0 3 0 0), (46, .sl 1 (mrows (d))), (47, .v (.int .i64 n)), (48, .v (.int .i64 i))], [(0, ⟨3, [[.sl 1 (mrows a), .sl 1 (mrows dv), .sl 3 (vrows w)]]⟩)], 1⟩) (fun i => i ≤ n ∧ ∀ i', i' < i → withinD (dyV (d.getD i' [])) (dyV (dv.getD i' [])) = true) (fun i => n - i) (0) _ byFresh (fun _ h => by first | (cases h; done) | exact Nat.le_of_ble_eq_true rfl) ?_ ?_ ?_
  · exact ⟨Nat.zero_le _, fun i' h => by omega⟩
  · exact byWeak
  rintro i ⟨hi, hall⟩
  by_cases hin : i < n
  ·
    have y1 := w1 i hin
    have ri := mrows_getD (a := d) (i := i) (by omega)
    have rv := mrows_getD (a := dv) (i := i) (by omega)
    have hz3 : ¬ withinD (dyV (d.getD i [])) (dyV (dv.getD i [])) = true → z = false := fun h => hz1 (fun hh => h (hh i hin))
    have hstep : withinD (dyV (d.getD i [])) (dyV (dv.getD i [])) = true → ∀ i', i' < i + 1 → withinD (dyV (d.getD i' [])) (dyV (dv.getD i' [])) = true := fun h i' hi' => by
      by_cases e : i' = i
      · rw [e]; exact h
      · exact hall i' (by omega)
    clear hz1 hz2 hall w1
    generalize withinD (dyV (d.getD i [])) (dyV (dv.getD i [])) = b at *
    generalize d.getD i [] = rd at ri y1
    generalize dv.getD i [] = rdv at rv y1
    cases b with
    | true =>
      have hall2 := hstep rfl
      clear hstep hz3
      repeat' (first | (simp only [go_sem, seval, IntKind.bits.eq_def, ti, tin, mrows_length, hdn, hdvn, ri, rv]) | (simp (disch := omega) only [wA]) | (with_reducible first | refine cF y1 ?_ | refine dF y1 ?_) | refine aL ti_ok ?_ | refine dL ti_ok ?_ | refine dG ?_ | ((first | refine cC ?_ ?_ | refine gS ?_ ?_ | refine dS ?_ ?_) <;> intro hc <;> first | (exfalso; simp only [dcA] at hc; omega) | (simp only [hc]; try simp only [dcA] at hc)) | refine aO ?_ | refine dO ?_)
      refine roundEnd_of (α := Nat) (i + 1) ⟨by omega, hall2⟩ (by omega) ?_
      exact byWeak
    | false =>
      have hz4 := hz3 (by decide)
      subst hz4
      clear hstep hz3
      repeat' (first | (simp only [go_sem, seval, IntKind.bits.eq_def, ti, tin, mrows_length, hdn, hdvn, ri, rv]) | (simp (disch := omega) only [wA]) | (with_reducible first | refine cF y1 ?_ | refine dF y1 ?_) | refine aL ti_ok ?_ | refine dL ti_ok ?_ | refine dG ?_ | ((first | refine cC ?_ ?_ | refine gS ?_ ?_ | refine dS ?_ ?_) <;> intro hc <;> first | (exfalso; simp only [dcA] at hc; omega) | (simp only [hc]; try simp only [dcA] at hc)) | refine aO ?_ | refine dO ?_)
      all_goals exact fin_same trivial rfl
  have hz4 := hz2 (fun i' h => hall i' (by omega))
  clear hz1 hz2 hall w1
  subst hz4
  generalize withinD (dyV v) (dyV w) = b at *
  cases b with
  | false =>
    repeat' (first | (simp only [go_sem, seval, IntKind.bits.eq_def, ti, tin]) | (simp (disch := omega) only [wA]) | (with_reducible first | refine cF w2 ?_ | refine dF w2 ?_) | refine aL ti_ok ?_ | refine dL ti_ok ?_ | refine dG ?_ | ((first | refine cC ?_ ?_ | refine gS ?_ ?_ | refine dS ?_ ?_) <;> intro hc <;> first | (exfalso; simp only [dcA] at hc; omega) | (simp only [hc]; try simp only [dcA] at hc)) | refine aO ?_ | refine dO ?_)
    all_goals exact fin_same trivial rfl
  | true =>
    repeat' (first | (simp only [go_sem, seval, IntKind.bits.eq_def, ti, tin]) | (simp (disch := omega) only [wA]) | (with_reducible first | refine cF w2 ?_ | refine dF w2 ?_ | refine cF m1 ?_ | refine dF m1 ?_ | refine cF m2 ?_ | refine dF m2 ?_ | refine cF m3 ?_ | refine dF m3 ?_) | refine aL ti_ok ?_ | refine dL ti_ok ?_ | refine dG ?_ | ((first | refine cC ?_ ?_ | refine gS ?_ ?_ | refine dS ?_ ?_) <;> intro hc <;> first | (exfalso; simp only [dcA] at hc; omega) | (simp only [hc]; try simp only [dcA] at hc)) | refine aO ?_ | refine dO ?_)
    all_goals exact fin_same trivial rfl
end Go.Proofs.YtpggiabnhodjpaaGreatDoor
