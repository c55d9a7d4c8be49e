/- The statements on layer 18: short arguments, the document's example. -/
import Derived.Test.YtpggiabnhodjpaaGreatDoorT18a
set_option linter.unusedSimpArgs false
set_option linter.unusedVariables false
set_option linter.deprecated false
namespace Go.Proofs.YtpggiabnhodjpaaGreatDoor
open Go Go.Ax
set_option maxRecDepth 100000
set_option maxHeartbeats 4000000
def briefX (x : RD) : Prop := x.ws.length ≤ 2 ∧ (x.d ≤ 40 ∨ 65536 < x.d)
instance (x : RD) : Decidable (briefX x) := inferInstanceAs (Decidable (_ ∧ _))
def briefV (r : List RD) : Prop := r.length ≤ 10 ∧ ∀ j, j < r.length → briefX (r.getD j RD.zero)
instance (r : List RD) : Decidable (briefV r) := inferInstanceAs (Decidable (_ ∧ _))
def briefM (a : List (List RD)) : Prop := ∀ i, i < a.length → briefV (a.getD i [])
instance (a : List (List RD)) : Decidable (briefM a) := inferInstanceAs (Decidable (∀ i, i < a.length → briefV (a.getD i [])))
def lightP (a dv : List (List RD)) (w : List RD) : Prop := ((a.length ≤ 10 ∧ dv.length ≤ 10 ∧ briefV w) ∧ briefM a ∧ briefM dv) ∧ (¬ ckT a dv w = 0 ∨ a.length ≤ 3)
instance (a dv : List (List RD)) (w : List RD) : Decidable (lightP a dv w) := inferInstanceAs (Decidable (_ ∧ _))
def shortP (K : Int) (inner outer : List RD) : Prop := briefV inner ∧ briefV outer ∧ (K ≤ 8 ∨ 32 < K)
instance (K : Int) (inner outer : List RD) : Decidable (shortP K inner outer) := inferInstanceAs (Decidable (_ ∧ _))
theorem law18_brief (l : List RD) (hl : l.length ≤ 9223372036854775807) (hw : ∀ j, (l.getD j RD.zero).ws.length ≤ 9223372036854775807) : CallOK Tryz.prog gl 28 [.sl 3 (vrows (l))] (.v (.bool ((decide (briefV l))))) := by
  refine call_ok (C := ⟨Tryz.prog, gl, ti, 29, false⟩) ti_ok mixed 3000 Tryz.call28 Tryz.func28 rfl Tryz.ntmps28 (by simp) byClL byCl ?_
  rw [Tryz.results28]
  obtain ⟨z, hz⟩ : ∃ z, decide (briefV l) = z := ⟨_, rfl⟩
  rw [hz]
  obtain ⟨n, hn⟩ : ∃ n, l.length = n := ⟨_, rfl⟩
  rw [hn] at hl
  by_cases hn10 : 10 < n
  ·
    have hz2 : z = false := by rw [← hz]; exact decide_eq_false (fun h => by have := h.1; omega)
    subst hz2
    clear hz
    repeat' (first | (simp only [go_sem, seval, IntKind.bits.eq_def, ti, tin, vrows_length, hn]) | (simp (disch := omega) only [wA]) | refine aL ti_ok ?_ | refine dL ti_ok ?_ | refine dG ?_ | ((first | refine cC ?_ ?_ | refine gS ?_ ?_ | refine dS ?_ ?_) <;> intro hc <;> first | (exfalso; simp only [dcA] at hc; omega) | (simp only [hc]; try simp only [dcA] at hc)) | refine aO ?_ | refine dO ?_)
    all_goals exact fin_same trivial rfl
  have hzT : (∀ j, j < n → briefX (l.getD j RD.zero)) → z = true := fun h => by rw [← hz]; exact decide_eq_true ⟨by omega, fun i hi => h i (by omega)⟩
  have hzF : ¬ (∀ j, j < n → briefX (l.getD j RD.zero)) → z = false := fun h => by rw [← hz]; exact decide_eq_false (fun hh => h (fun i hi => hh.2 i (by omega)))
  clear hz
  repeat' (first | (simp only [go_sem, seval, IntKind.bits.eq_def, ti, tin, vrows_length, hn]) | (simp (disch := omega) only [wA]) | refine aL ti_ok ?_ | refine dL ti_ok ?_ | refine dG ?_ | ((first | refine cC ?_ ?_ | refine gS ?_ ?_ | refine dS ?_ ?_) <;> intro hc <;> first | (exfalso; simp only [dcA] at hc; omega) | (simp only [hc]; try simp only [dcA] at hc)) | refine aO ?_ | refine dO ?_)
  refine l_loop (α := Nat) (fun j => ⟨[(8, .sl 3 (vrows (l))), (9, .v (.int .i64 n)), (10, .v (.int .i64 j))], [], 0⟩) (fun j => j ≤ n ∧ ∀ j', j' < j → briefX (l.getD j' RD.zero)) (fun j => n - j) (0) _ byFresh (fun _ h => by first | (cases h; done) | exact Nat.le_of_ble_eq_true rfl) ?_ ?_ ?_
  · exact ⟨Nat.zero_le _, fun i' h => by omega⟩
  · exact byWeak
  rintro j ⟨hj, hrow⟩
  by_cases hjm : j < n
  ·
    have rj := vrows_getD (l := l) (i := j) (by omega)
    have hwj := hw j
    have hz3 : ¬ briefX (l.getD j RD.zero) → z = false := fun h => hzF (fun hh => h (hh j hjm))
    have hstep2 : briefX (l.getD j RD.zero) → ∀ j', j' < j + 1 → briefX (l.getD j' RD.zero) := fun h j' hj' => by
      by_cases e : j' = j
      · rw [e]; exact h
      · exact hrow j' (by omega)
    clear hrow hzT hzF hw
    generalize l.getD j RD.zero = r at rj hwj hz3 hstep2
    obtain ⟨s, ws, d⟩ := r
    rw [vrow_mk] at rj
    unfold briefX at hz3
    simp only at hz3 hwj
    have hwk : ws.length ≤ 9223372036854775807 := hwj
    by_cases h1 : ws.length ≤ 2 ∧ (d ≤ 40 ∨ 65536 < d)
    ·
      have hs2 := hstep2 h1
      have h2 := h1.2
      have h3 := h1.1
      clear hstep2 hz3 h1
      by_cases h4 : d ≤ 40
      ·
        clear h2
        repeat' (first | (simp only [go_sem, seval, IntKind.bits.eq_def, ti, tin, vrows_length, hn, rj, u32s_length]) | (simp (disch := omega) only [wA]) | refine aL ti_ok ?_ | refine dL ti_ok ?_ | refine dG ?_ | ((first | refine cC ?_ ?_ | refine gS ?_ ?_ | refine dS ?_ ?_) <;> intro hc <;> first | (exfalso; simp only [dcA] at hc; omega) | (simp only [hc]; try simp only [dcA] at hc)) | refine aO ?_ | refine dO ?_)
        all_goals (refine roundEnd_of (α := Nat) (j + 1) ⟨by omega, hs2⟩ (by omega) ?_; exact byWeak)
      ·
        have h5 : 65536 < d := by omega
        clear h2
        repeat' (first | (simp only [go_sem, seval, IntKind.bits.eq_def, ti, tin, vrows_length, hn, rj, u32s_length]) | (simp (disch := omega) only [wA]) | refine aL ti_ok ?_ | refine dL ti_ok ?_ | refine dG ?_ | ((first | refine cC ?_ ?_ | refine gS ?_ ?_ | refine dS ?_ ?_) <;> intro hc <;> first | (exfalso; simp only [dcA] at hc; omega) | (simp only [hc]; try simp only [dcA] at hc)) | refine aO ?_ | refine dO ?_)
        all_goals (refine roundEnd_of (α := Nat) (j + 1) ⟨by omega, hs2⟩ (by omega) ?_; exact byWeak)
    ·
      have hz4 := hz3 h1
      subst hz4
      clear hstep2 hz3
      by_cases h3 : 2 < ws.length
      ·
        clear h1
        repeat' (first | (simp only [go_sem, seval, IntKind.bits.eq_def, ti, tin, vrows_length, hn, rj, u32s_length]) | (simp (disch := omega) only [wA]) | refine aL ti_ok ?_ | refine dL ti_ok ?_ | refine dG ?_ | ((first | refine cC ?_ ?_ | refine gS ?_ ?_ | refine dS ?_ ?_) <;> intro hc <;> first | (exfalso; simp only [dcA] at hc; omega) | (simp only [hc]; try simp only [dcA] at hc)) | refine aO ?_ | refine dO ?_)
        all_goals exact fin_same trivial rfl
      ·
        have h4 : 40 < d := by omega
        have h5 : d ≤ 65536 := by omega
        clear h1
        repeat' (first | (simp only [go_sem, seval, IntKind.bits.eq_def, ti, tin, vrows_length, hn, rj, u32s_length]) | (simp (disch := omega) only [wA]) | refine aL ti_ok ?_ | refine dL ti_ok ?_ | refine dG ?_ | ((first | refine cC ?_ ?_ | refine gS ?_ ?_ | refine dS ?_ ?_) <;> intro hc <;> first | (exfalso; simp only [dcA] at hc; omega) | (simp only [hc]; try simp only [dcA] at hc)) | refine aO ?_ | refine dO ?_)
        all_goals exact fin_same trivial rfl
  ·
    have hz2 : z = true := hzT (fun i' h => hrow i' (by omega))
    subst hz2
    repeat' (first | (simp only [go_sem, seval, IntKind.bits.eq_def, ti, tin]) | (simp (disch := omega) only [wA]) | refine aL ti_ok ?_ | refine dL ti_ok ?_ | refine dG ?_ | ((first | refine cC ?_ ?_ | refine gS ?_ ?_ | refine dS ?_ ?_) <;> intro hc <;> first | (exfalso; simp only [dcA] at hc; omega) | (simp only [hc]; try simp only [dcA] at hc)) | refine aO ?_ | refine dO ?_)
    all_goals exact fin_same trivial rfl
def argV (x : List RD) : Prop := ∀ r ∈ x, r.arg0
theorem argV_ws {x : List RD} (h : argV x) (j : Nat) : (x.getD j RD.zero).ws.length ≤ 9223372036854775807 := by
  by_cases hj : j < x.length
  · have := (h _ (getD_mem (d := RD.zero) hj)).2.1
    unfold maxLen at this; omega
  · rw [List.getD, List.getElem?_eq_none (by omega)]; exact Nat.zero_le _
theorem brief_el {x : RD} (h : x.arg0) (f : briefX x) : okR 64 x ∧ x.dy.d ≤ 40 := by
  have ho : x.ok := ⟨h.1, by have := f.1; omega⟩
  have ha := RD.arg ho
  refine ⟨⟨ho, ha.mg (k := 2) f.1⟩, ?_⟩
  have := ha.den (k := 40) f.2 (by omega)
  unfold dn at this; omega
theorem brief_okV {x : List RD} (h : argV x) (f : briefV x) : okV 64 x ∧ fineV 40 (dyV x) := by
  have key : ∀ j, okR 64 (x.getD j RD.zero) ∧ (x.getD j RD.zero).dy.d ≤ 40 := fun j => by
    by_cases hj : j < x.length
    · exact brief_el (h _ (getD_mem (d := RD.zero) hj)) (f.2 j hj)
    · have e : x.getD j RD.zero = RD.zero := by rw [List.getD, List.getElem?_eq_none (by omega)]; rfl
      rw [e]; exact ⟨okR_zero _, by rw [RD.dy_zero]; exact Nat.zero_le _⟩
  exact ⟨fun j => (key j).1, fun j => by rw [dyV_get]; exact (key j).2⟩
theorem argM_V {a : List (List RD)} (h : argM a) (i : Nat) : argV (a.getD i []) := by
  by_cases hi : i < a.length
  · exact (h _ (getD_mem (d := []) hi)).2
  · rw [List.getD, List.getElem?_eq_none (by omega)]; intro r hr; cases hr
theorem brief_okM {a : List (List RD)} (h : argM a) (f : briefM a) : okM 64 a ∧ fine 40 (dyM a) := by
  have key : ∀ i, okV 64 (a.getD i []) ∧ fineV 40 (dyV (a.getD i [])) := fun i => by
    by_cases hi : i < a.length
    · exact brief_okV (argM_V h i) (f i hi)
    · rw [List.getD, List.getElem?_eq_none (by omega)]
      exact ⟨fun j => okR_zero _, fun j => Nat.zero_le _⟩
  exact ⟨fun i => (key i).1, fun i j => by unfold el; rw [dyM_get]; exact (key i).2 j⟩
theorem brief_ok {x : List RD} (hl : x.length ≤ 9223372036854775807) (h : argV x) : CallOK Tryz.prog gl 28 [.sl 3 (vrows x)] (.v (.bool (decide (briefV x)))) := law18_brief x hl (argV_ws h)
theorem law18_light (a dv : List (List RD)) (w : List RD) (ha : a.length ≤ 9223372036854775807) (hd : dv.length ≤ 9223372036854775807) (hw : w.length ≤ 9223372036854775807) (ga : argM a) (gd : argM dv) (gw : argV w) : CallOK Tryz.prog gl 10 [.agg [.sl 1 (mrows a), .sl 1 (mrows dv), .sl 3 (vrows w)]] (.v (.bool ((decide (lightP a dv w))))) := by
  refine call_ok (C := ⟨Tryz.prog, gl, ti, 54, false⟩) ti_ok mixed 3000 Tryz.call10 Tryz.func10 rfl Tryz.ntmps10 (by simp) byClL byCl ?_
  rw [Tryz.results10]
  obtain ⟨z, hz⟩ : ∃ z, decide (lightP a dv w) = z := ⟨_, rfl⟩
  rw [hz]
  obtain ⟨n, hn⟩ : ∃ n, a.length = n := ⟨_, rfl⟩
  obtain ⟨m, hm⟩ : ∃ m, dv.length = m := ⟨_, rfl⟩
  have b0 := brief_ok hw gw
  rw [hn] at ha
  rw [hm] at hd
  by_cases h1 : 10 < n
  ·
    have hz2 : z = false := by rw [← hz]; exact decide_eq_false (fun h => by have := h.1.1.1; omega)
    subst hz2
    clear hz
    repeat' (first | (simp only [go_sem, seval, IntKind.bits.eq_def, ti, tin, mrows_length, hn]) | (simp (disch := omega) only [wA]) | refine aL ti_ok ?_ | refine dL ti_ok ?_ | refine dG ?_ | ((first | refine cC ?_ ?_ | refine gS ?_ ?_ | refine dS ?_ ?_) <;> intro hc <;> first | (exfalso; simp only [dcA] at hc; omega) | (simp only [hc]; try simp only [dcA] at hc)) | refine aO ?_ | refine dO ?_)
    all_goals exact fin_same trivial rfl
  by_cases h2 : 10 < m
  ·
    have hz2 : z = false := by rw [← hz]; exact decide_eq_false (fun h => by have := h.1.1.2.1; omega)
    subst hz2
    clear hz
    repeat' (first | (simp only [go_sem, seval, IntKind.bits.eq_def, ti, tin, mrows_length, hn, hm]) | (simp (disch := omega) only [wA]) | refine aL ti_ok ?_ | refine dL ti_ok ?_ | refine dG ?_ | ((first | refine cC ?_ ?_ | refine gS ?_ ?_ | refine dS ?_ ?_) <;> intro hc <;> first | (exfalso; simp only [dcA] at hc; omega) | (simp only [hc]; try simp only [dcA] at hc)) | refine aO ?_ | refine dO ?_)
    all_goals exact fin_same trivial rfl
  by_cases h3 : briefV w
  rotate_left
  ·
    have hz2 : z = false := by rw [← hz]; exact decide_eq_false (fun h => h3 h.1.1.2.2)
    subst hz2
    rw [decide_eq_false h3] at b0
    clear hz h3
    repeat' (first | (simp only [go_sem, seval, IntKind.bits.eq_def, ti, tin, mrows_length, hn, hm]) | (simp (disch := omega) only [wA]) | (with_reducible first | refine cF b0 ?_ | refine dF b0 ?_) | refine aL ti_ok ?_ | refine dL ti_ok ?_ | refine dG ?_ | ((first | refine cC ?_ ?_ | refine gS ?_ ?_ | refine dS ?_ ?_) <;> intro hc <;> first | (exfalso; simp only [dcA] at hc; omega) | (simp only [hc]; try simp only [dcA] at hc)) | refine aO ?_ | refine dO ?_)
    all_goals exact fin_same trivial rfl
  rw [decide_eq_true h3] at b0
  have hzA : ¬ briefM a → z = false := fun h => by rw [← hz]; exact decide_eq_false (fun hh => h hh.1.2.1)
  have hzD : ¬ briefM dv → z = false := fun h => by rw [← hz]; exact decide_eq_false (fun hh => h hh.1.2.2)
  have hzT : briefM a → briefM dv → decide (¬ ckT a dv w = 0 ∨ a.length ≤ 3) = z := fun h k => by
    rw [← hz]
    exact decide_eq_decide.2 ⟨fun q => ⟨⟨⟨by omega, by omega, h3⟩, h, k⟩, q⟩, fun q => q.2⟩
  have bA : ∀ i, CallOK Tryz.prog gl 28 [.sl 3 (vrows (a.getD i []))] (.v (.bool (decide (briefV (a.getD i []))))) := fun i => brief_ok (argM_row ga i) (argM_V ga i)
  have bD : ∀ i, CallOK Tryz.prog gl 28 [.sl 3 (vrows (dv.getD i []))] (.v (.bool (decide (briefV (dv.getD i []))))) := fun i => brief_ok (argM_row gd i) (argM_V gd i)
  clear hz
  repeat' (first | (simp only [go_sem, seval, IntKind.bits.eq_def, ti, tin, mrows_length, hn, hm]) | (simp (disch := omega) only [wA]) | (with_reducible first | refine cF b0 ?_ | refine dF b0 ?_) | refine aL ti_ok ?_ | refine dL ti_ok ?_ | refine dG ?_ | ((first | refine cC ?_ ?_ | refine gS ?_ ?_ | refine dS ?_ ?_) <;> intro hc <;> first | (exfalso; simp only [dcA] at hc; omega) | (simp only [hc]; try simp only [dcA] at hc)) | refine aO ?_ | refine dO ?_)
  refine l_loop (α := Nat) (fun i => ⟨[(1, .p 0 3 0 0), (24, .sl 1 (mrows (a))), (25, .v (.int .i64 n)), (26, .v (.int .i64 i))], [(0, ⟨3, [[.sl 1 (mrows a), .sl 1 (mrows dv), .sl 3 (vrows w)]]⟩)], 1⟩) (fun i => i ≤ n ∧ ∀ i', i' < i → briefV (a.getD i' [])) (fun i => n - i) (0) _ byFresh (fun _ h => by first | (cases h; done) | exact Nat.le_of_ble_eq_true rfl) ?_ ?_ ?_
  · exact ⟨Nat.zero_le _, fun i' h => by omega⟩
  · exact byWeak
  rintro i ⟨hi, hall⟩
  by_cases hin : i < n
  ·
    have ri := mrows_getD (a := a) (i := i) (by omega)
    have b1 := bA i
    have hz2 : ¬ briefV (a.getD i []) → z = false := fun h => hzA (fun hh => h (hh i (by omega)))
    have hstep : briefV (a.getD i []) → ∀ i', i' < i + 1 → briefV (a.getD i' []) := fun h i' hi' => by
      by_cases e : i' = i
      · rw [e]; exact h
      · exact hall i' (by omega)
    clear hall hzT hzA hzD bA bD
    by_cases hs : briefV (a.getD i [])
    ·
      have hall2 := hstep hs
      rw [decide_eq_true hs] at b1
      clear hstep hz2 hs
      generalize a.getD i [] = r at ri b1
      repeat' (first | (simp only [go_sem, seval, IntKind.bits.eq_def, ti, tin, mrows_length, hn, ri]) | (simp (disch := omega) only [wA]) | (with_reducible first | refine cF b1 ?_ | refine dF b1 ?_) | refine aL ti_ok ?_ | refine dL ti_ok ?_ | refine dG ?_ | ((first | refine cC ?_ ?_ | refine gS ?_ ?_ | refine dS ?_ ?_) <;> intro hc <;> first | (exfalso; simp only [dcA] at hc; omega) | (simp only [hc]; try simp only [dcA] at hc)) | refine aO ?_ | refine dO ?_)
      refine roundEnd_of (α := Nat) (i + 1) ⟨by omega, hall2⟩ (by omega) ?_
      exact byWeak
    ·
      have hz3 := hz2 hs
      subst hz3
      rw [decide_eq_false hs] at b1
      clear hstep hz2 hs
      generalize a.getD i [] = r at ri b1
      repeat' (first | (simp only [go_sem, seval, IntKind.bits.eq_def, ti, tin, mrows_length, hn, ri]) | (simp (disch := omega) only [wA]) | (with_reducible first | refine cF b1 ?_ | refine dF b1 ?_) | refine aL ti_ok ?_ | refine dL ti_ok ?_ | refine dG ?_ | ((first | refine cC ?_ ?_ | refine gS ?_ ?_ | refine dS ?_ ?_) <;> intro hc <;> first | (exfalso; simp only [dcA] at hc; omega) | (simp only [hc]; try simp only [dcA] at hc)) | refine aO ?_ | refine dO ?_)
      all_goals exact fin_same trivial rfl
  have hA : briefM a := fun i' h => hall i' (by omega)
  have hin2 : i = n := by omega
  clear hall hzA bA
  repeat' (first | (simp only [go_sem, seval, IntKind.bits.eq_def, ti, tin, mrows_length, hn, hm]) | (simp (disch := omega) only [wA]) | refine aL ti_ok ?_ | refine dL ti_ok ?_ | refine dG ?_ | ((first | refine cC ?_ ?_ | refine gS ?_ ?_ | refine dS ?_ ?_) <;> intro hc <;> first | (exfalso; simp only [dcA] at hc; omega) | (simp only [hc]; try simp only [dcA] at hc)) | refine aO ?_ | refine dO ?_)
  refine l_loop (α := Nat) (fun j => ⟨[(1, .p 0 3 0 0), (35, .sl 1 (mrows (dv))), (36, .v (.int .i64 m)), (37, .v (.int .i64 j))], [(0, ⟨3, [[.sl 1 (mrows a), .sl 1 (mrows dv), .sl 3 (vrows w)]]⟩)], 1⟩) (fun j => j ≤ m ∧ ∀ i', i' < j → briefV (dv.getD i' [])) (fun j => m - j) (0) _ byFresh (fun _ h => by first | (cases h; done) | exact Nat.le_of_ble_eq_true rfl) ?_ ?_ ?_
  · exact ⟨Nat.zero_le _, fun i' h => by omega⟩
  · exact byWeak
  rintro j ⟨hj, hall⟩
  by_cases hjm : j < m
  ·
    have ri := mrows_getD (a := dv) (i := j) (by omega)
    have b1 := bD j
    have hz2 : ¬ briefV (dv.getD j []) → z = false := fun h => hzD (fun hh => h (hh j (by omega)))
    have hstep : briefV (dv.getD j []) → ∀ i', i' < j + 1 → briefV (dv.getD i' []) := fun h i' hi' => by
      by_cases e : i' = j
      · rw [e]; exact h
      · exact hall i' (by omega)
    clear hall hzT hzD bD
    by_cases hs : briefV (dv.getD j [])
    ·
      have hall2 := hstep hs
      rw [decide_eq_true hs] at b1
      clear hstep hz2 hs
      generalize dv.getD j [] = r at ri b1
      repeat' (first | (simp only [go_sem, seval, IntKind.bits.eq_def, ti, tin, mrows_length, hm, ri]) | (simp (disch := omega) only [wA]) | (with_reducible first | refine cF b1 ?_ | refine dF b1 ?_) | refine aL ti_ok ?_ | refine dL ti_ok ?_ | refine dG ?_ | ((first | refine cC ?_ ?_ | refine gS ?_ ?_ | refine dS ?_ ?_) <;> intro hc <;> first | (exfalso; simp only [dcA] at hc; omega) | (simp only [hc]; try simp only [dcA] at hc)) | refine aO ?_ | refine dO ?_)
      refine roundEnd_of (α := Nat) (j + 1) ⟨by omega, hall2⟩ (by omega) ?_
      exact byWeak
    ·
      have hz3 := hz2 hs
      subst hz3
      rw [decide_eq_false hs] at b1
      clear hstep hz2 hs
      generalize dv.getD j [] = r at ri b1
      repeat' (first | (simp only [go_sem, seval, IntKind.bits.eq_def, ti, tin, mrows_length, hm, ri]) | (simp (disch := omega) only [wA]) | (with_reducible first | refine cF b1 ?_ | refine dF b1 ?_) | refine aL ti_ok ?_ | refine dL ti_ok ?_ | refine dG ?_ | ((first | refine cC ?_ ?_ | refine gS ?_ ?_ | refine dS ?_ ?_) <;> intro hc <;> first | (exfalso; simp only [dcA] at hc; omega) | (simp only [hc]; try simp only [dcA] at hc)) | refine aO ?_ | refine dO ?_)
      all_goals exact fin_same trivial rfl
  have hD : briefM dv := fun i' h => hall i' (by omega)
  have hz2 := hzT hA hD
  have oa := brief_okM ga hA
  have od := brief_okM gd hD
  have ow := brief_okV gw h3
  have kd : ∀ l ∈ dv, l.length ≤ 1000 ∧ ∀ r ∈ l, r.ok := fun l hl => by
    obtain ⟨i, hi, rfl⟩ := List.getElem_of_mem hl
    have e := hD i hi
    have e2 := okV_all (od.1 i)
    rw [List.getD, List.getElem?_eq_getElem hi] at e e2
    exact ⟨by have := e.1; simp only [Option.getD_some] at this; omega, e2⟩
  have k1 := r18_Check a dv w (by omega) (by omega) (by have := h3.1; omega) kd (okV_all ow.1)
  clear hall hzT hzD bD hA hD oa od ow kd
  rw [hn] at hz2
  generalize ckT a dv w = e at *
  by_cases c1 : e = 0
  ·
    subst c1
    by_cases c2 : n ≤ 3
    ·
      rw [decide_eq_true (.inr c2)] at hz2
      subst hz2
      repeat' (first | (simp only [go_sem, seval, IntKind.bits.eq_def, ti, tin, mrows_length, hn]) | (simp (disch := omega) only [wA]) | (with_reducible first | refine cF k1 ?_ | refine dF k1 ?_) | refine aL ti_ok ?_ | refine dL ti_ok ?_ | refine dG ?_ | ((first | refine cC ?_ ?_ | refine gS ?_ ?_ | refine dS ?_ ?_) <;> intro hc <;> first | (exfalso; simp only [dcA] at hc; omega) | (simp only [hc]; try simp only [dcA] at hc)) | refine aO ?_ | refine dO ?_)
      all_goals exact fin_same trivial (by first | rfl | (unfold one; rw [decide_eq_true (by omega)]) | (unfold one; rw [decide_eq_false (by omega)]))
    ·
      rw [decide_eq_false (fun h => by rcases h with h | h; exact h rfl; exact c2 h)] at hz2
      subst hz2
      repeat' (first | (simp only [go_sem, seval, IntKind.bits.eq_def, ti, tin, mrows_length, hn]) | (simp (disch := omega) only [wA]) | (with_reducible first | refine cF k1 ?_ | refine dF k1 ?_) | refine aL ti_ok ?_ | refine dL ti_ok ?_ | refine dG ?_ | ((first | refine cC ?_ ?_ | refine gS ?_ ?_ | refine dS ?_ ?_) <;> intro hc <;> first | (exfalso; simp only [dcA] at hc; omega) | (simp only [hc]; try simp only [dcA] at hc)) | refine aO ?_ | refine dO ?_)
      all_goals exact fin_same trivial (by first | rfl | (unfold one; rw [decide_eq_true (by omega)]) | (unfold one; rw [decide_eq_false (by omega)]))
  ·
    rw [decide_eq_true (.inl c1)] at hz2
    subst hz2
    repeat' (first | (simp only [go_sem, seval, IntKind.bits.eq_def, ti, tin, mrows_length, hn]) | (simp (disch := omega) only [wA]) | (with_reducible first | refine cF k1 ?_ | refine dF k1 ?_) | refine aL ti_ok ?_ | refine dL ti_ok ?_ | refine dG ?_ | ((first | refine cC ?_ ?_ | refine gS ?_ ?_ | refine dS ?_ ?_) <;> intro hc <;> first | (exfalso; simp only [dcA] at hc; omega) | (simp only [hc]; try simp only [dcA] at hc)) | refine aO ?_ | refine dO ?_)
    all_goals exact fin_same trivial (by first | rfl | (unfold one; rw [decide_eq_true (by omega)]) | (unfold one; rw [decide_eq_false (by omega)]))
theorem law18_short (K : Int) (inner outer : List RD) (hi : inner.length ≤ 9223372036854775807) (ho : outer.length ≤ 9223372036854775807) (gi : argV inner) (go : argV outer) : CallOK Tryz.prog gl 22 [.agg [.v (.int .i64 K), .sl 3 (vrows inner), .sl 3 (vrows outer)]] (.v (.bool ((decide (shortP K inner outer))))) := by
  refine call_ok (C := ⟨Tryz.prog, gl, ti, 21, false⟩) ti_ok mixed 3000 Tryz.call22 Tryz.func22 rfl Tryz.ntmps22 (by simp) byClL byCl ?_
  rw [Tryz.results22]
  obtain ⟨z, hz⟩ : ∃ z, decide (shortP K inner outer) = z := ⟨_, rfl⟩
  rw [hz]
  have b1 := brief_ok hi gi
  have b2 := brief_ok ho go
  by_cases h1 : briefV inner
  rotate_left
  ·
    have hz2 : z = false := by rw [← hz]; exact decide_eq_false (fun h => h1 h.1)
    subst hz2
    rw [decide_eq_false h1] at b1
    clear hz h1
    repeat' (first | (simp only [go_sem, seval, IntKind.bits.eq_def, ti, tin]) | (simp (disch := omega) only [wA]) | (with_reducible first | refine cF b1 ?_ | refine dF b1 ?_) | refine aL ti_ok ?_ | refine dL ti_ok ?_ | refine dG ?_ | ((first | refine cC ?_ ?_ | refine gS ?_ ?_ | refine dS ?_ ?_) <;> intro hc <;> first | (exfalso; simp only [dcA] at hc; omega) | (simp only [hc]; try simp only [dcA] at hc)) | refine aO ?_ | refine dO ?_)
    all_goals exact fin_same trivial rfl
  rw [decide_eq_true h1] at b1
  by_cases h2 : briefV outer
  rotate_left
  ·
    have hz2 : z = false := by rw [← hz]; exact decide_eq_false (fun h => h2 h.2.1)
    subst hz2
    rw [decide_eq_false h2] at b2
    clear hz h1 h2
    repeat' (first | (simp only [go_sem, seval, IntKind.bits.eq_def, ti, tin]) | (simp (disch := omega) only [wA]) | (with_reducible first | refine cF b1 ?_ | refine dF b1 ?_ | refine cF b2 ?_ | refine dF b2 ?_) | refine aL ti_ok ?_ | refine dL ti_ok ?_ | refine dG ?_ | ((first | refine cC ?_ ?_ | refine gS ?_ ?_ | refine dS ?_ ?_) <;> intro hc <;> first | (exfalso; simp only [dcA] at hc; omega) | (simp only [hc]; try simp only [dcA] at hc)) | refine aO ?_ | refine dO ?_)
    all_goals exact fin_same trivial rfl
  rw [decide_eq_true h2] at b2
  by_cases h3 : K ≤ 8 ∨ 32 < K
  ·
    have hz2 : z = true := by rw [← hz]; exact decide_eq_true ⟨h1, h2, h3⟩
    subst hz2
    clear hz h1 h2
    by_cases h4 : K ≤ 8
    ·
      clear h3
      repeat' (first | (simp only [go_sem, seval, IntKind.bits.eq_def, ti, tin]) | (simp (disch := omega) only [wA]) | (with_reducible first | refine cF b1 ?_ | refine dF b1 ?_ | refine cF b2 ?_ | refine dF b2 ?_) | refine aL ti_ok ?_ | refine dL ti_ok ?_ | refine dG ?_ | ((first | refine cC ?_ ?_ | refine gS ?_ ?_ | refine dS ?_ ?_) <;> intro hc <;> first | (exfalso; simp only [dcA] at hc; omega) | (simp only [hc]; try simp only [dcA] at hc)) | refine aO ?_ | refine dO ?_)
      all_goals exact fin_same trivial (by first | rfl | (unfold one; rw [decide_eq_true (by omega)]) | (unfold one; rw [decide_eq_false (by omega)]))
    ·
      have h5 : 32 < K := by omega
      clear h3
      repeat' (first | (simp only [go_sem, seval, IntKind.bits.eq_def, ti, tin]) | (simp (disch := omega) only [wA]) | (with_reducible first | refine cF b1 ?_ | refine dF b1 ?_ | refine cF b2 ?_ | refine dF b2 ?_) | refine aL ti_ok ?_ | refine dL ti_ok ?_ | refine dG ?_ | ((first | refine cC ?_ ?_ | refine gS ?_ ?_ | refine dS ?_ ?_) <;> intro hc <;> first | (exfalso; simp only [dcA] at hc; omega) | (simp only [hc]; try simp only [dcA] at hc)) | refine aO ?_ | refine dO ?_)
      all_goals exact fin_same trivial (by first | rfl | (unfold one; rw [decide_eq_true (by omega)]) | (unfold one; rw [decide_eq_false (by omega)]))
  ·
    have hz2 : z = false := by rw [← hz]; exact decide_eq_false (fun h => h3 h.2.2)
    subst hz2
    have h4 : 8 < K := by omega
    have h5 : K ≤ 32 := by omega
    clear hz h1 h2 h3
    repeat' (first | (simp only [go_sem, seval, IntKind.bits.eq_def, ti, tin]) | (simp (disch := omega) only [wA]) | (with_reducible first | refine cF b1 ?_ | refine dF b1 ?_ | refine cF b2 ?_ | refine dF b2 ?_) | refine aL ti_ok ?_ | refine dL ti_ok ?_ | refine dG ?_ | ((first | refine cC ?_ ?_ | refine gS ?_ ?_ | refine dS ?_ ?_) <;> intro hc <;> first | (exfalso; simp only [dcA] at hc; omega) | (simp only [hc]; try simp only [dcA] at hc)) | refine aO ?_ | refine dO ?_)
    all_goals exact fin_same trivial (by first | rfl | (unfold one; rw [decide_eq_true (by omega)]) | (unfold one; rw [decide_eq_false (by omega)]))
end Go.Proofs.YtpggiabnhodjpaaGreatDoor
