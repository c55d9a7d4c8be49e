/- Layer 18 (tube): Check. -/
import Derived.Test.YtpggiabnhodjpaaGreatDoorMat1
import Derived.Test.YtpggiabnhodjpaaGreatDoorDy6
set_option linter.unusedSimpArgs false
set_option linter.unusedVariables false
set_option linter.deprecated false
namespace Go.Proofs.YtpggiabnhodjpaaGreatDoor
open Go Go.Ax
set_option maxRecDepth 100000
set_option maxHeartbeats 4000000
def nonneg (l : List RD) : Prop := ∀ i, i < l.length → ¬ (l.getD i RD.zero).dy.sign < 0
instance (l : List RD) : Decidable (nonneg l) := inferInstanceAs (Decidable (∀ i, i < l.length → ¬ (l.getD i RD.zero).dy.sign < 0))
def nonnegM (a : List (List RD)) : Prop := ∀ i, i < a.length → nonneg (a.getD i [])
instance (a : List (List RD)) : Decidable (nonnegM a) := inferInstanceAs (Decidable (∀ i, i < a.length → nonneg (a.getD i [])))
theorem first_of {p : Nat → Prop} [DecidablePred p] : ∀ n : Nat, (∀ i, i < n → ¬ p i) ∨ ∃ k, k < n ∧ p k ∧ ∀ i, i < k → ¬ p i
  | 0 => .inl fun i h => by omega
  | n + 1 => by
    rcases first_of (p := p) n with h | ⟨k, h1, h2, h3⟩
    · by_cases hp : p n
      · exact .inr ⟨n, by omega, hp, h⟩
      · exact .inl fun i hi => by
          by_cases e : i = n
          · rw [e]; exact hp
          · exact h i (by omega)
    · exact .inr ⟨k, by omega, h2, h3⟩
theorem mem_getD {α : Type} {l : List α} {i : Nat} {d : α} (h : i < l.length) : l.getD i d ∈ l := by
  rw [List.getD, List.getElem?_eq_getElem h]; exact List.getElem_mem _
theorem tub_neg1 (s : Bool) (ws : List Nat) (d : Int) (x : Dy) (h : Arg s ws d x) : CallOK Tryz.prog gl 161 [.agg [.v (.bool s), .sl 1 (u32s ws), .v (.int .i64 d)]] (.v (.bool ((decide (x.sign < 0))))) := by
  refine call_ok (C := ⟨Tryz.prog, gl, ti, 6, false⟩) ti_ok mixed 3000 Tryz.call161 Tryz.func161 rfl Tryz.ntmps161 (by simp) byClL byCl ?_
  rw [Tryz.results161]
  have sn := Sign_ok _ _ _ _ h
  repeat' (first | (simp only [go_sem, seval, IntKind.bits.eq_def, ti, tin]) | (simp (disch := omega) only [wA]) | (with_reducible first | refine cF sn ?_ | refine dF sn ?_) | refine aL ti_ok ?_ | refine dL ti_ok ?_ | refine dG ?_ | ((first | refine cC ?_ ?_ | refine gS ?_ ?_ | refine dS ?_ ?_) <;> intro hc <;> first | (exfalso; simp only [dcA] at hc; omega) | (simp only [hc]; try simp only [dcA] at hc)) | refine aO ?_ | refine dO ?_)
  exact fin_same trivial rfl
theorem idx_none (l : List RD) (hl : l.length ≤ 4611686018427387904) (hk : ∀ r ∈ l, r.ok) (hn : nonneg l) : CallOK Tryz.prog gl 180 [.sl 3 (vrows (l)), .fn 161 []] (.v (.int .i64 (-1))) := by
  refine call_ok (C := ⟨Tryz.prog, gl, ti, 19, false⟩) ti_ok mixed 3000 Tryz.call180 Tryz.func180 rfl Tryz.ntmps180 (by simp) (by intro x hx; simp only [List.mem_cons, List.not_mem_nil, or_false] at hx; rcases hx with rfl | rfl <;> first | exact Cl.vec | exact Cl.mat | exact Cl.v _ | exact Cl.fn (fun a ha => by cases ha)) byCl ?_
  rw [Tryz.results180]
  obtain ⟨n, hn'⟩ : ∃ n, l.length = n := ⟨_, rfl⟩
  rw [hn'] at hl
  repeat' (first | (simp only [go_sem, seval, IntKind.bits.eq_def, ti, tin, vrows_length, hn']) | (simp (disch := omega) only [wA]) | refine aL ti_ok ?_ | refine dL ti_ok ?_ | refine dG ?_ | ((first | refine cC ?_ ?_ | refine gS ?_ ?_ | refine dS ?_ ?_) <;> intro hc <;> first | (exfalso; simp only [dcA] at hc; omega) | (simp only [hc]; try simp only [dcA] at hc)) | refine aO ?_ | refine dO ?_)
  refine l_loop (α := Nat) (fun k => ⟨[(0, .sl 3 (vrows (l))), (1, .fn 161 []), (7, .v (.int .i64 n)), (8, .v (.int .i64 k))], [], 0⟩) (fun k => k ≤ n) (fun k => n - k) (0) _ byFresh (fun _ h => by first | (cases h; done) | exact Nat.le_of_ble_eq_true rfl) ?_ ?_ ?_
  · exact Nat.zero_le _
  · exact byWeak
  rintro k hkn
  by_cases hk2 : k < n
  ·
    have rk := vrows_getD (l := l) (i := k) (by omega)
    have tn := tub_neg1 _ _ _ _ (RD.arg (hk _ (mem_getD (d := RD.zero) (show k < l.length by omega))))
    have h0 := hn k (by omega)
    rw [decide_eq_false h0] at tn
    unfold vrow at rk
    generalize l.getD k RD.zero = r at *
    repeat' (first | (simp only [go_sem, seval, IntKind.bits.eq_def, ti, tin, vrows_length, hn', rk]) | (simp (disch := omega) only [wA]) | (with_reducible first | refine cF tn ?_ | refine dF tn ?_) | refine aL ti_ok ?_ | refine dL ti_ok ?_ | refine dG ?_ | ((first | refine cC ?_ ?_ | refine gS ?_ ?_ | refine dS ?_ ?_) <;> intro hc <;> first | (exfalso; simp only [dcA] at hc; omega) | (simp only [hc]; try simp only [dcA] at hc)) | refine aO ?_ | refine dO ?_)
    refine roundEnd_of (α := Nat) (k + 1) (show k + 1 ≤ n by omega) (by omega) ?_
    exact byWeak
  ·
    repeat' (first | (simp only [go_sem, seval, IntKind.bits.eq_def, ti, tin, vrows_length, hn']) | (simp (disch := omega) only [wA]) | refine aL ti_ok ?_ | refine dL ti_ok ?_ | refine dG ?_ | ((first | refine cC ?_ ?_ | refine gS ?_ ?_ | refine dS ?_ ?_) <;> intro hc <;> first | (exfalso; simp only [dcA] at hc; omega) | (simp only [hc]; try simp only [dcA] at hc)) | refine aO ?_ | refine dO ?_)
    exact fin_same trivial rfl
theorem idx_some (l : List RD) (j : Nat) (hl : l.length ≤ 4611686018427387904) (hk : ∀ r ∈ l, r.ok) (hj : j < l.length) (hs : (l.getD j RD.zero).dy.sign < 0) (hb : ∀ i, i < j → ¬ (l.getD i RD.zero).dy.sign < 0) : CallOK Tryz.prog gl 180 [.sl 3 (vrows (l)), .fn 161 []] (.v (.int .i64 j)) := by
  refine call_ok (C := ⟨Tryz.prog, gl, ti, 19, false⟩) ti_ok mixed 3000 Tryz.call180 Tryz.func180 rfl Tryz.ntmps180 (by simp) (by intro x hx; simp only [List.mem_cons, List.not_mem_nil, or_false] at hx; rcases hx with rfl | rfl <;> first | exact Cl.vec | exact Cl.mat | exact Cl.v _ | exact Cl.fn (fun a ha => by cases ha)) byCl ?_
  rw [Tryz.results180]
  obtain ⟨n, hn'⟩ : ∃ n, l.length = n := ⟨_, rfl⟩
  rw [hn'] at hl hj
  repeat' (first | (simp only [go_sem, seval, IntKind.bits.eq_def, ti, tin, vrows_length, hn']) | (simp (disch := omega) only [wA]) | refine aL ti_ok ?_ | refine dL ti_ok ?_ | refine dG ?_ | ((first | refine cC ?_ ?_ | refine gS ?_ ?_ | refine dS ?_ ?_) <;> intro hc <;> first | (exfalso; simp only [dcA] at hc; omega) | (simp only [hc]; try simp only [dcA] at hc)) | refine aO ?_ | refine dO ?_)
  refine l_loop (α := Nat) (fun k => ⟨[(0, .sl 3 (vrows (l))), (1, .fn 161 []), (7, .v (.int .i64 n)), (8, .v (.int .i64 k))], [], 0⟩) (fun k => k ≤ j) (fun k => n - k) (0) _ byFresh (fun _ h => by first | (cases h; done) | exact Nat.le_of_ble_eq_true rfl) ?_ ?_ ?_
  · exact Nat.zero_le _
  · exact byWeak
  rintro k hkj
  have rk := vrows_getD (l := l) (i := k) (by omega)
  have tn := tub_neg1 _ _ _ _ (RD.arg (hk _ (mem_getD (d := RD.zero) (show k < l.length by omega))))
  unfold vrow at rk
  by_cases hk2 : k = j
  ·
    subst hk2
    rw [decide_eq_true hs] at tn
    clear hs hb
    generalize l.getD k RD.zero = r at *
    repeat' (first | (simp only [go_sem, seval, IntKind.bits.eq_def, ti, tin, vrows_length, hn', rk]) | (simp (disch := omega) only [wA]) | (with_reducible first | refine cF tn ?_ | refine dF tn ?_) | refine aL ti_ok ?_ | refine dL ti_ok ?_ | refine dG ?_ | ((first | refine cC ?_ ?_ | refine gS ?_ ?_ | refine dS ?_ ?_) <;> intro hc <;> first | (exfalso; simp only [dcA] at hc; omega) | (simp only [hc]; try simp only [dcA] at hc)) | refine aO ?_ | refine dO ?_)
    exact fin_same trivial rfl
  ·
    have h0 := hb k (by omega)
    rw [decide_eq_false h0] at tn
    clear hs hb h0
    generalize l.getD k RD.zero = r at *
    repeat' (first | (simp only [go_sem, seval, IntKind.bits.eq_def, ti, tin, vrows_length, hn', rk]) | (simp (disch := omega) only [wA]) | (with_reducible first | refine cF tn ?_ | refine dF tn ?_) | refine aL ti_ok ?_ | refine dL ti_ok ?_ | refine dG ?_ | ((first | refine cC ?_ ?_ | refine gS ?_ ?_ | refine dS ?_ ?_) <;> intro hc <;> first | (exfalso; simp only [dcA] at hc; omega) | (simp only [hc]; try simp only [dcA] at hc)) | refine aO ?_ | refine dO ?_)
    refine roundEnd_of (α := Nat) (k + 1) (show k + 1 ≤ j by omega) (by omega) ?_
    exact byWeak
theorem has_none (l : List RD) (hl : l.length ≤ 4611686018427387904) (hk : ∀ r ∈ l, r.ok) (hn : nonneg l) : CallOK Tryz.prog gl 160 [.sl 3 (vrows (l)), .fn 161 []] (.v (.bool (false))) := by
  refine call_ok (C := ⟨Tryz.prog, gl, ti, 9, false⟩) ti_ok mixed 3000 Tryz.call160 Tryz.func160 rfl Tryz.ntmps160 (by simp) (by intro x hx; simp only [List.mem_cons, List.not_mem_nil, or_false] at hx; rcases hx with rfl | rfl <;> first | exact Cl.vec | exact Cl.mat | exact Cl.v _ | exact Cl.fn (fun a ha => by cases ha)) byCl ?_
  rw [Tryz.results160]
  have ix := idx_none l hl hk hn
  repeat' (first | (simp only [go_sem, seval, IntKind.bits.eq_def, ti, tin]) | (simp (disch := omega) only [wA]) | (with_reducible first | refine cF ix ?_ | refine dF ix ?_) | refine aL ti_ok ?_ | refine dL ti_ok ?_ | refine dG ?_ | ((first | refine cC ?_ ?_ | refine gS ?_ ?_ | refine dS ?_ ?_) <;> intro hc <;> first | (exfalso; simp only [dcA] at hc; omega) | (simp only [hc]; try simp only [dcA] at hc)) | refine aO ?_ | refine dO ?_)
  exact fin_same trivial rfl
theorem has_some (l : List RD) (hl : l.length ≤ 4611686018427387904) (hk : ∀ r ∈ l, r.ok) (hn : ¬ nonneg l) : CallOK Tryz.prog gl 160 [.sl 3 (vrows (l)), .fn 161 []] (.v (.bool (true))) := by
  refine call_ok (C := ⟨Tryz.prog, gl, ti, 9, false⟩) ti_ok mixed 3000 Tryz.call160 Tryz.func160 rfl Tryz.ntmps160 (by simp) (by intro x hx; simp only [List.mem_cons, List.not_mem_nil, or_false] at hx; rcases hx with rfl | rfl <;> first | exact Cl.vec | exact Cl.mat | exact Cl.v _ | exact Cl.fn (fun a ha => by cases ha)) byCl ?_
  rw [Tryz.results160]
  rcases first_of (p := fun i => (l.getD i RD.zero).dy.sign < 0) l.length with h | ⟨j, h1, h2, h3⟩
  · exact absurd h hn
  ·
    have ix := idx_some l j hl hk h1 h2 h3
    have e : decide (((j : Nat) : Int) ≥ 0) = true := decide_eq_true (by omega)
    repeat' (first | (simp only [go_sem, seval, IntKind.bits.eq_def, ti, tin, e]) | (simp (disch := omega) only [wA]) | (with_reducible first | refine cF ix ?_ | refine dF ix ?_) | refine aL ti_ok ?_ | refine dL ti_ok ?_ | refine dG ?_ | ((first | refine cC ?_ ?_ | refine gS ?_ ?_ | refine dS ?_ ?_) <;> intro hc <;> first | (exfalso; simp only [dcA] at hc; omega) | (simp only [hc]; try simp only [dcA] at hc)) | refine aO ?_ | refine dO ?_)
    all_goals exact fin_same trivial (by simp [one])
theorem tub_below0 (l : List RD) (hl : l.length ≤ 4611686018427387904) (hk : ∀ r ∈ l, r.ok) : CallOK Tryz.prog gl 119 [.sl 3 (vrows (l))] (.v (.bool ((!decide (nonneg l))))) := by
  refine call_ok (C := ⟨Tryz.prog, gl, ti, 5, false⟩) ti_ok mixed 3000 Tryz.call119 Tryz.func119 rfl Tryz.ntmps119 (by simp) byClL byCl ?_
  rw [Tryz.results119]
  by_cases hn : nonneg l
  ·
    have ix := has_none l hl hk hn
    rw [decide_eq_true hn]
    repeat' (first | (simp only [go_sem, seval, IntKind.bits.eq_def, ti, tin]) | (simp (disch := omega) only [wA]) | (with_reducible first | refine cF ix ?_ | refine dF ix ?_) | refine aL ti_ok ?_ | refine dL ti_ok ?_ | refine dG ?_ | ((first | refine cC ?_ ?_ | refine gS ?_ ?_ | refine dS ?_ ?_) <;> intro hc <;> first | (exfalso; simp only [dcA] at hc; omega) | (simp only [hc]; try simp only [dcA] at hc)) | refine aO ?_ | refine dO ?_)
    exact fin_same trivial rfl
  ·
    have ix := has_some l hl hk hn
    rw [decide_eq_false hn]
    repeat' (first | (simp only [go_sem, seval, IntKind.bits.eq_def, ti, tin]) | (simp (disch := omega) only [wA]) | (with_reducible first | refine cF ix ?_ | refine dF ix ?_) | refine aL ti_ok ?_ | refine dL ti_ok ?_ | refine dG ?_ | ((first | refine cC ?_ ?_ | refine gS ?_ ?_ | refine dS ?_ ?_) <;> intro hc <;> first | (exfalso; simp only [dcA] at hc; omega) | (simp only [hc]; try simp only [dcA] at hc)) | refine aO ?_ | refine dO ?_)
    exact fin_same trivial rfl
theorem idxM_none (a : List (List RD)) (hl : a.length ≤ 4611686018427387904) (hk : ∀ l ∈ a, l.length ≤ 4611686018427387904 ∧ ∀ r ∈ l, r.ok) (hn : nonnegM a) : CallOK Tryz.prog gl 159 [.sl 1 (mrows (a)), .fn 119 []] (.v (.int .i64 (-1))) := by
  refine call_ok (C := ⟨Tryz.prog, gl, ti, 19, false⟩) ti_ok mixed 3000 Tryz.call159 Tryz.func159 rfl Tryz.ntmps159 (by simp) (by intro x hx; simp only [List.mem_cons, List.not_mem_nil, or_false] at hx; rcases hx with rfl | rfl <;> first | exact Cl.vec | exact Cl.mat | exact Cl.v _ | exact Cl.fn (fun a ha => by cases ha)) byCl ?_
  rw [Tryz.results159]
  obtain ⟨n, hn'⟩ : ∃ n, a.length = n := ⟨_, rfl⟩
  rw [hn'] at hl
  repeat' (first | (simp only [go_sem, seval, IntKind.bits.eq_def, ti, tin, mrows_length, hn']) | (simp (disch := omega) only [wA]) | refine aL ti_ok ?_ | refine dL ti_ok ?_ | refine dG ?_ | ((first | refine cC ?_ ?_ | refine gS ?_ ?_ | refine dS ?_ ?_) <;> intro hc <;> first | (exfalso; simp only [dcA] at hc; omega) | (simp only [hc]; try simp only [dcA] at hc)) | refine aO ?_ | refine dO ?_)
  refine l_loop (α := Nat) (fun k => ⟨[(0, .sl 1 (mrows (a))), (1, .fn 119 []), (7, .v (.int .i64 n)), (8, .v (.int .i64 k))], [], 0⟩) (fun k => k ≤ n) (fun k => n - k) (0) _ byFresh (fun _ h => by first | (cases h; done) | exact Nat.le_of_ble_eq_true rfl) ?_ ?_ ?_
  · exact Nat.zero_le _
  · exact byWeak
  rintro k hkn
  by_cases hk2 : k < n
  ·
    have rk := mrows_getD (a := a) (i := k) (by omega)
    have mk := hk _ (mem_getD (d := []) (show k < a.length by omega))
    have tn := tub_below0 _ mk.1 mk.2
    rw [decide_eq_true (hn k (by omega))] at tn
    clear mk
    generalize a.getD k [] = r at *
    repeat' (first | (simp only [go_sem, seval, IntKind.bits.eq_def, ti, tin, mrows_length, hn', rk]) | (simp (disch := omega) only [wA]) | (with_reducible first | refine cF tn ?_ | refine dF tn ?_) | refine aL ti_ok ?_ | refine dL ti_ok ?_ | refine dG ?_ | ((first | refine cC ?_ ?_ | refine gS ?_ ?_ | refine dS ?_ ?_) <;> intro hc <;> first | (exfalso; simp only [dcA] at hc; omega) | (simp only [hc]; try simp only [dcA] at hc)) | refine aO ?_ | refine dO ?_)
    refine roundEnd_of (α := Nat) (k + 1) (show k + 1 ≤ n by omega) (by omega) ?_
    exact byWeak
  ·
    repeat' (first | (simp only [go_sem, seval, IntKind.bits.eq_def, ti, tin, mrows_length, hn']) | (simp (disch := omega) only [wA]) | refine aL ti_ok ?_ | refine dL ti_ok ?_ | refine dG ?_ | ((first | refine cC ?_ ?_ | refine gS ?_ ?_ | refine dS ?_ ?_) <;> intro hc <;> first | (exfalso; simp only [dcA] at hc; omega) | (simp only [hc]; try simp only [dcA] at hc)) | refine aO ?_ | refine dO ?_)
    exact fin_same trivial rfl
theorem idxM_some (a : List (List RD)) (j : Nat) (hl : a.length ≤ 4611686018427387904) (hk : ∀ l ∈ a, l.length ≤ 4611686018427387904 ∧ ∀ r ∈ l, r.ok) (hj : j < a.length) (hs : ¬ nonneg (a.getD j [])) (hb : ∀ i, i < j → nonneg (a.getD i [])) : CallOK Tryz.prog gl 159 [.sl 1 (mrows (a)), .fn 119 []] (.v (.int .i64 j)) := by
  refine call_ok (C := ⟨Tryz.prog, gl, ti, 19, false⟩) ti_ok mixed 3000 Tryz.call159 Tryz.func159 rfl Tryz.ntmps159 (by simp) (by intro x hx; simp only [List.mem_cons, List.not_mem_nil, or_false] at hx; rcases hx with rfl | rfl <;> first | exact Cl.vec | exact Cl.mat | exact Cl.v _ | exact Cl.fn (fun a ha => by cases ha)) byCl ?_
  rw [Tryz.results159]
  obtain ⟨n, hn'⟩ : ∃ n, a.length = n := ⟨_, rfl⟩
  rw [hn'] at hl hj
  repeat' (first | (simp only [go_sem, seval, IntKind.bits.eq_def, ti, tin, mrows_length, hn']) | (simp (disch := omega) only [wA]) | refine aL ti_ok ?_ | refine dL ti_ok ?_ | refine dG ?_ | ((first | refine cC ?_ ?_ | refine gS ?_ ?_ | refine dS ?_ ?_) <;> intro hc <;> first | (exfalso; simp only [dcA] at hc; omega) | (simp only [hc]; try simp only [dcA] at hc)) | refine aO ?_ | refine dO ?_)
  refine l_loop (α := Nat) (fun k => ⟨[(0, .sl 1 (mrows (a))), (1, .fn 119 []), (7, .v (.int .i64 n)), (8, .v (.int .i64 k))], [], 0⟩) (fun k => k ≤ j) (fun k => n - k) (0) _ byFresh (fun _ h => by first | (cases h; done) | exact Nat.le_of_ble_eq_true rfl) ?_ ?_ ?_
  · exact Nat.zero_le _
  · exact byWeak
  rintro k hkj
  have rk := mrows_getD (a := a) (i := k) (by omega)
  have mk := hk _ (mem_getD (d := []) (show k < a.length by omega))
  have tn := tub_below0 _ mk.1 mk.2
  clear mk
  by_cases hk2 : k = j
  ·
    subst hk2
    rw [decide_eq_false hs] at tn
    clear hs hb
    generalize a.getD k [] = r at *
    repeat' (first | (simp only [go_sem, seval, IntKind.bits.eq_def, ti, tin, mrows_length, hn', rk]) | (simp (disch := omega) only [wA]) | (with_reducible first | refine cF tn ?_ | refine dF tn ?_) | refine aL ti_ok ?_ | refine dL ti_ok ?_ | refine dG ?_ | ((first | refine cC ?_ ?_ | refine gS ?_ ?_ | refine dS ?_ ?_) <;> intro hc <;> first | (exfalso; simp only [dcA] at hc; omega) | (simp only [hc]; try simp only [dcA] at hc)) | refine aO ?_ | refine dO ?_)
    exact fin_same trivial rfl
  ·
    rw [decide_eq_true (hb k (by omega))] at tn
    clear hs hb
    generalize a.getD k [] = r at *
    repeat' (first | (simp only [go_sem, seval, IntKind.bits.eq_def, ti, tin, mrows_length, hn', rk]) | (simp (disch := omega) only [wA]) | (with_reducible first | refine cF tn ?_ | refine dF tn ?_) | refine aL ti_ok ?_ | refine dL ti_ok ?_ | refine dG ?_ | ((first | refine cC ?_ ?_ | refine gS ?_ ?_ | refine dS ?_ ?_) <;> intro hc <;> first | (exfalso; simp only [dcA] at hc; omega) | (simp only [hc]; try simp only [dcA] at hc)) | refine aO ?_ | refine dO ?_)
    refine roundEnd_of (α := Nat) (k + 1) (show k + 1 ≤ j by omega) (by omega) ?_
    exact byWeak
theorem hasM_none (a : List (List RD)) (hl : a.length ≤ 4611686018427387904) (hk : ∀ l ∈ a, l.length ≤ 4611686018427387904 ∧ ∀ r ∈ l, r.ok) (hn : nonnegM a) : CallOK Tryz.prog gl 118 [.sl 1 (mrows (a)), .fn 119 []] (.v (.bool (false))) := by
  refine call_ok (C := ⟨Tryz.prog, gl, ti, 9, false⟩) ti_ok mixed 3000 Tryz.call118 Tryz.func118 rfl Tryz.ntmps118 (by simp) (by intro x hx; simp only [List.mem_cons, List.not_mem_nil, or_false] at hx; rcases hx with rfl | rfl <;> first | exact Cl.vec | exact Cl.mat | exact Cl.v _ | exact Cl.fn (fun a ha => by cases ha)) byCl ?_
  rw [Tryz.results118]
  have ix := idxM_none a hl hk hn
  repeat' (first | (simp only [go_sem, seval, IntKind.bits.eq_def, ti, tin]) | (simp (disch := omega) only [wA]) | (with_reducible first | refine cF ix ?_ | refine dF ix ?_) | refine aL ti_ok ?_ | refine dL ti_ok ?_ | refine dG ?_ | ((first | refine cC ?_ ?_ | refine gS ?_ ?_ | refine dS ?_ ?_) <;> intro hc <;> first | (exfalso; simp only [dcA] at hc; omega) | (simp only [hc]; try simp only [dcA] at hc)) | refine aO ?_ | refine dO ?_)
  exact fin_same trivial rfl
theorem hasM_some (a : List (List RD)) (hl : a.length ≤ 4611686018427387904) (hk : ∀ l ∈ a, l.length ≤ 4611686018427387904 ∧ ∀ r ∈ l, r.ok) (hn : ¬ nonnegM a) : CallOK Tryz.prog gl 118 [.sl 1 (mrows (a)), .fn 119 []] (.v (.bool (true))) := by
  refine call_ok (C := ⟨Tryz.prog, gl, ti, 9, false⟩) ti_ok mixed 3000 Tryz.call118 Tryz.func118 rfl Tryz.ntmps118 (by simp) (by intro x hx; simp only [List.mem_cons, List.not_mem_nil, or_false] at hx; rcases hx with rfl | rfl <;> first | exact Cl.vec | exact Cl.mat | exact Cl.v _ | exact Cl.fn (fun a ha => by cases ha)) byCl ?_
  rw [Tryz.results118]
  rcases first_of (p := fun i => ¬ nonneg (a.getD i [])) a.length with h | ⟨j, h1, h2, h3⟩
  · exact absurd (fun i hi => Classical.byContradiction (h i hi)) hn
  ·
    have ix := idxM_some a j hl hk h1 h2 (fun i hi => Classical.byContradiction (h3 i hi))
    have e : decide (((j : Nat) : Int) ≥ 0) = true := decide_eq_true (by omega)
    repeat' (first | (simp only [go_sem, seval, IntKind.bits.eq_def, ti, tin, e]) | (simp (disch := omega) only [wA]) | (with_reducible first | refine cF ix ?_ | refine dF ix ?_) | refine aL ti_ok ?_ | refine dL ti_ok ?_ | refine dG ?_ | ((first | refine cC ?_ ?_ | refine gS ?_ ?_ | refine dS ?_ ?_) <;> intro hc <;> first | (exfalso; simp only [dcA] at hc; omega) | (simp only [hc]; try simp only [dcA] at hc)) | refine aO ?_ | refine dO ?_)
    all_goals exact fin_same trivial (by simp [one])
theorem hasM (a : List (List RD)) (hl : a.length ≤ 4611686018427387904) (hk : ∀ l ∈ a, l.length ≤ 4611686018427387904 ∧ ∀ r ∈ l, r.ok) : CallOK Tryz.prog gl 118 [.sl 1 (mrows a), .fn 119 []] (.v (.bool (!decide (nonnegM a)))) := by
  by_cases hn : nonnegM a
  · rw [decide_eq_true hn]; exact hasM_none a hl hk hn
  · rw [decide_eq_false hn]; exact hasM_some a hl hk hn
def ckT (a dv : List (List RD)) (w : List RD) : Int :=
  if ckM a ≠ 0 then ckM a else if a.length ≠ (a.getD 0 []).length then 11 else if 6 < a.length then 3 else if ckM dv ≠ 0 then ckM dv else
  if dv.length ≠ a.length ∨ (dv.getD 0 []).length ≠ (a.getD 0 []).length ∨ w.length ≠ a.length then 11 else if nonnegM dv ∧ nonneg w then 0 else 3
theorem tub_sameSize (a b : List (List RD)) (ha : 0 < a.length ∧ a.length ≤ 4611686018427387904) (hb : 0 < b.length ∧ b.length ≤ 4611686018427387904) : CallOK Tryz.prog gl 84 [.sl 1 (mrows (a)), .sl 1 (mrows (b))] (.v (.bool ((decide (a.length = b.length ∧ (a.getD 0 []).length = (b.getD 0 []).length))))) := by
  refine call_ok (C := ⟨Tryz.prog, gl, ti, 21, false⟩) ti_ok mixed 3000 Tryz.call84 Tryz.func84 rfl Tryz.ntmps84 (by simp) byClL byCl ?_
  rw [Tryz.results84]
  have ra := mrows_getD (a := a) (i := 0) (by omega)
  have rb := mrows_getD (a := b) (i := 0) (by omega)
  have va := vrows_length (a.getD 0 [])
  have vb := vrows_length (b.getD 0 [])
  generalize (a.getD 0 []).length = m at *
  generalize (b.getD 0 []).length = m' at *
  generalize a.getD 0 [] = x at *
  generalize b.getD 0 [] = y at *
  obtain ⟨z, hz⟩ : ∃ z, decide (a.length = b.length ∧ m = m') = z := ⟨_, rfl⟩
  rw [hz]
  by_cases h1 : a.length = b.length
  · by_cases h2 : m = m'
    ·
      rw [decide_eq_true ⟨h1, h2⟩] at hz
      subst hz h2
      have e1 : ((a.length : Nat) : Int) = ((b.length : Nat) : Int) := by omega
      repeat' (first | (simp only [go_sem, seval, IntKind.bits.eq_def, ti, tin, mrows_length, ra, rb, va, vb, e1]) | (simp (disch := omega) only [wA]) | refine aL ti_ok ?_ | refine dL ti_ok ?_ | refine dG ?_ | ((first | refine cC ?_ ?_ | refine gS ?_ ?_ | refine dS ?_ ?_) <;> intro hc <;> first | (exfalso; simp only [dcA] at hc; omega) | (simp only [hc]; try simp only [dcA] at hc)) | refine aO ?_ | refine dO ?_)
      all_goals exact fin_same trivial rfl
    ·
      rw [decide_eq_false (fun h => h2 h.2)] at hz
      subst hz
      have e1 : ((a.length : Nat) : Int) = ((b.length : Nat) : Int) := by omega
      have e2 : ¬ ((m : Nat) : Int) = ((m' : Nat) : Int) := by omega
      repeat' (first | (simp only [go_sem, seval, IntKind.bits.eq_def, ti, tin, mrows_length, ra, rb, va, vb, e1, e2]) | (simp (disch := omega) only [wA]) | refine aL ti_ok ?_ | refine dL ti_ok ?_ | refine dG ?_ | ((first | refine cC ?_ ?_ | refine gS ?_ ?_ | refine dS ?_ ?_) <;> intro hc <;> first | (exfalso; simp only [dcA] at hc; omega) | (simp only [hc]; try simp only [dcA] at hc)) | refine aO ?_ | refine dO ?_)
      all_goals exact fin_same trivial rfl
  ·
    rw [decide_eq_false (fun h => h1 h.1)] at hz
    subst hz
    have e1 : ¬ ((a.length : Nat) : Int) = ((b.length : Nat) : Int) := by omega
    repeat' (first | (simp only [go_sem, seval, IntKind.bits.eq_def, ti, tin, mrows_length, ra, rb, va, vb, e1]) | (simp (disch := omega) only [wA]) | refine aL ti_ok ?_ | refine dL ti_ok ?_ | refine dG ?_ | ((first | refine cC ?_ ?_ | refine gS ?_ ?_ | refine dS ?_ ?_) <;> intro hc <;> first | (exfalso; simp only [dcA] at hc; omega) | (simp only [hc]; try simp only [dcA] at hc)) | refine aO ?_ | refine dO ?_)
    all_goals exact fin_same trivial rfl
theorem ckM_zero {α : Type} {a : List (List α)} (h : ckM a = 0) : (0 < a.length ∧ a.length ≤ 8) ∧ (0 < (a.getD 0 []).length ∧ (a.getD 0 []).length ≤ 8) ∧ ∀ i, i < a.length → (a.getD i []).length = (a.getD 0 []).length := by
  unfold ckM at h
  by_cases h0 : a.length = 0
  · rw [if_pos h0] at h; omega
  rw [if_neg h0] at h
  by_cases h1 : (a.getD 0 []).length = 0
  · rw [if_pos h1] at h; omega
  rw [if_neg h1] at h
  by_cases h2 : 8 < a.length
  · rw [if_pos h2] at h; omega
  rw [if_neg h2] at h
  by_cases h3 : 8 < (a.getD 0 []).length
  · rw [if_pos h3] at h; omega
  rw [if_neg h3] at h
  by_cases h4 : ∀ i, i < a.length → (a.getD i []).length = (a.getD 0 []).length
  · exact ⟨by omega, by omega, h4⟩
  · rw [if_neg h4] at h; omega
theorem tub_Check (a dv : List (List RD)) (w : List RD) (ha : a.length ≤ 4611686018427387904) (hd : dv.length ≤ 4611686018427387904) (hw : w.length ≤ 4611686018427387904) (kd : ∀ l ∈ dv, l.length ≤ 4611686018427387904 ∧ ∀ r ∈ l, r.ok) (kw : ∀ r ∈ w, r.ok) : CallOK Tryz.prog gl 54 [.agg [.sl 1 (mrows a), .sl 1 (mrows dv), .sl 3 (vrows w)]] (.v (eV (ckT a dv w))) := by
  refine call_ok (C := ⟨Tryz.prog, gl, ti, 61, false⟩) ti_ok mixed 3000 Tryz.call54 Tryz.func54 rfl Tryz.ntmps54 (by simp) byClL byCl ?_
  rw [Tryz.results54]
  obtain ⟨z, hz⟩ : ∃ z, ckT a dv w = z := ⟨_, rfl⟩
  rw [hz]
  unfold ckT at hz
  have k1 := mat_Check a ha
  by_cases h1 : ckM a ≠ 0
  ·
    rw [if_pos h1] at hz
    subst hz
    rw [eV_ne h1] at k1 ⊢
    repeat' (first | (simp only [go_sem, seval, IntKind.bits.eq_def, ti, tin]) | (simp (disch := omega) only [wA]) | (with_reducible first | refine cF k1 ?_ | refine dF k1 ?_) | refine aL ti_ok ?_ | refine dL ti_ok ?_ | refine dG ?_ | ((first | refine cC ?_ ?_ | refine gS ?_ ?_ | refine dS ?_ ?_) <;> intro hc <;> first | (exfalso; simp only [dcA] at hc; omega) | (simp only [hc]; try simp only [dcA] at hc)) | refine aO ?_ | refine dO ?_)
    all_goals exact fin_same trivial rfl
  rw [if_neg h1] at hz
  have h1 : ckM a = 0 := by omega
  rw [h1, eV_zero] at k1
  obtain ⟨a1, a2, a3⟩ := ckM_zero h1
  have r0 := mrows_getD (a := a) (i := 0) a1.1
  have v0 := vrows_length (a.getD 0 [])
  have ss := tub_sameSize a dv ⟨a1.1, ha⟩
  clear a3 h1
  by_cases h2 : a.length ≠ (a.getD 0 []).length
  ·
    rw [if_pos h2] at hz
    subst hz
    clear ss
    generalize (a.getD 0 []).length = m at *
    generalize a.getD 0 [] = x at *
    have e2 : ¬ ((a.length : Nat) : Int) = ((m : Nat) : Int) := by omega
    repeat' (first | (simp only [go_sem, seval, IntKind.bits.eq_def, ti, tin, mrows_length, r0, v0, e2]) | (simp (disch := omega) only [wA]) | (with_reducible first | refine cF k1 ?_ | refine dF k1 ?_) | refine aL ti_ok ?_ | refine dL ti_ok ?_ | refine dG ?_ | ((first | refine cC ?_ ?_ | refine gS ?_ ?_ | refine dS ?_ ?_) <;> intro hc <;> first | (exfalso; simp only [dcA] at hc; omega) | (simp only [hc]; try simp only [dcA] at hc)) | refine aO ?_ | refine dO ?_)
    all_goals exact fin_same trivial rfl
  rw [if_neg h2] at hz
  by_cases h3 : 6 < a.length
  ·
    rw [if_pos h3] at hz
    subst hz
    clear ss
    generalize (a.getD 0 []).length = m at *
    generalize a.getD 0 [] = x at *
    have e2 : ((a.length : Nat) : Int) = ((m : Nat) : Int) := by omega
    repeat' (first | (simp only [go_sem, seval, IntKind.bits.eq_def, ti, tin, mrows_length, r0, v0, e2]) | (simp (disch := omega) only [wA]) | (with_reducible first | refine cF k1 ?_ | refine dF k1 ?_) | refine aL ti_ok ?_ | refine dL ti_ok ?_ | refine dG ?_ | ((first | refine cC ?_ ?_ | refine gS ?_ ?_ | refine dS ?_ ?_) <;> intro hc <;> first | (exfalso; simp only [dcA] at hc; omega) | (simp only [hc]; try simp only [dcA] at hc)) | refine aO ?_ | refine dO ?_)
    all_goals exact fin_same trivial rfl
  rw [if_neg h3] at hz
  have k2 := mat_Check dv hd
  by_cases h4 : ckM dv ≠ 0
  ·
    rw [if_pos h4] at hz
    subst hz
    rw [eV_ne h4] at k2 ⊢
    clear ss
    generalize (a.getD 0 []).length = m at *
    generalize a.getD 0 [] = x at *
    have e2 : ((a.length : Nat) : Int) = ((m : Nat) : Int) := by omega
    repeat' (first | (simp only [go_sem, seval, IntKind.bits.eq_def, ti, tin, mrows_length, r0, v0, e2]) | (simp (disch := omega) only [wA]) | (with_reducible first | refine cF k1 ?_ | refine dF k1 ?_ | refine cF k2 ?_ | refine dF k2 ?_) | refine aL ti_ok ?_ | refine dL ti_ok ?_ | refine dG ?_ | ((first | refine cC ?_ ?_ | refine gS ?_ ?_ | refine dS ?_ ?_) <;> intro hc <;> first | (exfalso; simp only [dcA] at hc; omega) | (simp only [hc]; try simp only [dcA] at hc)) | refine aO ?_ | refine dO ?_)
    all_goals exact fin_same trivial rfl
  rw [if_neg h4] at hz
  have h4 : ckM dv = 0 := by omega
  rw [h4, eV_zero] at k2
  obtain ⟨d1, d2, d3⟩ := ckM_zero h4
  have s2 := ss ⟨d1.1, hd⟩
  clear ss
  clear d3 h4
  have hm := hasM dv hd kd
  have b0 := tub_below0 w hw kw
  by_cases h5 : dv.length ≠ a.length ∨ (dv.getD 0 []).length ≠ (a.getD 0 []).length ∨ w.length ≠ a.length
  ·
    rw [if_pos h5] at hz
    subst hz
    by_cases h6 : a.length = dv.length ∧ (a.getD 0 []).length = (dv.getD 0 []).length
    ·
      rw [decide_eq_true h6] at s2
      generalize (a.getD 0 []).length = m at *
      generalize a.getD 0 [] = x at *
      have e2 : ((a.length : Nat) : Int) = ((m : Nat) : Int) := by omega
      have e3 : ¬ ((w.length : Nat) : Int) = ((m : Nat) : Int) := by omega
      clear h5 h6
      repeat' (first | (simp only [go_sem, seval, IntKind.bits.eq_def, ti, tin, mrows_length, vrows_length, r0, v0, e2, e3]) | (simp (disch := omega) only [wA]) | (with_reducible first | refine cF k1 ?_ | refine dF k1 ?_ | refine cF k2 ?_ | refine dF k2 ?_ | refine cF s2 ?_ | refine dF s2 ?_) | refine aL ti_ok ?_ | refine dL ti_ok ?_ | refine dG ?_ | ((first | refine cC ?_ ?_ | refine gS ?_ ?_ | refine dS ?_ ?_) <;> intro hc <;> first | (exfalso; simp only [dcA] at hc; omega) | (simp only [hc]; try simp only [dcA] at hc)) | refine aO ?_ | refine dO ?_)
      all_goals exact fin_same trivial rfl
    ·
      rw [decide_eq_false h6] at s2
      generalize (a.getD 0 []).length = m at *
      generalize a.getD 0 [] = x at *
      have e2 : ((a.length : Nat) : Int) = ((m : Nat) : Int) := by omega
      clear h5 h6
      repeat' (first | (simp only [go_sem, seval, IntKind.bits.eq_def, ti, tin, mrows_length, vrows_length, r0, v0, e2]) | (simp (disch := omega) only [wA]) | (with_reducible first | refine cF k1 ?_ | refine dF k1 ?_ | refine cF k2 ?_ | refine dF k2 ?_ | refine cF s2 ?_ | refine dF s2 ?_) | refine aL ti_ok ?_ | refine dL ti_ok ?_ | refine dG ?_ | ((first | refine cC ?_ ?_ | refine gS ?_ ?_ | refine dS ?_ ?_) <;> intro hc <;> first | (exfalso; simp only [dcA] at hc; omega) | (simp only [hc]; try simp only [dcA] at hc)) | refine aO ?_ | refine dO ?_)
      all_goals exact fin_same trivial rfl
  rw [if_neg h5] at hz
  have h6 : a.length = dv.length ∧ (a.getD 0 []).length = (dv.getD 0 []).length := by omega
  rw [decide_eq_true h6] at s2
  have e3 : ((w.length : Nat) : Int) = ((a.length : Nat) : Int) := by omega
  clear h5 h6
  have h2 : a.length = (a.getD 0 []).length := by omega
  generalize (a.getD 0 []).length = m at *
  generalize a.getD 0 [] = x at *
  have e2 : ((a.length : Nat) : Int) = ((m : Nat) : Int) := by omega
  rw [e2] at e3
  by_cases h7 : nonnegM dv
  ·
    rw [decide_eq_true h7] at hm
    by_cases h8 : nonneg w
    ·
      rw [decide_eq_true h8] at b0
      rw [if_pos ⟨h7, h8⟩] at hz
      subst hz
      clear h7 h8
      repeat' (first | (simp only [go_sem, seval, IntKind.bits.eq_def, ti, tin, mrows_length, vrows_length, r0, v0, e2, e3]) | (simp (disch := omega) only [wA]) | (with_reducible first | refine cF k1 ?_ | refine dF k1 ?_ | refine cF k2 ?_ | refine dF k2 ?_ | refine cF s2 ?_ | refine dF s2 ?_ | refine cF hm ?_ | refine dF hm ?_ | refine cF b0 ?_ | refine dF b0 ?_) | refine aL ti_ok ?_ | refine dL ti_ok ?_ | refine dG ?_ | ((first | refine cC ?_ ?_ | refine gS ?_ ?_ | refine dS ?_ ?_) <;> intro hc <;> first | (exfalso; simp only [dcA] at hc; omega) | (simp only [hc]; try simp only [dcA] at hc)) | refine aO ?_ | refine dO ?_)
      all_goals exact fin_same trivial rfl
    ·
      rw [decide_eq_false h8] at b0
      rw [if_neg (fun h => h8 h.2)] at hz
      subst hz
      clear h7 h8
      repeat' (first | (simp only [go_sem, seval, IntKind.bits.eq_def, ti, tin, mrows_length, vrows_length, r0, v0, e2, e3]) | (simp (disch := omega) only [wA]) | (with_reducible first | refine cF k1 ?_ | refine dF k1 ?_ | refine cF k2 ?_ | refine dF k2 ?_ | refine cF s2 ?_ | refine dF s2 ?_ | refine cF hm ?_ | refine dF hm ?_ | refine cF b0 ?_ | refine dF b0 ?_) | refine aL ti_ok ?_ | refine dL ti_ok ?_ | refine dG ?_ | ((first | refine cC ?_ ?_ | refine gS ?_ ?_ | refine dS ?_ ?_) <;> intro hc <;> first | (exfalso; simp only [dcA] at hc; omega) | (simp only [hc]; try simp only [dcA] at hc)) | refine aO ?_ | refine dO ?_)
      all_goals exact fin_same trivial rfl
  ·
    rw [decide_eq_false h7] at hm
    rw [if_neg (fun h => h7 h.1)] at hz
    subst hz
    clear h7
    repeat' (first | (simp only [go_sem, seval, IntKind.bits.eq_def, ti, tin, mrows_length, vrows_length, r0, v0, e2, e3]) | (simp (disch := omega) only [wA]) | (with_reducible first | refine cF k1 ?_ | refine dF k1 ?_ | refine cF k2 ?_ | refine dF k2 ?_ | refine cF s2 ?_ | refine dF s2 ?_ | refine cF hm ?_ | refine dF hm ?_ | refine cF b0 ?_ | refine dF b0 ?_) | refine aL ti_ok ?_ | refine dL ti_ok ?_ | refine dG ?_ | ((first | refine cC ?_ ?_ | refine gS ?_ ?_ | refine dS ?_ ?_) <;> intro hc <;> first | (exfalso; simp only [dcA] at hc; omega) | (simp only [hc]; try simp only [dcA] at hc)) | refine aO ?_ | refine dO ?_)
    all_goals exact fin_same trivial rfl
end Go.Proofs.YtpggiabnhodjpaaGreatDoor
