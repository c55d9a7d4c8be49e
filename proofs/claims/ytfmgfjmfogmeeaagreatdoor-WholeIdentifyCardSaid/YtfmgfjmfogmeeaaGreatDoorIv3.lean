/- Layer 49 (identify) and its reference: Check. -/
import Derived.Test.YtfmgfjmfogmeeaaGreatDoorMat1
import Derived.Test.YtfmgfjmfogmeeaaGreatDoorU4
import Derived.Test.YtfmgfjmfogmeeaaGreatDoorNat7
set_option linter.unusedSimpArgs false
set_option linter.unusedVariables false
set_option linter.deprecated false
namespace Go.Proofs.YtfmgfjmfogmeeaaGreatDoor
open Go Go.Ax
set_option maxRecDepth 100000
set_option maxHeartbeats 4000000
def inB (B : Int) (p : Int × Int) : Prop := (-B ≤ p.1 ∧ p.1 ≤ B) ∧ (-B ≤ p.2 ∧ p.2 ≤ B)
instance (B : Int) (p : Int × Int) : Decidable (inB B p) := inferInstanceAs (Decidable (_ ∧ _))
def ckS (l : List (Int × Int)) (n : Int) : Int :=
  if l.length = 0 then 11 else if 64 < l.length then 4 else if ∀ i, i < l.length → inB 1099511627776 (l.getD i (0, 0)) then (if n < 0 ∨ 1099511627776 < n then 3 else 0) else 3
theorem id_beyond (x m : Int) (h : 0 ≤ m ∧ m ≤ 9223372036854775807) : CallOK Tryz.prog gl 140 [.v (.int .i64 x), .v (.int .i64 m)] (.v (.bool ((decide (x < -m ∨ m < x))))) := by
  refine call_ok (C := ⟨Tryz.prog, gl, ti, 14, false⟩) ti_ok mixed 3000 Tryz.call140 Tryz.func140 rfl Tryz.ntmps140 (by simp) byClL byCl ?_
  rw [Tryz.results140]
  obtain ⟨z, hz⟩ : ∃ z, decide (x < -m ∨ m < x) = z := ⟨_, rfl⟩
  rw [hz]
  by_cases h1 : x < -m
  · rw [decide_eq_true (.inl h1)] at hz
    subst hz
    repeat' (first | (simp only [go_sem, seval, IntKind.bits.eq_def, ti, tin]) | (simp (disch := omega) only [wA]) | refine aL ti_ok ?_ | refine dL ti_ok ?_ | refine dG ?_ | ((first | refine cC ?_ ?_ | refine gS ?_ ?_ | refine dS ?_ ?_) <;> intro hc <;> first | (exfalso; simp only [dcA] at hc; omega) | (simp only [hc]; try simp only [dcA] at hc)) | refine aO ?_ | refine dO ?_)
    all_goals first | exact fin_same trivial rfl | (refine fin_same trivial ?_; simp [one]; omega)
  · by_cases h2 : m < x
    · rw [decide_eq_true (.inr h2)] at hz
      subst hz
      repeat' (first | (simp only [go_sem, seval, IntKind.bits.eq_def, ti, tin]) | (simp (disch := omega) only [wA]) | refine aL ti_ok ?_ | refine dL ti_ok ?_ | refine dG ?_ | ((first | refine cC ?_ ?_ | refine gS ?_ ?_ | refine dS ?_ ?_) <;> intro hc <;> first | (exfalso; simp only [dcA] at hc; omega) | (simp only [hc]; try simp only [dcA] at hc)) | refine aO ?_ | refine dO ?_)
      all_goals first | exact fin_same trivial rfl | (refine fin_same trivial ?_; simp [one]; omega)
    · rw [decide_eq_false (by omega)] at hz
      subst hz
      repeat' (first | (simp only [go_sem, seval, IntKind.bits.eq_def, ti, tin]) | (simp (disch := omega) only [wA]) | refine aL ti_ok ?_ | refine dL ti_ok ?_ | refine dG ?_ | ((first | refine cC ?_ ?_ | refine gS ?_ ?_ | refine dS ?_ ?_) <;> intro hc <;> first | (exfalso; simp only [dcA] at hc; omega) | (simp only [hc]; try simp only [dcA] at hc)) | refine aO ?_ | refine dO ?_)
      all_goals first | exact fin_same trivial rfl | (refine fin_same trivial ?_; simp [one]; omega)
theorem id_Check (l : List (Int × Int)) (n : Int) (hl : l.length ≤ 9223372036854775807) : CallOK Tryz.prog gl 96 [.sl 2 (rws prow l), .v (.int .i64 n)] (.v (eV (ckS l n))) := by
  refine call_ok (C := ⟨Tryz.prog, gl, ti, 40, false⟩) ti_ok mixed 3000 Tryz.call96 Tryz.func96 rfl Tryz.ntmps96 (by simp) byClL byCl ?_
  rw [Tryz.results96]
  obtain ⟨z, hz⟩ : ∃ z, ckS l n = z := ⟨_, rfl⟩
  rw [hz]
  unfold ckS at hz
  obtain ⟨N, hN⟩ : ∃ N, l.length = N := ⟨_, rfl⟩
  rw [hN] at hz hl
  by_cases h0 : N = 0
  · rw [if_pos h0] at hz
    subst hz
    repeat' (first | (simp only [go_sem, seval, IntKind.bits.eq_def, ti, tin, rws_length, hN]) | (simp (disch := omega) only [wA]) | refine aL ti_ok ?_ | refine dL ti_ok ?_ | refine dG ?_ | ((first | refine cC ?_ ?_ | refine gS ?_ ?_ | refine dS ?_ ?_) <;> intro hc <;> first | (exfalso; simp only [dcA] at hc; omega) | (simp only [hc]; try simp only [dcA] at hc)) | refine aO ?_ | refine dO ?_)
    all_goals exact fin_same trivial rfl
  rw [if_neg h0] at hz
  by_cases h1 : 64 < N
  · rw [if_pos h1] at hz
    subst hz
    repeat' (first | (simp only [go_sem, seval, IntKind.bits.eq_def, ti, tin, rws_length, hN]) | (simp (disch := omega) only [wA]) | refine aL ti_ok ?_ | refine dL ti_ok ?_ | refine dG ?_ | ((first | refine cC ?_ ?_ | refine gS ?_ ?_ | refine dS ?_ ?_) <;> intro hc <;> first | (exfalso; simp only [dcA] at hc; omega) | (simp only [hc]; try simp only [dcA] at hc)) | refine aO ?_ | refine dO ?_)
    all_goals exact fin_same trivial rfl
  rw [if_neg h1] at hz
  repeat' (first | (simp only [go_sem, seval, IntKind.bits.eq_def, ti, tin, rws_length, hN]) | (simp (disch := omega) only [wA]) | refine aL ti_ok ?_ | refine dL ti_ok ?_ | refine dG ?_ | ((first | refine cC ?_ ?_ | refine gS ?_ ?_ | refine dS ?_ ?_) <;> intro hc <;> first | (exfalso; simp only [dcA] at hc; omega) | (simp only [hc]; try simp only [dcA] at hc)) | refine aO ?_ | refine dO ?_)
  refine l_loop (α := Nat) (fun k => ⟨[(0, .sl 2 (rws prow l)), (1, .v (.int .i64 n)), (17, .sl 2 (rws prow l)), (18, .v (.int .i64 N)), (19, .v (.int .i64 k))], [], 0⟩) (fun k => k ≤ N ∧ ∀ i, i < k → inB 1099511627776 (l.getD i (0, 0))) (fun k => N - k) (0) _ byFresh (fun _ h => by first | (cases h; done) | exact Nat.le_of_ble_eq_true rfl) ?_ ?_ ?_
  · exact ⟨Nat.zero_le _, fun i hi => by omega⟩
  · exact byWeak
  rintro k ⟨hk, hi⟩
  by_cases hkn : k < N
  ·
    have rk := rws_getD (f := prow) (l := l) (i := k) (0, 0) (by omega)
    have hz2 : ¬ inB 1099511627776 (l.getD k (0, 0)) → z = 3 := fun h => by rw [← hz]; exact if_neg (fun hh => h (hh k hkn))
    have hi2 : inB 1099511627776 (l.getD k (0, 0)) → ∀ i, i < k + 1 → inB 1099511627776 (l.getD i (0, 0)) := fun h i h2 => by
      by_cases h4 : i = k
      · rw [h4]; exact h
      · exact hi i (by omega)
    clear hi hz
    generalize l.getD k (0, 0) = p at *
    obtain ⟨x, y⟩ := p
    rw [prow_mk] at rk
    unfold inB at hz2
    have b1 := id_beyond x 1099511627776 (by omega)
    have b2 := id_beyond y 1099511627776 (by omega)
    by_cases h2 : -1099511627776 ≤ x ∧ x ≤ 1099511627776
    · rw [decide_eq_false (by omega)] at b1
      by_cases h3 : -1099511627776 ≤ y ∧ y ≤ 1099511627776
      · rw [decide_eq_false (by omega)] at b2
        have hi3 := hi2 ⟨h2, h3⟩
        clear hi2 hz2
        repeat' (first | (simp only [go_sem, seval, IntKind.bits.eq_def, ti, tin, rws_length, hN, rk]) | (simp (disch := omega) only [wA]) | (with_reducible first | refine cF b1 ?_ | refine dF b1 ?_ | refine cF b2 ?_ | refine dF b2 ?_) | refine aL ti_ok ?_ | refine dL ti_ok ?_ | refine dG ?_ | ((first | refine cC ?_ ?_ | refine gS ?_ ?_ | refine dS ?_ ?_) <;> intro hc <;> first | (exfalso; simp only [dcA] at hc; omega) | (simp only [hc]; try simp only [dcA] at hc)) | refine aO ?_ | refine dO ?_)
        refine roundEnd_of (α := Nat) (k + 1) ?_ ?_ ?_
        · exact ⟨by omega, hi3⟩
        · omega
        · exact byWeak
      · rw [decide_eq_true (by omega)] at b2
        have hz3 := hz2 (fun h => h3 h.2)
        subst hz3
        clear hi2 hz2
        repeat' (first | (simp only [go_sem, seval, IntKind.bits.eq_def, ti, tin, rws_length, hN, rk]) | (simp (disch := omega) only [wA]) | (with_reducible first | refine cF b1 ?_ | refine dF b1 ?_ | refine cF b2 ?_ | refine dF b2 ?_) | refine aL ti_ok ?_ | refine dL ti_ok ?_ | refine dG ?_ | ((first | refine cC ?_ ?_ | refine gS ?_ ?_ | refine dS ?_ ?_) <;> intro hc <;> first | (exfalso; simp only [dcA] at hc; omega) | (simp only [hc]; try simp only [dcA] at hc)) | refine aO ?_ | refine dO ?_)
        all_goals exact fin_same trivial rfl
    · rw [decide_eq_true (by omega)] at b1
      have hz3 := hz2 (fun h => h2 h.1)
      subst hz3
      clear hi2 hz2
      repeat' (first | (simp only [go_sem, seval, IntKind.bits.eq_def, ti, tin, rws_length, hN, rk]) | (simp (disch := omega) only [wA]) | (with_reducible first | refine cF b1 ?_ | refine dF b1 ?_ | refine cF b2 ?_ | refine dF b2 ?_) | refine aL ti_ok ?_ | refine dL ti_ok ?_ | refine dG ?_ | ((first | refine cC ?_ ?_ | refine gS ?_ ?_ | refine dS ?_ ?_) <;> intro hc <;> first | (exfalso; simp only [dcA] at hc; omega) | (simp only [hc]; try simp only [dcA] at hc)) | refine aO ?_ | refine dO ?_)
      all_goals exact fin_same trivial rfl
  ·
    rw [if_pos (fun i h => hi i (by omega))] at hz
    by_cases h2 : n < 0
    · rw [if_pos (.inl h2)] at hz
      subst hz
      repeat' (first | (simp only [go_sem, seval, IntKind.bits.eq_def, ti, tin, rws_length, hN]) | (simp (disch := omega) only [wA]) | refine aL ti_ok ?_ | refine dL ti_ok ?_ | refine dG ?_ | ((first | refine cC ?_ ?_ | refine gS ?_ ?_ | refine dS ?_ ?_) <;> intro hc <;> first | (exfalso; simp only [dcA] at hc; omega) | (simp only [hc]; try simp only [dcA] at hc)) | refine aO ?_ | refine dO ?_)
      all_goals exact fin_same trivial rfl
    · by_cases h3 : 1099511627776 < n
      · rw [if_pos (.inr h3)] at hz
        subst hz
        repeat' (first | (simp only [go_sem, seval, IntKind.bits.eq_def, ti, tin, rws_length, hN]) | (simp (disch := omega) only [wA]) | refine aL ti_ok ?_ | refine dL ti_ok ?_ | refine dG ?_ | ((first | refine cC ?_ ?_ | refine gS ?_ ?_ | refine dS ?_ ?_) <;> intro hc <;> first | (exfalso; simp only [dcA] at hc; omega) | (simp only [hc]; try simp only [dcA] at hc)) | refine aO ?_ | refine dO ?_)
        all_goals exact fin_same trivial rfl
      · rw [if_neg (by omega)] at hz
        subst hz
        repeat' (first | (simp only [go_sem, seval, IntKind.bits.eq_def, ti, tin, rws_length, hN]) | (simp (disch := omega) only [wA]) | refine aL ti_ok ?_ | refine dL ti_ok ?_ | refine dG ?_ | ((first | refine cC ?_ ?_ | refine gS ?_ ?_ | refine dS ?_ ?_) <;> intro hc <;> first | (exfalso; simp only [dcA] at hc; omega) | (simp only [hc]; try simp only [dcA] at hc)) | refine aO ?_ | refine dO ?_)
        all_goals exact fin_same trivial rfl
end Go.Proofs.YtfmgfjmfogmeeaaGreatDoor
/- Layer 3 (interval.go), part 1: validity, arguments, points, spans. -/
set_option linter.unusedSimpArgs false
set_option linter.unusedVariables false
set_option linter.deprecated false
namespace Go.Proofs.YtfmgfjmfogmeeaaGreatDoor
open Go Go.Ax
set_option maxRecDepth 100000
set_option maxHeartbeats 4000000
theorem iv_Valid (s1 : Bool) (w1 : List Nat) (d1 : Int) (t1 : Bool) (u1 : List Nat) (e1 : Int) (x1 y1 : Dy) (a1 : Iv) (h1 : IArg s1 w1 d1 t1 u1 e1 x1 y1 a1) : CallOK Tryz.prog gl 100 [.agg [.v (.bool s1), .sl 1 (u32s w1), .v (.int .i64 d1), .v (.bool t1), .sl 1 (u32s u1), .v (.int .i64 e1)]] (.v (.bool ((decide (okI s1 w1 d1 t1 u1 e1 x1 y1))))) := by
  refine call_ok (C := ⟨Tryz.prog, gl, ti, 19, false⟩) ti_ok mixed 3000 Tryz.call100 Tryz.func100 rfl Tryz.ntmps100 (by simp) byClL byCl ?_
  rw [Tryz.results100]
  have v1 := Valid_ok s1 w1 d1 (by have := h1.px.len; omega)
  have v2 := Valid_ok t1 u1 e1 (by have := h1.py.len; omega)
  have c1 := Cmp_ok _ _ _ _ _ _ _ _ h1.px h1.py
  have q := cmp_le x1 y1
  obtain ⟨z, hz⟩ : ∃ z, decide (okI s1 w1 d1 t1 u1 e1 x1 y1) = z := ⟨_, rfl⟩
  rw [hz]
  unfold okI at hz
  simp only [← q] at hz
  clear q h1
  generalize x1.cmp y1 = c at *
  generalize validR s1 w1 d1 = b1 at *
  generalize validR t1 u1 e1 = b2 at *
  cases b1 <;> cases b2 <;> subst hz
  ·
    repeat' (first | (simp only [go_sem, seval, IntKind.bits.eq_def, ti, tin]) | (simp (disch := omega) only [wA]) | (with_reducible first | refine cF v1 ?_ | refine dF v1 ?_ | refine cF v2 ?_ | refine dF v2 ?_ | refine cF c1 ?_ | refine dF c1 ?_) | refine aL ti_ok ?_ | refine dL ti_ok ?_ | refine dG ?_ | ((first | refine cC ?_ ?_ | refine gS ?_ ?_ | refine dS ?_ ?_) <;> intro hc <;> first | (exfalso; simp only [dcA] at hc; omega) | (simp only [hc]; try simp only [dcA] at hc)) | refine aO ?_ | refine dO ?_)
    all_goals (refine fin_same trivial ?_; simp [one])
  ·
    repeat' (first | (simp only [go_sem, seval, IntKind.bits.eq_def, ti, tin]) | (simp (disch := omega) only [wA]) | (with_reducible first | refine cF v1 ?_ | refine dF v1 ?_ | refine cF v2 ?_ | refine dF v2 ?_ | refine cF c1 ?_ | refine dF c1 ?_) | refine aL ti_ok ?_ | refine dL ti_ok ?_ | refine dG ?_ | ((first | refine cC ?_ ?_ | refine gS ?_ ?_ | refine dS ?_ ?_) <;> intro hc <;> first | (exfalso; simp only [dcA] at hc; omega) | (simp only [hc]; try simp only [dcA] at hc)) | refine aO ?_ | refine dO ?_)
    all_goals (refine fin_same trivial ?_; simp [one])
  ·
    repeat' (first | (simp only [go_sem, seval, IntKind.bits.eq_def, ti, tin]) | (simp (disch := omega) only [wA]) | (with_reducible first | refine cF v1 ?_ | refine dF v1 ?_ | refine cF v2 ?_ | refine dF v2 ?_ | refine cF c1 ?_ | refine dF c1 ?_) | refine aL ti_ok ?_ | refine dL ti_ok ?_ | refine dG ?_ | ((first | refine cC ?_ ?_ | refine gS ?_ ?_ | refine dS ?_ ?_) <;> intro hc <;> first | (exfalso; simp only [dcA] at hc; omega) | (simp only [hc]; try simp only [dcA] at hc)) | refine aO ?_ | refine dO ?_)
    all_goals (refine fin_same trivial ?_; simp [one])
  ·
    repeat' (first | (simp only [go_sem, seval, IntKind.bits.eq_def, ti, tin]) | (simp (disch := omega) only [wA]) | (with_reducible first | refine cF v1 ?_ | refine dF v1 ?_ | refine cF v2 ?_ | refine dF v2 ?_ | refine cF c1 ?_ | refine dF c1 ?_) | refine aL ti_ok ?_ | refine dL ti_ok ?_ | refine dG ?_ | ((first | refine cC ?_ ?_ | refine gS ?_ ?_ | refine dS ?_ ?_) <;> intro hc <;> first | (exfalso; simp only [dcA] at hc; omega) | (simp only [hc]; try simp only [dcA] at hc)) | refine aO ?_ | refine dO ?_)
    all_goals (refine fin_same trivial ?_; simp [one])
theorem iv_same (s1 : Bool) (w1 : List Nat) (d1 : Int) (x1 : Dy) (h1 : Arg s1 w1 d1 x1) : CallOK Tryz.prog gl 99 [.agg [.v (.bool s1), .sl 1 (u32s w1), .v (.int .i64 d1)]] (.agg [.v (.bool (sg (x1))), .sl 1 (u32s (ms (x1))), .v (.int .i64 (dn (x1)))]) := by
  refine call_ok (C := ⟨Tryz.prog, gl, ti, 5, false⟩) ti_ok mixed 3000 Tryz.call99 Tryz.func99 rfl Tryz.ntmps99 (by simp) byClL byCl ?_
  rw [Tryz.results99]
  have p := Shift_ok _ _ _ 0 _ h1
  rw [shift_zero] at p
  repeat' (first | (simp only [go_sem, seval, IntKind.bits.eq_def, ti, tin]) | (simp (disch := omega) only [wA]) | (with_reducible first | refine cF p ?_ | refine dF p ?_) | refine aL ti_ok ?_ | refine dL ti_ok ?_ | refine dG ?_ | ((first | refine cC ?_ ?_ | refine gS ?_ ?_ | refine dS ?_ ?_) <;> intro hc <;> first | (exfalso; simp only [dcA] at hc; omega) | (simp only [hc]; try simp only [dcA] at hc)) | refine aO ?_ | refine dO ?_)
  exact fin_same trivial rfl
theorem iv_Point (s1 : Bool) (w1 : List Nat) (d1 : Int) (x1 : Dy) (h1 : Arg s1 w1 d1 x1) : CallOK Tryz.prog gl 57 [.agg [.v (.bool s1), .sl 1 (u32s w1), .v (.int .i64 d1)]] (.agg [.v (.bool (sg (Iv.pt x1).lo)), .sl 1 (u32s (ms (Iv.pt x1).lo)), .v (.int .i64 (dn (Iv.pt x1).lo)), .v (.bool (sg (Iv.pt x1).hi)), .sl 1 (u32s (ms (Iv.pt x1).hi)), .v (.int .i64 (dn (Iv.pt x1).hi))]) := by
  refine call_ok (C := ⟨Tryz.prog, gl, ti, 8, false⟩) ti_ok mixed 3000 Tryz.call57 Tryz.func57 rfl Tryz.ntmps57 (by simp) byClL byCl ?_
  rw [Tryz.results57]
  repeat' (first | (simp only [go_sem, seval, IntKind.bits.eq_def, ti, tin]) | (simp (disch := omega) only [wA]) | (with_reducible first | refine cF (iv_same _ _ _ _ h1) ?_ | refine dF (iv_same _ _ _ _ h1) ?_) | refine aL ti_ok ?_ | refine dL ti_ok ?_ | refine dG ?_ | ((first | refine cC ?_ ?_ | refine gS ?_ ?_ | refine dS ?_ ?_) <;> intro hc <;> first | (exfalso; simp only [dcA] at hc; omega) | (simp only [hc]; try simp only [dcA] at hc)) | refine aO ?_ | refine dO ?_)
  exact fin_same trivial rfl
theorem iv_arg (s1 : Bool) (w1 : List Nat) (d1 : Int) (t1 : Bool) (u1 : List Nat) (e1 : Int) (x1 y1 : Dy) (a1 : Iv) (h1 : IArg s1 w1 d1 t1 u1 e1 x1 y1 a1) : CallOK Tryz.prog gl 59 [.agg [.v (.bool s1), .sl 1 (u32s w1), .v (.int .i64 d1), .v (.bool t1), .sl 1 (u32s u1), .v (.int .i64 e1)]] (.agg [.v (.bool (sg (a1).lo)), .sl 1 (u32s (ms (a1).lo)), .v (.int .i64 (dn (a1).lo)), .v (.bool (sg (a1).hi)), .sl 1 (u32s (ms (a1).hi)), .v (.int .i64 (dn (a1).hi))]) := by
  refine call_ok (C := ⟨Tryz.prog, gl, ti, 14, false⟩) ti_ok mixed 3000 Tryz.call59 Tryz.func59 rfl Tryz.ntmps59 (by simp) byClL byCl ?_
  rw [Tryz.results59]
  have v := iv_Valid _ _ _ _ _ _ _ _ _ h1
  rcases h1.is with ⟨ho, q1, q2⟩ | ⟨ho, q1⟩
  · rw [decide_eq_true ho] at v
    have p1 := iv_same _ _ _ _ h1.px
    have p2 := iv_same _ _ _ _ h1.py
    rw [q1, q2]
    repeat' (first | (simp only [go_sem, seval, IntKind.bits.eq_def, ti, tin]) | (simp (disch := omega) only [wA]) | (with_reducible first | refine cF v ?_ | refine dF v ?_ | refine cF p1 ?_ | refine dF p1 ?_ | refine cF p2 ?_ | refine dF p2 ?_) | refine aL ti_ok ?_ | refine dL ti_ok ?_ | refine dG ?_ | ((first | refine cC ?_ ?_ | refine gS ?_ ?_ | refine dS ?_ ?_) <;> intro hc <;> first | (exfalso; simp only [dcA] at hc; omega) | (simp only [hc]; try simp only [dcA] at hc)) | refine aO ?_ | refine dO ?_)
    exact fin_same trivial rfl
  · rw [decide_eq_false ho] at v
    rw [q1]
    repeat' (first | (simp only [go_sem, seval, IntKind.bits.eq_def, ti, tin]) | (simp (disch := omega) only [wA]) | (with_reducible first | refine cF v ?_ | refine dF v ?_) | refine aL ti_ok ?_ | refine dL ti_ok ?_ | refine dG ?_ | ((first | refine cC ?_ ?_ | refine gS ?_ ?_ | refine dS ?_ ?_) <;> intro hc <;> first | (exfalso; simp only [dcA] at hc; omega) | (simp only [hc]; try simp only [dcA] at hc)) | refine aO ?_ | refine dO ?_)
    exact fin_le trivial Le.iv0
end Go.Proofs.YtfmgfjmfogmeeaaGreatDoor
/- Layer 3 (interval.go), part 2: negatives, sums, products, minima, hulls. -/
set_option linter.unusedSimpArgs false
set_option linter.unusedVariables false
set_option linter.deprecated false
namespace Go.Proofs.YtfmgfjmfogmeeaaGreatDoor
open Go Go.Ax
set_option maxRecDepth 100000
set_option maxHeartbeats 4000000
end Go.Proofs.YtfmgfjmfogmeeaaGreatDoor
/- Layer 3 (interval.go), part 3: absolute values, limits. -/
set_option linter.unusedSimpArgs false
set_option linter.unusedVariables false
set_option linter.deprecated false
namespace Go.Proofs.YtfmgfjmfogmeeaaGreatDoor
open Go Go.Ax
set_option maxRecDepth 100000
set_option maxHeartbeats 4000000
theorem iv_Make (s1 : Bool) (w1 : List Nat) (d1 : Int) (x1 : Dy) (h1 : Arg s1 w1 d1 x1) (s2 : Bool) (w2 : List Nat) (d2 : Int) (x2 : Dy) (h2 : Arg s2 w2 d2 x2) (hle : x1.v ≤ x2.v) : CallOK Tryz.prog gl 147 [.agg [.v (.bool s1), .sl 1 (u32s w1), .v (.int .i64 d1)], .agg [.v (.bool s2), .sl 1 (u32s w2), .v (.int .i64 d2)]] (.tup [.agg [.v (.bool (sg (x1))), .sl 1 (u32s (ms (x1))), .v (.int .i64 (dn (x1))), .v (.bool (sg (x2))), .sl 1 (u32s (ms (x2))), .v (.int .i64 (dn (x2)))], .v .nilIface]) := by
  refine call_ok (C := ⟨Tryz.prog, gl, ti, 17, false⟩) ti_ok mixed 3000 Tryz.call147 Tryz.func147 rfl Tryz.ntmps147 (by simp) byClL byCl ?_
  rw [Tryz.results147]
  have c1 := Cmp_ok _ _ _ _ _ _ _ _ h1 h2
  have k := (cmp_le x1 x2).2 hle
  have p1 := iv_same _ _ _ _ h1
  have p2 := iv_same _ _ _ _ h2
  clear hle
  generalize x1.cmp x2 = n at *
  repeat' (first | (simp only [go_sem, seval, IntKind.bits.eq_def, ti, tin]) | (simp (disch := omega) only [wA]) | (with_reducible first | refine cF c1 ?_ | refine dF c1 ?_ | refine cF p1 ?_ | refine dF p1 ?_ | refine cF p2 ?_ | refine dF p2 ?_) | refine aL ti_ok ?_ | refine dL ti_ok ?_ | refine dG ?_ | ((first | refine cC ?_ ?_ | refine gS ?_ ?_ | refine dS ?_ ?_) <;> intro hc <;> first | (exfalso; simp only [dcA] at hc; omega) | (simp only [hc]; try simp only [dcA] at hc)) | refine aO ?_ | refine dO ?_)
  all_goals exact fin_same trivial rfl
theorem iv_Inside (s1 : Bool) (w1 : List Nat) (d1 : Int) (t1 : Bool) (u1 : List Nat) (e1 : Int) (x1 y1 : Dy) (a1 : Iv) (h1 : IArg s1 w1 d1 t1 u1 e1 x1 y1 a1) (s2 : Bool) (w2 : List Nat) (d2 : Int) (t2 : Bool) (u2 : List Nat) (e2 : Int) (x2 y2 : Dy) (a2 : Iv) (h2 : IArg s2 w2 d2 t2 u2 e2 x2 y2 a2) : CallOK Tryz.prog gl 26 [.agg [.v (.bool s1), .sl 1 (u32s w1), .v (.int .i64 d1), .v (.bool t1), .sl 1 (u32s u1), .v (.int .i64 e1)], .agg [.v (.bool s2), .sl 1 (u32s w2), .v (.int .i64 d2), .v (.bool t2), .sl 1 (u32s u2), .v (.int .i64 e2)]] (.v (.bool (a1.ins a2))) := by
  refine call_ok (C := ⟨Tryz.prog, gl, ti, 23, false⟩) ti_ok mixed 3000 Tryz.call26 Tryz.func26 rfl Tryz.ntmps26 (by simp) byClL byCl ?_
  rw [Tryz.results26]
  have r1 := iv_arg _ _ _ _ _ _ _ _ _ h1
  have r2 := iv_arg _ _ _ _ _ _ _ _ _ h2
  have p1 := Cmp_ok _ _ _ _ _ _ _ _ h2.lo h1.lo
  have p2 := Cmp_ok _ _ _ _ _ _ _ _ h1.hi h2.hi
  have e1 := cmp_le a2.lo a1.lo
  have e2 := cmp_le a1.hi a2.hi
  unfold Iv.ins
  simp only [← e1, ← e2]
  clear e1 e2
  generalize a2.lo.cmp a1.lo = m at *
  generalize a1.hi.cmp a2.hi = n at *
  repeat' (first | (simp only [go_sem, seval, IntKind.bits.eq_def, ti, tin]) | (simp (disch := omega) only [wA]) | (with_reducible first | refine cF r1 ?_ | refine dF r1 ?_ | refine cF r2 ?_ | refine dF r2 ?_ | refine cF p1 ?_ | refine dF p1 ?_ | refine cF p2 ?_ | refine dF p2 ?_) | refine aL ti_ok ?_ | refine dL ti_ok ?_ | refine dG ?_ | ((first | refine cC ?_ ?_ | refine gS ?_ ?_ | refine dS ?_ ?_) <;> intro hc <;> first | (exfalso; simp only [dcA] at hc; omega) | (simp only [hc]; try simp only [dcA] at hc)) | refine aO ?_ | refine dO ?_)
  all_goals (refine fin_same trivial ?_; simp [one, *])
theorem iv_Contains (s1 : Bool) (w1 : List Nat) (d1 : Int) (t1 : Bool) (u1 : List Nat) (e1 : Int) (x1 y1 : Dy) (a1 : Iv) (h1 : IArg s1 w1 d1 t1 u1 e1 x1 y1 a1) (s2 : Bool) (w2 : List Nat) (d2 : Int) (x2 : Dy) (h2 : Arg s2 w2 d2 x2) : CallOK Tryz.prog gl 24 [.agg [.v (.bool s1), .sl 1 (u32s w1), .v (.int .i64 d1), .v (.bool t1), .sl 1 (u32s u1), .v (.int .i64 e1)], .agg [.v (.bool s2), .sl 1 (u32s w2), .v (.int .i64 d2)]] (.v (.bool (a1.has x2))) := by
  refine call_ok (C := ⟨Tryz.prog, gl, ti, 9, false⟩) ti_ok mixed 3000 Tryz.call24 Tryz.func24 rfl Tryz.ntmps24 (by simp) byClL byCl ?_
  rw [Tryz.results24]
  have p1 := iv_Point _ _ _ _ h2
  have p2 := iv_Inside _ _ _ _ _ _ _ _ _ h2.cpt _ _ _ _ _ _ _ _ _ h1
  rw [Iv.has_pt] at p2
  repeat' (first | (simp only [go_sem, seval, IntKind.bits.eq_def, ti, tin]) | (simp (disch := omega) only [wA]) | (with_reducible first | refine cF p1 ?_ | refine dF p1 ?_ | refine cF p2 ?_ | refine dF p2 ?_) | refine aL ti_ok ?_ | refine dL ti_ok ?_ | refine dG ?_ | ((first | refine cC ?_ ?_ | refine gS ?_ ?_ | refine dS ?_ ?_) <;> intro hc <;> first | (exfalso; simp only [dcA] at hc; omega) | (simp only [hc]; try simp only [dcA] at hc)) | refine aO ?_ | refine dO ?_)
  exact fin_same trivial rfl
end Go.Proofs.YtfmgfjmfogmeeaaGreatDoor
