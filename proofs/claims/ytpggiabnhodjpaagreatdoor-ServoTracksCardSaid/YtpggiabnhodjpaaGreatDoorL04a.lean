/- The statements on layer 4: short matrices; errors. -/
import Derived.Test.YtpggiabnhodjpaaGreatDoorMat1
import Derived.Test.YtpggiabnhodjpaaGreatDoorU4
set_option linter.unusedSimpArgs false
set_option linter.unusedVariables false
set_option linter.deprecated false
namespace Go.Proofs.YtpggiabnhodjpaaGreatDoor
open Go Go.Ax
set_option maxRecDepth 100000
set_option maxHeartbeats 4000000
theorem ref_CheckM (a : List (List RD)) (hl : a.length ≤ 4611686018427387904) : CallOK Tryz.prog gl 50 [.sl 1 (mrows (a))] (.v (.int .i64 ((ckM a)))) := by
  refine call_ok (C := ⟨Tryz.prog, gl, ti, 39, false⟩) ti_ok mixed 3000 Tryz.call50 Tryz.func50 rfl Tryz.ntmps50 (by simp) byClL byCl ?_
  rw [Tryz.results50]
  obtain ⟨z, hz⟩ : ∃ z, ckM a = z := ⟨_, rfl⟩
  rw [hz]
  unfold ckM at hz
  by_cases h0 : a.length = 0
  · rw [if_pos h0] at hz
    subst hz
    repeat' (first | (simp only [go_sem, seval, IntKind.bits.eq_def, ti, tin, mrows_length, h0]) | (simp (disch := omega) only [wA]) | refine aL ti_ok ?_ | refine dL ti_ok ?_ | refine dG ?_ | ((first | refine cC ?_ ?_ | refine gS ?_ ?_ | refine dS ?_ ?_) <;> intro hc <;> first | (exfalso; simp only [dcA] at hc; omega) | (simp only [hc]; try simp only [dcA] at hc)) | refine aO ?_ | refine dO ?_)
    all_goals exact fin_same trivial rfl
  rw [if_neg h0] at hz
  have r0 := mrows_getD (a := a) (i := 0) (by omega)
  obtain ⟨m, hm⟩ : ∃ m, (a.getD 0 []).length = m := ⟨_, rfl⟩
  have vm : (vrows (a.getD 0 [])).length = m := by rw [vrows_length, hm]
  rw [hm] at hz
  generalize hx : a.getD 0 [] = x at *
  obtain ⟨n, hn⟩ : ∃ n, a.length = n := ⟨_, rfl⟩
  rw [hn] at hz h0 hl
  by_cases h1 : m = 0
  · rw [if_pos h1] at hz
    subst hz
    repeat' (first | (simp only [go_sem, seval, IntKind.bits.eq_def, ti, tin, mrows_length, hn, r0, vm, h1]) | (simp (disch := omega) only [wA]) | refine aL ti_ok ?_ | refine dL ti_ok ?_ | refine dG ?_ | ((first | refine cC ?_ ?_ | refine gS ?_ ?_ | refine dS ?_ ?_) <;> intro hc <;> first | (exfalso; simp only [dcA] at hc; omega) | (simp only [hc]; try simp only [dcA] at hc)) | refine aO ?_ | refine dO ?_)
    all_goals exact fin_same trivial rfl
  rw [if_neg h1] at hz
  by_cases h2 : 8 < n
  · rw [if_pos h2] at hz
    subst hz
    repeat' (first | (simp only [go_sem, seval, IntKind.bits.eq_def, ti, tin, mrows_length, hn, r0, vm]) | (simp (disch := omega) only [wA]) | refine aL ti_ok ?_ | refine dL ti_ok ?_ | refine dG ?_ | ((first | refine cC ?_ ?_ | refine gS ?_ ?_ | refine dS ?_ ?_) <;> intro hc <;> first | (exfalso; simp only [dcA] at hc; omega) | (simp only [hc]; try simp only [dcA] at hc)) | refine aO ?_ | refine dO ?_)
    all_goals exact fin_same trivial rfl
  rw [if_neg h2] at hz
  by_cases h3 : 8 < m
  · rw [if_pos h3] at hz
    subst hz
    repeat' (first | (simp only [go_sem, seval, IntKind.bits.eq_def, ti, tin, mrows_length, hn, r0, vm]) | (simp (disch := omega) only [wA]) | refine aL ti_ok ?_ | refine dL ti_ok ?_ | refine dG ?_ | ((first | refine cC ?_ ?_ | refine gS ?_ ?_ | refine dS ?_ ?_) <;> intro hc <;> first | (exfalso; simp only [dcA] at hc; omega) | (simp only [hc]; try simp only [dcA] at hc)) | refine aO ?_ | refine dO ?_)
    all_goals exact fin_same trivial rfl
  rw [if_neg h3] at hz
  repeat' (first | (simp only [go_sem, seval, IntKind.bits.eq_def, ti, tin, mrows_length, hn, r0, vm]) | (simp (disch := omega) only [wA]) | refine aL ti_ok ?_ | refine dL ti_ok ?_ | refine dG ?_ | ((first | refine cC ?_ ?_ | refine gS ?_ ?_ | refine dS ?_ ?_) <;> intro hc <;> first | (exfalso; simp only [dcA] at hc; omega) | (simp only [hc]; try simp only [dcA] at hc)) | refine aO ?_ | refine dO ?_)
  refine l_loop (α := Nat) (fun k => ⟨[(0, .sl 1 (mrows (a))), (25, .sl 1 (mrows (a))), (26, .v (.int .i64 n)), (27, .v (.int .i64 k))], [], 0⟩) (fun k => k ≤ n ∧ ∀ i, i < k → (a.getD i []).length = m) (fun k => n - k) (0) _ byFresh (fun _ h => by first | (cases h; done) | exact Nat.le_of_ble_eq_true rfl) ?_ ?_ ?_
  · exact ⟨Nat.zero_le _, fun i hi => by omega⟩
  · exact byWeak
  rintro k ⟨hk, hi⟩
  by_cases hkn : k < n
  ·
    have rk := mrows_getD (a := a) (i := k) (by omega)
    obtain ⟨y, hy⟩ : ∃ y, a.getD k [] = y := ⟨_, rfl⟩
    rw [hy] at rk
    by_cases hyl : y.length = m
    ·
      have vy : (vrows y).length = m := by rw [vrows_length, hyl]
      repeat' (first | (simp only [go_sem, seval, IntKind.bits.eq_def, ti, tin, mrows_length, hn, r0, rk, vm, vy]) | (simp (disch := omega) only [wA]) | refine aL ti_ok ?_ | refine dL ti_ok ?_ | refine dG ?_ | ((first | refine cC ?_ ?_ | refine gS ?_ ?_ | refine dS ?_ ?_) <;> intro hc <;> first | (exfalso; simp only [dcA] at hc; omega) | (simp only [hc]; try simp only [dcA] at hc)) | refine aO ?_ | refine dO ?_)
      refine roundEnd_of (α := Nat) (k + 1) ⟨by omega, fun i h => ?_⟩ (by omega) ?_
      · by_cases h4 : i = k
        · rw [h4, hy, hyl]
        · exact hi i (by omega)
      · exact byWeak
    ·
      rw [if_neg (fun h => hyl (by rw [← hy]; exact h k hkn))] at hz
      subst hz
      have vy : ¬ ((vrows y).length : Int) = (m : Int) := by rw [vrows_length]; omega
      repeat' (first | (simp only [go_sem, seval, IntKind.bits.eq_def, ti, tin, mrows_length, hn, r0, rk, vm, vy]) | (simp (disch := omega) only [wA]) | refine aL ti_ok ?_ | refine dL ti_ok ?_ | refine dG ?_ | ((first | refine cC ?_ ?_ | refine gS ?_ ?_ | refine dS ?_ ?_) <;> intro hc <;> first | (exfalso; simp only [dcA] at hc; omega) | (simp only [hc]; try simp only [dcA] at hc)) | refine aO ?_ | refine dO ?_)
      all_goals exact fin_same trivial rfl
  ·
    rw [if_pos (fun i h => hi i (by omega))] at hz
    subst hz
    repeat' (first | (simp only [go_sem, seval, IntKind.bits.eq_def, ti, tin, mrows_length, hn, r0, vm]) | (simp (disch := omega) only [wA]) | refine aL ti_ok ?_ | refine dL ti_ok ?_ | refine dG ?_ | ((first | refine cC ?_ ?_ | refine gS ?_ ?_ | refine dS ?_ ?_) <;> intro hc <;> first | (exfalso; simp only [dcA] at hc; omega) | (simp only [hc]; try simp only [dcA] at hc)) | refine aO ?_ | refine dO ?_)
    exact fin_same trivial rfl
theorem ref_Both (a b : List (List RD)) (ha : a.length ≤ 4611686018427387904) (hb : b.length ≤ 4611686018427387904) : CallOK Tryz.prog gl 141 [.sl 1 (mrows (a)), .sl 1 (mrows (b))] (.v (.int .i64 ((if ckM a = 0 then ckM b else ckM a)))) := by
  refine call_ok (C := ⟨Tryz.prog, gl, ti, 13, false⟩) ti_ok mixed 3000 Tryz.call141 Tryz.func141 rfl Tryz.ntmps141 (by simp) byClL byCl ?_
  rw [Tryz.results141]
  have c1 := ref_CheckM a ha
  have c2 := ref_CheckM b hb
  generalize ckM b = e2 at *
  by_cases h : ckM a = 0
  · rw [if_pos h]
    rw [h] at c1
    repeat' (first | (simp only [go_sem, seval, IntKind.bits.eq_def, ti, tin]) | (simp (disch := omega) only [wA]) | (with_reducible first | refine cF c1 ?_ | refine dF c1 ?_ | refine cF c2 ?_ | refine dF c2 ?_) | refine aL ti_ok ?_ | refine dL ti_ok ?_ | refine dG ?_ | ((first | refine cC ?_ ?_ | refine gS ?_ ?_ | refine dS ?_ ?_) <;> intro hc <;> first | (exfalso; simp only [dcA] at hc; omega) | (simp only [hc]; try simp only [dcA] at hc)) | refine aO ?_ | refine dO ?_)
    all_goals exact fin_same trivial rfl
  · rw [if_neg h]
    generalize ckM a = e1 at *
    repeat' (first | (simp only [go_sem, seval, IntKind.bits.eq_def, ti, tin]) | (simp (disch := omega) only [wA]) | (with_reducible first | refine cF c1 ?_ | refine dF c1 ?_ | refine cF c2 ?_ | refine dF c2 ?_) | refine aL ti_ok ?_ | refine dL ti_ok ?_ | refine dG ?_ | ((first | refine cC ?_ ?_ | refine gS ?_ ?_ | refine dS ?_ ?_) <;> intro hc <;> first | (exfalso; simp only [dcA] at hc; omega) | (simp only [hc]; try simp only [dcA] at hc)) | refine aO ?_ | refine dO ?_)
    all_goals exact fin_same trivial rfl
def fewX (x : RD) : Prop := x.ws.length ≤ 3 ∧ (x.d ≤ 60 ∨ 65536 < x.d)
instance (x : RD) : Decidable (fewX x) := inferInstanceAs (Decidable (_ ∧ _))
def shortX (x : RD) : Prop := x.ws.length ≤ 1 ∧ (x.d ≤ 8 ∨ 65536 < x.d)
instance (x : RD) : Decidable (shortX x) := inferInstanceAs (Decidable (_ ∧ _))
def rowF (r : List RD) : Prop := r.length ≤ 10 ∧ ∀ j, j < r.length → fewX (r.getD j RD.zero)
instance (r : List RD) : Decidable (rowF r) := inferInstanceAs (Decidable (_ ∧ _))
def shortM (a : List (List RD)) : Prop := ∀ i, i < a.length → ∀ j, j < (a.getD i []).length → shortX ((a.getD i []).getD j RD.zero)
instance (a : List (List RD)) : Decidable (shortM a) := inferInstanceAs (Decidable (∀ i, i < a.length → ∀ j, j < (a.getD i []).length → shortX ((a.getD i []).getD j RD.zero)))
def fewM (a : List (List RD)) : Prop := (a.length ≤ 10 ∧ ∀ i, i < a.length → rowF (a.getD i [])) ∧ (¬ ckM a = 0 ∨ (a.length ≤ 4 ∧ (a.getD 0 []).length ≤ 4) ∨ shortM a)
instance (a : List (List RD)) : Decidable (fewM a) := inferInstanceAs (Decidable (_ ∧ _))
end Go.Proofs.YtpggiabnhodjpaaGreatDoor
