/- Layer 4 (matrix) and its reference: Check; equal vectors and matrices. -/
import Derived.Test.YtpggiabnhodjpaaGreatDoorNum
import Derived.Test.YtpggiabnhodjpaaGreatDoorRefA
import Derived.Test.YtpggiabnhodjpaaGreatDoorU3
set_option linter.unusedSimpArgs false
set_option linter.unusedVariables false
set_option linter.deprecated false
namespace Go.Proofs.YtpggiabnhodjpaaGreatDoor
open Go Go.Ax
set_option maxRecDepth 100000
set_option maxHeartbeats 4000000
def eV (e : Int) : Value := if e = 0 then .nilIface else .iface 117 (.int .i64 e)
theorem eV_zero : eV 0 = .nilIface := (rfl)
theorem eV_ne {e : Int} (h : ¬ e = 0) : eV e = .iface 117 (.int .i64 e) := if_neg h
def ckM {α : Type} (a : List (List α)) : Int :=
  if a.length = 0 then 11 else if (a.getD 0 []).length = 0 then 11 else if 8 < a.length then 4 else if 8 < (a.getD 0 []).length then 4 else if ∀ i, i < a.length → (a.getD i []).length = (a.getD 0 []).length then 0 else 11
theorem mat_Check (a : List (List RD)) (hl : a.length ≤ 4611686018427387904) : CallOK Tryz.prog gl 83 [.sl 1 (mrows (a))] (.v (eV (ckM a))) := by
  refine call_ok (C := ⟨Tryz.prog, gl, ti, 44, false⟩) ti_ok mixed 3000 Tryz.call83 Tryz.func83 rfl Tryz.ntmps83 (by simp) byClL byCl ?_
  rw [Tryz.results83]
  obtain ⟨z, hz⟩ : ∃ z, ckM a = z := ⟨_, rfl⟩
  rw [hz]
  unfold ckM at hz
  by_cases h0 : a.length = 0
  · rw [if_pos h0] at hz
    subst hz
    repeat' (first | (simp only [go_sem, seval, IntKind.bits.eq_def, ti, tin, mrows_length, h0]) | (simp (disch := omega) only [wA]) | refine aL ti_ok ?_ | refine dL ti_ok ?_ | refine dG ?_ | ((first | refine cC ?_ ?_ | refine gS ?_ ?_ | refine dS ?_ ?_) <;> intro hc <;> first | (exfalso; simp only [dcA] at hc; omega) | (simp only [hc]; try simp only [dcA] at hc)) | refine aO ?_ | refine dO ?_)
    all_goals exact fin_same trivial rfl
  rw [if_neg h0] at hz
  have r0 := mrows_getD (a := a) (i := 0) (by omega)
  obtain ⟨m, hm⟩ : ∃ m, (a.getD 0 []).length = m := ⟨_, rfl⟩
  have vm : (vrows (a.getD 0 [])).length = m := by rw [vrows_length, hm]
  rw [hm] at hz
  generalize hx : a.getD 0 [] = x at *
  obtain ⟨n, hn⟩ : ∃ n, a.length = n := ⟨_, rfl⟩
  rw [hn] at hz h0 hl
  by_cases h1 : m = 0
  · rw [if_pos h1] at hz
    subst hz
    repeat' (first | (simp only [go_sem, seval, IntKind.bits.eq_def, ti, tin, mrows_length, hn, r0, vm, h1]) | (simp (disch := omega) only [wA]) | refine aL ti_ok ?_ | refine dL ti_ok ?_ | refine dG ?_ | ((first | refine cC ?_ ?_ | refine gS ?_ ?_ | refine dS ?_ ?_) <;> intro hc <;> first | (exfalso; simp only [dcA] at hc; omega) | (simp only [hc]; try simp only [dcA] at hc)) | refine aO ?_ | refine dO ?_)
    all_goals exact fin_same trivial rfl
  rw [if_neg h1] at hz
  by_cases h2 : 8 < n
  · rw [if_pos h2] at hz
    subst hz
    repeat' (first | (simp only [go_sem, seval, IntKind.bits.eq_def, ti, tin, mrows_length, hn, r0, vm]) | (simp (disch := omega) only [wA]) | refine aL ti_ok ?_ | refine dL ti_ok ?_ | refine dG ?_ | ((first | refine cC ?_ ?_ | refine gS ?_ ?_ | refine dS ?_ ?_) <;> intro hc <;> first | (exfalso; simp only [dcA] at hc; omega) | (simp only [hc]; try simp only [dcA] at hc)) | refine aO ?_ | refine dO ?_)
    all_goals exact fin_same trivial rfl
  rw [if_neg h2] at hz
  by_cases h3 : 8 < m
  · rw [if_pos h3] at hz
    subst hz
    repeat' (first | (simp only [go_sem, seval, IntKind.bits.eq_def, ti, tin, mrows_length, hn, r0, vm]) | (simp (disch := omega) only [wA]) | refine aL ti_ok ?_ | refine dL ti_ok ?_ | refine dG ?_ | ((first | refine cC ?_ ?_ | refine gS ?_ ?_ | refine dS ?_ ?_) <;> intro hc <;> first | (exfalso; simp only [dcA] at hc; omega) | (simp only [hc]; try simp only [dcA] at hc)) | refine aO ?_ | refine dO ?_)
    all_goals exact fin_same trivial rfl
  rw [if_neg h3] at hz
  repeat' (first | (simp only [go_sem, seval, IntKind.bits.eq_def, ti, tin, mrows_length, hn, r0, vm]) | (simp (disch := omega) only [wA]) | refine aL ti_ok ?_ | refine dL ti_ok ?_ | refine dG ?_ | ((first | refine cC ?_ ?_ | refine gS ?_ ?_ | refine dS ?_ ?_) <;> intro hc <;> first | (exfalso; simp only [dcA] at hc; omega) | (simp only [hc]; try simp only [dcA] at hc)) | refine aO ?_ | refine dO ?_)
  refine l_loop (α := Nat) (fun k => ⟨[(0, .sl 1 (mrows (a))), (29, .sl 1 (mrows (a))), (30, .v (.int .i64 n)), (31, .v (.int .i64 k))], [], 0⟩) (fun k => k ≤ n ∧ ∀ i, i < k → (a.getD i []).length = m) (fun k => n - k) (0) _ byFresh (fun _ h => by first | (cases h; done) | exact Nat.le_of_ble_eq_true rfl) ?_ ?_ ?_
  · exact ⟨Nat.zero_le _, fun i hi => by omega⟩
  · exact byWeak
  rintro k ⟨hk, hi⟩
  by_cases hkn : k < n
  ·
    have rk := mrows_getD (a := a) (i := k) (by omega)
    obtain ⟨y, hy⟩ : ∃ y, a.getD k [] = y := ⟨_, rfl⟩
    rw [hy] at rk
    by_cases hyl : y.length = m
    ·
      have vy : (vrows y).length = m := by rw [vrows_length, hyl]
      repeat' (first | (simp only [go_sem, seval, IntKind.bits.eq_def, ti, tin, mrows_length, hn, r0, rk, vm, vy]) | (simp (disch := omega) only [wA]) | refine aL ti_ok ?_ | refine dL ti_ok ?_ | refine dG ?_ | ((first | refine cC ?_ ?_ | refine gS ?_ ?_ | refine dS ?_ ?_) <;> intro hc <;> first | (exfalso; simp only [dcA] at hc; omega) | (simp only [hc]; try simp only [dcA] at hc)) | refine aO ?_ | refine dO ?_)
      refine roundEnd_of (α := Nat) (k + 1) ⟨by omega, fun i h => ?_⟩ (by omega) ?_
      · by_cases h4 : i = k
        · rw [h4, hy, hyl]
        · exact hi i (by omega)
      · exact byWeak
    ·
      rw [if_neg (fun h => hyl (by rw [← hy]; exact h k hkn))] at hz
      subst hz
      have vy : ¬ ((vrows y).length : Int) = (m : Int) := by rw [vrows_length]; omega
      repeat' (first | (simp only [go_sem, seval, IntKind.bits.eq_def, ti, tin, mrows_length, hn, r0, rk, vm, vy]) | (simp (disch := omega) only [wA]) | refine aL ti_ok ?_ | refine dL ti_ok ?_ | refine dG ?_ | ((first | refine cC ?_ ?_ | refine gS ?_ ?_ | refine dS ?_ ?_) <;> intro hc <;> first | (exfalso; simp only [dcA] at hc; omega) | (simp only [hc]; try simp only [dcA] at hc)) | refine aO ?_ | refine dO ?_)
      all_goals exact fin_same trivial rfl
  ·
    rw [if_pos (fun i h => hi i (by omega))] at hz
    subst hz
    repeat' (first | (simp only [go_sem, seval, IntKind.bits.eq_def, ti, tin, mrows_length, hn, r0, vm]) | (simp (disch := omega) only [wA]) | refine aL ti_ok ?_ | refine dL ti_ok ?_ | refine dG ?_ | ((first | refine cC ?_ ?_ | refine gS ?_ ?_ | refine dS ?_ ?_) <;> intro hc <;> first | (exfalso; simp only [dcA] at hc; omega) | (simp only [hc]; try simp only [dcA] at hc)) | refine aO ?_ | refine dO ?_)
    exact fin_same trivial rfl
end Go.Proofs.YtpggiabnhodjpaaGreatDoor
