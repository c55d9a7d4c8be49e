/- Equal vectors and matrices (ref04). -/
import Derived.Test.YtpggiabnhodjpaaGreatDoorMat1
set_option linter.unusedSimpArgs false
set_option linter.unusedVariables false
set_option linter.deprecated false
namespace Go.Proofs.YtpggiabnhodjpaaGreatDoor
open Go Go.Ax
set_option maxRecDepth 100000
set_option maxHeartbeats 4000000
theorem ref_SameRow (a b : List Dy) (ha : a.length ≤ 4611686018427387904) (hb : b.length ≤ 4611686018427387904) (ka : ∀ x ∈ a, (ms x).length ≤ 4611686018427387904) (kb : ∀ x ∈ b, (ms x).length ≤ 4611686018427387904) : CallOK Tryz.prog gl 25 [.sl 3 (vrows (a.map can)), .sl 3 (vrows (b.map can))] (.v (.bool ((decide (a = b))))) := by
  refine call_ok (C := ⟨Tryz.prog, gl, ti, 27, false⟩) ti_ok mixed 3000 Tryz.call25 Tryz.func25 rfl Tryz.ntmps25 (by simp) byClL byCl ?_
  rw [Tryz.results25]
  obtain ⟨z, hz⟩ : ∃ z, decide (a = b) = z := ⟨_, rfl⟩
  rw [hz]
  by_cases hl : a.length = b.length
  ·
    obtain ⟨n, hn⟩ : ∃ n : Nat, a.length = n := ⟨_, rfl⟩
    have hn' : b.length = n := by omega
    repeat' (first | (simp only [go_sem, seval, IntKind.bits.eq_def, ti, tin, crows_length, hn, hn']) | (simp (disch := omega) only [wA]) | refine aL ti_ok ?_ | refine dL ti_ok ?_ | refine dG ?_ | ((first | refine cC ?_ ?_ | refine gS ?_ ?_ | refine dS ?_ ?_) <;> intro hc <;> first | (exfalso; simp only [dcA] at hc; omega) | (simp only [hc]; try simp only [dcA] at hc)) | refine aO ?_ | refine dO ?_)
    refine l_loop (α := Nat) (fun k => ⟨[(0, .sl 3 (vrows (a.map can))), (1, .sl 3 (vrows (b.map can))), (12, .v (.int .i64 n)), (13, .v (.int .i64 k))], [], 0⟩) (fun k => k ≤ n ∧ a.take k = b.take k) (fun k => n - k) (0) _ byFresh (fun _ h => by first | (cases h; done) | exact Nat.le_of_ble_eq_true rfl) ?_ ?_ ?_
    · exact ⟨Nat.zero_le _, rfl⟩
    · exact byWeak
    rintro k ⟨hk, ht⟩
    by_cases hkn : k < n
    ·
      have ra := crows_getD (l := a) (i := k) (by omega)
      have rb := crows_getD (l := b) (i := k) (by omega)
      have ma : a.getD k Dy.zero ∈ a := by rw [List.getD, List.getElem?_eq_getElem (by omega)]; exact List.getElem_mem _
      have mb : b.getD k Dy.zero ∈ b := by rw [List.getD, List.getElem?_eq_getElem (by omega)]; exact List.getElem_mem _
      have sm := ref_Same _ _ (ka _ ma) (kb _ mb)
      have st := take_eq_step (a := a) (b := b) (i := k) (d := Dy.zero) (by omega) (by omega) ht
      have hne : ¬ a.getD k Dy.zero = b.getD k Dy.zero → z = false := fun h => by rw [← hz]; exact decide_eq_false (fun hh => h (by rw [hh]))
      generalize a.getD k Dy.zero = x at *
      generalize b.getD k Dy.zero = y at *
      by_cases hxy : x = y
      ·
        have st2 := st hxy
        rw [decide_eq_true hxy] at sm
        repeat' (first | (simp only [go_sem, seval, IntKind.bits.eq_def, ti, tin, crows_length, hn, hn', ra, rb]) | (simp (disch := omega) only [wA]) | (with_reducible first | refine cF sm ?_ | refine dF sm ?_) | refine aL ti_ok ?_ | refine dL ti_ok ?_ | refine dG ?_ | ((first | refine cC ?_ ?_ | refine gS ?_ ?_ | refine dS ?_ ?_) <;> intro hc <;> first | (exfalso; simp only [dcA] at hc; omega) | (simp only [hc]; try simp only [dcA] at hc)) | refine aO ?_ | refine dO ?_)
        refine roundEnd_of (α := Nat) (k + 1) ⟨by omega, st2⟩ (by omega) ?_
        exact byWeak
      ·
        have hz2 := hne hxy
        subst hz2
        rw [decide_eq_false hxy] at sm
        repeat' (first | (simp only [go_sem, seval, IntKind.bits.eq_def, ti, tin, crows_length, hn, hn', ra, rb]) | (simp (disch := omega) only [wA]) | (with_reducible first | refine cF sm ?_ | refine dF sm ?_) | refine aL ti_ok ?_ | refine dL ti_ok ?_ | refine dG ?_ | ((first | refine cC ?_ ?_ | refine gS ?_ ?_ | refine dS ?_ ?_) <;> intro hc <;> first | (exfalso; simp only [dcA] at hc; omega) | (simp only [hc]; try simp only [dcA] at hc)) | refine aO ?_ | refine dO ?_)
        exact fin_same trivial rfl
    ·
      have hkn2 : k = n := by omega
      have hz2 : z = true := by rw [← hz]; exact decide_eq_true (take_eq_all hn hn' (by rw [← hkn2]; exact ht))
      subst hz2
      repeat' (first | (simp only [go_sem, seval, IntKind.bits.eq_def, ti, tin, crows_length, hn, hn']) | (simp (disch := omega) only [wA]) | refine aL ti_ok ?_ | refine dL ti_ok ?_ | refine dG ?_ | ((first | refine cC ?_ ?_ | refine gS ?_ ?_ | refine dS ?_ ?_) <;> intro hc <;> first | (exfalso; simp only [dcA] at hc; omega) | (simp only [hc]; try simp only [dcA] at hc)) | refine aO ?_ | refine dO ?_)
      exact fin_same trivial rfl
  ·
    rw [decide_eq_false (fun h => hl (by rw [h]))] at hz
    subst hz
    have hl' : ¬ ((a.length : Nat) : Int) = ((b.length : Nat) : Int) := by omega
    repeat' (first | (simp only [go_sem, seval, IntKind.bits.eq_def, ti, tin, crows_length, hl']) | (simp (disch := omega) only [wA]) | refine aL ti_ok ?_ | refine dL ti_ok ?_ | refine dG ?_ | ((first | refine cC ?_ ?_ | refine gS ?_ ?_ | refine dS ?_ ?_) <;> intro hc <;> first | (exfalso; simp only [dcA] at hc; omega) | (simp only [hc]; try simp only [dcA] at hc)) | refine aO ?_ | refine dO ?_)
    all_goals exact fin_same trivial rfl
end Go.Proofs.YtpggiabnhodjpaaGreatDoor
