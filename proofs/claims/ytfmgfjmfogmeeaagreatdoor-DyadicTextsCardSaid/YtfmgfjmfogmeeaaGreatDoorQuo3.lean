/- The plain division of the reference (ref02), part 1: trim, of a private slice. -/
import Derived.Test.YtfmgfjmfogmeeaaGreatDoorRef9
import Derived.Test.YtfmgfjmfogmeeaaGreatDoorU4
set_option linter.unusedSimpArgs false
set_option linter.unusedVariables false
set_option linter.deprecated false
namespace Go.Proofs.YtfmgfjmfogmeeaaGreatDoor
open Go Go.Ax
set_option maxRecDepth 100000
set_option maxHeartbeats 4000000
theorem ref_trimV (ws : List Nat) (n : Nat) (h : Wd ws) (hn : ws.length = n) (hl : n ≤ 4611686018427387904) : CallV Tryz.prog gl 81 [.ps 0 1 0 n] ⟨1, u32s ws⟩ ⟨1, []⟩ (.ps 0 1 0 (words (val ws)).length) ⟨1, u32s ws⟩ none := by
  refine call_v (C := ⟨Tryz.prog, gl, ti, 21, true⟩) ti_ok mixed rfl 3000 Tryz.call81 Tryz.func81 rfl Tryz.ntmps81 (by simp) (NB.ps (Nat.le_of_ble_eq_true rfl)) (fun r hr a ha => NB.cl ((byClM : ∀ r ∈ _, ∀ a ∈ r, Cl a) r hr a ha)) (fun _ h => by cases h) ?_
  rw [Tryz.results81]
  repeat' (first | (simp only [go_sem, seval, IntKind.bits.eq_def, ti, tin, u32s_length]) | (simp (disch := omega) only [wA]) | refine aL ti_ok ?_ | refine dL ti_ok ?_ | refine dG ?_ | ((first | refine cC ?_ ?_ | refine gS ?_ ?_ | refine dS ?_ ?_) <;> intro hc <;> first | (exfalso; simp only [dcA] at hc; omega) | (simp only [hc]; try simp only [dcA] at hc)) | refine aO ?_ | refine dO ?_)
  refine l_loop (α := Nat) (fun k => ⟨[(0, .ps 0 1 0 n), (3, .v (.int .i64 k)), (2, .v (.slice none 0 0))], [(0, ⟨1, u32s ws⟩)], 2⟩) (fun k => k ≤ n ∧ val (ws.take k) = val ws) (fun k => k) (n) _ byFresh (fun _ h => by first | (cases h; done) | exact Nat.le_of_ble_eq_true rfl) ?_ ?_ ?_
  · exact ⟨Nat.le_refl _, by rw [← hn]; simp⟩
  · exact byWeak
  rintro k ⟨hk, hv⟩
  have fin : (k = 0 ∨ ws.getD (k - 1) 0 ≠ 0) → k = (words (val ws)).length := fun ht => by
    have := trim_end h (by omega) hv ht
    rw [← this, List.length_take]; omega
  cases k with
  | zero =>
    repeat' (first | (simp only [go_sem, seval, IntKind.bits.eq_def, ti, tin, u32s_length]) | (simp (disch := omega) only [wA]) | refine aL ti_ok ?_ | refine dL ti_ok ?_ | refine dG ?_ | ((first | refine cC ?_ ?_ | refine gS ?_ ?_ | refine dS ?_ ?_) <;> intro hc <;> first | (exfalso; simp only [dcA] at hc; omega) | (simp only [hc]; try simp only [dcA] at hc)) | refine aO ?_ | refine dO ?_)
    have fin := fin (.inl rfl)
    rw [← fin]
    exact ⟨⟨_, _, _, rfl, trivial, .same, .refl _⟩, ⟨_, rfl, MLe.refl _⟩, fun _ h => h.elim⟩
  | succ m =>
    have e1 : ((m + 1 : Nat) : Int) - 1 = (m : Int) := by omega
    have r := u32s_getD (ws := ws) (i := m) (by omega)
    have ul := u32s_length ws
    by_cases h0 : ws.getD m 0 = 0
    ·
      rw [h0] at r
      repeat' (first | (simp only [go_sem, seval, IntKind.bits.eq_def, ti, tin, u32s_length, e1, r, ul]) | (simp (disch := omega) only [wA]) | refine aL ti_ok ?_ | refine dL ti_ok ?_ | refine dG ?_ | ((first | refine cC ?_ ?_ | refine gS ?_ ?_ | refine dS ?_ ?_) <;> intro hc <;> first | (exfalso; simp only [dcA] at hc; omega) | (simp only [hc]; try simp only [dcA] at hc)) | refine aO ?_ | refine dO ?_)
      refine roundEnd_of (α := Nat) m ⟨by omega, ?_⟩ (by omega) ?_
      · rw [← hv, val_take_succ (by omega), h0, Nat.mul_zero, Nat.add_zero]
      · exact byWeak
    ·
      have fin := fin (.inr h0)
      have h1 : ¬ ((ws.getD m 0 : Nat) : Int) = 0 := by omega
      rw [← fin]
      clear fin
      generalize ws.getD m 0 = x at *
      repeat' (first | (simp only [go_sem, seval, IntKind.bits.eq_def, ti, tin, u32s_length, e1, r, ul]) | (simp (disch := omega) only [wA]) | refine aL ti_ok ?_ | refine dL ti_ok ?_ | refine dG ?_ | ((first | refine cC ?_ ?_ | refine gS ?_ ?_ | refine dS ?_ ?_) <;> intro hc <;> first | (exfalso; simp only [dcA] at hc; omega) | (simp only [hc]; try simp only [dcA] at hc)) | refine aO ?_ | refine dO ?_)
      exact ⟨⟨_, _, _, rfl, trivial, .same, .refl _⟩, ⟨_, rfl, MLe.refl _⟩, fun _ h => h.elim⟩
end Go.Proofs.YtfmgfjmfogmeeaaGreatDoor
/- The plain division of the reference (ref02), part 2: minus, its first argument a private slice. -/
set_option linter.unusedSimpArgs false
set_option linter.unusedVariables false
set_option linter.deprecated false
namespace Go.Proofs.YtfmgfjmfogmeeaaGreatDoor
open Go Go.Ax
set_option maxRecDepth 100000
set_option maxHeartbeats 4000000
end Go.Proofs.YtfmgfjmfogmeeaaGreatDoor
/- The plain division of the reference (ref02), part 3: divide. -/
set_option linter.unusedSimpArgs false
set_option linter.unusedVariables false
set_option linter.deprecated false
namespace Go.Proofs.YtfmgfjmfogmeeaaGreatDoor
open Go Go.Ax
set_option maxRecDepth 100000
set_option maxHeartbeats 4000000
theorem byRn {b0 b1 : Nat} {l l' : List AV} (h : PubL (Rn b0 b1) l l' := by (repeat' (first | exact .nil | refine .cons ?_ ?_ | exact .ps0 _ _ _ | exact .p0 _ _ _ | exact .cl (Cl.u32s) (.refl _) | exact .cl (Cl.v _) (.refl _)))) : PubL (Rn b0 b1) l l' := h
theorem byNoe {b : Nat} {l : List (Nat × AV)} (h : noE b l := by (repeat' (first | exact trivial | exact .v | exact .p (Nat.ne_of_beq_eq_false rfl) | exact .ps (Nat.ne_of_beq_eq_false rfl) | exact .top | exact .cl Cl.u32s | exact .cl (Cl.v _) | refine And.intro ?_ ?_))) : noE b l := h
theorem u32s_clM {ws : List Nat} : ∀ r ∈ u32s ws, ∀ a ∈ r, Cl a := fun r hr a ha => by
  obtain ⟨w, _, rfl⟩ := u32s_mem hr
  simp only [u32, List.mem_cons, List.not_mem_nil, or_false] at ha
  subst ha; exact Cl.v _
end Go.Proofs.YtfmgfjmfogmeeaaGreatDoor
