/- Layer 2 (dyadic.go), part 1: validity, parts, results. -/
import Derived.Test.YtfmgfjmfogmeeaaGreatDoorNat5
set_option linter.unusedSimpArgs false
set_option linter.unusedVariables false
set_option linter.deprecated false
namespace Go.Proofs.YtfmgfjmfogmeeaaGreatDoor
open Go Go.Ax
set_option maxRecDepth 100000
set_option maxHeartbeats 4000000
theorem Valid_ok (s : Bool) (ws : List Nat) (d : Int) (hl : ws.length ≤ 4611686018427387904) : CallOK Tryz.prog gl 67 [.agg [.v (.bool s), .sl 1 (u32s ws), .v (.int .i64 d)]] (.v (.bool (validR s ws d))) := by
  refine call_ok (C := ⟨Tryz.prog, gl, ti, 47, false⟩) ti_ok mixed 3000 Tryz.call67 Tryz.func67 rfl Tryz.ntmps67 (by simp) byClL byCl ?_
  rw [Tryz.results67]
  by_cases h1 : d < 0 ∨ 65536 < d
  · have e : validR s ws d = false := by unfold validR; rw [if_pos h1]
    rw [e]
    repeat' (first | (simp only [go_sem, seval, IntKind.bits.eq_def, ti, tin, u32s_length]) | (simp (disch := omega) only [wA]) | refine aL ti_ok ?_ | refine dL ti_ok ?_ | refine dG ?_ | ((first | refine cC ?_ ?_ | refine gS ?_ ?_ | refine dS ?_ ?_) <;> intro hc <;> first | (exfalso; simp only [dcA] at hc; omega) | (simp only [hc]; try simp only [dcA] at hc)) | refine aO ?_ | refine dO ?_)
    all_goals first | exact fin_same trivial rfl | (exfalso; simp at *; omega)
  · by_cases h2 : ws.length = 0
    · have : ws = [] := List.length_eq_zero_iff.1 h2
      subst this
      have e : validR s [] d = (!s && decide (d = 0)) := by unfold validR; rw [if_neg h1, if_pos h2]
      rw [e]
      cases s
      ·
        repeat' (first | (simp only [go_sem, seval, IntKind.bits.eq_def, ti, tin, u32s_nil]) | (simp (disch := omega) only [wA]) | refine aL ti_ok ?_ | refine dL ti_ok ?_ | refine dG ?_ | ((first | refine cC ?_ ?_ | refine gS ?_ ?_ | refine dS ?_ ?_) <;> intro hc <;> first | (exfalso; simp only [dcA] at hc; omega) | (simp only [hc]; try simp only [dcA] at hc)) | refine aO ?_ | refine dO ?_)
        all_goals (refine fin_same trivial ?_; simp [one])
      ·
        repeat' (first | (simp only [go_sem, seval, IntKind.bits.eq_def, ti, tin, u32s_nil]) | (simp (disch := omega) only [wA]) | refine aL ti_ok ?_ | refine dL ti_ok ?_ | refine dG ?_ | ((first | refine cC ?_ ?_ | refine gS ?_ ?_ | refine dS ?_ ?_) <;> intro hc <;> first | (exfalso; simp only [dcA] at hc; omega) | (simp only [hc]; try simp only [dcA] at hc)) | refine aO ?_ | refine dO ?_)
        all_goals (refine fin_same trivial ?_; simp [one])
    · have e : validR s ws d = (decide (ws.getD (ws.length - 1) 0 ≠ 0) && (decide (d = 0) || decide (ws.getD 0 0 % 2 = 1))) := by unfold validR; rw [if_neg h1, if_neg h2]
      have r0 := u32s_getD (ws := ws) (i := 0) (by omega)
      obtain ⟨n, hn⟩ : ∃ n, ws.length = n + 1 := ⟨ws.length - 1, by omega⟩
      have r1 := u32s_getD (ws := ws) (i := n) (by omega)
      have e1 : ((n + 1 : Nat) : Int) - 1 = (n : Int) := by omega
      rw [e]
      rw [show ws.length - 1 = n by omega]
      have hx : (ws.getD 0 0 : Int).tmod 2 = ((ws.getD 0 0 % 2 : Nat) : Int) := rfl
      generalize ws.getD n 0 = a at *
      generalize ws.getD 0 0 = b at *
      by_cases ha : a = 0
      · subst ha
        repeat' (first | (simp only [go_sem, seval, IntKind.bits.eq_def, ti, tin, u32s_length, hn, e1, r0, r1, hx]) | (simp (disch := omega) only [wA]) | refine aL ti_ok ?_ | refine dL ti_ok ?_ | refine dG ?_ | ((first | refine cC ?_ ?_ | refine gS ?_ ?_ | refine dS ?_ ?_) <;> intro hc <;> first | (exfalso; simp only [dcA] at hc; omega) | (simp only [hc]; try simp only [dcA] at hc)) | refine aO ?_ | refine dO ?_)
        all_goals (refine fin_same trivial ?_; simp [one])
      · have ha' : ¬ (a : Int) = 0 := by omega
        by_cases hd : d = 0
        · subst hd
          repeat' (first | (simp only [go_sem, seval, IntKind.bits.eq_def, ti, tin, u32s_length, hn, e1, r0, r1, hx]) | (simp (disch := omega) only [wA]) | refine aL ti_ok ?_ | refine dL ti_ok ?_ | refine dG ?_ | ((first | refine cC ?_ ?_ | refine gS ?_ ?_ | refine dS ?_ ?_) <;> intro hc <;> first | (exfalso; simp only [dcA] at hc; omega) | (simp only [hc]; try simp only [dcA] at hc)) | refine aO ?_ | refine dO ?_)
          all_goals (refine fin_same trivial ?_; simp [one, ha])
        ·
          repeat' (first | (simp only [go_sem, seval, IntKind.bits.eq_def, ti, tin, u32s_length, hn, e1, r0, r1, hx]) | (simp (disch := omega) only [wA]) | refine aL ti_ok ?_ | refine dL ti_ok ?_ | refine dG ?_ | ((first | refine cC ?_ ?_ | refine gS ?_ ?_ | refine dS ?_ ?_) <;> intro hc <;> first | (exfalso; simp only [dcA] at hc; omega) | (simp only [hc]; try simp only [dcA] at hc)) | refine aO ?_ | refine dO ?_)
          all_goals (refine fin_same trivial ?_; simp [one, ha, hd]; try omega)
theorem parts_ok (s : Bool) (ws : List Nat) (d : Int) (x : Dy) (h : Arg s ws d x) : CallOK Tryz.prog gl 32 [.agg [.v (.bool s), .sl 1 (u32s ws), .v (.int .i64 d)]] (.tup [.v (.bool (sg x)), .sl 1 (u32s (ms x)), .v (.int .i64 (dn x))]) := by
  refine call_ok (C := ⟨Tryz.prog, gl, ti, 14, false⟩) ti_ok mixed 3000 Tryz.call32 Tryz.func32 rfl Tryz.ntmps32 (by simp) byClL byCl ?_
  rw [Tryz.results32]
  have va := Valid_ok s ws d (by have := h.len; omega)
  rcases h.is with ⟨hv, rfl, h2, rfl⟩ | ⟨hv, rfl⟩
  · subst h2
    rw [hv] at va
    repeat' (first | (simp only [go_sem, seval, IntKind.bits.eq_def, ti, tin]) | (simp (disch := omega) only [wA]) | (with_reducible first | refine cF va ?_ | refine dF va ?_) | refine aL ti_ok ?_ | refine dL ti_ok ?_ | refine dG ?_ | ((first | refine cC ?_ ?_ | refine gS ?_ ?_ | refine dS ?_ ?_) <;> intro hc <;> first | (exfalso; simp only [dcA] at hc; omega) | (simp only [hc]; try simp only [dcA] at hc)) | refine aO ?_ | refine dO ?_)
    exact fin_same trivial rfl
  · rw [hv] at va
    rw [ms_zero]
    repeat' (first | (simp only [go_sem, seval, IntKind.bits.eq_def, ti, tin]) | (simp (disch := omega) only [wA]) | (with_reducible first | refine cF va ?_ | refine dF va ?_) | refine aL ti_ok ?_ | refine dL ti_ok ?_ | refine dG ?_ | ((first | refine cC ?_ ?_ | refine gS ?_ ?_ | refine dS ?_ ?_) <;> intro hc <;> first | (exfalso; simp only [dcA] at hc; omega) | (simp only [hc]; try simp only [dcA] at hc)) | refine aO ?_ | refine dO ?_)
    exact fin_le trivial (Le.tup (.cons (.refl _) (.cons (Le.nil _) (.cons (.refl _) .nil))))
end Go.Proofs.YtfmgfjmfogmeeaaGreatDoor
