/- The statements on layer 4: what the arguments are. -/
import Derived.Test.YtdjgckcninibhaaDoorL04c
import Derived.Test.YtdjgckcninibhaaDoorU4
set_option linter.unusedSimpArgs false
set_option linter.unusedVariables false
set_option linter.deprecated false
namespace Go.Proofs.YtdjgckcninibhaaDoor
open Go Go.Ax
set_option maxRecDepth 100000
set_option maxHeartbeats 4000000

/-- A matrix as it is handed in. -/
def argM (a : List (List RD)) : Prop := ∀ r ∈ a, r.length ≤ maxLen ∧ ∀ x ∈ r, x.arg0
theorem argM_row {a : List (List RD)} (h : argM a) (i : Nat) : (a.getD i []).length ≤ 9223372036854775807 := by
  by_cases hi : i < a.length
  · have := (h _ (getD_mem (d := []) hi)).1
    unfold maxLen at this; omega
  · rw [List.getD, List.getElem?_eq_none (by omega)]; exact Nat.zero_le _
theorem argM_el {a : List (List RD)} (h : argM a) (i j : Nat) : ((a.getD i []).getD j RD.zero).arg0 ∨ (a.getD i []).getD j RD.zero = RD.zero := by
  by_cases hi : i < a.length
  · have h1 := (h _ (getD_mem (d := []) hi)).2
    generalize a.getD i [] = y at *
    by_cases hj : j < y.length
    · exact .inl (h1 _ (getD_mem (d := RD.zero) hj))
    · right; rw [List.getD, List.getElem?_eq_none (by omega)]; rfl
  · right
    have e : a.getD i [] = [] := by rw [List.getD, List.getElem?_eq_none (by omega)]; rfl
    rw [e]; rfl
theorem argM_ws {a : List (List RD)} (h : argM a) (i j : Nat) : ((a.getD i []).getD j RD.zero).ws.length ≤ 9223372036854775807 := by
  rcases argM_el h i j with h1 | h1
  · have := h1.2.1
    unfold maxLen at this; omega
  · rw [h1]; exact Nat.zero_le _
theorem few_el {x : RD} (h : x.arg0) (f : fewX x) : okR 96 x ∧ x.dy.d ≤ 60 := by
  have ho : x.ok := ⟨h.1, by have := f.1; omega⟩
  have ha := RD.arg ho
  refine ⟨⟨ho, ha.mg (k := 3) f.1⟩, ?_⟩
  have := ha.den (k := 60) f.2 (by omega)
  unfold dn at this; omega
theorem okR_zero (k : Nat) : okR k RD.zero := ⟨⟨Wd.nil, Nat.zero_le _⟩, by rw [RD.dy_zero]; exact Mg.zero _⟩
theorem few_okM {a : List (List RD)} (h : argM a) (f : fewM a) : okM 96 a ∧ fine 60 (dyM a) := by
  have key : ∀ i j, okR 96 ((a.getD i []).getD j RD.zero) ∧ ((a.getD i []).getD j RD.zero).dy.d ≤ 60 := fun i j => by
    rcases argM_el h i j with h1 | h1
    · by_cases hi : i < a.length
      · by_cases hj : j < (a.getD i []).length
        · exact few_el h1 ((f.1.2 i hi).2 j hj)
        · have e : (a.getD i []).getD j RD.zero = RD.zero := by
            generalize a.getD i [] = y at *
            rw [List.getD, List.getElem?_eq_none (by omega)]; rfl
          rw [e]; exact ⟨okR_zero _, by rw [RD.dy_zero]; exact Nat.zero_le _⟩
      · have e : a.getD i [] = [] := by rw [List.getD, List.getElem?_eq_none (by omega)]; rfl
        have e2 : (a.getD i []).getD j RD.zero = RD.zero := by rw [e]; rfl
        rw [e2]; exact ⟨okR_zero _, by rw [RD.dy_zero]; exact Nat.zero_le _⟩
    · rw [h1]; exact ⟨okR_zero _, by rw [RD.dy_zero]; exact Nat.zero_le _⟩
  exact ⟨fun i j => (key i j).1, fun i j => by rw [dyM_el]; exact (key i j).2⟩
theorem few_ok {a : List (List RD)} (hl : a.length ≤ 9223372036854775807) (h : argM a) : CallOK Tryd.prog gl 38 [.sl 1 (mrows a)] (.v (.bool (decide (fewM a)))) := law04_few a hl (argM_row h) (argM_ws h)
end Go.Proofs.YtdjgckcninibhaaDoor
