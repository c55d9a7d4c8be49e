/- The plain division of the reference (ref02), part 2: minus, its first argument a private slice. -/
import Derived.Test.YtdjgckcninibhaaGreatDoorQuo1
import Derived.Test.YtdjgckcninibhaaGreatDoorRef4
import Derived.Test.YtdjgckcninibhaaGreatDoorU4
set_option linter.unusedSimpArgs false
set_option linter.unusedVariables false
set_option linter.deprecated false
namespace Go.Proofs.YtdjgckcninibhaaGreatDoor
open Go Go.Ax
set_option maxRecDepth 100000
set_option maxHeartbeats 4000000

end Go.Proofs.YtdjgckcninibhaaGreatDoor
/- The plain division of the reference (ref02), part 3: divide. -/
set_option linter.unusedSimpArgs false
set_option linter.unusedVariables false
set_option linter.deprecated false
namespace Go.Proofs.YtdjgckcninibhaaGreatDoor
open Go Go.Ax
set_option maxRecDepth 100000
set_option maxHeartbeats 4000000

theorem byRn {b0 b1 : Nat} {l l' : List AV} (h : PubL (Rn b0 b1) l l' := by (repeat' (first | exact .nil | refine .cons ?_ ?_ | exact .ps0 _ _ _ | exact .p0 _ _ _ | exact .cl (Cl.u32s) (.refl _) | exact .cl (Cl.v _) (.refl _)))) : PubL (Rn b0 b1) l l' := h
theorem byNoe {b : Nat} {l : List (Nat × AV)} (h : noE b l := by (repeat' (first | exact trivial | exact .v | exact .p (Nat.ne_of_beq_eq_false rfl) | exact .ps (Nat.ne_of_beq_eq_false rfl) | exact .top | exact .cl Cl.u32s | exact .cl (Cl.v _) | refine And.intro ?_ ?_))) : noE b l := h
theorem u32s_clM {ws : List Nat} : ∀ r ∈ u32s ws, ∀ a ∈ r, Cl a := fun r hr a ha => by
  obtain ⟨w, _, rfl⟩ := u32s_mem hr
  simp only [u32, List.mem_cons, List.not_mem_nil, or_false] at ha
  subst ha; exact Cl.v _
end Go.Proofs.YtdjgckcninibhaaGreatDoor
