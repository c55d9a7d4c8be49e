import Derived.Test.YtdjgckcninibhaaGreatDoorRows
import Derived.Test.YtdjgckcninibhaaGreatDoorCards
import Derived.Test.YtdjgckcninibhaaGreatDoorTie
import Derived.SevenTiedAt
import Derived.Test.YtdjgckcninibhaaGreatDoorMatrixChecksA
import Derived.Test.YtdjgckcninibhaaGreatDoorMatrixChecksJ
import Derived.Test.YtdjgckcninibhaaGreatDoorU3
set_option linter.unusedSimpArgs false
set_option linter.unusedVariables false
set_option linter.deprecated false
set_option maxRecDepth 100000
set_option maxHeartbeats 2000000
namespace Go.Proofs.YtdjgckcninibhaaGreatDoor.matrixChecks
open Go Go.Ax Go.ChangeShapes Go.WideShapes Go.ChangeAt Go.RowKit
theorem over : Rows.matrixChecksRow.holds Tryz.pinned (OpenSpec.ofChange Rows.matrixChecksSpec) :=
  OpenClaim.holds_of_wide 14 Tryz.f14 rfl rfl rfl rfl rfl rfl rfl ⟨rfl, rfl, rfl, rfl, rfl⟩ rfl rfl rfl rfl rfl (by kernel_rfl) Tryz.func14 jf
    (of_decide_eq_true (by kernel_rfl)) (by unfold Func.isWrapper; first | (rw [if_pos (by decide +kernel)]; kernel_rfl) | (rw [if_neg (by decide +kernel)]; exact ⟨rfl, rfl⟩))
    (fun os started H enc _ => lifted os started H enc)

theorem pw : Rows.matrixChecksRow.wfByText (OpenSpec.ofChange Rows.matrixChecksSpec) = true := by kernel_rfl
theorem pm : Tryz.pinned.checked.prog.mainIs = some (Rows.matrixChecksCard.stood.harness.1, Rows.matrixChecksCard.stood.harness.2.toList) := by kernel_rfl
theorem pl : Rows.matrixChecksCard.stood.looks = Tryz.pinned.checked.prog.looks [] := by kernel_rfl
theorem ph : ([30, 31, 3].all fun u => !Tryz.prog.wantsStandIn u) = true := by kernel_rfl
theorem pg : false = Rows.matrixChecksRow.goesBy Tryz.pinned.checked.prog := by kernel_rfl
theorem proved : Rows.MatrixChecksCardSaid :=
  Claim7.holds_tied_plain_at Rows.matrixChecksCard.laidLooks [] Rows.matrixChecksCard.laidKinds Rows.matrixChecksCard.laidTests Rows.matrixChecksCard.stood.harness Rows.matrixChecksCard.stood.looks over (fun _ h => by cases h) pw (fun _ h => by cases h) matrixChecks_row_tie rfl ⟨rfl, rfl⟩ pm rfl
    (fun f fn hf hfn => by
      obtain rfl : f = 14 := Option.some.inj ((show Tryz.prog.funcNamed "commutator/commutatorlaw04.MatrixChecks" = some 14 by kernel_rfl).symm.trans hf) |>.symm
      obtain rfl : fn = Tryz.f14 := (Option.some.inj (Tryz.func14.symm.trans hfn)).symm
      exact ⟨pl, fun j t ht => by
        rw [Tryz.params14] at ht
        have hm : t ∈ [30, 31, 3] := by simpa using Array.mem_of_getElem? ht
        have hall : ([30, 31, 3].all fun u => !Tryz.prog.wantsStandIn u) = true := ph
        exact (show Tryz.prog.wantsStandIn t = false by simpa using List.all_eq_true.1 hall t hm)⟩)
    pg
end Go.Proofs.YtdjgckcninibhaaGreatDoor.matrixChecks
