import Derived.Test.YtdjgckcninibhaaGreatDoorRows
import Derived.Test.YtdjgckcninibhaaGreatDoorCards
import Derived.Test.YtdjgckcninibhaaGreatDoorTie
import Derived.SevenTiedAt
import Derived.Test.YtdjgckcninibhaaGreatDoorMatrixComputesA
import Derived.Test.YtdjgckcninibhaaGreatDoorMatrixComputesJ
import Derived.Test.YtdjgckcninibhaaGreatDoorU3
set_option linter.unusedSimpArgs false
set_option linter.unusedVariables false
set_option linter.deprecated false
set_option maxRecDepth 100000
set_option maxHeartbeats 2000000
namespace Go.Proofs.YtdjgckcninibhaaGreatDoor.matrixComputes
open Go Go.Ax Go.ChangeShapes Go.WideShapes Go.ChangeAt Go.RowKit
theorem over : Rows.matrixComputesRow.holds Tryz.pinned (OpenSpec.ofChange Rows.matrixComputesSpec) :=
  OpenClaim.holds_of_wide 13 Tryz.f13 rfl rfl rfl rfl rfl rfl rfl ⟨rfl, rfl, rfl, rfl, rfl⟩ rfl rfl rfl rfl rfl (by kernel_rfl) Tryz.func13 jf
    (of_decide_eq_true (by kernel_rfl)) (by unfold Func.isWrapper; first | (rw [if_pos (by decide +kernel)]; kernel_rfl) | (rw [if_neg (by decide +kernel)]; exact ⟨rfl, rfl⟩))
    (fun os started H enc _ => lifted os started H enc)

theorem pw : Rows.matrixComputesRow.wfByText (OpenSpec.ofChange Rows.matrixComputesSpec) = true := by kernel_rfl
theorem pm : Tryz.pinned.checked.prog.mainIs = some (Rows.matrixComputesCard.stood.harness.1, Rows.matrixComputesCard.stood.harness.2.toList) := by kernel_rfl
theorem pl : Rows.matrixComputesCard.stood.looks = Tryz.pinned.checked.prog.looks [] := by kernel_rfl
theorem ph : ([30, 30, 31].all fun u => !Tryz.prog.wantsStandIn u) = true := by kernel_rfl
theorem pg : false = Rows.matrixComputesRow.goesBy Tryz.pinned.checked.prog := by kernel_rfl
theorem proved : Rows.MatrixComputesCardSaid :=
  Claim7.holds_tied_plain_at Rows.matrixComputesCard.laidLooks [] Rows.matrixComputesCard.laidKinds Rows.matrixComputesCard.laidTests Rows.matrixComputesCard.stood.harness Rows.matrixComputesCard.stood.looks over (fun _ h => by cases h) pw (fun _ h => by cases h) matrixComputes_row_tie rfl ⟨rfl, rfl⟩ pm rfl
    (fun f fn hf hfn => by
      obtain rfl : f = 13 := Option.some.inj ((show Tryz.prog.funcNamed "commutator/commutatorlaw04.MatrixComputes" = some 13 by kernel_rfl).symm.trans hf) |>.symm
      obtain rfl : fn = Tryz.f13 := (Option.some.inj (Tryz.func13.symm.trans hfn)).symm
      exact ⟨pl, fun j t ht => by
        rw [Tryz.params13] at ht
        have hm : t ∈ [30, 30, 31] := by simpa using Array.mem_of_getElem? ht
        have hall : ([30, 30, 31].all fun u => !Tryz.prog.wantsStandIn u) = true := ph
        exact (show Tryz.prog.wantsStandIn t = false by simpa using List.all_eq_true.1 hall t hm)⟩)
    pg
end Go.Proofs.YtdjgckcninibhaaGreatDoor.matrixComputes
