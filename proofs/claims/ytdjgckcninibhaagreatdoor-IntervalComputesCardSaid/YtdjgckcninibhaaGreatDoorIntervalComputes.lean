import Derived.Test.YtdjgckcninibhaaGreatDoorRows
import Derived.Test.YtdjgckcninibhaaGreatDoorCards
import Derived.Test.YtdjgckcninibhaaGreatDoorTie
import Derived.SevenTiedAt
import Derived.Test.YtdjgckcninibhaaGreatDoorIntervalComputesA
import Derived.Test.YtdjgckcninibhaaGreatDoorIntervalComputesJ
import Derived.Test.YtdjgckcninibhaaGreatDoorU3
set_option linter.unusedSimpArgs false
set_option linter.unusedVariables false
set_option linter.deprecated false
set_option maxRecDepth 100000
set_option maxHeartbeats 2000000
namespace Go.Proofs.YtdjgckcninibhaaGreatDoor.intervalComputes
open Go Go.Ax Go.ChangeShapes Go.WideShapes Go.ChangeAt Go.RowKit
theorem over : Rows.intervalComputesRow.holds Tryz.pinned (OpenSpec.ofChange Rows.intervalComputesSpec) :=
  OpenClaim.holds_of_wide 10 Tryz.f10 rfl rfl rfl rfl rfl rfl rfl ⟨rfl, rfl, rfl, rfl, rfl⟩ rfl rfl rfl rfl rfl (by kernel_rfl) Tryz.func10 jf
    (of_decide_eq_true (by kernel_rfl)) (by unfold Func.isWrapper; first | (rw [if_pos (by decide +kernel)]; kernel_rfl) | (rw [if_neg (by decide +kernel)]; exact ⟨rfl, rfl⟩))
    (fun os started H enc _ => lifted os started H enc)

theorem pw : Rows.intervalComputesRow.wfByText (OpenSpec.ofChange Rows.intervalComputesSpec) = true := by kernel_rfl
theorem pm : Tryz.pinned.checked.prog.mainIs = some (Rows.intervalComputesCard.stood.harness.1, Rows.intervalComputesCard.stood.harness.2.toList) := by kernel_rfl
theorem pl : Rows.intervalComputesCard.stood.looks = Tryz.pinned.checked.prog.looks [] := by kernel_rfl
theorem ph : ([114, 114].all fun u => !Tryz.prog.wantsStandIn u) = true := by kernel_rfl
theorem pg : false = Rows.intervalComputesRow.goesBy Tryz.pinned.checked.prog := by kernel_rfl
theorem proved : Rows.IntervalComputesCardSaid :=
  Claim7.holds_tied_plain_at Rows.intervalComputesCard.laidLooks [] Rows.intervalComputesCard.laidKinds Rows.intervalComputesCard.laidTests Rows.intervalComputesCard.stood.harness Rows.intervalComputesCard.stood.looks over (fun _ h => by cases h) pw (fun _ h => by cases h) intervalComputes_row_tie rfl ⟨rfl, rfl⟩ pm rfl
    (fun f fn hf hfn => by
      obtain rfl : f = 10 := Option.some.inj ((show Tryz.prog.funcNamed "commutator/commutatorlaw03.IntervalComputes" = some 10 by kernel_rfl).symm.trans hf) |>.symm
      obtain rfl : fn = Tryz.f10 := (Option.some.inj (Tryz.func10.symm.trans hfn)).symm
      exact ⟨pl, fun j t ht => by
        rw [Tryz.params10] at ht
        have hm : t ∈ [114, 114] := by simpa using Array.mem_of_getElem? ht
        have hall : ([114, 114].all fun u => !Tryz.prog.wantsStandIn u) = true := ph
        exact (show Tryz.prog.wantsStandIn t = false by simpa using List.all_eq_true.1 hall t hm)⟩)
    pg
end Go.Proofs.YtdjgckcninibhaaGreatDoor.intervalComputes
