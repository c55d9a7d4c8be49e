import Derived.Test.YtdjgckcninibhaaGreatDoorRows
import Derived.Test.YtdjgckcninibhaaGreatDoorCards
import Derived.Test.YtdjgckcninibhaaGreatDoorTie
import Derived.SevenTiedAt
import Derived.JoinedOf
import Derived.Test.YtdjgckcninibhaaGreatDoorTy
import Derived.Test.YtdjgckcninibhaaGreatDoorU3
set_option linter.unusedSimpArgs false
set_option linter.unusedVariables false
set_option linter.deprecated false
set_option maxRecDepth 100000
set_option maxHeartbeats 2000000
namespace Go.Proofs.YtdjgckcninibhaaGreatDoor.matrixBounds
open Go Go.Ax Go.ChangeShapes Go.WideShapes Go.ChangeAt Go.RowKit
theorem an {a b : Bool} (h : a = true) (k : b = true) : (a && b) = true := by rw [h, k]; rfl
theorem jf0 : (Rows.matrixBoundsRow.wf (OpenSpec.ofChange Rows.matrixBoundsSpec)) = true := by kernel_rfl
theorem jf1 : (laidOutB Tryz.pinned.checked.prog) = true := by kernel_rfl
theorem jf2 : (mapsRowed Tryz.pinned.checked.prog) = true := by kernel_rfl
theorem jf3 : (Tryz.f12.params.all (Tryz.pinned.checked.prog.readableRec ·)) = true := by kernel_rfl
theorem jf4 : (namedTie Tryz.pinned.checked.prog Rows.matrixBoundsRow.named Rows.matrixBoundsSpec.vars) = true := by kernel_rfl
theorem jf5 : ((Rows.matrixBoundsRow.stops == [])) = true := by kernel_rfl
theorem jf6 : ((Tryz.pinned.checked.prog.stops == [])) = true := by kernel_rfl
theorem jf7 : ((Rows.matrixBoundsRow.knobs == [])) = true := by kernel_rfl
theorem jf8 : ((Tryz.pinned.checked.prog.stopKnobs == [])) = true := by kernel_rfl
theorem jf9 : ((Rows.matrixBoundsRow.inPlace == Tryz.pinned.checked.prog.inPlace 12)) = true := by kernel_rfl
theorem jf10 : ((Rows.matrixBoundsRow.unfollowed == Tryz.pinned.checked.prog.unfollowed 12)) = true := by kernel_rfl
theorem jf11 : ((Rows.matrixBoundsRow.recurses == Tryz.pinned.checked.prog.recurses 12)) = true := by kernel_rfl
theorem jf12 : ((Rows.matrixBoundsRow.named == Tryz.pinned.checked.prog.varsNamed 12)) = true := by kernel_rfl
theorem jf13 : ((Rows.matrixBoundsRow.maps == (Tryz.f12.params.toList ++ Rows.matrixBoundsSpec.plain.varTypes Tryz.pinned.checked.prog).any (Tryz.pinned.checked.prog.mapsRec ·))) = true := by kernel_rfl
theorem jf14 : ((Rows.matrixBoundsRow.ifaces == (Tryz.f12.params.toList ++ Rows.matrixBoundsSpec.plain.varTypes Tryz.pinned.checked.prog).any (Tryz.pinned.checked.prog.ifacesRec ·))) = true := by kernel_rfl
theorem jf15 : ((Rows.matrixBoundsRow.mapsOut == Tryz.pinned.checked.prog.mapsAmong Tryz.f12.resultTypes.toList)) = true := by kernel_rfl
theorem jf16 : ((Rows.matrixBoundsRow.loops == (Tryz.f12.params.toList ++ Rows.matrixBoundsSpec.plain.varTypes Tryz.pinned.checked.prog).any (Tryz.pinned.checked.prog.loopsFrom ·))) = true := by kernel_rfl
theorem jf17 : ((Rows.matrixBoundsRow.wideKeys == (Tryz.f12.params.toList ++ Rows.matrixBoundsSpec.plain.varTypes Tryz.pinned.checked.prog ++ Tryz.f12.resultTypes.toList).any (Tryz.pinned.checked.prog.wideKeysFrom ·))) = true := by kernel_rfl
theorem jf18 : (Rows.matrixBoundsSpec.vars.all (Tryz.pinned.checked.prog.varReadable ·)) = true := by kernel_rfl
theorem jf19 : (Tryz.f12.resultTypes.all (fun t => Tryz.pinned.checked.prog.readableRec t && decide (t < Tryz.pinned.checked.prog.types.size))) = true := by kernel_rfl
theorem jf20 : ((Rows.matrixBoundsRow.ifacesOut == Tryz.f12.resultTypes.toList.any (Tryz.pinned.checked.prog.ifacesRec ·))) = true := by kernel_rfl
theorem jf21 : ((Rows.matrixBoundsRow.loopsOut == Tryz.f12.resultTypes.toList.any (Tryz.pinned.checked.prog.loopsFrom ·))) = true := by kernel_rfl
theorem jf22 : ((Rows.matrixBoundsRow.plainKeys == Tryz.pinned.checked.prog.plainKeys)) = true := by kernel_rfl
theorem jf23 : (Rows.matrixBoundsRow.shortTexts.isNone) = true := by kernel_rfl
theorem jf24 : (Tryz.pinned.checked.prog.stopsHeard) = true := by kernel_rfl
theorem jf25 : (Tryz.pinned.checked.prog.mayEnter) = true := by kernel_rfl
theorem jf26 : ((Rows.matrixBoundsRow.lifted == Tryz.pinned.checked.prog.liftsFinal)) = true := by kernel_rfl
theorem jf27 : ((Tryz.pinned.checked.prog.make == some Rows.matrixBoundsRow.make)) = true := by kernel_rfl
theorem jf28 : ((Rows.matrixBoundsRow.kinds == (if Rows.matrixBoundsRow.domain.isEmpty then [] else Tryz.f12.params.toList.map fun t => match Tryz.pinned.checked.prog.underlying t with | some (.int k) => some k | _ => none))) = true := by kernel_rfl
theorem jf29 : ((Rows.matrixBoundsRow.pinned == Rows.matrixBoundsRow.pinnedBy)) = true := by kernel_rfl
theorem jf30 : ((Rows.matrixBoundsRow.veiled == (Tryz.f12.params.toList ++ Rows.matrixBoundsSpec.plain.varTypes Tryz.pinned.checked.prog ++ Tryz.f12.resultTypes.toList).any (Tryz.pinned.checked.prog.veiledRec ·))) = true := by kernel_rfl
theorem jf31 : (Rows.matrixBoundsRow.veiledFits Tryz.pinned.checked.prog Tryz.f12.params.toList (Tryz.f12.params.toList ++ Rows.matrixBoundsSpec.plain.varTypes Tryz.pinned.checked.prog ++ Tryz.f12.resultTypes.toList)) = true := by kernel_rfl
theorem jf : joinedFacts Tryz.pinned.checked.prog 12 Tryz.f12 Rows.matrixBoundsSpec Rows.matrixBoundsRow = true := by
  unfold joinedFacts
  exact an (an (an (an (an (an (an (an (an (an (an (an (an (an (an (an (an (an (an (an (an (an (an (an (an (an (an (an (an (an (an jf0 jf1) jf2) jf3) jf4) jf5) jf6) jf7) jf8) jf9) jf10) jf11) jf12) jf13) jf14) jf15) jf16) jf17) jf18) jf19) jf20) jf21) jf22) jf23) jf24) jf25) jf26) jf27) jf28) jf29) jf30) jf31
end Go.Proofs.YtdjgckcninibhaaGreatDoor.matrixBounds
