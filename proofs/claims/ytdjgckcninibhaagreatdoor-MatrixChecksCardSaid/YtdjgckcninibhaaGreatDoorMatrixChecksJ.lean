import Derived.Test.YtdjgckcninibhaaGreatDoorRows
import Derived.Test.YtdjgckcninibhaaGreatDoorCards
import Derived.Test.YtdjgckcninibhaaGreatDoorTie
import Derived.SevenTiedAt
import Derived.JoinedOf
import Derived.Test.YtdjgckcninibhaaGreatDoorTy
import Derived.Test.YtdjgckcninibhaaGreatDoorU3
set_option linter.unusedSimpArgs false
set_option linter.unusedVariables false
set_option linter.deprecated false
set_option maxRecDepth 100000
set_option maxHeartbeats 2000000
namespace Go.Proofs.YtdjgckcninibhaaGreatDoor.matrixChecks
open Go Go.Ax Go.ChangeShapes Go.WideShapes Go.ChangeAt Go.RowKit
theorem an {a b : Bool} (h : a = true) (k : b = true) : (a && b) = true := by rw [h, k]; rfl
theorem jf0 : (Rows.matrixChecksRow.wf (OpenSpec.ofChange Rows.matrixChecksSpec)) = true := by kernel_rfl
theorem jf1 : (laidOutB Tryz.pinned.checked.prog) = true := by kernel_rfl
theorem jf2 : (mapsRowed Tryz.pinned.checked.prog) = true := by kernel_rfl
theorem jf3 : (Tryz.f14.params.all (Tryz.pinned.checked.prog.readableRec ·)) = true := by kernel_rfl
theorem jf4 : (namedTie Tryz.pinned.checked.prog Rows.matrixChecksRow.named Rows.matrixChecksSpec.vars) = true := by kernel_rfl
theorem jf5 : ((Rows.matrixChecksRow.stops == [])) = true := by kernel_rfl
theorem jf6 : ((Tryz.pinned.checked.prog.stops == [])) = true := by kernel_rfl
theorem jf7 : ((Rows.matrixChecksRow.knobs == [])) = true := by kernel_rfl
theorem jf8 : ((Tryz.pinned.checked.prog.stopKnobs == [])) = true := by kernel_rfl
theorem jf9 : ((Rows.matrixChecksRow.inPlace == Tryz.pinned.checked.prog.inPlace 14)) = true := by kernel_rfl
theorem jf10 : ((Rows.matrixChecksRow.unfollowed == Tryz.pinned.checked.prog.unfollowed 14)) = true := by kernel_rfl
theorem jf11 : ((Rows.matrixChecksRow.recurses == Tryz.pinned.checked.prog.recurses 14)) = true := by kernel_rfl
theorem jf12 : ((Rows.matrixChecksRow.named == Tryz.pinned.checked.prog.varsNamed 14)) = true := by kernel_rfl
theorem jf13 : ((Rows.matrixChecksRow.maps == (Tryz.f14.params.toList ++ Rows.matrixChecksSpec.plain.varTypes Tryz.pinned.checked.prog).any (Tryz.pinned.checked.prog.mapsRec ·))) = true := by kernel_rfl
theorem jf14 : ((Rows.matrixChecksRow.ifaces == (Tryz.f14.params.toList ++ Rows.matrixChecksSpec.plain.varTypes Tryz.pinned.checked.prog).any (Tryz.pinned.checked.prog.ifacesRec ·))) = true := by kernel_rfl
theorem jf15 : ((Rows.matrixChecksRow.mapsOut == Tryz.pinned.checked.prog.mapsAmong Tryz.f14.resultTypes.toList)) = true := by kernel_rfl
theorem jf16 : ((Rows.matrixChecksRow.loops == (Tryz.f14.params.toList ++ Rows.matrixChecksSpec.plain.varTypes Tryz.pinned.checked.prog).any (Tryz.pinned.checked.prog.loopsFrom ·))) = true := by kernel_rfl
theorem jf17 : ((Rows.matrixChecksRow.wideKeys == (Tryz.f14.params.toList ++ Rows.matrixChecksSpec.plain.varTypes Tryz.pinned.checked.prog ++ Tryz.f14.resultTypes.toList).any (Tryz.pinned.checked.prog.wideKeysFrom ·))) = true := by kernel_rfl
theorem jf18 : (Rows.matrixChecksSpec.vars.all (Tryz.pinned.checked.prog.varReadable ·)) = true := by kernel_rfl
theorem jf19 : (Tryz.f14.resultTypes.all (fun t => Tryz.pinned.checked.prog.readableRec t && decide (t < Tryz.pinned.checked.prog.types.size))) = true := by kernel_rfl
theorem jf20 : ((Rows.matrixChecksRow.ifacesOut == Tryz.f14.resultTypes.toList.any (Tryz.pinned.checked.prog.ifacesRec ·))) = true := by kernel_rfl
theorem jf21 : ((Rows.matrixChecksRow.loopsOut == Tryz.f14.resultTypes.toList.any (Tryz.pinned.checked.prog.loopsFrom ·))) = true := by kernel_rfl
theorem jf22 : ((Rows.matrixChecksRow.plainKeys == Tryz.pinned.checked.prog.plainKeys)) = true := by kernel_rfl
theorem jf23 : (Rows.matrixChecksRow.shortTexts.isNone) = true := by kernel_rfl
theorem jf24 : (Tryz.pinned.checked.prog.stopsHeard) = true := by kernel_rfl
theorem jf25 : (Tryz.pinned.checked.prog.mayEnter) = true := by kernel_rfl
theorem jf26 : ((Rows.matrixChecksRow.lifted == Tryz.pinned.checked.prog.liftsFinal)) = true := by kernel_rfl
theorem jf27 : ((Tryz.pinned.checked.prog.make == some Rows.matrixChecksRow.make)) = true := by kernel_rfl
theorem jf28 : ((Rows.matrixChecksRow.kinds == (if Rows.matrixChecksRow.domain.isEmpty then [] else Tryz.f14.params.toList.map fun t => match Tryz.pinned.checked.prog.underlying t with | some (.int k) => some k | _ => none))) = true := by kernel_rfl
theorem jf29 : ((Rows.matrixChecksRow.pinned == Rows.matrixChecksRow.pinnedBy)) = true := by kernel_rfl
theorem jf30 : ((Rows.matrixChecksRow.veiled == (Tryz.f14.params.toList ++ Rows.matrixChecksSpec.plain.varTypes Tryz.pinned.checked.prog ++ Tryz.f14.resultTypes.toList).any (Tryz.pinned.checked.prog.veiledRec ·))) = true := by kernel_rfl
theorem jf31 : (Rows.matrixChecksRow.veiledFits Tryz.pinned.checked.prog Tryz.f14.params.toList (Tryz.f14.params.toList ++ Rows.matrixChecksSpec.plain.varTypes Tryz.pinned.checked.prog ++ Tryz.f14.resultTypes.toList)) = true := by kernel_rfl
theorem jf : joinedFacts Tryz.pinned.checked.prog 14 Tryz.f14 Rows.matrixChecksSpec Rows.matrixChecksRow = true := by
  unfold joinedFacts
  exact an (an (an (an (an (an (an (an (an (an (an (an (an (an (an (an (an (an (an (an (an (an (an (an (an (an (an (an (an (an (an jf0 jf1) jf2) jf3) jf4) jf5) jf6) jf7) jf8) jf9) jf10) jf11) jf12) jf13) jf14) jf15) jf16) jf17) jf18) jf19) jf20) jf21) jf22) jf23) jf24) jf25) jf26) jf27) jf28) jf29) jf30) jf31
end Go.Proofs.YtdjgckcninibhaaGreatDoor.matrixChecks
