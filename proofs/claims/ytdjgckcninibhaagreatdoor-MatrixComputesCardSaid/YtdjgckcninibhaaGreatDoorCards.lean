/-
  DERIVED. GIVEN WITH THE SEED: THE CARDS: each row of YtdjgckcninibhaaGreatDoorRows.lean that lists a variable, with what it lists TIED to the program's text (the seventh form; the later family's looks); each row that meets fmt, with fmt's text TOLD by the authors' own Lean function (tested against real Go, not proved from fmt's source: count such statements apart). THE CARD IS WHAT COUNTS. Prove the row's statement (the work); the ties are given (YtdjgckcninibhaaGreatDoorTie.lean); close each card by the builder's one call (the guide's Derived/Test/ToyasCard.lean, 'card_holds'). Laid BY PROGRAM, IN A SANDBOX (cutbox-door.mjs). By AI agents, Wed Nov 11 2026. No macro, syntax, notation, axiom, sorry.
-/
import Derived.Test.YtdjgckcninibhaaGreatDoorRows
import GoSem.ClaimSeven
namespace Go.Proofs.YtdjgckcninibhaaGreatDoor
namespace Rows

/-- THE TIED CARD OF 'commutatorlaw39.ObserverLocks'. -/
def observerLocksCard : Claim7 := { stood := { row := observerLocksRow, standIns := [], harness := (true, "47c91d693224d5a786d329d1a8182cced7b7f267211f7d26b566c8de9e0ad388"), looks := true }, kinds := [], alts := [], laidByText := true, laidKinds := [.data], laidTests := true, laidLooks := .later }
def ObserverLocksCardSaid : Prop := Claim7.holds Tryz.pinned (.plain (OpenSpec.ofChange observerLocksSpec)) observerLocksCard

/-- THE TIED CARD OF 'commutatorlaw38.ServoTracks'. -/
def servoTracksCard : Claim7 := { stood := { row := servoTracksRow, standIns := [], harness := (true, "47c91d693224d5a786d329d1a8182cced7b7f267211f7d26b566c8de9e0ad388"), looks := true }, kinds := [], alts := [], laidByText := true, laidKinds := [.data], laidTests := true, laidLooks := .later }
def ServoTracksCardSaid : Prop := Claim7.holds Tryz.pinned (.plain (OpenSpec.ofChange servoTracksSpec)) servoTracksCard

/-- THE TIED CARD OF 'commutatorlaw18.TubeMakes'. -/
def tubeMakesCard : Claim7 := { stood := { row := tubeMakesRow, standIns := [], harness := (true, "47c91d693224d5a786d329d1a8182cced7b7f267211f7d26b566c8de9e0ad388"), looks := true }, kinds := [], alts := [], laidByText := true, laidKinds := [.data], laidTests := true, laidLooks := .later }
def TubeMakesCardSaid : Prop := Claim7.holds Tryz.pinned (.plain (OpenSpec.ofChange tubeMakesSpec)) tubeMakesCard

/-- THE TIED CARD OF 'commutatorlaw18.TubeFinds'. -/
def tubeFindsCard : Claim7 := { stood := { row := tubeFindsRow, standIns := [], harness := (true, "47c91d693224d5a786d329d1a8182cced7b7f267211f7d26b566c8de9e0ad388"), looks := true }, kinds := [], alts := [], laidByText := true, laidKinds := [.data], laidTests := true, laidLooks := .later }
def TubeFindsCardSaid : Prop := Claim7.holds Tryz.pinned (.plain (OpenSpec.ofChange tubeFindsSpec)) tubeFindsCard

/-- THE TIED CARD OF 'commutatorlaw18.TubeReaches'. -/
def tubeReachesCard : Claim7 := { stood := { row := tubeReachesRow, standIns := [], harness := (true, "47c91d693224d5a786d329d1a8182cced7b7f267211f7d26b566c8de9e0ad388"), looks := true }, kinds := [], alts := [], laidByText := true, laidKinds := [.data], laidTests := true, laidLooks := .later }
def TubeReachesCardSaid : Prop := Claim7.holds Tryz.pinned (.plain (OpenSpec.ofChange tubeReachesSpec)) tubeReachesCard

/-- THE TIED CARD OF 'commutatorlaw18.TubeSteps'. -/
def tubeStepsCard : Claim7 := { stood := { row := tubeStepsRow, standIns := [], harness := (true, "47c91d693224d5a786d329d1a8182cced7b7f267211f7d26b566c8de9e0ad388"), looks := true }, kinds := [], alts := [], laidByText := true, laidKinds := [.data], laidTests := true, laidLooks := .later }
def TubeStepsCardSaid : Prop := Claim7.holds Tryz.pinned (.plain (OpenSpec.ofChange tubeStepsSpec)) tubeStepsCard

/-- THE TIED CARD OF 'commutatorlaw18.TubeHolds'. -/
def tubeHoldsCard : Claim7 := { stood := { row := tubeHoldsRow, standIns := [], harness := (true, "47c91d693224d5a786d329d1a8182cced7b7f267211f7d26b566c8de9e0ad388"), looks := true }, kinds := [], alts := [], laidByText := true, laidKinds := [.data], laidTests := true, laidLooks := .later }
def TubeHoldsCardSaid : Prop := Claim7.holds Tryz.pinned (.plain (OpenSpec.ofChange tubeHoldsSpec)) tubeHoldsCard

/-- THE TIED CARD OF 'commutatorlaw03.IntervalComputes'. -/
def intervalComputesCard : Claim7 := { stood := { row := intervalComputesRow, standIns := [], harness := (true, "47c91d693224d5a786d329d1a8182cced7b7f267211f7d26b566c8de9e0ad388"), looks := true }, kinds := [], alts := [], laidByText := true, laidKinds := [.data, .data, .data], laidTests := true, laidLooks := .later }
def IntervalComputesCardSaid : Prop := Claim7.holds Tryz.pinned (.plain (OpenSpec.ofChange intervalComputesSpec)) intervalComputesCard

/-- THE TIED CARD OF 'commutatorlaw04.MatrixVectors'. -/
def matrixVectorsCard : Claim7 := { stood := { row := matrixVectorsRow, standIns := [], harness := (true, "47c91d693224d5a786d329d1a8182cced7b7f267211f7d26b566c8de9e0ad388"), looks := true }, kinds := [], alts := [], laidByText := true, laidKinds := [.data, .data, .data], laidTests := true, laidLooks := .later }
def MatrixVectorsCardSaid : Prop := Claim7.holds Tryz.pinned (.plain (OpenSpec.ofChange matrixVectorsSpec)) matrixVectorsCard

/-- THE TIED CARD OF 'commutatorlaw04.MatrixBounds'. -/
def matrixBoundsCard : Claim7 := { stood := { row := matrixBoundsRow, standIns := [], harness := (true, "47c91d693224d5a786d329d1a8182cced7b7f267211f7d26b566c8de9e0ad388"), looks := true }, kinds := [], alts := [], laidByText := true, laidKinds := [.data, .data, .data], laidTests := true, laidLooks := .later }
def MatrixBoundsCardSaid : Prop := Claim7.holds Tryz.pinned (.plain (OpenSpec.ofChange matrixBoundsSpec)) matrixBoundsCard

/-- THE TIED CARD OF 'commutatorlaw04.MatrixComputes'. -/
def matrixComputesCard : Claim7 := { stood := { row := matrixComputesRow, standIns := [], harness := (true, "47c91d693224d5a786d329d1a8182cced7b7f267211f7d26b566c8de9e0ad388"), looks := true }, kinds := [], alts := [], laidByText := true, laidKinds := [.data, .data, .data], laidTests := true, laidLooks := .later }
def MatrixComputesCardSaid : Prop := Claim7.holds Tryz.pinned (.plain (OpenSpec.ofChange matrixComputesSpec)) matrixComputesCard

/-- THE TIED CARD OF 'commutatorlaw04.MatrixChecks'. -/
def matrixChecksCard : Claim7 := { stood := { row := matrixChecksRow, standIns := [], harness := (true, "47c91d693224d5a786d329d1a8182cced7b7f267211f7d26b566c8de9e0ad388"), looks := true }, kinds := [], alts := [], laidByText := true, laidKinds := [.data, .data, .data], laidTests := true, laidLooks := .later }
def MatrixChecksCardSaid : Prop := Claim7.holds Tryz.pinned (.plain (OpenSpec.ofChange matrixChecksSpec)) matrixChecksCard

/-- THE SECOND FORM's CARD OF 'commutatorlaw39.ObserverLocks'. -/
def observerLocksUptoCard : Claim7 := { stood := { row := observerLocksUptoRow, standIns := [], harness := (true, "47c91d693224d5a786d329d1a8182cced7b7f267211f7d26b566c8de9e0ad388"), looks := true }, kinds := [], alts := [], laidByText := true, laidKinds := [.data], laidTests := true, laidLooks := .later }
def ObserverLocksUptoCardSaid : Prop := Claim7.holds Tryz.pinned (.plain (OpenSpec.upto observerLocksSpec)) observerLocksUptoCard

/-- THE SECOND FORM's CARD OF 'commutatorlaw38.ServoTracks'. -/
def servoTracksUptoCard : Claim7 := { stood := { row := servoTracksUptoRow, standIns := [], harness := (true, "47c91d693224d5a786d329d1a8182cced7b7f267211f7d26b566c8de9e0ad388"), looks := true }, kinds := [], alts := [], laidByText := true, laidKinds := [.data], laidTests := true, laidLooks := .later }
def ServoTracksUptoCardSaid : Prop := Claim7.holds Tryz.pinned (.plain (OpenSpec.upto servoTracksSpec)) servoTracksUptoCard

/-- THE SECOND FORM's CARD OF 'commutatorlaw18.TubeMakes'. -/
def tubeMakesUptoCard : Claim7 := { stood := { row := tubeMakesUptoRow, standIns := [], harness := (true, "47c91d693224d5a786d329d1a8182cced7b7f267211f7d26b566c8de9e0ad388"), looks := true }, kinds := [], alts := [], laidByText := true, laidKinds := [.data], laidTests := true, laidLooks := .later }
def TubeMakesUptoCardSaid : Prop := Claim7.holds Tryz.pinned (.plain (OpenSpec.upto tubeMakesSpec)) tubeMakesUptoCard

/-- THE SECOND FORM's CARD OF 'commutatorlaw18.TubeFinds'. -/
def tubeFindsUptoCard : Claim7 := { stood := { row := tubeFindsUptoRow, standIns := [], harness := (true, "47c91d693224d5a786d329d1a8182cced7b7f267211f7d26b566c8de9e0ad388"), looks := true }, kinds := [], alts := [], laidByText := true, laidKinds := [.data], laidTests := true, laidLooks := .later }
def TubeFindsUptoCardSaid : Prop := Claim7.holds Tryz.pinned (.plain (OpenSpec.upto tubeFindsSpec)) tubeFindsUptoCard

/-- THE SECOND FORM's CARD OF 'commutatorlaw18.TubeReaches'. -/
def tubeReachesUptoCard : Claim7 := { stood := { row := tubeReachesUptoRow, standIns := [], harness := (true, "47c91d693224d5a786d329d1a8182cced7b7f267211f7d26b566c8de9e0ad388"), looks := true }, kinds := [], alts := [], laidByText := true, laidKinds := [.data], laidTests := true, laidLooks := .later }
def TubeReachesUptoCardSaid : Prop := Claim7.holds Tryz.pinned (.plain (OpenSpec.upto tubeReachesSpec)) tubeReachesUptoCard

/-- THE SECOND FORM's CARD OF 'commutatorlaw18.TubeSteps'. -/
def tubeStepsUptoCard : Claim7 := { stood := { row := tubeStepsUptoRow, standIns := [], harness := (true, "47c91d693224d5a786d329d1a8182cced7b7f267211f7d26b566c8de9e0ad388"), looks := true }, kinds := [], alts := [], laidByText := true, laidKinds := [.data], laidTests := true, laidLooks := .later }
def TubeStepsUptoCardSaid : Prop := Claim7.holds Tryz.pinned (.plain (OpenSpec.upto tubeStepsSpec)) tubeStepsUptoCard

/-- THE SECOND FORM's CARD OF 'commutatorlaw18.TubeHolds'. -/
def tubeHoldsUptoCard : Claim7 := { stood := { row := tubeHoldsUptoRow, standIns := [], harness := (true, "47c91d693224d5a786d329d1a8182cced7b7f267211f7d26b566c8de9e0ad388"), looks := true }, kinds := [], alts := [], laidByText := true, laidKinds := [.data], laidTests := true, laidLooks := .later }
def TubeHoldsUptoCardSaid : Prop := Claim7.holds Tryz.pinned (.plain (OpenSpec.upto tubeHoldsSpec)) tubeHoldsUptoCard

/-- THE SECOND FORM's CARD OF 'commutatorlaw03.IntervalComputes'. -/
def intervalComputesUptoCard : Claim7 := { stood := { row := intervalComputesUptoRow, standIns := [], harness := (true, "47c91d693224d5a786d329d1a8182cced7b7f267211f7d26b566c8de9e0ad388"), looks := true }, kinds := [], alts := [], laidByText := true, laidKinds := [.data, .data, .data], laidTests := true, laidLooks := .later }
def IntervalComputesUptoCardSaid : Prop := Claim7.holds Tryz.pinned (.plain (OpenSpec.upto intervalComputesSpec)) intervalComputesUptoCard

/-- THE SECOND FORM's CARD OF 'commutatorlaw04.MatrixVectors'. -/
def matrixVectorsUptoCard : Claim7 := { stood := { row := matrixVectorsUptoRow, standIns := [], harness := (true, "47c91d693224d5a786d329d1a8182cced7b7f267211f7d26b566c8de9e0ad388"), looks := true }, kinds := [], alts := [], laidByText := true, laidKinds := [.data, .data, .data], laidTests := true, laidLooks := .later }
def MatrixVectorsUptoCardSaid : Prop := Claim7.holds Tryz.pinned (.plain (OpenSpec.upto matrixVectorsSpec)) matrixVectorsUptoCard

/-- THE SECOND FORM's CARD OF 'commutatorlaw04.MatrixBounds'. -/
def matrixBoundsUptoCard : Claim7 := { stood := { row := matrixBoundsUptoRow, standIns := [], harness := (true, "47c91d693224d5a786d329d1a8182cced7b7f267211f7d26b566c8de9e0ad388"), looks := true }, kinds := [], alts := [], laidByText := true, laidKinds := [.data, .data, .data], laidTests := true, laidLooks := .later }
def MatrixBoundsUptoCardSaid : Prop := Claim7.holds Tryz.pinned (.plain (OpenSpec.upto matrixBoundsSpec)) matrixBoundsUptoCard

/-- THE SECOND FORM's CARD OF 'commutatorlaw04.MatrixComputes'. -/
def matrixComputesUptoCard : Claim7 := { stood := { row := matrixComputesUptoRow, standIns := [], harness := (true, "47c91d693224d5a786d329d1a8182cced7b7f267211f7d26b566c8de9e0ad388"), looks := true }, kinds := [], alts := [], laidByText := true, laidKinds := [.data, .data, .data], laidTests := true, laidLooks := .later }
def MatrixComputesUptoCardSaid : Prop := Claim7.holds Tryz.pinned (.plain (OpenSpec.upto matrixComputesSpec)) matrixComputesUptoCard

/-- THE SECOND FORM's CARD OF 'commutatorlaw04.MatrixChecks'. -/
def matrixChecksUptoCard : Claim7 := { stood := { row := matrixChecksUptoRow, standIns := [], harness := (true, "47c91d693224d5a786d329d1a8182cced7b7f267211f7d26b566c8de9e0ad388"), looks := true }, kinds := [], alts := [], laidByText := true, laidKinds := [.data, .data, .data], laidTests := true, laidLooks := .later }
def MatrixChecksUptoCardSaid : Prop := Claim7.holds Tryz.pinned (.plain (OpenSpec.upto matrixChecksSpec)) matrixChecksUptoCard
end Rows
end Go.Proofs.YtdjgckcninibhaaGreatDoor
