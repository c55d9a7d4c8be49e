/-
  DERIVED. GIVEN WITH THE SEED: THE CARDS: each row of YtpggiabnhodjpaaGreatDoorRows.lean that lists a variable, with what it lists TIED to the program's text (the seventh form; the later family's looks); each row that meets fmt, with fmt's text TOLD by the authors' own Lean function (tested against real Go, not proved from fmt's source: count such statements apart). THE CARD IS WHAT COUNTS. Prove the row's statement (the work); the ties are given (YtpggiabnhodjpaaGreatDoorTie.lean); close each card by the builder's one call (the guide's Derived/Test/ToyasCard.lean, 'card_holds'). Laid BY PROGRAM, IN A SANDBOX (cutbox-door.mjs). By AI agents, Wed Nov 11 2026. No macro, syntax, notation, axiom, sorry.
-/
import Derived.Test.YtpggiabnhodjpaaGreatDoorRows
import GoSem.ClaimSeven
namespace Go.Proofs.YtpggiabnhodjpaaGreatDoor
namespace Rows

/-- THE TIED CARD OF 'commutatorlaw18.TubeMakes'. -/
def tubeMakesCard : Claim7 := { stood := { row := tubeMakesRow, standIns := [], harness := (true, "135f0690bf21ad588b5d78aa9a27a9a06f05dd6833a5d50e0ecb768080be57d5"), looks := true }, kinds := [], alts := [], laidByText := true, laidKinds := [.data], laidTests := true, laidLooks := .later }
def TubeMakesCardSaid : Prop := Claim7.holds Tryz.pinned (.plain (OpenSpec.ofChange tubeMakesSpec)) tubeMakesCard

/-- THE TIED CARD OF 'commutatorlaw18.TubeFinds'. -/
def tubeFindsCard : Claim7 := { stood := { row := tubeFindsRow, standIns := [], harness := (true, "135f0690bf21ad588b5d78aa9a27a9a06f05dd6833a5d50e0ecb768080be57d5"), looks := true }, kinds := [], alts := [], laidByText := true, laidKinds := [.data], laidTests := true, laidLooks := .later }
def TubeFindsCardSaid : Prop := Claim7.holds Tryz.pinned (.plain (OpenSpec.ofChange tubeFindsSpec)) tubeFindsCard

/-- THE TIED CARD OF 'commutatorlaw18.TubeReaches'. -/
def tubeReachesCard : Claim7 := { stood := { row := tubeReachesRow, standIns := [], harness := (true, "135f0690bf21ad588b5d78aa9a27a9a06f05dd6833a5d50e0ecb768080be57d5"), looks := true }, kinds := [], alts := [], laidByText := true, laidKinds := [.data], laidTests := true, laidLooks := .later }
def TubeReachesCardSaid : Prop := Claim7.holds Tryz.pinned (.plain (OpenSpec.ofChange tubeReachesSpec)) tubeReachesCard

/-- THE TIED CARD OF 'commutatorlaw18.TubeSteps'. -/
def tubeStepsCard : Claim7 := { stood := { row := tubeStepsRow, standIns := [], harness := (true, "135f0690bf21ad588b5d78aa9a27a9a06f05dd6833a5d50e0ecb768080be57d5"), looks := true }, kinds := [], alts := [], laidByText := true, laidKinds := [.data], laidTests := true, laidLooks := .later }
def TubeStepsCardSaid : Prop := Claim7.holds Tryz.pinned (.plain (OpenSpec.ofChange tubeStepsSpec)) tubeStepsCard

/-- THE TIED CARD OF 'commutatorlaw18.TubeHolds'. -/
def tubeHoldsCard : Claim7 := { stood := { row := tubeHoldsRow, standIns := [], harness := (true, "135f0690bf21ad588b5d78aa9a27a9a06f05dd6833a5d50e0ecb768080be57d5"), looks := true }, kinds := [], alts := [], laidByText := true, laidKinds := [.data], laidTests := true, laidLooks := .later }
def TubeHoldsCardSaid : Prop := Claim7.holds Tryz.pinned (.plain (OpenSpec.ofChange tubeHoldsSpec)) tubeHoldsCard

/-- THE TIED CARD OF 'commutatorlaw38.ServoTracks'. -/
def servoTracksCard : Claim7 := { stood := { row := servoTracksRow, standIns := [], harness := (true, "135f0690bf21ad588b5d78aa9a27a9a06f05dd6833a5d50e0ecb768080be57d5"), looks := true }, kinds := [], alts := [], laidByText := true, laidKinds := [.data], laidTests := true, laidLooks := .later }
def ServoTracksCardSaid : Prop := Claim7.holds Tryz.pinned (.plain (OpenSpec.ofChange servoTracksSpec)) servoTracksCard

/-- THE TIED CARD OF 'commutatorlaw39.ObserverLocks'. -/
def observerLocksCard : Claim7 := { stood := { row := observerLocksRow, standIns := [], harness := (true, "135f0690bf21ad588b5d78aa9a27a9a06f05dd6833a5d50e0ecb768080be57d5"), looks := true }, kinds := [], alts := [], laidByText := true, laidKinds := [.data], laidTests := true, laidLooks := .later }
def ObserverLocksCardSaid : Prop := Claim7.holds Tryz.pinned (.plain (OpenSpec.ofChange observerLocksSpec)) observerLocksCard

/-- THE SECOND FORM's CARD OF 'commutatorlaw18.TubeMakes'. -/
def tubeMakesUptoCard : Claim7 := { stood := { row := tubeMakesUptoRow, standIns := [], harness := (true, "135f0690bf21ad588b5d78aa9a27a9a06f05dd6833a5d50e0ecb768080be57d5"), looks := true }, kinds := [], alts := [], laidByText := true, laidKinds := [.data], laidTests := true, laidLooks := .later }
def TubeMakesUptoCardSaid : Prop := Claim7.holds Tryz.pinned (.plain (OpenSpec.upto tubeMakesSpec)) tubeMakesUptoCard

/-- THE SECOND FORM's CARD OF 'commutatorlaw18.TubeFinds'. -/
def tubeFindsUptoCard : Claim7 := { stood := { row := tubeFindsUptoRow, standIns := [], harness := (true, "135f0690bf21ad588b5d78aa9a27a9a06f05dd6833a5d50e0ecb768080be57d5"), looks := true }, kinds := [], alts := [], laidByText := true, laidKinds := [.data], laidTests := true, laidLooks := .later }
def TubeFindsUptoCardSaid : Prop := Claim7.holds Tryz.pinned (.plain (OpenSpec.upto tubeFindsSpec)) tubeFindsUptoCard

/-- THE SECOND FORM's CARD OF 'commutatorlaw18.TubeReaches'. -/
def tubeReachesUptoCard : Claim7 := { stood := { row := tubeReachesUptoRow, standIns := [], harness := (true, "135f0690bf21ad588b5d78aa9a27a9a06f05dd6833a5d50e0ecb768080be57d5"), looks := true }, kinds := [], alts := [], laidByText := true, laidKinds := [.data], laidTests := true, laidLooks := .later }
def TubeReachesUptoCardSaid : Prop := Claim7.holds Tryz.pinned (.plain (OpenSpec.upto tubeReachesSpec)) tubeReachesUptoCard

/-- THE SECOND FORM's CARD OF 'commutatorlaw18.TubeSteps'. -/
def tubeStepsUptoCard : Claim7 := { stood := { row := tubeStepsUptoRow, standIns := [], harness := (true, "135f0690bf21ad588b5d78aa9a27a9a06f05dd6833a5d50e0ecb768080be57d5"), looks := true }, kinds := [], alts := [], laidByText := true, laidKinds := [.data], laidTests := true, laidLooks := .later }
def TubeStepsUptoCardSaid : Prop := Claim7.holds Tryz.pinned (.plain (OpenSpec.upto tubeStepsSpec)) tubeStepsUptoCard

/-- THE SECOND FORM's CARD OF 'commutatorlaw18.TubeHolds'. -/
def tubeHoldsUptoCard : Claim7 := { stood := { row := tubeHoldsUptoRow, standIns := [], harness := (true, "135f0690bf21ad588b5d78aa9a27a9a06f05dd6833a5d50e0ecb768080be57d5"), looks := true }, kinds := [], alts := [], laidByText := true, laidKinds := [.data], laidTests := true, laidLooks := .later }
def TubeHoldsUptoCardSaid : Prop := Claim7.holds Tryz.pinned (.plain (OpenSpec.upto tubeHoldsSpec)) tubeHoldsUptoCard

/-- THE SECOND FORM's CARD OF 'commutatorlaw38.ServoTracks'. -/
def servoTracksUptoCard : Claim7 := { stood := { row := servoTracksUptoRow, standIns := [], harness := (true, "135f0690bf21ad588b5d78aa9a27a9a06f05dd6833a5d50e0ecb768080be57d5"), looks := true }, kinds := [], alts := [], laidByText := true, laidKinds := [.data], laidTests := true, laidLooks := .later }
def ServoTracksUptoCardSaid : Prop := Claim7.holds Tryz.pinned (.plain (OpenSpec.upto servoTracksSpec)) servoTracksUptoCard

/-- THE SECOND FORM's CARD OF 'commutatorlaw39.ObserverLocks'. -/
def observerLocksUptoCard : Claim7 := { stood := { row := observerLocksUptoRow, standIns := [], harness := (true, "135f0690bf21ad588b5d78aa9a27a9a06f05dd6833a5d50e0ecb768080be57d5"), looks := true }, kinds := [], alts := [], laidByText := true, laidKinds := [.data], laidTests := true, laidLooks := .later }
def ObserverLocksUptoCardSaid : Prop := Claim7.holds Tryz.pinned (.plain (OpenSpec.upto observerLocksSpec)) observerLocksUptoCard
end Rows
end Go.Proofs.YtpggiabnhodjpaaGreatDoor
