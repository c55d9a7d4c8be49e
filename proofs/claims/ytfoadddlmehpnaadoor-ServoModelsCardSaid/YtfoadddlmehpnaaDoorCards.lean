/-
  DERIVED. GIVEN WITH THE SEED: THE CARDS: each row of YtfoadddlmehpnaaDoorRows.lean that lists a variable, with what it lists TIED to the program's text (the seventh form; the later family's looks); each row that meets fmt, with fmt's text TOLD by the authors' own Lean function (tested against real Go, not proved from fmt's source: count such statements apart). THE CARD IS WHAT COUNTS. Prove the row's statement (the work); the ties are given (YtfoadddlmehpnaaDoorTie.lean); close each card by the builder's one call (the guide's Derived/Test/ToyasCard.lean, 'card_holds'). Laid BY PROGRAM, IN A SANDBOX (cutbox-door.mjs). By AI agents, Wed Nov 11 2026. No macro, syntax, notation, axiom, sorry.
-/
import Derived.Test.YtfoadddlmehpnaaDoorRows
import GoSem.ClaimSeven
namespace Go.Proofs.YtfoadddlmehpnaaDoor
namespace Rows

/-- THE TIED CARD OF 'commutatorlaw39.ObserverTracks'. -/
def observerTracksCard : Claim7 := { stood := { row := observerTracksRow, standIns := [], harness := (true, "5436eea3845936ab47d3f535b43937d927baa8f1fee50a72130bebc946ff8065"), looks := true }, kinds := [], alts := [], laidByText := true, laidKinds := [.data], laidTests := true, laidLooks := .later }
def ObserverTracksCardSaid : Prop := Claim7.holds Tryd.pinned (.plain (OpenSpec.ofChange observerTracksSpec)) observerTracksCard

/-- THE TIED CARD OF 'commutatorlaw35.CurrentEmf'. -/
def currentEmfCard : Claim7 := { stood := { row := currentEmfRow, standIns := [], harness := (true, "5436eea3845936ab47d3f535b43937d927baa8f1fee50a72130bebc946ff8065"), looks := true }, kinds := [], alts := [], laidByText := true, laidKinds := [.data], laidTests := true, laidLooks := .later }
def CurrentEmfCardSaid : Prop := Claim7.holds Tryd.pinned (.plain (OpenSpec.ofChange currentEmfSpec)) currentEmfCard

/-- THE TIED CARD OF 'commutatorlaw38.ServoModels'. -/
def servoModelsCard : Claim7 := { stood := { row := servoModelsRow, standIns := [], harness := (true, "5436eea3845936ab47d3f535b43937d927baa8f1fee50a72130bebc946ff8065"), looks := true }, kinds := [], alts := [], laidByText := true, laidKinds := [.data], laidTests := true, laidLooks := .later }
def ServoModelsCardSaid : Prop := Claim7.holds Tryd.pinned (.plain (OpenSpec.ofChange servoModelsSpec)) servoModelsCard

/-- THE SECOND FORM's CARD OF 'commutatorlaw39.ObserverTracks'. -/
def observerTracksUptoCard : Claim7 := { stood := { row := observerTracksUptoRow, standIns := [], harness := (true, "5436eea3845936ab47d3f535b43937d927baa8f1fee50a72130bebc946ff8065"), looks := true }, kinds := [], alts := [], laidByText := true, laidKinds := [.data], laidTests := true, laidLooks := .later }
def ObserverTracksUptoCardSaid : Prop := Claim7.holds Tryd.pinned (.plain (OpenSpec.upto observerTracksSpec)) observerTracksUptoCard

/-- THE SECOND FORM's CARD OF 'commutatorlaw35.CurrentEmf'. -/
def currentEmfUptoCard : Claim7 := { stood := { row := currentEmfUptoRow, standIns := [], harness := (true, "5436eea3845936ab47d3f535b43937d927baa8f1fee50a72130bebc946ff8065"), looks := true }, kinds := [], alts := [], laidByText := true, laidKinds := [.data], laidTests := true, laidLooks := .later }
def CurrentEmfUptoCardSaid : Prop := Claim7.holds Tryd.pinned (.plain (OpenSpec.upto currentEmfSpec)) currentEmfUptoCard

/-- THE SECOND FORM's CARD OF 'commutatorlaw38.ServoModels'. -/
def servoModelsUptoCard : Claim7 := { stood := { row := servoModelsUptoRow, standIns := [], harness := (true, "5436eea3845936ab47d3f535b43937d927baa8f1fee50a72130bebc946ff8065"), looks := true }, kinds := [], alts := [], laidByText := true, laidKinds := [.data], laidTests := true, laidLooks := .later }
def ServoModelsUptoCardSaid : Prop := Claim7.holds Tryd.pinned (.plain (OpenSpec.upto servoModelsSpec)) servoModelsUptoCard
end Rows
end Go.Proofs.YtfoadddlmehpnaaDoor
