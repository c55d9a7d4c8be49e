/-
  DERIVED. GIVEN WITH THE SEED: THE CARDS: each row of YtcpmeibfggoebaaGreatDoorRows.lean that lists a variable, with what it lists TIED to the program's text (the seventh form; the later family's looks); each row that meets fmt, with fmt's text TOLD by the authors' own Lean function (tested against real Go, not proved from fmt's source: count such statements apart). THE CARD IS WHAT COUNTS. Prove the row's statement (the work); the ties are given (YtcpmeibfggoebaaGreatDoorTie.lean); close each card by the builder's one call (the guide's Derived/Test/ToyasCard.lean, 'card_holds'). Laid BY PROGRAM, IN A SANDBOX (cutbox-door.mjs). By AI agents, Wed Nov 11 2026. No macro, syntax, notation, axiom, sorry.
-/
import Derived.Test.YtcpmeibfggoebaaGreatDoorRows
import GoSem.ClaimSeven
namespace Go.Proofs.YtcpmeibfggoebaaGreatDoor
namespace Rows

/-- THE TIED CARD OF 'commutatortop.WholeCode'. -/
def wholeCodeCard : Claim7 := { stood := { row := wholeCodeRow, standIns := [], harness := (true, "43b8639ab50cbf950cdc55c2929881ae97f4025d320409f722725a1cef9e9d8e"), looks := true }, kinds := [], alts := [], laidByText := true, laidKinds := [.data], laidTests := true, laidLooks := .later }
def WholeCodeCardSaid : Prop := Claim7.holds Tryz.pinned (.plain (OpenSpec.ofChange wholeCodeSpec)) wholeCodeCard

/-- THE SECOND FORM's CARD OF 'commutatortop.WholeCode'. -/
def wholeCodeUptoCard : Claim7 := { stood := { row := wholeCodeUptoRow, standIns := [], harness := (true, "43b8639ab50cbf950cdc55c2929881ae97f4025d320409f722725a1cef9e9d8e"), looks := true }, kinds := [], alts := [], laidByText := true, laidKinds := [.data], laidTests := true, laidLooks := .later }
def WholeCodeUptoCardSaid : Prop := Claim7.holds Tryz.pinned (.plain (OpenSpec.upto wholeCodeSpec)) wholeCodeUptoCard
end Rows
end Go.Proofs.YtcpmeibfggoebaaGreatDoor
