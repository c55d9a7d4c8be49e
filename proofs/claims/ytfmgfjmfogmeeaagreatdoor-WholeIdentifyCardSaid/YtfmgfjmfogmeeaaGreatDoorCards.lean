/-
  DERIVED. GIVEN WITH THE SEED: THE CARDS: each row of YtfmgfjmfogmeeaaGreatDoorRows.lean that lists a variable, with what it lists TIED to the program's text (the seventh form; the later family's looks); each row that meets fmt, with fmt's text TOLD by the authors' own Lean function (tested against real Go, not proved from fmt's source: count such statements apart). THE CARD IS WHAT COUNTS. Prove the row's statement (the work); the ties are given (YtfmgfjmfogmeeaaGreatDoorTie.lean); close each card by the builder's one call (the guide's Derived/Test/ToyasCard.lean, 'card_holds'). Laid BY PROGRAM, IN A SANDBOX (cutbox-door.mjs). By AI agents, Wed Nov 11 2026. No macro, syntax, notation, axiom, sorry.
-/
import Derived.Test.YtfmgfjmfogmeeaaGreatDoorRows
import GoSem.ClaimSeven
namespace Go.Proofs.YtfmgfjmfogmeeaaGreatDoor
namespace Rows

/-- THE TIED CARD OF 'commutatorlaw02.DyadicTexts'. -/
def dyadicTextsCard : Claim7 := { stood := { row := dyadicTextsRow, standIns := [], harness := (true, "1ade1a9201b44dc6c0f969ccf016684c729950a6044241489ee88eda6de44c73"), looks := true }, kinds := [], alts := [], laidByText := true, laidKinds := [.data, .data, .data, .data, .sentinel, .sentinel, .pinned], laidTests := true, laidLooks := .later }
def DyadicTextsCardSaid : Prop := Claim7.holds Tryz.pinned (.plain (OpenSpec.ofChange dyadicTextsSpec)) dyadicTextsCard

/-- THE TIED CARD OF 'commutatorlaw02.DyadicParses'. -/
def dyadicParsesCard : Claim7 := { stood := { row := dyadicParsesRow, standIns := [], harness := (true, "1ade1a9201b44dc6c0f969ccf016684c729950a6044241489ee88eda6de44c73"), looks := true }, kinds := [], alts := [], laidByText := true, laidKinds := [.data, .data, .data, .data, .sentinel, .sentinel, .pinned], laidTests := true, laidLooks := .later }
def DyadicParsesCardSaid : Prop := Claim7.holds Tryz.pinned (.plain (OpenSpec.ofChange dyadicParsesSpec)) dyadicParsesCard

/-- THE TIED CARD OF 'commutatortop.WholeIdentify'. -/
def wholeIdentifyCard : Claim7 := { stood := { row := wholeIdentifyRow, standIns := [], harness := (true, "1ade1a9201b44dc6c0f969ccf016684c729950a6044241489ee88eda6de44c73"), looks := true }, kinds := [], alts := [], laidByText := true, laidKinds := [.data], laidTests := true, laidLooks := .later }
def WholeIdentifyCardSaid : Prop := Claim7.holds Tryz.pinned (.plain (OpenSpec.ofChange wholeIdentifySpec)) wholeIdentifyCard

/-- THE SECOND FORM's CARD OF 'commutatorlaw02.DyadicTexts'. -/
def dyadicTextsUptoCard : Claim7 := { stood := { row := dyadicTextsUptoRow, standIns := [], harness := (true, "1ade1a9201b44dc6c0f969ccf016684c729950a6044241489ee88eda6de44c73"), looks := true }, kinds := [], alts := [], laidByText := true, laidKinds := [.data, .data, .data, .data, .sentinel, .sentinel, .pinned], laidTests := true, laidLooks := .later }
def DyadicTextsUptoCardSaid : Prop := Claim7.holds Tryz.pinned (.plain (OpenSpec.upto dyadicTextsSpec)) dyadicTextsUptoCard

/-- THE SECOND FORM's CARD OF 'commutatorlaw02.DyadicParses'. -/
def dyadicParsesUptoCard : Claim7 := { stood := { row := dyadicParsesUptoRow, standIns := [], harness := (true, "1ade1a9201b44dc6c0f969ccf016684c729950a6044241489ee88eda6de44c73"), looks := true }, kinds := [], alts := [], laidByText := true, laidKinds := [.data, .data, .data, .data, .sentinel, .sentinel, .pinned], laidTests := true, laidLooks := .later }
def DyadicParsesUptoCardSaid : Prop := Claim7.holds Tryz.pinned (.plain (OpenSpec.upto dyadicParsesSpec)) dyadicParsesUptoCard

/-- THE SECOND FORM's CARD OF 'commutatortop.WholeIdentify'. -/
def wholeIdentifyUptoCard : Claim7 := { stood := { row := wholeIdentifyUptoRow, standIns := [], harness := (true, "1ade1a9201b44dc6c0f969ccf016684c729950a6044241489ee88eda6de44c73"), looks := true }, kinds := [], alts := [], laidByText := true, laidKinds := [.data], laidTests := true, laidLooks := .later }
def WholeIdentifyUptoCardSaid : Prop := Claim7.holds Tryz.pinned (.plain (OpenSpec.upto wholeIdentifySpec)) wholeIdentifyUptoCard
end Rows
end Go.Proofs.YtfmgfjmfogmeeaaGreatDoor
