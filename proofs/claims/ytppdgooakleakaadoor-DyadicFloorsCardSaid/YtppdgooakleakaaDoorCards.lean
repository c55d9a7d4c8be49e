/-
  DERIVED. GIVEN WITH THE SEED: THE CARDS: each row of YtppdgooakleakaaDoorRows.lean that lists a variable, with what it lists TIED to the program's text (the seventh form; the later family's looks); each row that meets fmt, with fmt's text TOLD by the authors' own Lean function (tested against real Go, not proved from fmt's source: count such statements apart). THE CARD IS WHAT COUNTS. Prove the row's statement (the work); the ties are given (YtppdgooakleakaaDoorTie.lean); close each card by the builder's one call (the guide's Derived/Test/ToyasCard.lean, 'card_holds'). Laid BY PROGRAM, IN A SANDBOX (cutbox-door.mjs). By AI agents, Wed Nov 11 2026. No macro, syntax, notation, axiom, sorry.
-/
import Derived.Test.YtppdgooakleakaaDoorRows
import GoSem.ClaimSeven
namespace Go.Proofs.YtppdgooakleakaaDoor
namespace Rows

/-- THE TIED CARD OF 'commutatorlaw02.DyadicFinest'. -/
def dyadicFinestCard : Claim7 := { stood := { row := dyadicFinestRow, standIns := [], harness := (true, "b5b25a9213d8f01ea0b41b2552015ac9482a17a8063ad7bf08e71ed1b745ec59"), looks := true }, kinds := [], alts := [], laidByText := true, laidKinds := [.data, .data, .data], laidTests := true, laidLooks := .later }
def DyadicFinestCardSaid : Prop := Claim7.holds Tryd.pinned (.plain (OpenSpec.ofChange dyadicFinestSpec)) dyadicFinestCard

/-- THE TIED CARD OF 'commutatorlaw02.DyadicMuls'. -/
def dyadicMulsCard : Claim7 := { stood := { row := dyadicMulsRow, standIns := [], harness := (true, "b5b25a9213d8f01ea0b41b2552015ac9482a17a8063ad7bf08e71ed1b745ec59"), looks := true }, kinds := [], alts := [], laidByText := true, laidKinds := [.data, .data, .data], laidTests := true, laidLooks := .later }
def DyadicMulsCardSaid : Prop := Claim7.holds Tryd.pinned (.plain (OpenSpec.ofChange dyadicMulsSpec)) dyadicMulsCard

/-- THE TIED CARD OF 'commutatorlaw02.DyadicFloors'. -/
def dyadicFloorsCard : Claim7 := { stood := { row := dyadicFloorsRow, standIns := [], harness := (true, "b5b25a9213d8f01ea0b41b2552015ac9482a17a8063ad7bf08e71ed1b745ec59"), looks := true }, kinds := [], alts := [], laidByText := true, laidKinds := [.data, .data, .data], laidTests := true, laidLooks := .later }
def DyadicFloorsCardSaid : Prop := Claim7.holds Tryd.pinned (.plain (OpenSpec.ofChange dyadicFloorsSpec)) dyadicFloorsCard

/-- THE TIED CARD OF 'commutatorlaw02.DyadicQuos'. -/
def dyadicQuosCard : Claim7 := { stood := { row := dyadicQuosRow, standIns := [], harness := (true, "b5b25a9213d8f01ea0b41b2552015ac9482a17a8063ad7bf08e71ed1b745ec59"), looks := true }, kinds := [], alts := [], laidByText := true, laidKinds := [.data, .data, .data], laidTests := true, laidLooks := .later }
def DyadicQuosCardSaid : Prop := Claim7.holds Tryd.pinned (.plain (OpenSpec.ofChange dyadicQuosSpec)) dyadicQuosCard

/-- THE TIED CARD OF 'commutatorlaw02.DyadicAdds'. -/
def dyadicAddsCard : Claim7 := { stood := { row := dyadicAddsRow, standIns := [], harness := (true, "b5b25a9213d8f01ea0b41b2552015ac9482a17a8063ad7bf08e71ed1b745ec59"), looks := true }, kinds := [], alts := [], laidByText := true, laidKinds := [.data, .data, .data], laidTests := true, laidLooks := .later }
def DyadicAddsCardSaid : Prop := Claim7.holds Tryd.pinned (.plain (OpenSpec.ofChange dyadicAddsSpec)) dyadicAddsCard

/-- THE TIED CARD OF 'commutatorlaw02.DyadicRings'. -/
def dyadicRingsCard : Claim7 := { stood := { row := dyadicRingsRow, standIns := [], harness := (true, "b5b25a9213d8f01ea0b41b2552015ac9482a17a8063ad7bf08e71ed1b745ec59"), looks := true }, kinds := [], alts := [], laidByText := true, laidKinds := [.data, .data, .data], laidTests := true, laidLooks := .later }
def DyadicRingsCardSaid : Prop := Claim7.holds Tryd.pinned (.plain (OpenSpec.ofChange dyadicRingsSpec)) dyadicRingsCard

/-- THE TIED CARD OF 'commutatorlaw02.DyadicOrders'. -/
def dyadicOrdersCard : Claim7 := { stood := { row := dyadicOrdersRow, standIns := [], harness := (true, "b5b25a9213d8f01ea0b41b2552015ac9482a17a8063ad7bf08e71ed1b745ec59"), looks := true }, kinds := [], alts := [], laidByText := true, laidKinds := [.data, .data, .data], laidTests := true, laidLooks := .later }
def DyadicOrdersCardSaid : Prop := Claim7.holds Tryd.pinned (.plain (OpenSpec.ofChange dyadicOrdersSpec)) dyadicOrdersCard

/-- THE TIED CARD OF 'commutatorlaw02.DyadicInts'. -/
def dyadicIntsCard : Claim7 := { stood := { row := dyadicIntsRow, standIns := [], harness := (true, "b5b25a9213d8f01ea0b41b2552015ac9482a17a8063ad7bf08e71ed1b745ec59"), looks := true }, kinds := [], alts := [], laidByText := true, laidKinds := [.data, .data, .data], laidTests := true, laidLooks := .later }
def DyadicIntsCardSaid : Prop := Claim7.holds Tryd.pinned (.plain (OpenSpec.ofChange dyadicIntsSpec)) dyadicIntsCard

/-- THE TIED CARD OF 'commutatorlaw02.DyadicValid'. -/
def dyadicValidCard : Claim7 := { stood := { row := dyadicValidRow, standIns := [], harness := (true, "b5b25a9213d8f01ea0b41b2552015ac9482a17a8063ad7bf08e71ed1b745ec59"), looks := true }, kinds := [], alts := [], laidByText := true, laidKinds := [.data, .data, .data], laidTests := true, laidLooks := .later }
def DyadicValidCardSaid : Prop := Claim7.holds Tryd.pinned (.plain (OpenSpec.ofChange dyadicValidSpec)) dyadicValidCard

/-- THE SECOND FORM's CARD OF 'commutatorlaw02.DyadicFinest'. -/
def dyadicFinestUptoCard : Claim7 := { stood := { row := dyadicFinestUptoRow, standIns := [], harness := (true, "b5b25a9213d8f01ea0b41b2552015ac9482a17a8063ad7bf08e71ed1b745ec59"), looks := true }, kinds := [], alts := [], laidByText := true, laidKinds := [.data, .data, .data], laidTests := true, laidLooks := .later }
def DyadicFinestUptoCardSaid : Prop := Claim7.holds Tryd.pinned (.plain (OpenSpec.upto dyadicFinestSpec)) dyadicFinestUptoCard

/-- THE SECOND FORM's CARD OF 'commutatorlaw02.DyadicMuls'. -/
def dyadicMulsUptoCard : Claim7 := { stood := { row := dyadicMulsUptoRow, standIns := [], harness := (true, "b5b25a9213d8f01ea0b41b2552015ac9482a17a8063ad7bf08e71ed1b745ec59"), looks := true }, kinds := [], alts := [], laidByText := true, laidKinds := [.data, .data, .data], laidTests := true, laidLooks := .later }
def DyadicMulsUptoCardSaid : Prop := Claim7.holds Tryd.pinned (.plain (OpenSpec.upto dyadicMulsSpec)) dyadicMulsUptoCard

/-- THE SECOND FORM's CARD OF 'commutatorlaw02.DyadicFloors'. -/
def dyadicFloorsUptoCard : Claim7 := { stood := { row := dyadicFloorsUptoRow, standIns := [], harness := (true, "b5b25a9213d8f01ea0b41b2552015ac9482a17a8063ad7bf08e71ed1b745ec59"), looks := true }, kinds := [], alts := [], laidByText := true, laidKinds := [.data, .data, .data], laidTests := true, laidLooks := .later }
def DyadicFloorsUptoCardSaid : Prop := Claim7.holds Tryd.pinned (.plain (OpenSpec.upto dyadicFloorsSpec)) dyadicFloorsUptoCard

/-- THE SECOND FORM's CARD OF 'commutatorlaw02.DyadicQuos'. -/
def dyadicQuosUptoCard : Claim7 := { stood := { row := dyadicQuosUptoRow, standIns := [], harness := (true, "b5b25a9213d8f01ea0b41b2552015ac9482a17a8063ad7bf08e71ed1b745ec59"), looks := true }, kinds := [], alts := [], laidByText := true, laidKinds := [.data, .data, .data], laidTests := true, laidLooks := .later }
def DyadicQuosUptoCardSaid : Prop := Claim7.holds Tryd.pinned (.plain (OpenSpec.upto dyadicQuosSpec)) dyadicQuosUptoCard

/-- THE SECOND FORM's CARD OF 'commutatorlaw02.DyadicAdds'. -/
def dyadicAddsUptoCard : Claim7 := { stood := { row := dyadicAddsUptoRow, standIns := [], harness := (true, "b5b25a9213d8f01ea0b41b2552015ac9482a17a8063ad7bf08e71ed1b745ec59"), looks := true }, kinds := [], alts := [], laidByText := true, laidKinds := [.data, .data, .data], laidTests := true, laidLooks := .later }
def DyadicAddsUptoCardSaid : Prop := Claim7.holds Tryd.pinned (.plain (OpenSpec.upto dyadicAddsSpec)) dyadicAddsUptoCard

/-- THE SECOND FORM's CARD OF 'commutatorlaw02.DyadicRings'. -/
def dyadicRingsUptoCard : Claim7 := { stood := { row := dyadicRingsUptoRow, standIns := [], harness := (true, "b5b25a9213d8f01ea0b41b2552015ac9482a17a8063ad7bf08e71ed1b745ec59"), looks := true }, kinds := [], alts := [], laidByText := true, laidKinds := [.data, .data, .data], laidTests := true, laidLooks := .later }
def DyadicRingsUptoCardSaid : Prop := Claim7.holds Tryd.pinned (.plain (OpenSpec.upto dyadicRingsSpec)) dyadicRingsUptoCard

/-- THE SECOND FORM's CARD OF 'commutatorlaw02.DyadicOrders'. -/
def dyadicOrdersUptoCard : Claim7 := { stood := { row := dyadicOrdersUptoRow, standIns := [], harness := (true, "b5b25a9213d8f01ea0b41b2552015ac9482a17a8063ad7bf08e71ed1b745ec59"), looks := true }, kinds := [], alts := [], laidByText := true, laidKinds := [.data, .data, .data], laidTests := true, laidLooks := .later }
def DyadicOrdersUptoCardSaid : Prop := Claim7.holds Tryd.pinned (.plain (OpenSpec.upto dyadicOrdersSpec)) dyadicOrdersUptoCard

/-- THE SECOND FORM's CARD OF 'commutatorlaw02.DyadicInts'. -/
def dyadicIntsUptoCard : Claim7 := { stood := { row := dyadicIntsUptoRow, standIns := [], harness := (true, "b5b25a9213d8f01ea0b41b2552015ac9482a17a8063ad7bf08e71ed1b745ec59"), looks := true }, kinds := [], alts := [], laidByText := true, laidKinds := [.data, .data, .data], laidTests := true, laidLooks := .later }
def DyadicIntsUptoCardSaid : Prop := Claim7.holds Tryd.pinned (.plain (OpenSpec.upto dyadicIntsSpec)) dyadicIntsUptoCard

/-- THE SECOND FORM's CARD OF 'commutatorlaw02.DyadicValid'. -/
def dyadicValidUptoCard : Claim7 := { stood := { row := dyadicValidUptoRow, standIns := [], harness := (true, "b5b25a9213d8f01ea0b41b2552015ac9482a17a8063ad7bf08e71ed1b745ec59"), looks := true }, kinds := [], alts := [], laidByText := true, laidKinds := [.data, .data, .data], laidTests := true, laidLooks := .later }
def DyadicValidUptoCardSaid : Prop := Claim7.holds Tryd.pinned (.plain (OpenSpec.upto dyadicValidSpec)) dyadicValidUptoCard
end Rows
end Go.Proofs.YtppdgooakleakaaDoor
