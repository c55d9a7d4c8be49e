/-
  DERIVED. GIVEN WITH THE SEED: THE CARDS: each row of YtdjgckcninibhaaDoorRows.lean that lists a variable, with what it lists TIED to the program's text (the seventh form; the later family's looks); each row that meets fmt, with fmt's text TOLD by the authors' own Lean function (tested against real Go, not proved from fmt's source: count such statements apart). THE CARD IS WHAT COUNTS. Prove the row's statement (the work); the ties are given (YtdjgckcninibhaaDoorTie.lean); close each card by the builder's one call (the guide's Derived/Test/ToyasCard.lean, 'card_holds'). Laid BY PROGRAM, IN A SANDBOX (cutbox-door.mjs). By AI agents, Wed Nov 11 2026. No macro, syntax, notation, axiom, sorry.
-/
import Derived.Test.YtdjgckcninibhaaDoorRows
import GoSem.ClaimSeven
namespace Go.Proofs.YtdjgckcninibhaaDoor
namespace Rows

/-- THE TIED CARD OF 'commutatorlaw18.TubeLess'. -/
def tubeLessCard : Claim7 := { stood := { row := tubeLessRow, standIns := [], harness := (true, "91ee9fab13b273955ce5308cb805b3b5e361d059e802fb280a3fb49c04ae9526"), looks := true }, kinds := [], alts := [], laidByText := true, laidKinds := [.data], laidTests := true, laidLooks := .later }
def TubeLessCardSaid : Prop := Claim7.holds Tryd.pinned (.plain (OpenSpec.ofChange tubeLessSpec)) tubeLessCard

/-- THE TIED CARD OF 'commutatorlaw18.TubeScales'. -/
def tubeScalesCard : Claim7 := { stood := { row := tubeScalesRow, standIns := [], harness := (true, "91ee9fab13b273955ce5308cb805b3b5e361d059e802fb280a3fb49c04ae9526"), looks := true }, kinds := [], alts := [], laidByText := true, laidKinds := [.data], laidTests := true, laidLooks := .later }
def TubeScalesCardSaid : Prop := Claim7.holds Tryd.pinned (.plain (OpenSpec.ofChange tubeScalesSpec)) tubeScalesCard

/-- THE TIED CARD OF 'commutatorlaw18.TubeChecks'. -/
def tubeChecksCard : Claim7 := { stood := { row := tubeChecksRow, standIns := [], harness := (true, "91ee9fab13b273955ce5308cb805b3b5e361d059e802fb280a3fb49c04ae9526"), looks := true }, kinds := [], alts := [], laidByText := true, laidKinds := [.data], laidTests := true, laidLooks := .later }
def TubeChecksCardSaid : Prop := Claim7.holds Tryd.pinned (.plain (OpenSpec.ofChange tubeChecksSpec)) tubeChecksCard

/-- THE TIED CARD OF 'commutatorlaw02.DyadicQuos'. -/
def dyadicQuosCard : Claim7 := { stood := { row := dyadicQuosRow, standIns := [], harness := (true, "91ee9fab13b273955ce5308cb805b3b5e361d059e802fb280a3fb49c04ae9526"), looks := true }, kinds := [], alts := [], laidByText := true, laidKinds := [.data, .data, .data], laidTests := true, laidLooks := .later }
def DyadicQuosCardSaid : Prop := Claim7.holds Tryd.pinned (.plain (OpenSpec.ofChange dyadicQuosSpec)) dyadicQuosCard

/-- THE TIED CARD OF 'commutatorlaw04.MatrixPowers'. -/
def matrixPowersCard : Claim7 := { stood := { row := matrixPowersRow, standIns := [], harness := (true, "91ee9fab13b273955ce5308cb805b3b5e361d059e802fb280a3fb49c04ae9526"), looks := true }, kinds := [], alts := [], laidByText := true, laidKinds := [.data, .data, .data], laidTests := true, laidLooks := .later }
def MatrixPowersCardSaid : Prop := Claim7.holds Tryd.pinned (.plain (OpenSpec.ofChange matrixPowersSpec)) matrixPowersCard

/-- THE TIED CARD OF 'commutatorlaw04.MatrixRings'. -/
def matrixRingsCard : Claim7 := { stood := { row := matrixRingsRow, standIns := [], harness := (true, "91ee9fab13b273955ce5308cb805b3b5e361d059e802fb280a3fb49c04ae9526"), looks := true }, kinds := [], alts := [], laidByText := true, laidKinds := [.data, .data, .data], laidTests := true, laidLooks := .later }
def MatrixRingsCardSaid : Prop := Claim7.holds Tryd.pinned (.plain (OpenSpec.ofChange matrixRingsSpec)) matrixRingsCard

/-- THE TIED CARD OF 'commutatorlaw04.MatrixOrders'. -/
def matrixOrdersCard : Claim7 := { stood := { row := matrixOrdersRow, standIns := [], harness := (true, "91ee9fab13b273955ce5308cb805b3b5e361d059e802fb280a3fb49c04ae9526"), looks := true }, kinds := [], alts := [], laidByText := true, laidKinds := [.data, .data, .data], laidTests := true, laidLooks := .later }
def MatrixOrdersCardSaid : Prop := Claim7.holds Tryd.pinned (.plain (OpenSpec.ofChange matrixOrdersSpec)) matrixOrdersCard

/-- THE SECOND FORM's CARD OF 'commutatorlaw18.TubeLess'. -/
def tubeLessUptoCard : Claim7 := { stood := { row := tubeLessUptoRow, standIns := [], harness := (true, "91ee9fab13b273955ce5308cb805b3b5e361d059e802fb280a3fb49c04ae9526"), looks := true }, kinds := [], alts := [], laidByText := true, laidKinds := [.data], laidTests := true, laidLooks := .later }
def TubeLessUptoCardSaid : Prop := Claim7.holds Tryd.pinned (.plain (OpenSpec.upto tubeLessSpec)) tubeLessUptoCard

/-- THE SECOND FORM's CARD OF 'commutatorlaw18.TubeScales'. -/
def tubeScalesUptoCard : Claim7 := { stood := { row := tubeScalesUptoRow, standIns := [], harness := (true, "91ee9fab13b273955ce5308cb805b3b5e361d059e802fb280a3fb49c04ae9526"), looks := true }, kinds := [], alts := [], laidByText := true, laidKinds := [.data], laidTests := true, laidLooks := .later }
def TubeScalesUptoCardSaid : Prop := Claim7.holds Tryd.pinned (.plain (OpenSpec.upto tubeScalesSpec)) tubeScalesUptoCard

/-- THE SECOND FORM's CARD OF 'commutatorlaw18.TubeChecks'. -/
def tubeChecksUptoCard : Claim7 := { stood := { row := tubeChecksUptoRow, standIns := [], harness := (true, "91ee9fab13b273955ce5308cb805b3b5e361d059e802fb280a3fb49c04ae9526"), looks := true }, kinds := [], alts := [], laidByText := true, laidKinds := [.data], laidTests := true, laidLooks := .later }
def TubeChecksUptoCardSaid : Prop := Claim7.holds Tryd.pinned (.plain (OpenSpec.upto tubeChecksSpec)) tubeChecksUptoCard

/-- THE SECOND FORM's CARD OF 'commutatorlaw02.DyadicQuos'. -/
def dyadicQuosUptoCard : Claim7 := { stood := { row := dyadicQuosUptoRow, standIns := [], harness := (true, "91ee9fab13b273955ce5308cb805b3b5e361d059e802fb280a3fb49c04ae9526"), looks := true }, kinds := [], alts := [], laidByText := true, laidKinds := [.data, .data, .data], laidTests := true, laidLooks := .later }
def DyadicQuosUptoCardSaid : Prop := Claim7.holds Tryd.pinned (.plain (OpenSpec.upto dyadicQuosSpec)) dyadicQuosUptoCard

/-- THE SECOND FORM's CARD OF 'commutatorlaw04.MatrixPowers'. -/
def matrixPowersUptoCard : Claim7 := { stood := { row := matrixPowersUptoRow, standIns := [], harness := (true, "91ee9fab13b273955ce5308cb805b3b5e361d059e802fb280a3fb49c04ae9526"), looks := true }, kinds := [], alts := [], laidByText := true, laidKinds := [.data, .data, .data], laidTests := true, laidLooks := .later }
def MatrixPowersUptoCardSaid : Prop := Claim7.holds Tryd.pinned (.plain (OpenSpec.upto matrixPowersSpec)) matrixPowersUptoCard

/-- THE SECOND FORM's CARD OF 'commutatorlaw04.MatrixRings'. -/
def matrixRingsUptoCard : Claim7 := { stood := { row := matrixRingsUptoRow, standIns := [], harness := (true, "91ee9fab13b273955ce5308cb805b3b5e361d059e802fb280a3fb49c04ae9526"), looks := true }, kinds := [], alts := [], laidByText := true, laidKinds := [.data, .data, .data], laidTests := true, laidLooks := .later }
def MatrixRingsUptoCardSaid : Prop := Claim7.holds Tryd.pinned (.plain (OpenSpec.upto matrixRingsSpec)) matrixRingsUptoCard

/-- THE SECOND FORM's CARD OF 'commutatorlaw04.MatrixOrders'. -/
def matrixOrdersUptoCard : Claim7 := { stood := { row := matrixOrdersUptoRow, standIns := [], harness := (true, "91ee9fab13b273955ce5308cb805b3b5e361d059e802fb280a3fb49c04ae9526"), looks := true }, kinds := [], alts := [], laidByText := true, laidKinds := [.data, .data, .data], laidTests := true, laidLooks := .later }
def MatrixOrdersUptoCardSaid : Prop := Claim7.holds Tryd.pinned (.plain (OpenSpec.upto matrixOrdersSpec)) matrixOrdersUptoCard
end Rows
end Go.Proofs.YtdjgckcninibhaaDoor
