/-
  DERIVED. GIVEN WITH THE SEED: THE CARDS: each row of YtpggiabnhodjpaaDoorRows.lean that lists a variable, with what it lists TIED to the program's text (the seventh form; the later family's looks); each row that meets fmt, with fmt's text TOLD by the authors' own Lean function (tested against real Go, not proved from fmt's source: count such statements apart). THE CARD IS WHAT COUNTS. Prove the row's statement (the work); the ties are given (YtpggiabnhodjpaaDoorTie.lean); close each card by the builder's one call (the guide's Derived/Test/ToyasCard.lean, 'card_holds'). Laid BY PROGRAM, IN A SANDBOX (cutbox-door.mjs). By AI agents, Wed Nov 11 2026. No macro, syntax, notation, axiom, sorry.
-/
import Derived.Test.YtpggiabnhodjpaaDoorRows
import GoSem.ClaimSeven
namespace Go.Proofs.YtpggiabnhodjpaaDoor
namespace Rows

/-- THE TIED CARD OF 'commutatorlaw18.TubeLess'. -/
def tubeLessCard : Claim7 := { stood := { row := tubeLessRow, standIns := [], harness := (true, "9ec4d1ccf3b35a90fddbd09aed8fb59f221d6c807af05af0396821d2ab156366"), looks := true }, kinds := [], alts := [], laidByText := true, laidKinds := [.data], laidTests := true, laidLooks := .later }
def TubeLessCardSaid : Prop := Claim7.holds Tryd.pinned (.plain (OpenSpec.ofChange tubeLessSpec)) tubeLessCard

/-- THE TIED CARD OF 'commutatorlaw18.TubeScales'. -/
def tubeScalesCard : Claim7 := { stood := { row := tubeScalesRow, standIns := [], harness := (true, "9ec4d1ccf3b35a90fddbd09aed8fb59f221d6c807af05af0396821d2ab156366"), looks := true }, kinds := [], alts := [], laidByText := true, laidKinds := [.data], laidTests := true, laidLooks := .later }
def TubeScalesCardSaid : Prop := Claim7.holds Tryd.pinned (.plain (OpenSpec.ofChange tubeScalesSpec)) tubeScalesCard

/-- THE TIED CARD OF 'commutatorlaw18.TubeChecks'. -/
def tubeChecksCard : Claim7 := { stood := { row := tubeChecksRow, standIns := [], harness := (true, "9ec4d1ccf3b35a90fddbd09aed8fb59f221d6c807af05af0396821d2ab156366"), looks := true }, kinds := [], alts := [], laidByText := true, laidKinds := [.data], laidTests := true, laidLooks := .later }
def TubeChecksCardSaid : Prop := Claim7.holds Tryd.pinned (.plain (OpenSpec.ofChange tubeChecksSpec)) tubeChecksCard

/-- THE SECOND FORM's CARD OF 'commutatorlaw18.TubeLess'. -/
def tubeLessUptoCard : Claim7 := { stood := { row := tubeLessUptoRow, standIns := [], harness := (true, "9ec4d1ccf3b35a90fddbd09aed8fb59f221d6c807af05af0396821d2ab156366"), looks := true }, kinds := [], alts := [], laidByText := true, laidKinds := [.data], laidTests := true, laidLooks := .later }
def TubeLessUptoCardSaid : Prop := Claim7.holds Tryd.pinned (.plain (OpenSpec.upto tubeLessSpec)) tubeLessUptoCard

/-- THE SECOND FORM's CARD OF 'commutatorlaw18.TubeScales'. -/
def tubeScalesUptoCard : Claim7 := { stood := { row := tubeScalesUptoRow, standIns := [], harness := (true, "9ec4d1ccf3b35a90fddbd09aed8fb59f221d6c807af05af0396821d2ab156366"), looks := true }, kinds := [], alts := [], laidByText := true, laidKinds := [.data], laidTests := true, laidLooks := .later }
def TubeScalesUptoCardSaid : Prop := Claim7.holds Tryd.pinned (.plain (OpenSpec.upto tubeScalesSpec)) tubeScalesUptoCard

/-- THE SECOND FORM's CARD OF 'commutatorlaw18.TubeChecks'. -/
def tubeChecksUptoCard : Claim7 := { stood := { row := tubeChecksUptoRow, standIns := [], harness := (true, "9ec4d1ccf3b35a90fddbd09aed8fb59f221d6c807af05af0396821d2ab156366"), looks := true }, kinds := [], alts := [], laidByText := true, laidKinds := [.data], laidTests := true, laidLooks := .later }
def TubeChecksUptoCardSaid : Prop := Claim7.holds Tryd.pinned (.plain (OpenSpec.upto tubeChecksSpec)) tubeChecksUptoCard
end Rows
end Go.Proofs.YtpggiabnhodjpaaDoor
