/-
  DERIVED. GIVEN WITH THE SEED: THE CARDS: each row of YtkdpaoicekgalaaDoorRows.lean that lists a variable, with what it lists TIED to the program's text (the seventh form; the later family's looks); each row that meets fmt, with fmt's text TOLD by the authors' own Lean function (tested against real Go, not proved from fmt's source: count such statements apart). THE CARD IS WHAT COUNTS. Prove the row's statement (the work); the ties are given (YtkdpaoicekgalaaDoorTie.lean); close each card by the builder's one call (the guide's Derived/Test/ToyasCard.lean, 'card_holds'). Laid BY PROGRAM, IN A SANDBOX (cutbox-door.mjs). By AI agents, Wed Nov 11 2026. No macro, syntax, notation, axiom, sorry.
-/
import Derived.Test.YtkdpaoicekgalaaDoorRows
import GoSem.ClaimSeven
namespace Go.Proofs.YtkdpaoicekgalaaDoor
namespace Rows

/-- THE TIED CARD OF 'commutatorlaw03.IntervalBounds'. -/
def intervalBoundsCard : Claim7 := { stood := { row := intervalBoundsRow, standIns := [], harness := (true, "b931a7b483a5fd578aa86046189fa75251cb75582e4485410dfce0c86ffbb6ce"), looks := true }, kinds := [], alts := [], laidByText := true, laidKinds := [.data, .data, .data], laidTests := true, laidLooks := .later }
def IntervalBoundsCardSaid : Prop := Claim7.holds Tryd.pinned (.plain (OpenSpec.ofChange intervalBoundsSpec)) intervalBoundsCard

/-- THE TIED CARD OF 'commutatorlaw03.IntervalEnds'. -/
def intervalEndsCard : Claim7 := { stood := { row := intervalEndsRow, standIns := [], harness := (true, "b931a7b483a5fd578aa86046189fa75251cb75582e4485410dfce0c86ffbb6ce"), looks := true }, kinds := [], alts := [], laidByText := true, laidKinds := [.data, .data, .data], laidTests := true, laidLooks := .later }
def IntervalEndsCardSaid : Prop := Claim7.holds Tryd.pinned (.plain (OpenSpec.ofChange intervalEndsSpec)) intervalEndsCard

/-- THE TIED CARD OF 'commutatorlaw49.IdentifyMore'. -/
def identifyMoreCard : Claim7 := { stood := { row := identifyMoreRow, standIns := [], harness := (true, "b931a7b483a5fd578aa86046189fa75251cb75582e4485410dfce0c86ffbb6ce"), looks := true }, kinds := [], alts := [], laidByText := true, laidKinds := [.data, .data, .data], laidTests := true, laidLooks := .later }
def IdentifyMoreCardSaid : Prop := Claim7.holds Tryd.pinned (.plain (OpenSpec.ofChange identifyMoreSpec)) identifyMoreCard

/-- THE TIED CARD OF 'commutatorlaw49.IdentifyTight'. -/
def identifyTightCard : Claim7 := { stood := { row := identifyTightRow, standIns := [], harness := (true, "b931a7b483a5fd578aa86046189fa75251cb75582e4485410dfce0c86ffbb6ce"), looks := true }, kinds := [], alts := [], laidByText := true, laidKinds := [.data, .data, .data], laidTests := true, laidLooks := .later }
def IdentifyTightCardSaid : Prop := Claim7.holds Tryd.pinned (.plain (OpenSpec.ofChange identifyTightSpec)) identifyTightCard

/-- THE TIED CARD OF 'commutatorlaw49.IdentifyDifferences'. -/
def identifyDifferencesCard : Claim7 := { stood := { row := identifyDifferencesRow, standIns := [], harness := (true, "b931a7b483a5fd578aa86046189fa75251cb75582e4485410dfce0c86ffbb6ce"), looks := true }, kinds := [], alts := [], laidByText := true, laidKinds := [.data, .data, .data], laidTests := true, laidLooks := .later }
def IdentifyDifferencesCardSaid : Prop := Claim7.holds Tryd.pinned (.plain (OpenSpec.ofChange identifyDifferencesSpec)) identifyDifferencesCard

/-- THE TIED CARD OF 'commutatorlaw49.IdentifyTruth'. -/
def identifyTruthCard : Claim7 := { stood := { row := identifyTruthRow, standIns := [], harness := (true, "b931a7b483a5fd578aa86046189fa75251cb75582e4485410dfce0c86ffbb6ce"), looks := true }, kinds := [], alts := [], laidByText := true, laidKinds := [.data, .data, .data], laidTests := true, laidLooks := .later }
def IdentifyTruthCardSaid : Prop := Claim7.holds Tryd.pinned (.plain (OpenSpec.ofChange identifyTruthSpec)) identifyTruthCard

/-- THE SECOND FORM's CARD OF 'commutatorlaw03.IntervalBounds'. -/
def intervalBoundsUptoCard : Claim7 := { stood := { row := intervalBoundsUptoRow, standIns := [], harness := (true, "b931a7b483a5fd578aa86046189fa75251cb75582e4485410dfce0c86ffbb6ce"), looks := true }, kinds := [], alts := [], laidByText := true, laidKinds := [.data, .data, .data], laidTests := true, laidLooks := .later }
def IntervalBoundsUptoCardSaid : Prop := Claim7.holds Tryd.pinned (.plain (OpenSpec.upto intervalBoundsSpec)) intervalBoundsUptoCard

/-- THE SECOND FORM's CARD OF 'commutatorlaw03.IntervalEnds'. -/
def intervalEndsUptoCard : Claim7 := { stood := { row := intervalEndsUptoRow, standIns := [], harness := (true, "b931a7b483a5fd578aa86046189fa75251cb75582e4485410dfce0c86ffbb6ce"), looks := true }, kinds := [], alts := [], laidByText := true, laidKinds := [.data, .data, .data], laidTests := true, laidLooks := .later }
def IntervalEndsUptoCardSaid : Prop := Claim7.holds Tryd.pinned (.plain (OpenSpec.upto intervalEndsSpec)) intervalEndsUptoCard

/-- THE SECOND FORM's CARD OF 'commutatorlaw49.IdentifyMore'. -/
def identifyMoreUptoCard : Claim7 := { stood := { row := identifyMoreUptoRow, standIns := [], harness := (true, "b931a7b483a5fd578aa86046189fa75251cb75582e4485410dfce0c86ffbb6ce"), looks := true }, kinds := [], alts := [], laidByText := true, laidKinds := [.data, .data, .data], laidTests := true, laidLooks := .later }
def IdentifyMoreUptoCardSaid : Prop := Claim7.holds Tryd.pinned (.plain (OpenSpec.upto identifyMoreSpec)) identifyMoreUptoCard

/-- THE SECOND FORM's CARD OF 'commutatorlaw49.IdentifyTight'. -/
def identifyTightUptoCard : Claim7 := { stood := { row := identifyTightUptoRow, standIns := [], harness := (true, "b931a7b483a5fd578aa86046189fa75251cb75582e4485410dfce0c86ffbb6ce"), looks := true }, kinds := [], alts := [], laidByText := true, laidKinds := [.data, .data, .data], laidTests := true, laidLooks := .later }
def IdentifyTightUptoCardSaid : Prop := Claim7.holds Tryd.pinned (.plain (OpenSpec.upto identifyTightSpec)) identifyTightUptoCard

/-- THE SECOND FORM's CARD OF 'commutatorlaw49.IdentifyDifferences'. -/
def identifyDifferencesUptoCard : Claim7 := { stood := { row := identifyDifferencesUptoRow, standIns := [], harness := (true, "b931a7b483a5fd578aa86046189fa75251cb75582e4485410dfce0c86ffbb6ce"), looks := true }, kinds := [], alts := [], laidByText := true, laidKinds := [.data, .data, .data], laidTests := true, laidLooks := .later }
def IdentifyDifferencesUptoCardSaid : Prop := Claim7.holds Tryd.pinned (.plain (OpenSpec.upto identifyDifferencesSpec)) identifyDifferencesUptoCard

/-- THE SECOND FORM's CARD OF 'commutatorlaw49.IdentifyTruth'. -/
def identifyTruthUptoCard : Claim7 := { stood := { row := identifyTruthUptoRow, standIns := [], harness := (true, "b931a7b483a5fd578aa86046189fa75251cb75582e4485410dfce0c86ffbb6ce"), looks := true }, kinds := [], alts := [], laidByText := true, laidKinds := [.data, .data, .data], laidTests := true, laidLooks := .later }
def IdentifyTruthUptoCardSaid : Prop := Claim7.holds Tryd.pinned (.plain (OpenSpec.upto identifyTruthSpec)) identifyTruthUptoCard
end Rows
end Go.Proofs.YtkdpaoicekgalaaDoor
