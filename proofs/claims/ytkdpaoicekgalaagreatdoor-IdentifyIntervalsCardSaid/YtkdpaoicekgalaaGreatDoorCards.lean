/-
  DERIVED. GIVEN WITH THE SEED: THE CARDS: each row of YtkdpaoicekgalaaGreatDoorRows.lean that lists a variable, with what it lists TIED to the program's text (the seventh form; the later family's looks); each row that meets fmt, with fmt's text TOLD by the authors' own Lean function (tested against real Go, not proved from fmt's source: count such statements apart). THE CARD IS WHAT COUNTS. Prove the row's statement (the work); the ties are given (YtkdpaoicekgalaaGreatDoorTie.lean); close each card by the builder's one call (the guide's Derived/Test/ToyasCard.lean, 'card_holds'). Laid BY PROGRAM, IN A SANDBOX (cutbox-door.mjs). By AI agents, Wed Nov 11 2026. No macro, syntax, notation, axiom, sorry.
-/
import Derived.Test.YtkdpaoicekgalaaGreatDoorRows
import GoSem.ClaimSeven
namespace Go.Proofs.YtkdpaoicekgalaaGreatDoor
namespace Rows

/-- THE TIED CARD OF 'commutatorlaw03.IntervalMakes'. -/
def intervalMakesCard : Claim7 := { stood := { row := intervalMakesRow, standIns := [], harness := (true, "ddb7e4359258e7ae980ea46d92062db19acd3489d7e7b395a43e4576d2b26d36"), looks := true }, kinds := [], alts := [], laidByText := true, laidKinds := [.data, .data, .data], laidTests := true, laidLooks := .later }
def IntervalMakesCardSaid : Prop := Claim7.holds Tryz.pinned (.plain (OpenSpec.ofChange intervalMakesSpec)) intervalMakesCard

/-- THE TIED CARD OF 'commutatorlaw03.IntervalContains'. -/
def intervalContainsCard : Claim7 := { stood := { row := intervalContainsRow, standIns := [], harness := (true, "ddb7e4359258e7ae980ea46d92062db19acd3489d7e7b395a43e4576d2b26d36"), looks := true }, kinds := [], alts := [], laidByText := true, laidKinds := [.data, .data, .data], laidTests := true, laidLooks := .later }
def IntervalContainsCardSaid : Prop := Claim7.holds Tryz.pinned (.plain (OpenSpec.ofChange intervalContainsSpec)) intervalContainsCard

/-- THE TIED CARD OF 'commutatorlaw03.IntervalComputes'. -/
def intervalComputesCard : Claim7 := { stood := { row := intervalComputesRow, standIns := [], harness := (true, "ddb7e4359258e7ae980ea46d92062db19acd3489d7e7b395a43e4576d2b26d36"), looks := true }, kinds := [], alts := [], laidByText := true, laidKinds := [.data, .data, .data], laidTests := true, laidLooks := .later }
def IntervalComputesCardSaid : Prop := Claim7.holds Tryz.pinned (.plain (OpenSpec.ofChange intervalComputesSpec)) intervalComputesCard

/-- THE TIED CARD OF 'commutatorlaw03.IntervalMonotone'. -/
def intervalMonotoneCard : Claim7 := { stood := { row := intervalMonotoneRow, standIns := [], harness := (true, "ddb7e4359258e7ae980ea46d92062db19acd3489d7e7b395a43e4576d2b26d36"), looks := true }, kinds := [], alts := [], laidByText := true, laidKinds := [.data, .data, .data], laidTests := true, laidLooks := .later }
def IntervalMonotoneCardSaid : Prop := Claim7.holds Tryz.pinned (.plain (OpenSpec.ofChange intervalMonotoneSpec)) intervalMonotoneCard

/-- THE TIED CARD OF 'commutatorlaw03.IntervalValid'. -/
def intervalValidCard : Claim7 := { stood := { row := intervalValidRow, standIns := [], harness := (true, "ddb7e4359258e7ae980ea46d92062db19acd3489d7e7b395a43e4576d2b26d36"), looks := true }, kinds := [], alts := [], laidByText := true, laidKinds := [.data, .data, .data], laidTests := true, laidLooks := .later }
def IntervalValidCardSaid : Prop := Claim7.holds Tryz.pinned (.plain (OpenSpec.ofChange intervalValidSpec)) intervalValidCard

/-- THE TIED CARD OF 'commutatorlaw03.IntervalLimits'. -/
def intervalLimitsCard : Claim7 := { stood := { row := intervalLimitsRow, standIns := [], harness := (true, "ddb7e4359258e7ae980ea46d92062db19acd3489d7e7b395a43e4576d2b26d36"), looks := true }, kinds := [], alts := [], laidByText := true, laidKinds := [.data, .data, .data], laidTests := true, laidLooks := .later }
def IntervalLimitsCardSaid : Prop := Claim7.holds Tryz.pinned (.plain (OpenSpec.ofChange intervalLimitsSpec)) intervalLimitsCard

/-- THE TIED CARD OF 'commutatorlaw49.IdentifyIntervals'. -/
def identifyIntervalsCard : Claim7 := { stood := { row := identifyIntervalsRow, standIns := [], harness := (true, "ddb7e4359258e7ae980ea46d92062db19acd3489d7e7b395a43e4576d2b26d36"), looks := true }, kinds := [], alts := [], laidByText := true, laidKinds := [.data, .data, .data], laidTests := true, laidLooks := .later }
def IdentifyIntervalsCardSaid : Prop := Claim7.holds Tryz.pinned (.plain (OpenSpec.ofChange identifyIntervalsSpec)) identifyIntervalsCard

/-- THE TIED CARD OF 'commutatorlaw49.IdentifyFits'. -/
def identifyFitsCard : Claim7 := { stood := { row := identifyFitsRow, standIns := [], harness := (true, "ddb7e4359258e7ae980ea46d92062db19acd3489d7e7b395a43e4576d2b26d36"), looks := true }, kinds := [], alts := [], laidByText := true, laidKinds := [.data, .data, .data], laidTests := true, laidLooks := .later }
def IdentifyFitsCardSaid : Prop := Claim7.holds Tryz.pinned (.plain (OpenSpec.ofChange identifyFitsSpec)) identifyFitsCard

/-- THE TIED CARD OF 'commutatorlaw49.IdentifySuits'. -/
def identifySuitsCard : Claim7 := { stood := { row := identifySuitsRow, standIns := [], harness := (true, "ddb7e4359258e7ae980ea46d92062db19acd3489d7e7b395a43e4576d2b26d36"), looks := true }, kinds := [], alts := [], laidByText := true, laidKinds := [.data, .data, .data], laidTests := true, laidLooks := .later }
def IdentifySuitsCardSaid : Prop := Claim7.holds Tryz.pinned (.plain (OpenSpec.ofChange identifySuitsSpec)) identifySuitsCard

/-- THE SECOND FORM's CARD OF 'commutatorlaw03.IntervalMakes'. -/
def intervalMakesUptoCard : Claim7 := { stood := { row := intervalMakesUptoRow, standIns := [], harness := (true, "ddb7e4359258e7ae980ea46d92062db19acd3489d7e7b395a43e4576d2b26d36"), looks := true }, kinds := [], alts := [], laidByText := true, laidKinds := [.data, .data, .data], laidTests := true, laidLooks := .later }
def IntervalMakesUptoCardSaid : Prop := Claim7.holds Tryz.pinned (.plain (OpenSpec.upto intervalMakesSpec)) intervalMakesUptoCard

/-- THE SECOND FORM's CARD OF 'commutatorlaw03.IntervalContains'. -/
def intervalContainsUptoCard : Claim7 := { stood := { row := intervalContainsUptoRow, standIns := [], harness := (true, "ddb7e4359258e7ae980ea46d92062db19acd3489d7e7b395a43e4576d2b26d36"), looks := true }, kinds := [], alts := [], laidByText := true, laidKinds := [.data, .data, .data], laidTests := true, laidLooks := .later }
def IntervalContainsUptoCardSaid : Prop := Claim7.holds Tryz.pinned (.plain (OpenSpec.upto intervalContainsSpec)) intervalContainsUptoCard

/-- THE SECOND FORM's CARD OF 'commutatorlaw03.IntervalComputes'. -/
def intervalComputesUptoCard : Claim7 := { stood := { row := intervalComputesUptoRow, standIns := [], harness := (true, "ddb7e4359258e7ae980ea46d92062db19acd3489d7e7b395a43e4576d2b26d36"), looks := true }, kinds := [], alts := [], laidByText := true, laidKinds := [.data, .data, .data], laidTests := true, laidLooks := .later }
def IntervalComputesUptoCardSaid : Prop := Claim7.holds Tryz.pinned (.plain (OpenSpec.upto intervalComputesSpec)) intervalComputesUptoCard

/-- THE SECOND FORM's CARD OF 'commutatorlaw03.IntervalMonotone'. -/
def intervalMonotoneUptoCard : Claim7 := { stood := { row := intervalMonotoneUptoRow, standIns := [], harness := (true, "ddb7e4359258e7ae980ea46d92062db19acd3489d7e7b395a43e4576d2b26d36"), looks := true }, kinds := [], alts := [], laidByText := true, laidKinds := [.data, .data, .data], laidTests := true, laidLooks := .later }
def IntervalMonotoneUptoCardSaid : Prop := Claim7.holds Tryz.pinned (.plain (OpenSpec.upto intervalMonotoneSpec)) intervalMonotoneUptoCard

/-- THE SECOND FORM's CARD OF 'commutatorlaw03.IntervalValid'. -/
def intervalValidUptoCard : Claim7 := { stood := { row := intervalValidUptoRow, standIns := [], harness := (true, "ddb7e4359258e7ae980ea46d92062db19acd3489d7e7b395a43e4576d2b26d36"), looks := true }, kinds := [], alts := [], laidByText := true, laidKinds := [.data, .data, .data], laidTests := true, laidLooks := .later }
def IntervalValidUptoCardSaid : Prop := Claim7.holds Tryz.pinned (.plain (OpenSpec.upto intervalValidSpec)) intervalValidUptoCard

/-- THE SECOND FORM's CARD OF 'commutatorlaw03.IntervalLimits'. -/
def intervalLimitsUptoCard : Claim7 := { stood := { row := intervalLimitsUptoRow, standIns := [], harness := (true, "ddb7e4359258e7ae980ea46d92062db19acd3489d7e7b395a43e4576d2b26d36"), looks := true }, kinds := [], alts := [], laidByText := true, laidKinds := [.data, .data, .data], laidTests := true, laidLooks := .later }
def IntervalLimitsUptoCardSaid : Prop := Claim7.holds Tryz.pinned (.plain (OpenSpec.upto intervalLimitsSpec)) intervalLimitsUptoCard

/-- THE SECOND FORM's CARD OF 'commutatorlaw49.IdentifyIntervals'. -/
def identifyIntervalsUptoCard : Claim7 := { stood := { row := identifyIntervalsUptoRow, standIns := [], harness := (true, "ddb7e4359258e7ae980ea46d92062db19acd3489d7e7b395a43e4576d2b26d36"), looks := true }, kinds := [], alts := [], laidByText := true, laidKinds := [.data, .data, .data], laidTests := true, laidLooks := .later }
def IdentifyIntervalsUptoCardSaid : Prop := Claim7.holds Tryz.pinned (.plain (OpenSpec.upto identifyIntervalsSpec)) identifyIntervalsUptoCard

/-- THE SECOND FORM's CARD OF 'commutatorlaw49.IdentifyFits'. -/
def identifyFitsUptoCard : Claim7 := { stood := { row := identifyFitsUptoRow, standIns := [], harness := (true, "ddb7e4359258e7ae980ea46d92062db19acd3489d7e7b395a43e4576d2b26d36"), looks := true }, kinds := [], alts := [], laidByText := true, laidKinds := [.data, .data, .data], laidTests := true, laidLooks := .later }
def IdentifyFitsUptoCardSaid : Prop := Claim7.holds Tryz.pinned (.plain (OpenSpec.upto identifyFitsSpec)) identifyFitsUptoCard

/-- THE SECOND FORM's CARD OF 'commutatorlaw49.IdentifySuits'. -/
def identifySuitsUptoCard : Claim7 := { stood := { row := identifySuitsUptoRow, standIns := [], harness := (true, "ddb7e4359258e7ae980ea46d92062db19acd3489d7e7b395a43e4576d2b26d36"), looks := true }, kinds := [], alts := [], laidByText := true, laidKinds := [.data, .data, .data], laidTests := true, laidLooks := .later }
def IdentifySuitsUptoCardSaid : Prop := Claim7.holds Tryz.pinned (.plain (OpenSpec.upto identifySuitsSpec)) identifySuitsUptoCard
end Rows
end Go.Proofs.YtkdpaoicekgalaaGreatDoor
