/-
  NARROWER THAN 'FOR EVERY INPUT', by the rows' own cells (each row's printed sentence says how): IntervalMakes: laid · IntervalContains: laid · IntervalComputes: laid · IntervalMonotone: laid · IntervalValid: laid · IntervalLimits: laid · IdentifyIntervals: laid · IdentifyFits: laid · IdentifySuits: laid.
  DERIVED. THE GIVEN ROWS OF THIS SEAT. 9 by the template 'for every input the law returns true; each argument reads behind the call as it read before'; 0 by the template 'total and deterministic' (their statements: YtkdpaoicekgalaaGreatDoorTotals.lean).
  GIVEN WITH THE SEED: the statements are not yours to turn. If you find one false, say at which input.
  Laid BY PROGRAM, IN A SANDBOX (cutbox-rows.mjs): the forced cells as the released guide's own fill.sh prints them over the translation 4d6fa9d09cdaa00a… (all of the seat's roots in one cut). By AI agents, Wed Nov 11 2026. No macro, syntax, notation, axiom, sorry.
-/
import Derived.Test.YtkdpaoicekgalaaGreatDoorChecked
import GoSem.Claim
import GoSem.ClaimJoined
import GoSem.ClaimMapViews
import Derived.JoinedTies
import Derived.KernelRfl
namespace Go.Proofs.YtkdpaoicekgalaaGreatDoor
/- THE CELL 'sum', in the pinned program and in every row, IS THE sha256 OF THE DUMP (.gsa) THAT YtkdpaoicekgalaaGreatDoorProg.lean LOADS. Nothing in Lean hashes anything: it is a label: what it is worth is what the hold of that sum in a sandbox is worth. -/
noncomputable def Tryz.pinned : Pinned := { name := "ytkdpaoicekgalaagreatdoor", sum := "4d6fa9d09cdaa00a2dbfdf9e8da18e2e56220edacf0118c65d386791747fd060", checked := Tryz.checked }
namespace Rows
def none {H : Type} : Left H := { results := [], args := [] }

/- WHAT THE LISTED PACKAGE-LEVEL VARIABLES READ AS WHEN THE CALL BEGINS. Each datum BY PROGRAM (the guide's laid-datum.mjs) off the statement by which the dump's own 'gosem.cut.vars' lays the variable. In a bare row this is a premise. The card (YtkdpaoicekgalaaGreatDoorCards.lean) ties it to the program's text. -/
def laid_math_bits_deBruijn32tab {H : Type} : DataW H := .agg [.lit (.int .u8 0), .lit (.int .u8 1), .lit (.int .u8 28), .lit (.int .u8 2), .lit (.int .u8 29), .lit (.int .u8 14), .lit (.int .u8 24), .lit (.int .u8 3), .lit (.int .u8 30), .lit (.int .u8 22), .lit (.int .u8 20), .lit (.int .u8 15), .lit (.int .u8 25), .lit (.int .u8 17), .lit (.int .u8 4), .lit (.int .u8 8), .lit (.int .u8 31), .lit (.int .u8 27), .lit (.int .u8 13), .lit (.int .u8 23), .lit (.int .u8 21), .lit (.int .u8 19), .lit (.int .u8 16), .lit (.int .u8 7), .lit (.int .u8 26), .lit (.int .u8 12), .lit (.int .u8 18), .lit (.int .u8 6), .lit (.int .u8 11), .lit (.int .u8 5), .lit (.int .u8 10), .lit (.int .u8 9)]
def laid_math_bits_deBruijn64tab {H : Type} : DataW H := .agg [.lit (.int .u8 0), .lit (.int .u8 1), .lit (.int .u8 56), .lit (.int .u8 2), .lit (.int .u8 57), .lit (.int .u8 49), .lit (.int .u8 28), .lit (.int .u8 3), .lit (.int .u8 61), .lit (.int .u8 58), .lit (.int .u8 42), .lit (.int .u8 50), .lit (.int .u8 38), .lit (.int .u8 29), .lit (.int .u8 17), .lit (.int .u8 4), .lit (.int .u8 62), .lit (.int .u8 47), .lit (.int .u8 59), .lit (.int .u8 36), .lit (.int .u8 45), .lit (.int .u8 43), .lit (.int .u8 51), .lit (.int .u8 22), .lit (.int .u8 53), .lit (.int .u8 39), .lit (.int .u8 33), .lit (.int .u8 30), .lit (.int .u8 24), .lit (.int .u8 18), .lit (.int .u8 12), .lit (.int .u8 5), .lit (.int .u8 63), .lit (.int .u8 55), .lit (.int .u8 48), .lit (.int .u8 27), .lit (.int .u8 60), .lit (.int .u8 41), .lit (.int .u8 37), .lit (.int .u8 16), .lit (.int .u8 46), .lit (.int .u8 35), .lit (.int .u8 44), .lit (.int .u8 21), .lit (.int .u8 52), .lit (.int .u8 32), .lit (.int .u8 23), .lit (.int .u8 11), .lit (.int .u8 54), .lit (.int .u8 26), .lit (.int .u8 40), .lit (.int .u8 15), .lit (.int .u8 34), .lit (.int .u8 20), .lit (.int .u8 31), .lit (.int .u8 10), .lit (.int .u8 25), .lit (.int .u8 14), .lit (.int .u8 19), .lit (.int .u8 9), .lit (.int .u8 13), .lit (.int .u8 8), .lit (.int .u8 7), .lit (.int .u8 6)]
def laid_internal_strconv_uint64pow10 {H : Type} : DataW H := .agg [.lit (.int .u64 1), .lit (.int .u64 10), .lit (.int .u64 100), .lit (.int .u64 1000), .lit (.int .u64 10000), .lit (.int .u64 100000), .lit (.int .u64 1000000), .lit (.int .u64 10000000), .lit (.int .u64 100000000), .lit (.int .u64 1000000000), .lit (.int .u64 10000000000), .lit (.int .u64 100000000000), .lit (.int .u64 1000000000000), .lit (.int .u64 10000000000000), .lit (.int .u64 100000000000000), .lit (.int .u64 1000000000000000), .lit (.int .u64 10000000000000000), .lit (.int .u64 100000000000000000), .lit (.int .u64 1000000000000000000), .lit (.int .u64 10000000000000000000)]

/-- 'commutatorlaw03.IntervalMakes': WHATEVER THE INPUT: true; the input reads as it did. -/
def intervalMakesSpec : ChangeSpec := { name := "intervalMakes", fn := fun _ => fun
  | [d1, d2, d3] => { results := [.lit (.bool true)], args := [d1, d2, d3] }
  | _ => none }
def intervalMakesRow : OpenClaim := { program := "ytkdpaoicekgalaagreatdoor", sum := "4d6fa9d09cdaa00a2dbfdf9e8da18e2e56220edacf0118c65d386791747fd060", func := "commutator/commutatorlaw03.IntervalMakes", spec := "intervalMakes", inPlace := ["internal/abi.NoEscape", "internal/bytealg.MakeNoZero"], recurses := true, named := ["math/bits.deBruijn32tab", "math/bits.overflowError", "internal/strconv.uint64pow10", "math/bits.deBruijn64tab"], apart := false, laid := [("math/bits.deBruijn32tab", laid_math_bits_deBruijn32tab), ("math/bits.deBruijn64tab", laid_math_bits_deBruijn64tab), ("internal/strconv.uint64pow10", laid_internal_strconv_uint64pow10)] }
def IntervalMakesSaid : Prop := intervalMakesRow.holds Tryz.pinned (OpenSpec.ofChange intervalMakesSpec)

/-- ITS FALSE NEIGHBOUR: 'it returns false'. Refute it at one input. -/
def intervalMakesWrong : ChangeSpec := { name := "intervalMakes", fn := fun _ => fun
  | [d1, d2, d3] => { results := [.lit (.bool false)], args := [d1, d2, d3] }
  | _ => none }
def IntervalMakesWrongFalsely : Prop := intervalMakesRow.holds Tryz.pinned (OpenSpec.ofChange intervalMakesWrong)

/-- 'commutatorlaw03.IntervalContains': WHATEVER THE INPUT: true; the input reads as it did. -/
def intervalContainsSpec : ChangeSpec := { name := "intervalContains", fn := fun _ => fun
  | [d1, d2, d3] => { results := [.lit (.bool true)], args := [d1, d2, d3] }
  | _ => none }
def intervalContainsRow : OpenClaim := { program := "ytkdpaoicekgalaagreatdoor", sum := "4d6fa9d09cdaa00a2dbfdf9e8da18e2e56220edacf0118c65d386791747fd060", func := "commutator/commutatorlaw03.IntervalContains", spec := "intervalContains", inPlace := ["internal/abi.NoEscape", "internal/bytealg.MakeNoZero"], recurses := true, named := ["math/bits.deBruijn32tab", "math/bits.overflowError", "internal/strconv.uint64pow10", "math/bits.deBruijn64tab"], apart := false, laid := [("math/bits.deBruijn32tab", laid_math_bits_deBruijn32tab), ("math/bits.deBruijn64tab", laid_math_bits_deBruijn64tab), ("internal/strconv.uint64pow10", laid_internal_strconv_uint64pow10)] }
def IntervalContainsSaid : Prop := intervalContainsRow.holds Tryz.pinned (OpenSpec.ofChange intervalContainsSpec)

/-- ITS FALSE NEIGHBOUR: 'it returns false'. Refute it at one input. -/
def intervalContainsWrong : ChangeSpec := { name := "intervalContains", fn := fun _ => fun
  | [d1, d2, d3] => { results := [.lit (.bool false)], args := [d1, d2, d3] }
  | _ => none }
def IntervalContainsWrongFalsely : Prop := intervalContainsRow.holds Tryz.pinned (OpenSpec.ofChange intervalContainsWrong)

/-- 'commutatorlaw03.IntervalComputes': WHATEVER THE INPUT: true; the input reads as it did. -/
def intervalComputesSpec : ChangeSpec := { name := "intervalComputes", fn := fun _ => fun
  | [d1, d2] => { results := [.lit (.bool true)], args := [d1, d2] }
  | _ => none }
def intervalComputesRow : OpenClaim := { program := "ytkdpaoicekgalaagreatdoor", sum := "4d6fa9d09cdaa00a2dbfdf9e8da18e2e56220edacf0118c65d386791747fd060", func := "commutator/commutatorlaw03.IntervalComputes", spec := "intervalComputes", inPlace := ["internal/abi.NoEscape", "internal/bytealg.MakeNoZero"], recurses := true, named := ["math/bits.deBruijn32tab", "math/bits.overflowError", "internal/strconv.uint64pow10", "math/bits.deBruijn64tab"], apart := false, laid := [("math/bits.deBruijn32tab", laid_math_bits_deBruijn32tab), ("math/bits.deBruijn64tab", laid_math_bits_deBruijn64tab), ("internal/strconv.uint64pow10", laid_internal_strconv_uint64pow10)] }
def IntervalComputesSaid : Prop := intervalComputesRow.holds Tryz.pinned (OpenSpec.ofChange intervalComputesSpec)

/-- ITS FALSE NEIGHBOUR: 'it returns false'. Refute it at one input. -/
def intervalComputesWrong : ChangeSpec := { name := "intervalComputes", fn := fun _ => fun
  | [d1, d2] => { results := [.lit (.bool false)], args := [d1, d2] }
  | _ => none }
def IntervalComputesWrongFalsely : Prop := intervalComputesRow.holds Tryz.pinned (OpenSpec.ofChange intervalComputesWrong)

/-- 'commutatorlaw03.IntervalMonotone': WHATEVER THE INPUT: true; the input reads as it did. -/
def intervalMonotoneSpec : ChangeSpec := { name := "intervalMonotone", fn := fun _ => fun
  | [d1, d2, d3] => { results := [.lit (.bool true)], args := [d1, d2, d3] }
  | _ => none }
def intervalMonotoneRow : OpenClaim := { program := "ytkdpaoicekgalaagreatdoor", sum := "4d6fa9d09cdaa00a2dbfdf9e8da18e2e56220edacf0118c65d386791747fd060", func := "commutator/commutatorlaw03.IntervalMonotone", spec := "intervalMonotone", inPlace := ["internal/abi.NoEscape", "internal/bytealg.MakeNoZero"], recurses := true, named := ["math/bits.deBruijn32tab", "math/bits.overflowError", "internal/strconv.uint64pow10", "math/bits.deBruijn64tab"], apart := false, laid := [("math/bits.deBruijn32tab", laid_math_bits_deBruijn32tab), ("math/bits.deBruijn64tab", laid_math_bits_deBruijn64tab), ("internal/strconv.uint64pow10", laid_internal_strconv_uint64pow10)] }
def IntervalMonotoneSaid : Prop := intervalMonotoneRow.holds Tryz.pinned (OpenSpec.ofChange intervalMonotoneSpec)

/-- ITS FALSE NEIGHBOUR: 'it returns false'. Refute it at one input. -/
def intervalMonotoneWrong : ChangeSpec := { name := "intervalMonotone", fn := fun _ => fun
  | [d1, d2, d3] => { results := [.lit (.bool false)], args := [d1, d2, d3] }
  | _ => none }
def IntervalMonotoneWrongFalsely : Prop := intervalMonotoneRow.holds Tryz.pinned (OpenSpec.ofChange intervalMonotoneWrong)

/-- 'commutatorlaw03.IntervalValid': WHATEVER THE INPUT: true; the input reads as it did. -/
def intervalValidSpec : ChangeSpec := { name := "intervalValid", fn := fun _ => fun
  | [d1, d2] => { results := [.lit (.bool true)], args := [d1, d2] }
  | _ => none }
def intervalValidRow : OpenClaim := { program := "ytkdpaoicekgalaagreatdoor", sum := "4d6fa9d09cdaa00a2dbfdf9e8da18e2e56220edacf0118c65d386791747fd060", func := "commutator/commutatorlaw03.IntervalValid", spec := "intervalValid", inPlace := ["internal/abi.NoEscape", "internal/bytealg.MakeNoZero"], recurses := true, named := ["math/bits.deBruijn32tab", "math/bits.overflowError", "internal/strconv.uint64pow10", "math/bits.deBruijn64tab"], apart := false, laid := [("math/bits.deBruijn32tab", laid_math_bits_deBruijn32tab), ("math/bits.deBruijn64tab", laid_math_bits_deBruijn64tab), ("internal/strconv.uint64pow10", laid_internal_strconv_uint64pow10)] }
def IntervalValidSaid : Prop := intervalValidRow.holds Tryz.pinned (OpenSpec.ofChange intervalValidSpec)

/-- ITS FALSE NEIGHBOUR: 'it returns false'. Refute it at one input. -/
def intervalValidWrong : ChangeSpec := { name := "intervalValid", fn := fun _ => fun
  | [d1, d2] => { results := [.lit (.bool false)], args := [d1, d2] }
  | _ => none }
def IntervalValidWrongFalsely : Prop := intervalValidRow.holds Tryz.pinned (OpenSpec.ofChange intervalValidWrong)

/-- 'commutatorlaw03.IntervalLimits': WHATEVER THE INPUT: true; the input reads as it did. -/
def intervalLimitsSpec : ChangeSpec := { name := "intervalLimits", fn := fun _ => fun
  | [d1, d2, d3] => { results := [.lit (.bool true)], args := [d1, d2, d3] }
  | _ => none }
def intervalLimitsRow : OpenClaim := { program := "ytkdpaoicekgalaagreatdoor", sum := "4d6fa9d09cdaa00a2dbfdf9e8da18e2e56220edacf0118c65d386791747fd060", func := "commutator/commutatorlaw03.IntervalLimits", spec := "intervalLimits", inPlace := ["internal/abi.NoEscape", "internal/bytealg.MakeNoZero"], recurses := true, named := ["math/bits.deBruijn32tab", "math/bits.overflowError", "internal/strconv.uint64pow10", "math/bits.deBruijn64tab"], apart := false, laid := [("math/bits.deBruijn32tab", laid_math_bits_deBruijn32tab), ("math/bits.deBruijn64tab", laid_math_bits_deBruijn64tab), ("internal/strconv.uint64pow10", laid_internal_strconv_uint64pow10)] }
def IntervalLimitsSaid : Prop := intervalLimitsRow.holds Tryz.pinned (OpenSpec.ofChange intervalLimitsSpec)

/-- ITS FALSE NEIGHBOUR: 'it returns false'. Refute it at one input. -/
def intervalLimitsWrong : ChangeSpec := { name := "intervalLimits", fn := fun _ => fun
  | [d1, d2, d3] => { results := [.lit (.bool false)], args := [d1, d2, d3] }
  | _ => none }
def IntervalLimitsWrongFalsely : Prop := intervalLimitsRow.holds Tryz.pinned (OpenSpec.ofChange intervalLimitsWrong)

/-- 'commutatorlaw49.IdentifyIntervals': WHATEVER THE INPUT: true; the input reads as it did. -/
def identifyIntervalsSpec : ChangeSpec := { name := "identifyIntervals", fn := fun _ => fun
  | [d1, d2] => { results := [.lit (.bool true)], args := [d1, d2] }
  | _ => none }
def identifyIntervalsRow : OpenClaim := { program := "ytkdpaoicekgalaagreatdoor", sum := "4d6fa9d09cdaa00a2dbfdf9e8da18e2e56220edacf0118c65d386791747fd060", func := "commutator/commutatorlaw49.IdentifyIntervals", spec := "identifyIntervals", inPlace := ["internal/abi.NoEscape", "internal/bytealg.MakeNoZero"], unfollowed := true, recurses := true, named := ["math/bits.deBruijn32tab", "math/bits.overflowError", "internal/strconv.uint64pow10", "math/bits.deBruijn64tab"], apart := false, laid := [("math/bits.deBruijn32tab", laid_math_bits_deBruijn32tab), ("math/bits.deBruijn64tab", laid_math_bits_deBruijn64tab), ("internal/strconv.uint64pow10", laid_internal_strconv_uint64pow10)] }
def IdentifyIntervalsSaid : Prop := identifyIntervalsRow.holds Tryz.pinned (OpenSpec.ofChange identifyIntervalsSpec)

/-- ITS FALSE NEIGHBOUR: 'it returns false'. Refute it at one input. -/
def identifyIntervalsWrong : ChangeSpec := { name := "identifyIntervals", fn := fun _ => fun
  | [d1, d2] => { results := [.lit (.bool false)], args := [d1, d2] }
  | _ => none }
def IdentifyIntervalsWrongFalsely : Prop := identifyIntervalsRow.holds Tryz.pinned (OpenSpec.ofChange identifyIntervalsWrong)

/-- 'commutatorlaw49.IdentifyFits': WHATEVER THE INPUT: true; the input reads as it did. -/
def identifyFitsSpec : ChangeSpec := { name := "identifyFits", fn := fun _ => fun
  | [d1, d2, d3] => { results := [.lit (.bool true)], args := [d1, d2, d3] }
  | _ => none }
def identifyFitsRow : OpenClaim := { program := "ytkdpaoicekgalaagreatdoor", sum := "4d6fa9d09cdaa00a2dbfdf9e8da18e2e56220edacf0118c65d386791747fd060", func := "commutator/commutatorlaw49.IdentifyFits", spec := "identifyFits", inPlace := ["internal/abi.NoEscape", "internal/bytealg.MakeNoZero"], unfollowed := true, recurses := true, named := ["math/bits.deBruijn32tab", "math/bits.overflowError", "internal/strconv.uint64pow10", "math/bits.deBruijn64tab"], apart := false, laid := [("math/bits.deBruijn32tab", laid_math_bits_deBruijn32tab), ("math/bits.deBruijn64tab", laid_math_bits_deBruijn64tab), ("internal/strconv.uint64pow10", laid_internal_strconv_uint64pow10)] }
def IdentifyFitsSaid : Prop := identifyFitsRow.holds Tryz.pinned (OpenSpec.ofChange identifyFitsSpec)

/-- ITS FALSE NEIGHBOUR: 'it returns false'. Refute it at one input. -/
def identifyFitsWrong : ChangeSpec := { name := "identifyFits", fn := fun _ => fun
  | [d1, d2, d3] => { results := [.lit (.bool false)], args := [d1, d2, d3] }
  | _ => none }
def IdentifyFitsWrongFalsely : Prop := identifyFitsRow.holds Tryz.pinned (OpenSpec.ofChange identifyFitsWrong)

/-- 'commutatorlaw49.IdentifySuits': WHATEVER THE INPUT: true; the input reads as it did. -/
def identifySuitsSpec : ChangeSpec := { name := "identifySuits", fn := fun _ => fun
  | [d1, d2] => { results := [.lit (.bool true)], args := [d1, d2] }
  | _ => none }
def identifySuitsRow : OpenClaim := { program := "ytkdpaoicekgalaagreatdoor", sum := "4d6fa9d09cdaa00a2dbfdf9e8da18e2e56220edacf0118c65d386791747fd060", func := "commutator/commutatorlaw49.IdentifySuits", spec := "identifySuits", inPlace := ["internal/abi.NoEscape", "internal/bytealg.MakeNoZero"], unfollowed := true, recurses := true, named := ["math/bits.deBruijn32tab", "math/bits.overflowError", "internal/strconv.uint64pow10", "math/bits.deBruijn64tab"], apart := false, laid := [("math/bits.deBruijn32tab", laid_math_bits_deBruijn32tab), ("math/bits.deBruijn64tab", laid_math_bits_deBruijn64tab), ("internal/strconv.uint64pow10", laid_internal_strconv_uint64pow10)] }
def IdentifySuitsSaid : Prop := identifySuitsRow.holds Tryz.pinned (OpenSpec.ofChange identifySuitsSpec)

/-- ITS FALSE NEIGHBOUR: 'it returns false'. Refute it at one input. -/
def identifySuitsWrong : ChangeSpec := { name := "identifySuits", fn := fun _ => fun
  | [d1, d2] => { results := [.lit (.bool false)], args := [d1, d2] }
  | _ => none }
def IdentifySuitsWrongFalsely : Prop := identifySuitsRow.holds Tryz.pinned (OpenSpec.ofChange identifySuitsWrong)

/- THE SECOND FORM. 'bulk': how many values and letters a reading holds, each counted each time it is reached (what is shared counts as often as it is met; a slice's spare places count too). A statement '..UptoSaid' is the law's where the arguments, and the package variables that the reading takes, are together of bulk at most 1048576: NARROWER than '..Said'. Prove '..Said' where nothing that the law and all that it calls make is longer than what came in: it says more and counts as full. Else prove '..UptoSaid'. A law counts once. -/
mutual
def uptoBulk {H : Type} : DataW H → Nat
  | .lit (.string bytes) => bytes.length + 1
  | .lit _ => 1
  | .nil => 1
  | .ptr d => uptoBulk d + 1
  | .slice elems spare => uptoBulkAll elems + uptoBulkAll spare + 1
  | .agg parts => uptoBulkAll parts + 1
  | .iface _ d => uptoBulk d + 1
  | .map entries => uptoBulkEntries entries + 1
  | .held _ => 1
def uptoBulkAll {H : Type} : List (DataW H) → Nat
  | [] => 0
  | d :: r => uptoBulk d + uptoBulkAll r
def uptoBulkEntries {H : Type} : List (Lit × DataW H) → Nat
  | [] => 0
  | x :: r => uptoBulkEntry x + uptoBulkEntries r
def uptoBulkEntry {H : Type} : Lit × DataW H → Nat
  | (.string bytes, d) => bytes.length + uptoBulk d + 1
  | (_, d) => uptoBulk d + 1
 end
def uptoSmall : (H : Type) → List (DataW H) → Bool := fun _ ds => decide (uptoBulkAll ds ≤ 1048576)
def OpenSpec.upto (s : _root_.Go.ChangeSpec) : _root_.Go.OpenSpec := { _root_.Go.OpenSpec.ofChange s with cond := some uptoSmall }

/-- 'commutatorlaw03.IntervalMakes', WHERE WHAT IT READS IS OF BULK AT MOST 1048576: true; the input reads as it did. -/
def intervalMakesUptoRow : OpenClaim := { program := "ytkdpaoicekgalaagreatdoor", sum := "4d6fa9d09cdaa00a2dbfdf9e8da18e2e56220edacf0118c65d386791747fd060", func := "commutator/commutatorlaw03.IntervalMakes", spec := "intervalMakes", inPlace := ["internal/abi.NoEscape", "internal/bytealg.MakeNoZero"], recurses := true, named := ["math/bits.deBruijn32tab", "math/bits.overflowError", "internal/strconv.uint64pow10", "math/bits.deBruijn64tab"], apart := false, laid := [("math/bits.deBruijn32tab", laid_math_bits_deBruijn32tab), ("math/bits.deBruijn64tab", laid_math_bits_deBruijn64tab), ("internal/strconv.uint64pow10", laid_internal_strconv_uint64pow10)], narrowed := true }
def IntervalMakesUptoSaid : Prop := intervalMakesUptoRow.holds Tryz.pinned (OpenSpec.upto intervalMakesSpec)

/-- 'commutatorlaw03.IntervalContains', WHERE WHAT IT READS IS OF BULK AT MOST 1048576: true; the input reads as it did. -/
def intervalContainsUptoRow : OpenClaim := { program := "ytkdpaoicekgalaagreatdoor", sum := "4d6fa9d09cdaa00a2dbfdf9e8da18e2e56220edacf0118c65d386791747fd060", func := "commutator/commutatorlaw03.IntervalContains", spec := "intervalContains", inPlace := ["internal/abi.NoEscape", "internal/bytealg.MakeNoZero"], recurses := true, named := ["math/bits.deBruijn32tab", "math/bits.overflowError", "internal/strconv.uint64pow10", "math/bits.deBruijn64tab"], apart := false, laid := [("math/bits.deBruijn32tab", laid_math_bits_deBruijn32tab), ("math/bits.deBruijn64tab", laid_math_bits_deBruijn64tab), ("internal/strconv.uint64pow10", laid_internal_strconv_uint64pow10)], narrowed := true }
def IntervalContainsUptoSaid : Prop := intervalContainsUptoRow.holds Tryz.pinned (OpenSpec.upto intervalContainsSpec)

/-- 'commutatorlaw03.IntervalComputes', WHERE WHAT IT READS IS OF BULK AT MOST 1048576: true; the input reads as it did. -/
def intervalComputesUptoRow : OpenClaim := { program := "ytkdpaoicekgalaagreatdoor", sum := "4d6fa9d09cdaa00a2dbfdf9e8da18e2e56220edacf0118c65d386791747fd060", func := "commutator/commutatorlaw03.IntervalComputes", spec := "intervalComputes", inPlace := ["internal/abi.NoEscape", "internal/bytealg.MakeNoZero"], recurses := true, named := ["math/bits.deBruijn32tab", "math/bits.overflowError", "internal/strconv.uint64pow10", "math/bits.deBruijn64tab"], apart := false, laid := [("math/bits.deBruijn32tab", laid_math_bits_deBruijn32tab), ("math/bits.deBruijn64tab", laid_math_bits_deBruijn64tab), ("internal/strconv.uint64pow10", laid_internal_strconv_uint64pow10)], narrowed := true }
def IntervalComputesUptoSaid : Prop := intervalComputesUptoRow.holds Tryz.pinned (OpenSpec.upto intervalComputesSpec)

/-- 'commutatorlaw03.IntervalMonotone', WHERE WHAT IT READS IS OF BULK AT MOST 1048576: true; the input reads as it did. -/
def intervalMonotoneUptoRow : OpenClaim := { program := "ytkdpaoicekgalaagreatdoor", sum := "4d6fa9d09cdaa00a2dbfdf9e8da18e2e56220edacf0118c65d386791747fd060", func := "commutator/commutatorlaw03.IntervalMonotone", spec := "intervalMonotone", inPlace := ["internal/abi.NoEscape", "internal/bytealg.MakeNoZero"], recurses := true, named := ["math/bits.deBruijn32tab", "math/bits.overflowError", "internal/strconv.uint64pow10", "math/bits.deBruijn64tab"], apart := false, laid := [("math/bits.deBruijn32tab", laid_math_bits_deBruijn32tab), ("math/bits.deBruijn64tab", laid_math_bits_deBruijn64tab), ("internal/strconv.uint64pow10", laid_internal_strconv_uint64pow10)], narrowed := true }
def IntervalMonotoneUptoSaid : Prop := intervalMonotoneUptoRow.holds Tryz.pinned (OpenSpec.upto intervalMonotoneSpec)

/-- 'commutatorlaw03.IntervalValid', WHERE WHAT IT READS IS OF BULK AT MOST 1048576: true; the input reads as it did. -/
def intervalValidUptoRow : OpenClaim := { program := "ytkdpaoicekgalaagreatdoor", sum := "4d6fa9d09cdaa00a2dbfdf9e8da18e2e56220edacf0118c65d386791747fd060", func := "commutator/commutatorlaw03.IntervalValid", spec := "intervalValid", inPlace := ["internal/abi.NoEscape", "internal/bytealg.MakeNoZero"], recurses := true, named := ["math/bits.deBruijn32tab", "math/bits.overflowError", "internal/strconv.uint64pow10", "math/bits.deBruijn64tab"], apart := false, laid := [("math/bits.deBruijn32tab", laid_math_bits_deBruijn32tab), ("math/bits.deBruijn64tab", laid_math_bits_deBruijn64tab), ("internal/strconv.uint64pow10", laid_internal_strconv_uint64pow10)], narrowed := true }
def IntervalValidUptoSaid : Prop := intervalValidUptoRow.holds Tryz.pinned (OpenSpec.upto intervalValidSpec)

/-- 'commutatorlaw03.IntervalLimits', WHERE WHAT IT READS IS OF BULK AT MOST 1048576: true; the input reads as it did. -/
def intervalLimitsUptoRow : OpenClaim := { program := "ytkdpaoicekgalaagreatdoor", sum := "4d6fa9d09cdaa00a2dbfdf9e8da18e2e56220edacf0118c65d386791747fd060", func := "commutator/commutatorlaw03.IntervalLimits", spec := "intervalLimits", inPlace := ["internal/abi.NoEscape", "internal/bytealg.MakeNoZero"], recurses := true, named := ["math/bits.deBruijn32tab", "math/bits.overflowError", "internal/strconv.uint64pow10", "math/bits.deBruijn64tab"], apart := false, laid := [("math/bits.deBruijn32tab", laid_math_bits_deBruijn32tab), ("math/bits.deBruijn64tab", laid_math_bits_deBruijn64tab), ("internal/strconv.uint64pow10", laid_internal_strconv_uint64pow10)], narrowed := true }
def IntervalLimitsUptoSaid : Prop := intervalLimitsUptoRow.holds Tryz.pinned (OpenSpec.upto intervalLimitsSpec)

/-- 'commutatorlaw49.IdentifyIntervals', WHERE WHAT IT READS IS OF BULK AT MOST 1048576: true; the input reads as it did. -/
def identifyIntervalsUptoRow : OpenClaim := { program := "ytkdpaoicekgalaagreatdoor", sum := "4d6fa9d09cdaa00a2dbfdf9e8da18e2e56220edacf0118c65d386791747fd060", func := "commutator/commutatorlaw49.IdentifyIntervals", spec := "identifyIntervals", inPlace := ["internal/abi.NoEscape", "internal/bytealg.MakeNoZero"], unfollowed := true, recurses := true, named := ["math/bits.deBruijn32tab", "math/bits.overflowError", "internal/strconv.uint64pow10", "math/bits.deBruijn64tab"], apart := false, laid := [("math/bits.deBruijn32tab", laid_math_bits_deBruijn32tab), ("math/bits.deBruijn64tab", laid_math_bits_deBruijn64tab), ("internal/strconv.uint64pow10", laid_internal_strconv_uint64pow10)], narrowed := true }
def IdentifyIntervalsUptoSaid : Prop := identifyIntervalsUptoRow.holds Tryz.pinned (OpenSpec.upto identifyIntervalsSpec)

/-- 'commutatorlaw49.IdentifyFits', WHERE WHAT IT READS IS OF BULK AT MOST 1048576: true; the input reads as it did. -/
def identifyFitsUptoRow : OpenClaim := { program := "ytkdpaoicekgalaagreatdoor", sum := "4d6fa9d09cdaa00a2dbfdf9e8da18e2e56220edacf0118c65d386791747fd060", func := "commutator/commutatorlaw49.IdentifyFits", spec := "identifyFits", inPlace := ["internal/abi.NoEscape", "internal/bytealg.MakeNoZero"], unfollowed := true, recurses := true, named := ["math/bits.deBruijn32tab", "math/bits.overflowError", "internal/strconv.uint64pow10", "math/bits.deBruijn64tab"], apart := false, laid := [("math/bits.deBruijn32tab", laid_math_bits_deBruijn32tab), ("math/bits.deBruijn64tab", laid_math_bits_deBruijn64tab), ("internal/strconv.uint64pow10", laid_internal_strconv_uint64pow10)], narrowed := true }
def IdentifyFitsUptoSaid : Prop := identifyFitsUptoRow.holds Tryz.pinned (OpenSpec.upto identifyFitsSpec)

/-- 'commutatorlaw49.IdentifySuits', WHERE WHAT IT READS IS OF BULK AT MOST 1048576: true; the input reads as it did. -/
def identifySuitsUptoRow : OpenClaim := { program := "ytkdpaoicekgalaagreatdoor", sum := "4d6fa9d09cdaa00a2dbfdf9e8da18e2e56220edacf0118c65d386791747fd060", func := "commutator/commutatorlaw49.IdentifySuits", spec := "identifySuits", inPlace := ["internal/abi.NoEscape", "internal/bytealg.MakeNoZero"], unfollowed := true, recurses := true, named := ["math/bits.deBruijn32tab", "math/bits.overflowError", "internal/strconv.uint64pow10", "math/bits.deBruijn64tab"], apart := false, laid := [("math/bits.deBruijn32tab", laid_math_bits_deBruijn32tab), ("math/bits.deBruijn64tab", laid_math_bits_deBruijn64tab), ("internal/strconv.uint64pow10", laid_internal_strconv_uint64pow10)], narrowed := true }
def IdentifySuitsUptoSaid : Prop := identifySuitsUptoRow.holds Tryz.pinned (OpenSpec.upto identifySuitsSpec)

end Rows
end Go.Proofs.YtkdpaoicekgalaaGreatDoor
