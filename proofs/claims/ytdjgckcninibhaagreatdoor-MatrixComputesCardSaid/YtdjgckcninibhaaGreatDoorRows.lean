/-
  NARROWER THAN 'FOR EVERY INPUT', by the rows' own cells (each row's printed sentence says how): ObserverLocks: laid · ServoTracks: laid · TubeMakes: laid · TubeFinds: laid · TubeReaches: laid · TubeSteps: laid · TubeHolds: laid · IntervalComputes: laid · MatrixVectors: laid · MatrixBounds: laid · MatrixComputes: laid · MatrixChecks: laid.
  DERIVED. THE GIVEN ROWS OF THIS SEAT. 12 by the template 'for every input the law returns true; each argument reads behind the call as it read before'; 0 by the template 'total and deterministic' (their statements: YtdjgckcninibhaaGreatDoorTotals.lean).
  GIVEN WITH THE SEED: the statements are not yours to turn. If you find one false, say at which input.
  Laid BY PROGRAM, IN A SANDBOX (cutbox-rows.mjs): the forced cells as the released guide's own fill.sh prints them over the translation 33c46985f9c43edc… (all of the seat's roots in one cut). By AI agents, Wed Nov 11 2026. No macro, syntax, notation, axiom, sorry.
-/
import Derived.Test.YtdjgckcninibhaaGreatDoorChecked
import GoSem.Claim
import GoSem.ClaimJoined
import GoSem.ClaimMapViews
import Derived.JoinedTies
import Derived.KernelRfl
namespace Go.Proofs.YtdjgckcninibhaaGreatDoor
/- THE CELL 'sum', in the pinned program and in every row, IS THE sha256 OF THE DUMP (.gsa) THAT YtdjgckcninibhaaGreatDoorProg.lean LOADS. Nothing in Lean hashes anything: it is a label: what it is worth is what the hold of that sum in a sandbox is worth. -/
noncomputable def Tryz.pinned : Pinned := { name := "ytdjgckcninibhaagreatdoor", sum := "33c46985f9c43edc9465a96769b4a5dee4d6fc3d4a5aeba56d0f05e57ff63ad4", checked := Tryz.checked }
namespace Rows
def none {H : Type} : Left H := { results := [], args := [] }

/- WHAT THE LISTED PACKAGE-LEVEL VARIABLES READ AS WHEN THE CALL BEGINS. Each datum BY PROGRAM (the guide's laid-datum.mjs) off the statement by which the dump's own 'gosem.cut.vars' lays the variable. In a bare row this is a premise. The card (YtdjgckcninibhaaGreatDoorCards.lean) ties it to the program's text. -/
def laid_math_bits_deBruijn32tab {H : Type} : DataW H := .agg [.lit (.int .u8 0), .lit (.int .u8 1), .lit (.int .u8 28), .lit (.int .u8 2), .lit (.int .u8 29), .lit (.int .u8 14), .lit (.int .u8 24), .lit (.int .u8 3), .lit (.int .u8 30), .lit (.int .u8 22), .lit (.int .u8 20), .lit (.int .u8 15), .lit (.int .u8 25), .lit (.int .u8 17), .lit (.int .u8 4), .lit (.int .u8 8), .lit (.int .u8 31), .lit (.int .u8 27), .lit (.int .u8 13), .lit (.int .u8 23), .lit (.int .u8 21), .lit (.int .u8 19), .lit (.int .u8 16), .lit (.int .u8 7), .lit (.int .u8 26), .lit (.int .u8 12), .lit (.int .u8 18), .lit (.int .u8 6), .lit (.int .u8 11), .lit (.int .u8 5), .lit (.int .u8 10), .lit (.int .u8 9)]
def laid_math_bits_deBruijn64tab {H : Type} : DataW H := .agg [.lit (.int .u8 0), .lit (.int .u8 1), .lit (.int .u8 56), .lit (.int .u8 2), .lit (.int .u8 57), .lit (.int .u8 49), .lit (.int .u8 28), .lit (.int .u8 3), .lit (.int .u8 61), .lit (.int .u8 58), .lit (.int .u8 42), .lit (.int .u8 50), .lit (.int .u8 38), .lit (.int .u8 29), .lit (.int .u8 17), .lit (.int .u8 4), .lit (.int .u8 62), .lit (.int .u8 47), .lit (.int .u8 59), .lit (.int .u8 36), .lit (.int .u8 45), .lit (.int .u8 43), .lit (.int .u8 51), .lit (.int .u8 22), .lit (.int .u8 53), .lit (.int .u8 39), .lit (.int .u8 33), .lit (.int .u8 30), .lit (.int .u8 24), .lit (.int .u8 18), .lit (.int .u8 12), .lit (.int .u8 5), .lit (.int .u8 63), .lit (.int .u8 55), .lit (.int .u8 48), .lit (.int .u8 27), .lit (.int .u8 60), .lit (.int .u8 41), .lit (.int .u8 37), .lit (.int .u8 16), .lit (.int .u8 46), .lit (.int .u8 35), .lit (.int .u8 44), .lit (.int .u8 21), .lit (.int .u8 52), .lit (.int .u8 32), .lit (.int .u8 23), .lit (.int .u8 11), .lit (.int .u8 54), .lit (.int .u8 26), .lit (.int .u8 40), .lit (.int .u8 15), .lit (.int .u8 34), .lit (.int .u8 20), .lit (.int .u8 31), .lit (.int .u8 10), .lit (.int .u8 25), .lit (.int .u8 14), .lit (.int .u8 19), .lit (.int .u8 9), .lit (.int .u8 13), .lit (.int .u8 8), .lit (.int .u8 7), .lit (.int .u8 6)]
def laid_internal_strconv_uint64pow10 {H : Type} : DataW H := .agg [.lit (.int .u64 1), .lit (.int .u64 10), .lit (.int .u64 100), .lit (.int .u64 1000), .lit (.int .u64 10000), .lit (.int .u64 100000), .lit (.int .u64 1000000), .lit (.int .u64 10000000), .lit (.int .u64 100000000), .lit (.int .u64 1000000000), .lit (.int .u64 10000000000), .lit (.int .u64 100000000000), .lit (.int .u64 1000000000000), .lit (.int .u64 10000000000000), .lit (.int .u64 100000000000000), .lit (.int .u64 1000000000000000), .lit (.int .u64 10000000000000000), .lit (.int .u64 100000000000000000), .lit (.int .u64 1000000000000000000), .lit (.int .u64 10000000000000000000)]

/-- 'commutatorlaw39.ObserverLocks': WHATEVER THE INPUT: true; the input reads as it did. -/
def observerLocksSpec : ChangeSpec := { name := "observerLocks", fn := fun _ => fun
  | [d1, d2, d3] => { results := [.lit (.bool true)], args := [d1, d2, d3] }
  | _ => none }
def observerLocksRow : OpenClaim := { program := "ytdjgckcninibhaagreatdoor", sum := "33c46985f9c43edc9465a96769b4a5dee4d6fc3d4a5aeba56d0f05e57ff63ad4", func := "commutator/commutatorlaw39.ObserverLocks", spec := "observerLocks", unfollowed := true, recurses := true, named := ["math/bits.deBruijn32tab"], apart := false, laid := [("math/bits.deBruijn32tab", laid_math_bits_deBruijn32tab)] }
def ObserverLocksSaid : Prop := observerLocksRow.holds Tryz.pinned (OpenSpec.ofChange observerLocksSpec)

/-- ITS FALSE NEIGHBOUR: 'it returns false'. Refute it at one input. -/
def observerLocksWrong : ChangeSpec := { name := "observerLocks", fn := fun _ => fun
  | [d1, d2, d3] => { results := [.lit (.bool false)], args := [d1, d2, d3] }
  | _ => none }
def ObserverLocksWrongFalsely : Prop := observerLocksRow.holds Tryz.pinned (OpenSpec.ofChange observerLocksWrong)

/-- 'commutatorlaw38.ServoTracks': WHATEVER THE INPUT: true; the input reads as it did. -/
def servoTracksSpec : ChangeSpec := { name := "servoTracks", fn := fun _ => fun
  | [d1, d2, d3] => { results := [.lit (.bool true)], args := [d1, d2, d3] }
  | _ => none }
def servoTracksRow : OpenClaim := { program := "ytdjgckcninibhaagreatdoor", sum := "33c46985f9c43edc9465a96769b4a5dee4d6fc3d4a5aeba56d0f05e57ff63ad4", func := "commutator/commutatorlaw38.ServoTracks", spec := "servoTracks", unfollowed := true, recurses := true, named := ["math/bits.deBruijn32tab"], apart := false, laid := [("math/bits.deBruijn32tab", laid_math_bits_deBruijn32tab)] }
def ServoTracksSaid : Prop := servoTracksRow.holds Tryz.pinned (OpenSpec.ofChange servoTracksSpec)

/-- ITS FALSE NEIGHBOUR: 'it returns false'. Refute it at one input. -/
def servoTracksWrong : ChangeSpec := { name := "servoTracks", fn := fun _ => fun
  | [d1, d2, d3] => { results := [.lit (.bool false)], args := [d1, d2, d3] }
  | _ => none }
def ServoTracksWrongFalsely : Prop := servoTracksRow.holds Tryz.pinned (OpenSpec.ofChange servoTracksWrong)

/-- 'commutatorlaw18.TubeMakes': WHATEVER THE INPUT: true; the input reads as it did. -/
def tubeMakesSpec : ChangeSpec := { name := "tubeMakes", fn := fun _ => fun
  | [d1, d2] => { results := [.lit (.bool true)], args := [d1, d2] }
  | _ => none }
def tubeMakesRow : OpenClaim := { program := "ytdjgckcninibhaagreatdoor", sum := "33c46985f9c43edc9465a96769b4a5dee4d6fc3d4a5aeba56d0f05e57ff63ad4", func := "commutator/commutatorlaw18.TubeMakes", spec := "tubeMakes", unfollowed := true, recurses := true, named := ["math/bits.deBruijn32tab", "math/bits.overflowError"], apart := false, laid := [("math/bits.deBruijn32tab", laid_math_bits_deBruijn32tab)] }
def TubeMakesSaid : Prop := tubeMakesRow.holds Tryz.pinned (OpenSpec.ofChange tubeMakesSpec)

/-- ITS FALSE NEIGHBOUR: 'it returns false'. Refute it at one input. -/
def tubeMakesWrong : ChangeSpec := { name := "tubeMakes", fn := fun _ => fun
  | [d1, d2] => { results := [.lit (.bool false)], args := [d1, d2] }
  | _ => none }
def TubeMakesWrongFalsely : Prop := tubeMakesRow.holds Tryz.pinned (OpenSpec.ofChange tubeMakesWrong)

/-- 'commutatorlaw18.TubeFinds': WHATEVER THE INPUT: true; the input reads as it did. -/
def tubeFindsSpec : ChangeSpec := { name := "tubeFinds", fn := fun _ => fun
  | [d1, d2] => { results := [.lit (.bool true)], args := [d1, d2] }
  | _ => none }
def tubeFindsRow : OpenClaim := { program := "ytdjgckcninibhaagreatdoor", sum := "33c46985f9c43edc9465a96769b4a5dee4d6fc3d4a5aeba56d0f05e57ff63ad4", func := "commutator/commutatorlaw18.TubeFinds", spec := "tubeFinds", unfollowed := true, recurses := true, named := ["math/bits.deBruijn32tab", "math/bits.overflowError"], apart := false, laid := [("math/bits.deBruijn32tab", laid_math_bits_deBruijn32tab)] }
def TubeFindsSaid : Prop := tubeFindsRow.holds Tryz.pinned (OpenSpec.ofChange tubeFindsSpec)

/-- ITS FALSE NEIGHBOUR: 'it returns false'. Refute it at one input. -/
def tubeFindsWrong : ChangeSpec := { name := "tubeFinds", fn := fun _ => fun
  | [d1, d2] => { results := [.lit (.bool false)], args := [d1, d2] }
  | _ => none }
def TubeFindsWrongFalsely : Prop := tubeFindsRow.holds Tryz.pinned (OpenSpec.ofChange tubeFindsWrong)

/-- 'commutatorlaw18.TubeReaches': WHATEVER THE INPUT: true; the input reads as it did. -/
def tubeReachesSpec : ChangeSpec := { name := "tubeReaches", fn := fun _ => fun
  | [d1, d2, d3] => { results := [.lit (.bool true)], args := [d1, d2, d3] }
  | _ => none }
def tubeReachesRow : OpenClaim := { program := "ytdjgckcninibhaagreatdoor", sum := "33c46985f9c43edc9465a96769b4a5dee4d6fc3d4a5aeba56d0f05e57ff63ad4", func := "commutator/commutatorlaw18.TubeReaches", spec := "tubeReaches", unfollowed := true, recurses := true, named := ["math/bits.deBruijn32tab", "math/bits.overflowError"], apart := false, laid := [("math/bits.deBruijn32tab", laid_math_bits_deBruijn32tab)] }
def TubeReachesSaid : Prop := tubeReachesRow.holds Tryz.pinned (OpenSpec.ofChange tubeReachesSpec)

/-- ITS FALSE NEIGHBOUR: 'it returns false'. Refute it at one input. -/
def tubeReachesWrong : ChangeSpec := { name := "tubeReaches", fn := fun _ => fun
  | [d1, d2, d3] => { results := [.lit (.bool false)], args := [d1, d2, d3] }
  | _ => none }
def TubeReachesWrongFalsely : Prop := tubeReachesRow.holds Tryz.pinned (OpenSpec.ofChange tubeReachesWrong)

/-- 'commutatorlaw18.TubeSteps': WHATEVER THE INPUT: true; the input reads as it did. -/
def tubeStepsSpec : ChangeSpec := { name := "tubeSteps", fn := fun _ => fun
  | [d1, d2, d3] => { results := [.lit (.bool true)], args := [d1, d2, d3] }
  | _ => none }
def tubeStepsRow : OpenClaim := { program := "ytdjgckcninibhaagreatdoor", sum := "33c46985f9c43edc9465a96769b4a5dee4d6fc3d4a5aeba56d0f05e57ff63ad4", func := "commutator/commutatorlaw18.TubeSteps", spec := "tubeSteps", unfollowed := true, recurses := true, named := ["math/bits.deBruijn32tab", "math/bits.overflowError"], apart := false, laid := [("math/bits.deBruijn32tab", laid_math_bits_deBruijn32tab)] }
def TubeStepsSaid : Prop := tubeStepsRow.holds Tryz.pinned (OpenSpec.ofChange tubeStepsSpec)

/-- ITS FALSE NEIGHBOUR: 'it returns false'. Refute it at one input. -/
def tubeStepsWrong : ChangeSpec := { name := "tubeSteps", fn := fun _ => fun
  | [d1, d2, d3] => { results := [.lit (.bool false)], args := [d1, d2, d3] }
  | _ => none }
def TubeStepsWrongFalsely : Prop := tubeStepsRow.holds Tryz.pinned (OpenSpec.ofChange tubeStepsWrong)

/-- 'commutatorlaw18.TubeHolds': WHATEVER THE INPUT: true; the input reads as it did. -/
def tubeHoldsSpec : ChangeSpec := { name := "tubeHolds", fn := fun _ => fun
  | [d1, d2, d3] => { results := [.lit (.bool true)], args := [d1, d2, d3] }
  | _ => none }
def tubeHoldsRow : OpenClaim := { program := "ytdjgckcninibhaagreatdoor", sum := "33c46985f9c43edc9465a96769b4a5dee4d6fc3d4a5aeba56d0f05e57ff63ad4", func := "commutator/commutatorlaw18.TubeHolds", spec := "tubeHolds", unfollowed := true, recurses := true, named := ["math/bits.deBruijn32tab", "math/bits.overflowError"], apart := false, laid := [("math/bits.deBruijn32tab", laid_math_bits_deBruijn32tab)] }
def TubeHoldsSaid : Prop := tubeHoldsRow.holds Tryz.pinned (OpenSpec.ofChange tubeHoldsSpec)

/-- ITS FALSE NEIGHBOUR: 'it returns false'. Refute it at one input. -/
def tubeHoldsWrong : ChangeSpec := { name := "tubeHolds", fn := fun _ => fun
  | [d1, d2, d3] => { results := [.lit (.bool false)], args := [d1, d2, d3] }
  | _ => none }
def TubeHoldsWrongFalsely : Prop := tubeHoldsRow.holds Tryz.pinned (OpenSpec.ofChange tubeHoldsWrong)

/-- 'commutatorlaw03.IntervalComputes': WHATEVER THE INPUT: true; the input reads as it did. -/
def intervalComputesSpec : ChangeSpec := { name := "intervalComputes", fn := fun _ => fun
  | [d1, d2] => { results := [.lit (.bool true)], args := [d1, d2] }
  | _ => none }
def intervalComputesRow : OpenClaim := { program := "ytdjgckcninibhaagreatdoor", sum := "33c46985f9c43edc9465a96769b4a5dee4d6fc3d4a5aeba56d0f05e57ff63ad4", func := "commutator/commutatorlaw03.IntervalComputes", spec := "intervalComputes", inPlace := ["internal/abi.NoEscape", "internal/bytealg.MakeNoZero"], recurses := true, named := ["math/bits.deBruijn32tab", "math/bits.overflowError", "internal/strconv.uint64pow10", "math/bits.deBruijn64tab"], apart := false, laid := [("math/bits.deBruijn32tab", laid_math_bits_deBruijn32tab), ("math/bits.deBruijn64tab", laid_math_bits_deBruijn64tab), ("internal/strconv.uint64pow10", laid_internal_strconv_uint64pow10)] }
def IntervalComputesSaid : Prop := intervalComputesRow.holds Tryz.pinned (OpenSpec.ofChange intervalComputesSpec)

/-- ITS FALSE NEIGHBOUR: 'it returns false'. Refute it at one input. -/
def intervalComputesWrong : ChangeSpec := { name := "intervalComputes", fn := fun _ => fun
  | [d1, d2] => { results := [.lit (.bool false)], args := [d1, d2] }
  | _ => none }
def IntervalComputesWrongFalsely : Prop := intervalComputesRow.holds Tryz.pinned (OpenSpec.ofChange intervalComputesWrong)

/-- 'commutatorlaw04.MatrixVectors': WHATEVER THE INPUT: true; the input reads as it did. -/
def matrixVectorsSpec : ChangeSpec := { name := "matrixVectors", fn := fun _ => fun
  | [d1, d2] => { results := [.lit (.bool true)], args := [d1, d2] }
  | _ => none }
def matrixVectorsRow : OpenClaim := { program := "ytdjgckcninibhaagreatdoor", sum := "33c46985f9c43edc9465a96769b4a5dee4d6fc3d4a5aeba56d0f05e57ff63ad4", func := "commutator/commutatorlaw04.MatrixVectors", spec := "matrixVectors", inPlace := ["internal/abi.NoEscape", "internal/bytealg.MakeNoZero"], unfollowed := true, recurses := true, named := ["math/bits.deBruijn32tab", "math/bits.overflowError", "internal/strconv.uint64pow10", "math/bits.deBruijn64tab"], apart := false, laid := [("math/bits.deBruijn32tab", laid_math_bits_deBruijn32tab), ("math/bits.deBruijn64tab", laid_math_bits_deBruijn64tab), ("internal/strconv.uint64pow10", laid_internal_strconv_uint64pow10)] }
def MatrixVectorsSaid : Prop := matrixVectorsRow.holds Tryz.pinned (OpenSpec.ofChange matrixVectorsSpec)

/-- ITS FALSE NEIGHBOUR: 'it returns false'. Refute it at one input. -/
def matrixVectorsWrong : ChangeSpec := { name := "matrixVectors", fn := fun _ => fun
  | [d1, d2] => { results := [.lit (.bool false)], args := [d1, d2] }
  | _ => none }
def MatrixVectorsWrongFalsely : Prop := matrixVectorsRow.holds Tryz.pinned (OpenSpec.ofChange matrixVectorsWrong)

/-- 'commutatorlaw04.MatrixBounds': WHATEVER THE INPUT: true; the input reads as it did. -/
def matrixBoundsSpec : ChangeSpec := { name := "matrixBounds", fn := fun _ => fun
  | [d1, d2] => { results := [.lit (.bool true)], args := [d1, d2] }
  | _ => none }
def matrixBoundsRow : OpenClaim := { program := "ytdjgckcninibhaagreatdoor", sum := "33c46985f9c43edc9465a96769b4a5dee4d6fc3d4a5aeba56d0f05e57ff63ad4", func := "commutator/commutatorlaw04.MatrixBounds", spec := "matrixBounds", inPlace := ["internal/abi.NoEscape", "internal/bytealg.MakeNoZero"], unfollowed := true, recurses := true, named := ["math/bits.deBruijn32tab", "math/bits.overflowError", "internal/strconv.uint64pow10", "math/bits.deBruijn64tab"], apart := false, laid := [("math/bits.deBruijn32tab", laid_math_bits_deBruijn32tab), ("math/bits.deBruijn64tab", laid_math_bits_deBruijn64tab), ("internal/strconv.uint64pow10", laid_internal_strconv_uint64pow10)] }
def MatrixBoundsSaid : Prop := matrixBoundsRow.holds Tryz.pinned (OpenSpec.ofChange matrixBoundsSpec)

/-- ITS FALSE NEIGHBOUR: 'it returns false'. Refute it at one input. -/
def matrixBoundsWrong : ChangeSpec := { name := "matrixBounds", fn := fun _ => fun
  | [d1, d2] => { results := [.lit (.bool false)], args := [d1, d2] }
  | _ => none }
def MatrixBoundsWrongFalsely : Prop := matrixBoundsRow.holds Tryz.pinned (OpenSpec.ofChange matrixBoundsWrong)

/-- 'commutatorlaw04.MatrixComputes': WHATEVER THE INPUT: true; the input reads as it did. -/
def matrixComputesSpec : ChangeSpec := { name := "matrixComputes", fn := fun _ => fun
  | [d1, d2, d3] => { results := [.lit (.bool true)], args := [d1, d2, d3] }
  | _ => none }
def matrixComputesRow : OpenClaim := { program := "ytdjgckcninibhaagreatdoor", sum := "33c46985f9c43edc9465a96769b4a5dee4d6fc3d4a5aeba56d0f05e57ff63ad4", func := "commutator/commutatorlaw04.MatrixComputes", spec := "matrixComputes", inPlace := ["internal/abi.NoEscape", "internal/bytealg.MakeNoZero"], unfollowed := true, recurses := true, named := ["math/bits.deBruijn32tab", "math/bits.overflowError", "internal/strconv.uint64pow10", "math/bits.deBruijn64tab"], apart := false, laid := [("math/bits.deBruijn32tab", laid_math_bits_deBruijn32tab), ("math/bits.deBruijn64tab", laid_math_bits_deBruijn64tab), ("internal/strconv.uint64pow10", laid_internal_strconv_uint64pow10)] }
def MatrixComputesSaid : Prop := matrixComputesRow.holds Tryz.pinned (OpenSpec.ofChange matrixComputesSpec)

/-- ITS FALSE NEIGHBOUR: 'it returns false'. Refute it at one input. -/
def matrixComputesWrong : ChangeSpec := { name := "matrixComputes", fn := fun _ => fun
  | [d1, d2, d3] => { results := [.lit (.bool false)], args := [d1, d2, d3] }
  | _ => none }
def MatrixComputesWrongFalsely : Prop := matrixComputesRow.holds Tryz.pinned (OpenSpec.ofChange matrixComputesWrong)

/-- 'commutatorlaw04.MatrixChecks': WHATEVER THE INPUT: true; the input reads as it did. -/
def matrixChecksSpec : ChangeSpec := { name := "matrixChecks", fn := fun _ => fun
  | [d1, d2, d3] => { results := [.lit (.bool true)], args := [d1, d2, d3] }
  | _ => none }
def matrixChecksRow : OpenClaim := { program := "ytdjgckcninibhaagreatdoor", sum := "33c46985f9c43edc9465a96769b4a5dee4d6fc3d4a5aeba56d0f05e57ff63ad4", func := "commutator/commutatorlaw04.MatrixChecks", spec := "matrixChecks", inPlace := ["internal/abi.NoEscape", "internal/bytealg.MakeNoZero"], unfollowed := true, recurses := true, named := ["math/bits.deBruijn32tab", "math/bits.overflowError", "internal/strconv.uint64pow10", "math/bits.deBruijn64tab"], apart := false, laid := [("math/bits.deBruijn32tab", laid_math_bits_deBruijn32tab), ("math/bits.deBruijn64tab", laid_math_bits_deBruijn64tab), ("internal/strconv.uint64pow10", laid_internal_strconv_uint64pow10)] }
def MatrixChecksSaid : Prop := matrixChecksRow.holds Tryz.pinned (OpenSpec.ofChange matrixChecksSpec)

/-- ITS FALSE NEIGHBOUR: 'it returns false'. Refute it at one input. -/
def matrixChecksWrong : ChangeSpec := { name := "matrixChecks", fn := fun _ => fun
  | [d1, d2, d3] => { results := [.lit (.bool false)], args := [d1, d2, d3] }
  | _ => none }
def MatrixChecksWrongFalsely : Prop := matrixChecksRow.holds Tryz.pinned (OpenSpec.ofChange matrixChecksWrong)

/- THE SECOND FORM. 'bulk': how many values and letters a reading holds, each counted each time it is reached (what is shared counts as often as it is met; a slice's spare places count too). A statement '..UptoSaid' is the law's where the arguments, and the package variables that the reading takes, are together of bulk at most 1048576: NARROWER than '..Said'. Prove '..Said' where nothing that the law and all that it calls make is longer than what came in: it says more and counts as full. Else prove '..UptoSaid'. A law counts once. -/
mutual
def uptoBulk {H : Type} : DataW H → Nat
  | .lit (.string bytes) => bytes.length + 1
  | .lit _ => 1
  | .nil => 1
  | .ptr d => uptoBulk d + 1
  | .slice elems spare => uptoBulkAll elems + uptoBulkAll spare + 1
  | .agg parts => uptoBulkAll parts + 1
  | .iface _ d => uptoBulk d + 1
  | .map entries => uptoBulkEntries entries + 1
  | .held _ => 1
def uptoBulkAll {H : Type} : List (DataW H) → Nat
  | [] => 0
  | d :: r => uptoBulk d + uptoBulkAll r
def uptoBulkEntries {H : Type} : List (Lit × DataW H) → Nat
  | [] => 0
  | x :: r => uptoBulkEntry x + uptoBulkEntries r
def uptoBulkEntry {H : Type} : Lit × DataW H → Nat
  | (.string bytes, d) => bytes.length + uptoBulk d + 1
  | (_, d) => uptoBulk d + 1
 end
def uptoSmall : (H : Type) → List (DataW H) → Bool := fun _ ds => decide (uptoBulkAll ds ≤ 1048576)
def OpenSpec.upto (s : _root_.Go.ChangeSpec) : _root_.Go.OpenSpec := { _root_.Go.OpenSpec.ofChange s with cond := some uptoSmall }

/-- 'commutatorlaw39.ObserverLocks', WHERE WHAT IT READS IS OF BULK AT MOST 1048576: true; the input reads as it did. -/
def observerLocksUptoRow : OpenClaim := { program := "ytdjgckcninibhaagreatdoor", sum := "33c46985f9c43edc9465a96769b4a5dee4d6fc3d4a5aeba56d0f05e57ff63ad4", func := "commutator/commutatorlaw39.ObserverLocks", spec := "observerLocks", unfollowed := true, recurses := true, named := ["math/bits.deBruijn32tab"], apart := false, laid := [("math/bits.deBruijn32tab", laid_math_bits_deBruijn32tab)], narrowed := true }
def ObserverLocksUptoSaid : Prop := observerLocksUptoRow.holds Tryz.pinned (OpenSpec.upto observerLocksSpec)

/-- 'commutatorlaw38.ServoTracks', WHERE WHAT IT READS IS OF BULK AT MOST 1048576: true; the input reads as it did. -/
def servoTracksUptoRow : OpenClaim := { program := "ytdjgckcninibhaagreatdoor", sum := "33c46985f9c43edc9465a96769b4a5dee4d6fc3d4a5aeba56d0f05e57ff63ad4", func := "commutator/commutatorlaw38.ServoTracks", spec := "servoTracks", unfollowed := true, recurses := true, named := ["math/bits.deBruijn32tab"], apart := false, laid := [("math/bits.deBruijn32tab", laid_math_bits_deBruijn32tab)], narrowed := true }
def ServoTracksUptoSaid : Prop := servoTracksUptoRow.holds Tryz.pinned (OpenSpec.upto servoTracksSpec)

/-- 'commutatorlaw18.TubeMakes', WHERE WHAT IT READS IS OF BULK AT MOST 1048576: true; the input reads as it did. -/
def tubeMakesUptoRow : OpenClaim := { program := "ytdjgckcninibhaagreatdoor", sum := "33c46985f9c43edc9465a96769b4a5dee4d6fc3d4a5aeba56d0f05e57ff63ad4", func := "commutator/commutatorlaw18.TubeMakes", spec := "tubeMakes", unfollowed := true, recurses := true, named := ["math/bits.deBruijn32tab", "math/bits.overflowError"], apart := false, laid := [("math/bits.deBruijn32tab", laid_math_bits_deBruijn32tab)], narrowed := true }
def TubeMakesUptoSaid : Prop := tubeMakesUptoRow.holds Tryz.pinned (OpenSpec.upto tubeMakesSpec)

/-- 'commutatorlaw18.TubeFinds', WHERE WHAT IT READS IS OF BULK AT MOST 1048576: true; the input reads as it did. -/
def tubeFindsUptoRow : OpenClaim := { program := "ytdjgckcninibhaagreatdoor", sum := "33c46985f9c43edc9465a96769b4a5dee4d6fc3d4a5aeba56d0f05e57ff63ad4", func := "commutator/commutatorlaw18.TubeFinds", spec := "tubeFinds", unfollowed := true, recurses := true, named := ["math/bits.deBruijn32tab", "math/bits.overflowError"], apart := false, laid := [("math/bits.deBruijn32tab", laid_math_bits_deBruijn32tab)], narrowed := true }
def TubeFindsUptoSaid : Prop := tubeFindsUptoRow.holds Tryz.pinned (OpenSpec.upto tubeFindsSpec)

/-- 'commutatorlaw18.TubeReaches', WHERE WHAT IT READS IS OF BULK AT MOST 1048576: true; the input reads as it did. -/
def tubeReachesUptoRow : OpenClaim := { program := "ytdjgckcninibhaagreatdoor", sum := "33c46985f9c43edc9465a96769b4a5dee4d6fc3d4a5aeba56d0f05e57ff63ad4", func := "commutator/commutatorlaw18.TubeReaches", spec := "tubeReaches", unfollowed := true, recurses := true, named := ["math/bits.deBruijn32tab", "math/bits.overflowError"], apart := false, laid := [("math/bits.deBruijn32tab", laid_math_bits_deBruijn32tab)], narrowed := true }
def TubeReachesUptoSaid : Prop := tubeReachesUptoRow.holds Tryz.pinned (OpenSpec.upto tubeReachesSpec)

/-- 'commutatorlaw18.TubeSteps', WHERE WHAT IT READS IS OF BULK AT MOST 1048576: true; the input reads as it did. -/
def tubeStepsUptoRow : OpenClaim := { program := "ytdjgckcninibhaagreatdoor", sum := "33c46985f9c43edc9465a96769b4a5dee4d6fc3d4a5aeba56d0f05e57ff63ad4", func := "commutator/commutatorlaw18.TubeSteps", spec := "tubeSteps", unfollowed := true, recurses := true, named := ["math/bits.deBruijn32tab", "math/bits.overflowError"], apart := false, laid := [("math/bits.deBruijn32tab", laid_math_bits_deBruijn32tab)], narrowed := true }
def TubeStepsUptoSaid : Prop := tubeStepsUptoRow.holds Tryz.pinned (OpenSpec.upto tubeStepsSpec)

/-- 'commutatorlaw18.TubeHolds', WHERE WHAT IT READS IS OF BULK AT MOST 1048576: true; the input reads as it did. -/
def tubeHoldsUptoRow : OpenClaim := { program := "ytdjgckcninibhaagreatdoor", sum := "33c46985f9c43edc9465a96769b4a5dee4d6fc3d4a5aeba56d0f05e57ff63ad4", func := "commutator/commutatorlaw18.TubeHolds", spec := "tubeHolds", unfollowed := true, recurses := true, named := ["math/bits.deBruijn32tab", "math/bits.overflowError"], apart := false, laid := [("math/bits.deBruijn32tab", laid_math_bits_deBruijn32tab)], narrowed := true }
def TubeHoldsUptoSaid : Prop := tubeHoldsUptoRow.holds Tryz.pinned (OpenSpec.upto tubeHoldsSpec)

/-- 'commutatorlaw03.IntervalComputes', WHERE WHAT IT READS IS OF BULK AT MOST 1048576: true; the input reads as it did. -/
def intervalComputesUptoRow : OpenClaim := { program := "ytdjgckcninibhaagreatdoor", sum := "33c46985f9c43edc9465a96769b4a5dee4d6fc3d4a5aeba56d0f05e57ff63ad4", func := "commutator/commutatorlaw03.IntervalComputes", spec := "intervalComputes", inPlace := ["internal/abi.NoEscape", "internal/bytealg.MakeNoZero"], recurses := true, named := ["math/bits.deBruijn32tab", "math/bits.overflowError", "internal/strconv.uint64pow10", "math/bits.deBruijn64tab"], apart := false, laid := [("math/bits.deBruijn32tab", laid_math_bits_deBruijn32tab), ("math/bits.deBruijn64tab", laid_math_bits_deBruijn64tab), ("internal/strconv.uint64pow10", laid_internal_strconv_uint64pow10)], narrowed := true }
def IntervalComputesUptoSaid : Prop := intervalComputesUptoRow.holds Tryz.pinned (OpenSpec.upto intervalComputesSpec)

/-- 'commutatorlaw04.MatrixVectors', WHERE WHAT IT READS IS OF BULK AT MOST 1048576: true; the input reads as it did. -/
def matrixVectorsUptoRow : OpenClaim := { program := "ytdjgckcninibhaagreatdoor", sum := "33c46985f9c43edc9465a96769b4a5dee4d6fc3d4a5aeba56d0f05e57ff63ad4", func := "commutator/commutatorlaw04.MatrixVectors", spec := "matrixVectors", inPlace := ["internal/abi.NoEscape", "internal/bytealg.MakeNoZero"], unfollowed := true, recurses := true, named := ["math/bits.deBruijn32tab", "math/bits.overflowError", "internal/strconv.uint64pow10", "math/bits.deBruijn64tab"], apart := false, laid := [("math/bits.deBruijn32tab", laid_math_bits_deBruijn32tab), ("math/bits.deBruijn64tab", laid_math_bits_deBruijn64tab), ("internal/strconv.uint64pow10", laid_internal_strconv_uint64pow10)], narrowed := true }
def MatrixVectorsUptoSaid : Prop := matrixVectorsUptoRow.holds Tryz.pinned (OpenSpec.upto matrixVectorsSpec)

/-- 'commutatorlaw04.MatrixBounds', WHERE WHAT IT READS IS OF BULK AT MOST 1048576: true; the input reads as it did. -/
def matrixBoundsUptoRow : OpenClaim := { program := "ytdjgckcninibhaagreatdoor", sum := "33c46985f9c43edc9465a96769b4a5dee4d6fc3d4a5aeba56d0f05e57ff63ad4", func := "commutator/commutatorlaw04.MatrixBounds", spec := "matrixBounds", inPlace := ["internal/abi.NoEscape", "internal/bytealg.MakeNoZero"], unfollowed := true, recurses := true, named := ["math/bits.deBruijn32tab", "math/bits.overflowError", "internal/strconv.uint64pow10", "math/bits.deBruijn64tab"], apart := false, laid := [("math/bits.deBruijn32tab", laid_math_bits_deBruijn32tab), ("math/bits.deBruijn64tab", laid_math_bits_deBruijn64tab), ("internal/strconv.uint64pow10", laid_internal_strconv_uint64pow10)], narrowed := true }
def MatrixBoundsUptoSaid : Prop := matrixBoundsUptoRow.holds Tryz.pinned (OpenSpec.upto matrixBoundsSpec)

/-- 'commutatorlaw04.MatrixComputes', WHERE WHAT IT READS IS OF BULK AT MOST 1048576: true; the input reads as it did. -/
def matrixComputesUptoRow : OpenClaim := { program := "ytdjgckcninibhaagreatdoor", sum := "33c46985f9c43edc9465a96769b4a5dee4d6fc3d4a5aeba56d0f05e57ff63ad4", func := "commutator/commutatorlaw04.MatrixComputes", spec := "matrixComputes", inPlace := ["internal/abi.NoEscape", "internal/bytealg.MakeNoZero"], unfollowed := true, recurses := true, named := ["math/bits.deBruijn32tab", "math/bits.overflowError", "internal/strconv.uint64pow10", "math/bits.deBruijn64tab"], apart := false, laid := [("math/bits.deBruijn32tab", laid_math_bits_deBruijn32tab), ("math/bits.deBruijn64tab", laid_math_bits_deBruijn64tab), ("internal/strconv.uint64pow10", laid_internal_strconv_uint64pow10)], narrowed := true }
def MatrixComputesUptoSaid : Prop := matrixComputesUptoRow.holds Tryz.pinned (OpenSpec.upto matrixComputesSpec)

/-- 'commutatorlaw04.MatrixChecks', WHERE WHAT IT READS IS OF BULK AT MOST 1048576: true; the input reads as it did. -/
def matrixChecksUptoRow : OpenClaim := { program := "ytdjgckcninibhaagreatdoor", sum := "33c46985f9c43edc9465a96769b4a5dee4d6fc3d4a5aeba56d0f05e57ff63ad4", func := "commutator/commutatorlaw04.MatrixChecks", spec := "matrixChecks", inPlace := ["internal/abi.NoEscape", "internal/bytealg.MakeNoZero"], unfollowed := true, recurses := true, named := ["math/bits.deBruijn32tab", "math/bits.overflowError", "internal/strconv.uint64pow10", "math/bits.deBruijn64tab"], apart := false, laid := [("math/bits.deBruijn32tab", laid_math_bits_deBruijn32tab), ("math/bits.deBruijn64tab", laid_math_bits_deBruijn64tab), ("internal/strconv.uint64pow10", laid_internal_strconv_uint64pow10)], narrowed := true }
def MatrixChecksUptoSaid : Prop := matrixChecksUptoRow.holds Tryz.pinned (OpenSpec.upto matrixChecksSpec)

end Rows
end Go.Proofs.YtdjgckcninibhaaGreatDoor
