/-
  NARROWER THAN 'FOR EVERY INPUT', by the rows' own cells (each row's printed sentence says how): TubeMakes: laid · TubeFinds: laid · TubeReaches: laid · TubeSteps: laid · TubeHolds: laid · ServoTracks: laid · ObserverLocks: laid.
  DERIVED. THE GIVEN ROWS OF THIS SEAT. 7 by the template 'for every input the law returns true; each argument reads behind the call as it read before'; 0 by the template 'total and deterministic' (their statements: YtpggiabnhodjpaaGreatDoorTotals.lean).
  GIVEN WITH THE SEED: the statements are not yours to turn. If you find one false, say at which input.
  Laid BY PROGRAM, IN A SANDBOX (cutbox-rows.mjs): the forced cells as the released guide's own fill.sh prints them over the translation c95b2fa45ee37fd6… (all of the seat's roots in one cut). By AI agents, Wed Nov 11 2026. No macro, syntax, notation, axiom, sorry.
-/
import Derived.Test.YtpggiabnhodjpaaGreatDoorChecked
import GoSem.Claim
import GoSem.ClaimJoined
import GoSem.ClaimMapViews
import Derived.JoinedTies
import Derived.KernelRfl
namespace Go.Proofs.YtpggiabnhodjpaaGreatDoor
/- THE CELL 'sum', in the pinned program and in every row, IS THE sha256 OF THE DUMP (.gsa) THAT YtpggiabnhodjpaaGreatDoorProg.lean LOADS. Nothing in Lean hashes anything: it is a label: what it is worth is what the hold of that sum in a sandbox is worth. -/
noncomputable def Tryz.pinned : Pinned := { name := "ytpggiabnhodjpaagreatdoor", sum := "c95b2fa45ee37fd66339776eaf6d4164d58e8d7b746693aebb2cf1eac2ce2ec9", checked := Tryz.checked }
namespace Rows
def none {H : Type} : Left H := { results := [], args := [] }

/- WHAT THE LISTED PACKAGE-LEVEL VARIABLES READ AS WHEN THE CALL BEGINS. Each datum BY PROGRAM (the guide's laid-datum.mjs) off the statement by which the dump's own 'gosem.cut.vars' lays the variable. In a bare row this is a premise. The card (YtpggiabnhodjpaaGreatDoorCards.lean) ties it to the program's text. -/
def laid_math_bits_deBruijn32tab {H : Type} : DataW H := .agg [.lit (.int .u8 0), .lit (.int .u8 1), .lit (.int .u8 28), .lit (.int .u8 2), .lit (.int .u8 29), .lit (.int .u8 14), .lit (.int .u8 24), .lit (.int .u8 3), .lit (.int .u8 30), .lit (.int .u8 22), .lit (.int .u8 20), .lit (.int .u8 15), .lit (.int .u8 25), .lit (.int .u8 17), .lit (.int .u8 4), .lit (.int .u8 8), .lit (.int .u8 31), .lit (.int .u8 27), .lit (.int .u8 13), .lit (.int .u8 23), .lit (.int .u8 21), .lit (.int .u8 19), .lit (.int .u8 16), .lit (.int .u8 7), .lit (.int .u8 26), .lit (.int .u8 12), .lit (.int .u8 18), .lit (.int .u8 6), .lit (.int .u8 11), .lit (.int .u8 5), .lit (.int .u8 10), .lit (.int .u8 9)]

/-- 'commutatorlaw18.TubeMakes': WHATEVER THE INPUT: true; the input reads as it did. -/
def tubeMakesSpec : ChangeSpec := { name := "tubeMakes", fn := fun _ => fun
  | [d1, d2] => { results := [.lit (.bool true)], args := [d1, d2] }
  | _ => none }
def tubeMakesRow : OpenClaim := { program := "ytpggiabnhodjpaagreatdoor", sum := "c95b2fa45ee37fd66339776eaf6d4164d58e8d7b746693aebb2cf1eac2ce2ec9", func := "commutator/commutatorlaw18.TubeMakes", spec := "tubeMakes", unfollowed := true, recurses := true, named := ["math/bits.deBruijn32tab", "math/bits.overflowError"], apart := false, laid := [("math/bits.deBruijn32tab", laid_math_bits_deBruijn32tab)] }
def TubeMakesSaid : Prop := tubeMakesRow.holds Tryz.pinned (OpenSpec.ofChange tubeMakesSpec)

/-- ITS FALSE NEIGHBOUR: 'it returns false'. Refute it at one input. -/
def tubeMakesWrong : ChangeSpec := { name := "tubeMakes", fn := fun _ => fun
  | [d1, d2] => { results := [.lit (.bool false)], args := [d1, d2] }
  | _ => none }
def TubeMakesWrongFalsely : Prop := tubeMakesRow.holds Tryz.pinned (OpenSpec.ofChange tubeMakesWrong)

/-- 'commutatorlaw18.TubeFinds': WHATEVER THE INPUT: true; the input reads as it did. -/
def tubeFindsSpec : ChangeSpec := { name := "tubeFinds", fn := fun _ => fun
  | [d1, d2] => { results := [.lit (.bool true)], args := [d1, d2] }
  | _ => none }
def tubeFindsRow : OpenClaim := { program := "ytpggiabnhodjpaagreatdoor", sum := "c95b2fa45ee37fd66339776eaf6d4164d58e8d7b746693aebb2cf1eac2ce2ec9", func := "commutator/commutatorlaw18.TubeFinds", spec := "tubeFinds", unfollowed := true, recurses := true, named := ["math/bits.deBruijn32tab", "math/bits.overflowError"], apart := false, laid := [("math/bits.deBruijn32tab", laid_math_bits_deBruijn32tab)] }
def TubeFindsSaid : Prop := tubeFindsRow.holds Tryz.pinned (OpenSpec.ofChange tubeFindsSpec)

/-- ITS FALSE NEIGHBOUR: 'it returns false'. Refute it at one input. -/
def tubeFindsWrong : ChangeSpec := { name := "tubeFinds", fn := fun _ => fun
  | [d1, d2] => { results := [.lit (.bool false)], args := [d1, d2] }
  | _ => none }
def TubeFindsWrongFalsely : Prop := tubeFindsRow.holds Tryz.pinned (OpenSpec.ofChange tubeFindsWrong)

/-- 'commutatorlaw18.TubeReaches': WHATEVER THE INPUT: true; the input reads as it did. -/
def tubeReachesSpec : ChangeSpec := { name := "tubeReaches", fn := fun _ => fun
  | [d1, d2, d3] => { results := [.lit (.bool true)], args := [d1, d2, d3] }
  | _ => none }
def tubeReachesRow : OpenClaim := { program := "ytpggiabnhodjpaagreatdoor", sum := "c95b2fa45ee37fd66339776eaf6d4164d58e8d7b746693aebb2cf1eac2ce2ec9", func := "commutator/commutatorlaw18.TubeReaches", spec := "tubeReaches", unfollowed := true, recurses := true, named := ["math/bits.deBruijn32tab", "math/bits.overflowError"], apart := false, laid := [("math/bits.deBruijn32tab", laid_math_bits_deBruijn32tab)] }
def TubeReachesSaid : Prop := tubeReachesRow.holds Tryz.pinned (OpenSpec.ofChange tubeReachesSpec)

/-- ITS FALSE NEIGHBOUR: 'it returns false'. Refute it at one input. -/
def tubeReachesWrong : ChangeSpec := { name := "tubeReaches", fn := fun _ => fun
  | [d1, d2, d3] => { results := [.lit (.bool false)], args := [d1, d2, d3] }
  | _ => none }
def TubeReachesWrongFalsely : Prop := tubeReachesRow.holds Tryz.pinned (OpenSpec.ofChange tubeReachesWrong)

/-- 'commutatorlaw18.TubeSteps': WHATEVER THE INPUT: true; the input reads as it did. -/
def tubeStepsSpec : ChangeSpec := { name := "tubeSteps", fn := fun _ => fun
  | [d1, d2, d3] => { results := [.lit (.bool true)], args := [d1, d2, d3] }
  | _ => none }
def tubeStepsRow : OpenClaim := { program := "ytpggiabnhodjpaagreatdoor", sum := "c95b2fa45ee37fd66339776eaf6d4164d58e8d7b746693aebb2cf1eac2ce2ec9", func := "commutator/commutatorlaw18.TubeSteps", spec := "tubeSteps", unfollowed := true, recurses := true, named := ["math/bits.deBruijn32tab", "math/bits.overflowError"], apart := false, laid := [("math/bits.deBruijn32tab", laid_math_bits_deBruijn32tab)] }
def TubeStepsSaid : Prop := tubeStepsRow.holds Tryz.pinned (OpenSpec.ofChange tubeStepsSpec)

/-- ITS FALSE NEIGHBOUR: 'it returns false'. Refute it at one input. -/
def tubeStepsWrong : ChangeSpec := { name := "tubeSteps", fn := fun _ => fun
  | [d1, d2, d3] => { results := [.lit (.bool false)], args := [d1, d2, d3] }
  | _ => none }
def TubeStepsWrongFalsely : Prop := tubeStepsRow.holds Tryz.pinned (OpenSpec.ofChange tubeStepsWrong)

/-- 'commutatorlaw18.TubeHolds': WHATEVER THE INPUT: true; the input reads as it did. -/
def tubeHoldsSpec : ChangeSpec := { name := "tubeHolds", fn := fun _ => fun
  | [d1, d2, d3] => { results := [.lit (.bool true)], args := [d1, d2, d3] }
  | _ => none }
def tubeHoldsRow : OpenClaim := { program := "ytpggiabnhodjpaagreatdoor", sum := "c95b2fa45ee37fd66339776eaf6d4164d58e8d7b746693aebb2cf1eac2ce2ec9", func := "commutator/commutatorlaw18.TubeHolds", spec := "tubeHolds", unfollowed := true, recurses := true, named := ["math/bits.deBruijn32tab", "math/bits.overflowError"], apart := false, laid := [("math/bits.deBruijn32tab", laid_math_bits_deBruijn32tab)] }
def TubeHoldsSaid : Prop := tubeHoldsRow.holds Tryz.pinned (OpenSpec.ofChange tubeHoldsSpec)

/-- ITS FALSE NEIGHBOUR: 'it returns false'. Refute it at one input. -/
def tubeHoldsWrong : ChangeSpec := { name := "tubeHolds", fn := fun _ => fun
  | [d1, d2, d3] => { results := [.lit (.bool false)], args := [d1, d2, d3] }
  | _ => none }
def TubeHoldsWrongFalsely : Prop := tubeHoldsRow.holds Tryz.pinned (OpenSpec.ofChange tubeHoldsWrong)

/-- 'commutatorlaw38.ServoTracks': WHATEVER THE INPUT: true; the input reads as it did. -/
def servoTracksSpec : ChangeSpec := { name := "servoTracks", fn := fun _ => fun
  | [d1, d2, d3] => { results := [.lit (.bool true)], args := [d1, d2, d3] }
  | _ => none }
def servoTracksRow : OpenClaim := { program := "ytpggiabnhodjpaagreatdoor", sum := "c95b2fa45ee37fd66339776eaf6d4164d58e8d7b746693aebb2cf1eac2ce2ec9", func := "commutator/commutatorlaw38.ServoTracks", spec := "servoTracks", unfollowed := true, recurses := true, named := ["math/bits.deBruijn32tab"], apart := false, laid := [("math/bits.deBruijn32tab", laid_math_bits_deBruijn32tab)] }
def ServoTracksSaid : Prop := servoTracksRow.holds Tryz.pinned (OpenSpec.ofChange servoTracksSpec)

/-- ITS FALSE NEIGHBOUR: 'it returns false'. Refute it at one input. -/
def servoTracksWrong : ChangeSpec := { name := "servoTracks", fn := fun _ => fun
  | [d1, d2, d3] => { results := [.lit (.bool false)], args := [d1, d2, d3] }
  | _ => none }
def ServoTracksWrongFalsely : Prop := servoTracksRow.holds Tryz.pinned (OpenSpec.ofChange servoTracksWrong)

/-- 'commutatorlaw39.ObserverLocks': WHATEVER THE INPUT: true; the input reads as it did. -/
def observerLocksSpec : ChangeSpec := { name := "observerLocks", fn := fun _ => fun
  | [d1, d2, d3] => { results := [.lit (.bool true)], args := [d1, d2, d3] }
  | _ => none }
def observerLocksRow : OpenClaim := { program := "ytpggiabnhodjpaagreatdoor", sum := "c95b2fa45ee37fd66339776eaf6d4164d58e8d7b746693aebb2cf1eac2ce2ec9", func := "commutator/commutatorlaw39.ObserverLocks", spec := "observerLocks", unfollowed := true, recurses := true, named := ["math/bits.deBruijn32tab"], apart := false, laid := [("math/bits.deBruijn32tab", laid_math_bits_deBruijn32tab)] }
def ObserverLocksSaid : Prop := observerLocksRow.holds Tryz.pinned (OpenSpec.ofChange observerLocksSpec)

/-- ITS FALSE NEIGHBOUR: 'it returns false'. Refute it at one input. -/
def observerLocksWrong : ChangeSpec := { name := "observerLocks", fn := fun _ => fun
  | [d1, d2, d3] => { results := [.lit (.bool false)], args := [d1, d2, d3] }
  | _ => none }
def ObserverLocksWrongFalsely : Prop := observerLocksRow.holds Tryz.pinned (OpenSpec.ofChange observerLocksWrong)

/- THE SECOND FORM. 'bulk': how many values and letters a reading holds, each counted each time it is reached (what is shared counts as often as it is met; a slice's spare places count too). A statement '..UptoSaid' is the law's where the arguments, and the package variables that the reading takes, are together of bulk at most 1048576: NARROWER than '..Said'. Prove '..Said' where nothing that the law and all that it calls make is longer than what came in: it says more and counts as full. Else prove '..UptoSaid'. A law counts once. -/
mutual
def uptoBulk {H : Type} : DataW H → Nat
  | .lit (.string bytes) => bytes.length + 1
  | .lit _ => 1
  | .nil => 1
  | .ptr d => uptoBulk d + 1
  | .slice elems spare => uptoBulkAll elems + uptoBulkAll spare + 1
  | .agg parts => uptoBulkAll parts + 1
  | .iface _ d => uptoBulk d + 1
  | .map entries => uptoBulkEntries entries + 1
  | .held _ => 1
def uptoBulkAll {H : Type} : List (DataW H) → Nat
  | [] => 0
  | d :: r => uptoBulk d + uptoBulkAll r
def uptoBulkEntries {H : Type} : List (Lit × DataW H) → Nat
  | [] => 0
  | x :: r => uptoBulkEntry x + uptoBulkEntries r
def uptoBulkEntry {H : Type} : Lit × DataW H → Nat
  | (.string bytes, d) => bytes.length + uptoBulk d + 1
  | (_, d) => uptoBulk d + 1
 end
def uptoSmall : (H : Type) → List (DataW H) → Bool := fun _ ds => decide (uptoBulkAll ds ≤ 1048576)
def OpenSpec.upto (s : _root_.Go.ChangeSpec) : _root_.Go.OpenSpec := { _root_.Go.OpenSpec.ofChange s with cond := some uptoSmall }

/-- 'commutatorlaw18.TubeMakes', WHERE WHAT IT READS IS OF BULK AT MOST 1048576: true; the input reads as it did. -/
def tubeMakesUptoRow : OpenClaim := { program := "ytpggiabnhodjpaagreatdoor", sum := "c95b2fa45ee37fd66339776eaf6d4164d58e8d7b746693aebb2cf1eac2ce2ec9", func := "commutator/commutatorlaw18.TubeMakes", spec := "tubeMakes", unfollowed := true, recurses := true, named := ["math/bits.deBruijn32tab", "math/bits.overflowError"], apart := false, laid := [("math/bits.deBruijn32tab", laid_math_bits_deBruijn32tab)], narrowed := true }
def TubeMakesUptoSaid : Prop := tubeMakesUptoRow.holds Tryz.pinned (OpenSpec.upto tubeMakesSpec)

/-- 'commutatorlaw18.TubeFinds', WHERE WHAT IT READS IS OF BULK AT MOST 1048576: true; the input reads as it did. -/
def tubeFindsUptoRow : OpenClaim := { program := "ytpggiabnhodjpaagreatdoor", sum := "c95b2fa45ee37fd66339776eaf6d4164d58e8d7b746693aebb2cf1eac2ce2ec9", func := "commutator/commutatorlaw18.TubeFinds", spec := "tubeFinds", unfollowed := true, recurses := true, named := ["math/bits.deBruijn32tab", "math/bits.overflowError"], apart := false, laid := [("math/bits.deBruijn32tab", laid_math_bits_deBruijn32tab)], narrowed := true }
def TubeFindsUptoSaid : Prop := tubeFindsUptoRow.holds Tryz.pinned (OpenSpec.upto tubeFindsSpec)

/-- 'commutatorlaw18.TubeReaches', WHERE WHAT IT READS IS OF BULK AT MOST 1048576: true; the input reads as it did. -/
def tubeReachesUptoRow : OpenClaim := { program := "ytpggiabnhodjpaagreatdoor", sum := "c95b2fa45ee37fd66339776eaf6d4164d58e8d7b746693aebb2cf1eac2ce2ec9", func := "commutator/commutatorlaw18.TubeReaches", spec := "tubeReaches", unfollowed := true, recurses := true, named := ["math/bits.deBruijn32tab", "math/bits.overflowError"], apart := false, laid := [("math/bits.deBruijn32tab", laid_math_bits_deBruijn32tab)], narrowed := true }
def TubeReachesUptoSaid : Prop := tubeReachesUptoRow.holds Tryz.pinned (OpenSpec.upto tubeReachesSpec)

/-- 'commutatorlaw18.TubeSteps', WHERE WHAT IT READS IS OF BULK AT MOST 1048576: true; the input reads as it did. -/
def tubeStepsUptoRow : OpenClaim := { program := "ytpggiabnhodjpaagreatdoor", sum := "c95b2fa45ee37fd66339776eaf6d4164d58e8d7b746693aebb2cf1eac2ce2ec9", func := "commutator/commutatorlaw18.TubeSteps", spec := "tubeSteps", unfollowed := true, recurses := true, named := ["math/bits.deBruijn32tab", "math/bits.overflowError"], apart := false, laid := [("math/bits.deBruijn32tab", laid_math_bits_deBruijn32tab)], narrowed := true }
def TubeStepsUptoSaid : Prop := tubeStepsUptoRow.holds Tryz.pinned (OpenSpec.upto tubeStepsSpec)

/-- 'commutatorlaw18.TubeHolds', WHERE WHAT IT READS IS OF BULK AT MOST 1048576: true; the input reads as it did. -/
def tubeHoldsUptoRow : OpenClaim := { program := "ytpggiabnhodjpaagreatdoor", sum := "c95b2fa45ee37fd66339776eaf6d4164d58e8d7b746693aebb2cf1eac2ce2ec9", func := "commutator/commutatorlaw18.TubeHolds", spec := "tubeHolds", unfollowed := true, recurses := true, named := ["math/bits.deBruijn32tab", "math/bits.overflowError"], apart := false, laid := [("math/bits.deBruijn32tab", laid_math_bits_deBruijn32tab)], narrowed := true }
def TubeHoldsUptoSaid : Prop := tubeHoldsUptoRow.holds Tryz.pinned (OpenSpec.upto tubeHoldsSpec)

/-- 'commutatorlaw38.ServoTracks', WHERE WHAT IT READS IS OF BULK AT MOST 1048576: true; the input reads as it did. -/
def servoTracksUptoRow : OpenClaim := { program := "ytpggiabnhodjpaagreatdoor", sum := "c95b2fa45ee37fd66339776eaf6d4164d58e8d7b746693aebb2cf1eac2ce2ec9", func := "commutator/commutatorlaw38.ServoTracks", spec := "servoTracks", unfollowed := true, recurses := true, named := ["math/bits.deBruijn32tab"], apart := false, laid := [("math/bits.deBruijn32tab", laid_math_bits_deBruijn32tab)], narrowed := true }
def ServoTracksUptoSaid : Prop := servoTracksUptoRow.holds Tryz.pinned (OpenSpec.upto servoTracksSpec)

/-- 'commutatorlaw39.ObserverLocks', WHERE WHAT IT READS IS OF BULK AT MOST 1048576: true; the input reads as it did. -/
def observerLocksUptoRow : OpenClaim := { program := "ytpggiabnhodjpaagreatdoor", sum := "c95b2fa45ee37fd66339776eaf6d4164d58e8d7b746693aebb2cf1eac2ce2ec9", func := "commutator/commutatorlaw39.ObserverLocks", spec := "observerLocks", unfollowed := true, recurses := true, named := ["math/bits.deBruijn32tab"], apart := false, laid := [("math/bits.deBruijn32tab", laid_math_bits_deBruijn32tab)], narrowed := true }
def ObserverLocksUptoSaid : Prop := observerLocksUptoRow.holds Tryz.pinned (OpenSpec.upto observerLocksSpec)

end Rows
end Go.Proofs.YtpggiabnhodjpaaGreatDoor
