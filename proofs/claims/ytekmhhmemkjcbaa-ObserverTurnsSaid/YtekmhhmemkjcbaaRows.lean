/-
  No cell of these rows narrows 'for every input' (looked for: loops, veiled, ifaces, maps, wideKeys, modest, calm, conditions, laid).
  DERIVED. THE GIVEN ROWS OF THIS SEAT. 11 by the template 'for every input the law returns true; each argument reads behind the call as it read before'; 0 by the template 'total and deterministic' (their statements: YtekmhhmemkjcbaaTotals.lean).
  GIVEN WITH THE SEED: the statements are not yours to turn. If you find one false, say at which input.
  Laid BY PROGRAM, IN A SANDBOX (cutbox-rows.mjs): the forced cells as the released guide's own fill.sh prints them over the translation 6a9681c4dfb5c5b0… (all of the seat's roots in one cut). By AI agents, Wed Nov 11 2026. No macro, syntax, notation, axiom, sorry.
-/
import Derived.Test.YtekmhhmemkjcbaaChecked
import GoSem.Claim
import GoSem.ClaimJoined
import GoSem.ClaimMapViews
import Derived.JoinedTies
import Derived.KernelRfl
namespace Go.Proofs.Ytekmhhmemkjcbaa
/- THE CELL 'sum', in the pinned program and in every row, IS THE sha256 OF THE DUMP (.gsa) THAT YtekmhhmemkjcbaaProg.lean LOADS. Nothing in Lean hashes anything: it is a label: what it is worth is what the hold of that sum in a sandbox is worth. -/
noncomputable def Try.pinned : Pinned := { name := "ytekmhhmemkjcbaa", sum := "6a9681c4dfb5c5b03b246ad00786bb64ad0daf68e4da63d344fa1e2be3e17416", checked := Try.checked }
namespace Rows
def none {H : Type} : Left H := { results := [], args := [] }

/-- 'commutatorlaw38.ServoSteps': WHATEVER THE INPUT: true; the input reads as it did. -/
def servoStepsSpec : ChangeSpec := { name := "servoSteps", fn := fun _ => fun
  | [d1, d2, d3] => { results := [.lit (.bool true)], args := [d1, d2, d3] }
  | _ => none }
def servoStepsRow : OpenClaim := { program := "ytekmhhmemkjcbaa", sum := "6a9681c4dfb5c5b03b246ad00786bb64ad0daf68e4da63d344fa1e2be3e17416", func := "commutator/commutatorlaw38.ServoSteps", spec := "servoSteps", apart := false }
def ServoStepsSaid : Prop := servoStepsRow.holds Try.pinned (OpenSpec.ofChange servoStepsSpec)

/-- ITS FALSE NEIGHBOUR: 'it returns false'. Refute it at one input. -/
def servoStepsWrong : ChangeSpec := { name := "servoSteps", fn := fun _ => fun
  | [d1, d2, d3] => { results := [.lit (.bool false)], args := [d1, d2, d3] }
  | _ => none }
def ServoStepsWrongFalsely : Prop := servoStepsRow.holds Try.pinned (OpenSpec.ofChange servoStepsWrong)

/-- 'commutatorlaw38.ServoLimits': WHATEVER THE INPUT: true; the input reads as it did. -/
def servoLimitsSpec : ChangeSpec := { name := "servoLimits", fn := fun _ => fun
  | [d1, d2, d3] => { results := [.lit (.bool true)], args := [d1, d2, d3] }
  | _ => none }
def servoLimitsRow : OpenClaim := { program := "ytekmhhmemkjcbaa", sum := "6a9681c4dfb5c5b03b246ad00786bb64ad0daf68e4da63d344fa1e2be3e17416", func := "commutator/commutatorlaw38.ServoLimits", spec := "servoLimits", apart := false }
def ServoLimitsSaid : Prop := servoLimitsRow.holds Try.pinned (OpenSpec.ofChange servoLimitsSpec)

/-- ITS FALSE NEIGHBOUR: 'it returns false'. Refute it at one input. -/
def servoLimitsWrong : ChangeSpec := { name := "servoLimits", fn := fun _ => fun
  | [d1, d2, d3] => { results := [.lit (.bool false)], args := [d1, d2, d3] }
  | _ => none }
def ServoLimitsWrongFalsely : Prop := servoLimitsRow.holds Try.pinned (OpenSpec.ofChange servoLimitsWrong)

/-- 'commutatorlaw38.ServoMonotone': WHATEVER THE INPUT: true; the input reads as it did. -/
def servoMonotoneSpec : ChangeSpec := { name := "servoMonotone", fn := fun _ => fun
  | [d1, d2, d3] => { results := [.lit (.bool true)], args := [d1, d2, d3] }
  | _ => none }
def servoMonotoneRow : OpenClaim := { program := "ytekmhhmemkjcbaa", sum := "6a9681c4dfb5c5b03b246ad00786bb64ad0daf68e4da63d344fa1e2be3e17416", func := "commutator/commutatorlaw38.ServoMonotone", spec := "servoMonotone", apart := false }
def ServoMonotoneSaid : Prop := servoMonotoneRow.holds Try.pinned (OpenSpec.ofChange servoMonotoneSpec)

/-- ITS FALSE NEIGHBOUR: 'it returns false'. Refute it at one input. -/
def servoMonotoneWrong : ChangeSpec := { name := "servoMonotone", fn := fun _ => fun
  | [d1, d2, d3] => { results := [.lit (.bool false)], args := [d1, d2, d3] }
  | _ => none }
def ServoMonotoneWrongFalsely : Prop := servoMonotoneRow.holds Try.pinned (OpenSpec.ofChange servoMonotoneWrong)

/-- 'commutatorlaw39.ObserverBounds': WHATEVER THE INPUT: true; the input reads as it did. -/
def observerBoundsSpec : ChangeSpec := { name := "observerBounds", fn := fun _ => fun
  | [d1, d2, d3] => { results := [.lit (.bool true)], args := [d1, d2, d3] }
  | _ => none }
def observerBoundsRow : OpenClaim := { program := "ytekmhhmemkjcbaa", sum := "6a9681c4dfb5c5b03b246ad00786bb64ad0daf68e4da63d344fa1e2be3e17416", func := "commutator/commutatorlaw39.ObserverBounds", spec := "observerBounds", unfollowed := true, recurses := true, apart := false }
def ObserverBoundsSaid : Prop := observerBoundsRow.holds Try.pinned (OpenSpec.ofChange observerBoundsSpec)

/-- ITS FALSE NEIGHBOUR: 'it returns false'. Refute it at one input. -/
def observerBoundsWrong : ChangeSpec := { name := "observerBounds", fn := fun _ => fun
  | [d1, d2, d3] => { results := [.lit (.bool false)], args := [d1, d2, d3] }
  | _ => none }
def ObserverBoundsWrongFalsely : Prop := observerBoundsRow.holds Try.pinned (OpenSpec.ofChange observerBoundsWrong)

/-- 'commutatorlaw35.CurrentSteps': WHATEVER THE INPUT: true; the input reads as it did. -/
def currentStepsSpec : ChangeSpec := { name := "currentSteps", fn := fun _ => fun
  | [d1, d2, d3] => { results := [.lit (.bool true)], args := [d1, d2, d3] }
  | _ => none }
def currentStepsRow : OpenClaim := { program := "ytekmhhmemkjcbaa", sum := "6a9681c4dfb5c5b03b246ad00786bb64ad0daf68e4da63d344fa1e2be3e17416", func := "commutator/commutatorlaw35.CurrentSteps", spec := "currentSteps", apart := false }
def CurrentStepsSaid : Prop := currentStepsRow.holds Try.pinned (OpenSpec.ofChange currentStepsSpec)

/-- ITS FALSE NEIGHBOUR: 'it returns false'. Refute it at one input. -/
def currentStepsWrong : ChangeSpec := { name := "currentSteps", fn := fun _ => fun
  | [d1, d2, d3] => { results := [.lit (.bool false)], args := [d1, d2, d3] }
  | _ => none }
def CurrentStepsWrongFalsely : Prop := currentStepsRow.holds Try.pinned (OpenSpec.ofChange currentStepsWrong)

/-- 'commutatorlaw35.CurrentCircle': WHATEVER THE INPUT: true; the input reads as it did. -/
def currentCircleSpec : ChangeSpec := { name := "currentCircle", fn := fun _ => fun
  | [d1, d2, d3] => { results := [.lit (.bool true)], args := [d1, d2, d3] }
  | _ => none }
def currentCircleRow : OpenClaim := { program := "ytekmhhmemkjcbaa", sum := "6a9681c4dfb5c5b03b246ad00786bb64ad0daf68e4da63d344fa1e2be3e17416", func := "commutator/commutatorlaw35.CurrentCircle", spec := "currentCircle", apart := false }
def CurrentCircleSaid : Prop := currentCircleRow.holds Try.pinned (OpenSpec.ofChange currentCircleSpec)

/-- ITS FALSE NEIGHBOUR: 'it returns false'. Refute it at one input. -/
def currentCircleWrong : ChangeSpec := { name := "currentCircle", fn := fun _ => fun
  | [d1, d2, d3] => { results := [.lit (.bool false)], args := [d1, d2, d3] }
  | _ => none }
def CurrentCircleWrongFalsely : Prop := currentCircleRow.holds Try.pinned (OpenSpec.ofChange currentCircleWrong)

/-- 'commutatorlaw35.CurrentPriority': WHATEVER THE INPUT: true; the input reads as it did. -/
def currentPrioritySpec : ChangeSpec := { name := "currentPriority", fn := fun _ => fun
  | [d1, d2, d3] => { results := [.lit (.bool true)], args := [d1, d2, d3] }
  | _ => none }
def currentPriorityRow : OpenClaim := { program := "ytekmhhmemkjcbaa", sum := "6a9681c4dfb5c5b03b246ad00786bb64ad0daf68e4da63d344fa1e2be3e17416", func := "commutator/commutatorlaw35.CurrentPriority", spec := "currentPriority", apart := false }
def CurrentPrioritySaid : Prop := currentPriorityRow.holds Try.pinned (OpenSpec.ofChange currentPrioritySpec)

/-- ITS FALSE NEIGHBOUR: 'it returns false'. Refute it at one input. -/
def currentPriorityWrong : ChangeSpec := { name := "currentPriority", fn := fun _ => fun
  | [d1, d2, d3] => { results := [.lit (.bool false)], args := [d1, d2, d3] }
  | _ => none }
def CurrentPriorityWrongFalsely : Prop := currentPriorityRow.holds Try.pinned (OpenSpec.ofChange currentPriorityWrong)

/-- 'commutatorlaw35.CurrentWindup': WHATEVER THE INPUT: true; the input reads as it did. -/
def currentWindupSpec : ChangeSpec := { name := "currentWindup", fn := fun _ => fun
  | [d1, d2, d3] => { results := [.lit (.bool true)], args := [d1, d2, d3] }
  | _ => none }
def currentWindupRow : OpenClaim := { program := "ytekmhhmemkjcbaa", sum := "6a9681c4dfb5c5b03b246ad00786bb64ad0daf68e4da63d344fa1e2be3e17416", func := "commutator/commutatorlaw35.CurrentWindup", spec := "currentWindup", apart := false }
def CurrentWindupSaid : Prop := currentWindupRow.holds Try.pinned (OpenSpec.ofChange currentWindupSpec)

/-- ITS FALSE NEIGHBOUR: 'it returns false'. Refute it at one input. -/
def currentWindupWrong : ChangeSpec := { name := "currentWindup", fn := fun _ => fun
  | [d1, d2, d3] => { results := [.lit (.bool false)], args := [d1, d2, d3] }
  | _ => none }
def CurrentWindupWrongFalsely : Prop := currentWindupRow.holds Try.pinned (OpenSpec.ofChange currentWindupWrong)

/-- 'commutatorlaw35.CurrentPlain': WHATEVER THE INPUT: true; the input reads as it did. -/
def currentPlainSpec : ChangeSpec := { name := "currentPlain", fn := fun _ => fun
  | [d1, d2, d3] => { results := [.lit (.bool true)], args := [d1, d2, d3] }
  | _ => none }
def currentPlainRow : OpenClaim := { program := "ytekmhhmemkjcbaa", sum := "6a9681c4dfb5c5b03b246ad00786bb64ad0daf68e4da63d344fa1e2be3e17416", func := "commutator/commutatorlaw35.CurrentPlain", spec := "currentPlain", apart := false }
def CurrentPlainSaid : Prop := currentPlainRow.holds Try.pinned (OpenSpec.ofChange currentPlainSpec)

/-- ITS FALSE NEIGHBOUR: 'it returns false'. Refute it at one input. -/
def currentPlainWrong : ChangeSpec := { name := "currentPlain", fn := fun _ => fun
  | [d1, d2, d3] => { results := [.lit (.bool false)], args := [d1, d2, d3] }
  | _ => none }
def CurrentPlainWrongFalsely : Prop := currentPlainRow.holds Try.pinned (OpenSpec.ofChange currentPlainWrong)

/-- 'commutatorlaw39.ObserverSteps': WHATEVER THE INPUT: true; the input reads as it did. -/
def observerStepsSpec : ChangeSpec := { name := "observerSteps", fn := fun _ => fun
  | [d1, d2, d3] => { results := [.lit (.bool true)], args := [d1, d2, d3] }
  | _ => none }
def observerStepsRow : OpenClaim := { program := "ytekmhhmemkjcbaa", sum := "6a9681c4dfb5c5b03b246ad00786bb64ad0daf68e4da63d344fa1e2be3e17416", func := "commutator/commutatorlaw39.ObserverSteps", spec := "observerSteps", unfollowed := true, recurses := true, apart := false }
def ObserverStepsSaid : Prop := observerStepsRow.holds Try.pinned (OpenSpec.ofChange observerStepsSpec)

/-- ITS FALSE NEIGHBOUR: 'it returns false'. Refute it at one input. -/
def observerStepsWrong : ChangeSpec := { name := "observerSteps", fn := fun _ => fun
  | [d1, d2, d3] => { results := [.lit (.bool false)], args := [d1, d2, d3] }
  | _ => none }
def ObserverStepsWrongFalsely : Prop := observerStepsRow.holds Try.pinned (OpenSpec.ofChange observerStepsWrong)

/-- 'commutatorlaw39.ObserverTurns': WHATEVER THE INPUT: true; the input reads as it did. -/
def observerTurnsSpec : ChangeSpec := { name := "observerTurns", fn := fun _ => fun
  | [d1, d2, d3] => { results := [.lit (.bool true)], args := [d1, d2, d3] }
  | _ => none }
def observerTurnsRow : OpenClaim := { program := "ytekmhhmemkjcbaa", sum := "6a9681c4dfb5c5b03b246ad00786bb64ad0daf68e4da63d344fa1e2be3e17416", func := "commutator/commutatorlaw39.ObserverTurns", spec := "observerTurns", unfollowed := true, recurses := true, apart := false }
def ObserverTurnsSaid : Prop := observerTurnsRow.holds Try.pinned (OpenSpec.ofChange observerTurnsSpec)

/-- ITS FALSE NEIGHBOUR: 'it returns false'. Refute it at one input. -/
def observerTurnsWrong : ChangeSpec := { name := "observerTurns", fn := fun _ => fun
  | [d1, d2, d3] => { results := [.lit (.bool false)], args := [d1, d2, d3] }
  | _ => none }
def ObserverTurnsWrongFalsely : Prop := observerTurnsRow.holds Try.pinned (OpenSpec.ofChange observerTurnsWrong)

/- THE SECOND FORM. 'bulk': how many values and letters a reading holds, each counted each time it is reached (what is shared counts as often as it is met; a slice's spare places count too). A statement '..UptoSaid' is the law's where the arguments, and the package variables that the reading takes, are together of bulk at most 1048576: NARROWER than '..Said'. Prove '..Said' where nothing that the law and all that it calls make is longer than what came in: it says more and counts as full. Else prove '..UptoSaid'. A law counts once. -/
mutual
def uptoBulk {H : Type} : DataW H → Nat
  | .lit (.string bytes) => bytes.length + 1
  | .lit _ => 1
  | .nil => 1
  | .ptr d => uptoBulk d + 1
  | .slice elems spare => uptoBulkAll elems + uptoBulkAll spare + 1
  | .agg parts => uptoBulkAll parts + 1
  | .iface _ d => uptoBulk d + 1
  | .map entries => uptoBulkEntries entries + 1
  | .held _ => 1
def uptoBulkAll {H : Type} : List (DataW H) → Nat
  | [] => 0
  | d :: r => uptoBulk d + uptoBulkAll r
def uptoBulkEntries {H : Type} : List (Lit × DataW H) → Nat
  | [] => 0
  | x :: r => uptoBulkEntry x + uptoBulkEntries r
def uptoBulkEntry {H : Type} : Lit × DataW H → Nat
  | (.string bytes, d) => bytes.length + uptoBulk d + 1
  | (_, d) => uptoBulk d + 1
 end
def uptoSmall : (H : Type) → List (DataW H) → Bool := fun _ ds => decide (uptoBulkAll ds ≤ 1048576)
def OpenSpec.upto (s : _root_.Go.ChangeSpec) : _root_.Go.OpenSpec := { _root_.Go.OpenSpec.ofChange s with cond := some uptoSmall }

/-- 'commutatorlaw38.ServoSteps', WHERE WHAT IT READS IS OF BULK AT MOST 1048576: true; the input reads as it did. -/
def servoStepsUptoRow : OpenClaim := { program := "ytekmhhmemkjcbaa", sum := "6a9681c4dfb5c5b03b246ad00786bb64ad0daf68e4da63d344fa1e2be3e17416", func := "commutator/commutatorlaw38.ServoSteps", spec := "servoSteps", apart := false, narrowed := true }
def ServoStepsUptoSaid : Prop := servoStepsUptoRow.holds Try.pinned (OpenSpec.upto servoStepsSpec)

/-- 'commutatorlaw38.ServoLimits', WHERE WHAT IT READS IS OF BULK AT MOST 1048576: true; the input reads as it did. -/
def servoLimitsUptoRow : OpenClaim := { program := "ytekmhhmemkjcbaa", sum := "6a9681c4dfb5c5b03b246ad00786bb64ad0daf68e4da63d344fa1e2be3e17416", func := "commutator/commutatorlaw38.ServoLimits", spec := "servoLimits", apart := false, narrowed := true }
def ServoLimitsUptoSaid : Prop := servoLimitsUptoRow.holds Try.pinned (OpenSpec.upto servoLimitsSpec)

/-- 'commutatorlaw38.ServoMonotone', WHERE WHAT IT READS IS OF BULK AT MOST 1048576: true; the input reads as it did. -/
def servoMonotoneUptoRow : OpenClaim := { program := "ytekmhhmemkjcbaa", sum := "6a9681c4dfb5c5b03b246ad00786bb64ad0daf68e4da63d344fa1e2be3e17416", func := "commutator/commutatorlaw38.ServoMonotone", spec := "servoMonotone", apart := false, narrowed := true }
def ServoMonotoneUptoSaid : Prop := servoMonotoneUptoRow.holds Try.pinned (OpenSpec.upto servoMonotoneSpec)

/-- 'commutatorlaw39.ObserverBounds', WHERE WHAT IT READS IS OF BULK AT MOST 1048576: true; the input reads as it did. -/
def observerBoundsUptoRow : OpenClaim := { program := "ytekmhhmemkjcbaa", sum := "6a9681c4dfb5c5b03b246ad00786bb64ad0daf68e4da63d344fa1e2be3e17416", func := "commutator/commutatorlaw39.ObserverBounds", spec := "observerBounds", unfollowed := true, recurses := true, apart := false, narrowed := true }
def ObserverBoundsUptoSaid : Prop := observerBoundsUptoRow.holds Try.pinned (OpenSpec.upto observerBoundsSpec)

/-- 'commutatorlaw35.CurrentSteps', WHERE WHAT IT READS IS OF BULK AT MOST 1048576: true; the input reads as it did. -/
def currentStepsUptoRow : OpenClaim := { program := "ytekmhhmemkjcbaa", sum := "6a9681c4dfb5c5b03b246ad00786bb64ad0daf68e4da63d344fa1e2be3e17416", func := "commutator/commutatorlaw35.CurrentSteps", spec := "currentSteps", apart := false, narrowed := true }
def CurrentStepsUptoSaid : Prop := currentStepsUptoRow.holds Try.pinned (OpenSpec.upto currentStepsSpec)

/-- 'commutatorlaw35.CurrentCircle', WHERE WHAT IT READS IS OF BULK AT MOST 1048576: true; the input reads as it did. -/
def currentCircleUptoRow : OpenClaim := { program := "ytekmhhmemkjcbaa", sum := "6a9681c4dfb5c5b03b246ad00786bb64ad0daf68e4da63d344fa1e2be3e17416", func := "commutator/commutatorlaw35.CurrentCircle", spec := "currentCircle", apart := false, narrowed := true }
def CurrentCircleUptoSaid : Prop := currentCircleUptoRow.holds Try.pinned (OpenSpec.upto currentCircleSpec)

/-- 'commutatorlaw35.CurrentPriority', WHERE WHAT IT READS IS OF BULK AT MOST 1048576: true; the input reads as it did. -/
def currentPriorityUptoRow : OpenClaim := { program := "ytekmhhmemkjcbaa", sum := "6a9681c4dfb5c5b03b246ad00786bb64ad0daf68e4da63d344fa1e2be3e17416", func := "commutator/commutatorlaw35.CurrentPriority", spec := "currentPriority", apart := false, narrowed := true }
def CurrentPriorityUptoSaid : Prop := currentPriorityUptoRow.holds Try.pinned (OpenSpec.upto currentPrioritySpec)

/-- 'commutatorlaw35.CurrentWindup', WHERE WHAT IT READS IS OF BULK AT MOST 1048576: true; the input reads as it did. -/
def currentWindupUptoRow : OpenClaim := { program := "ytekmhhmemkjcbaa", sum := "6a9681c4dfb5c5b03b246ad00786bb64ad0daf68e4da63d344fa1e2be3e17416", func := "commutator/commutatorlaw35.CurrentWindup", spec := "currentWindup", apart := false, narrowed := true }
def CurrentWindupUptoSaid : Prop := currentWindupUptoRow.holds Try.pinned (OpenSpec.upto currentWindupSpec)

/-- 'commutatorlaw35.CurrentPlain', WHERE WHAT IT READS IS OF BULK AT MOST 1048576: true; the input reads as it did. -/
def currentPlainUptoRow : OpenClaim := { program := "ytekmhhmemkjcbaa", sum := "6a9681c4dfb5c5b03b246ad00786bb64ad0daf68e4da63d344fa1e2be3e17416", func := "commutator/commutatorlaw35.CurrentPlain", spec := "currentPlain", apart := false, narrowed := true }
def CurrentPlainUptoSaid : Prop := currentPlainUptoRow.holds Try.pinned (OpenSpec.upto currentPlainSpec)

/-- 'commutatorlaw39.ObserverSteps', WHERE WHAT IT READS IS OF BULK AT MOST 1048576: true; the input reads as it did. -/
def observerStepsUptoRow : OpenClaim := { program := "ytekmhhmemkjcbaa", sum := "6a9681c4dfb5c5b03b246ad00786bb64ad0daf68e4da63d344fa1e2be3e17416", func := "commutator/commutatorlaw39.ObserverSteps", spec := "observerSteps", unfollowed := true, recurses := true, apart := false, narrowed := true }
def ObserverStepsUptoSaid : Prop := observerStepsUptoRow.holds Try.pinned (OpenSpec.upto observerStepsSpec)

/-- 'commutatorlaw39.ObserverTurns', WHERE WHAT IT READS IS OF BULK AT MOST 1048576: true; the input reads as it did. -/
def observerTurnsUptoRow : OpenClaim := { program := "ytekmhhmemkjcbaa", sum := "6a9681c4dfb5c5b03b246ad00786bb64ad0daf68e4da63d344fa1e2be3e17416", func := "commutator/commutatorlaw39.ObserverTurns", spec := "observerTurns", unfollowed := true, recurses := true, apart := false, narrowed := true }
def ObserverTurnsUptoSaid : Prop := observerTurnsUptoRow.holds Try.pinned (OpenSpec.upto observerTurnsSpec)

end Rows
end Go.Proofs.Ytekmhhmemkjcbaa
