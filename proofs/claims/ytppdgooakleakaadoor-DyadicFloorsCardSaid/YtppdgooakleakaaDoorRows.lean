/-
  NARROWER THAN 'FOR EVERY INPUT', by the rows' own cells (each row's printed sentence says how): DyadicFinest: laid · DyadicMuls: laid · DyadicFloors: laid · DyadicQuos: laid · DyadicAdds: laid · DyadicRings: laid · DyadicOrders: laid · DyadicInts: laid · DyadicValid: laid.
  DERIVED. THE GIVEN ROWS OF THIS SEAT. 9 by the template 'for every input the law returns true; each argument reads behind the call as it read before'; 0 by the template 'total and deterministic' (their statements: YtppdgooakleakaaDoorTotals.lean).
  GIVEN WITH THE SEED: the statements are not yours to turn. If you find one false, say at which input.
  Laid BY PROGRAM, IN A SANDBOX (cutbox-rows.mjs): the forced cells as the released guide's own fill.sh prints them over the translation b28f1cef91258a89… (all of the seat's roots in one cut). By AI agents, Wed Nov 11 2026. No macro, syntax, notation, axiom, sorry.
-/
import Derived.Test.YtppdgooakleakaaDoorChecked
import GoSem.Claim
import GoSem.ClaimJoined
import GoSem.ClaimMapViews
import Derived.JoinedTies
import Derived.KernelRfl
namespace Go.Proofs.YtppdgooakleakaaDoor
/- THE CELL 'sum', in the pinned program and in every row, IS THE sha256 OF THE DUMP (.gsa) THAT YtppdgooakleakaaDoorProg.lean LOADS. Nothing in Lean hashes anything: it is a label: what it is worth is what the hold of that sum in a sandbox is worth. -/
noncomputable def Tryd.pinned : Pinned := { name := "ytppdgooakleakaadoor", sum := "b28f1cef91258a89301adc167de1ca359b29e40d409b0f0b054bc724e5b0e45e", checked := Tryd.checked }
namespace Rows
def none {H : Type} : Left H := { results := [], args := [] }

/- WHAT THE LISTED PACKAGE-LEVEL VARIABLES READ AS WHEN THE CALL BEGINS. Each datum BY PROGRAM (the guide's laid-datum.mjs) off the statement by which the dump's own 'gosem.cut.vars' lays the variable. In a bare row this is a premise. The card (YtppdgooakleakaaDoorCards.lean) ties it to the program's text. -/
def laid_math_bits_deBruijn32tab {H : Type} : DataW H := .agg [.lit (.int .u8 0), .lit (.int .u8 1), .lit (.int .u8 28), .lit (.int .u8 2), .lit (.int .u8 29), .lit (.int .u8 14), .lit (.int .u8 24), .lit (.int .u8 3), .lit (.int .u8 30), .lit (.int .u8 22), .lit (.int .u8 20), .lit (.int .u8 15), .lit (.int .u8 25), .lit (.int .u8 17), .lit (.int .u8 4), .lit (.int .u8 8), .lit (.int .u8 31), .lit (.int .u8 27), .lit (.int .u8 13), .lit (.int .u8 23), .lit (.int .u8 21), .lit (.int .u8 19), .lit (.int .u8 16), .lit (.int .u8 7), .lit (.int .u8 26), .lit (.int .u8 12), .lit (.int .u8 18), .lit (.int .u8 6), .lit (.int .u8 11), .lit (.int .u8 5), .lit (.int .u8 10), .lit (.int .u8 9)]
def laid_math_bits_deBruijn64tab {H : Type} : DataW H := .agg [.lit (.int .u8 0), .lit (.int .u8 1), .lit (.int .u8 56), .lit (.int .u8 2), .lit (.int .u8 57), .lit (.int .u8 49), .lit (.int .u8 28), .lit (.int .u8 3), .lit (.int .u8 61), .lit (.int .u8 58), .lit (.int .u8 42), .lit (.int .u8 50), .lit (.int .u8 38), .lit (.int .u8 29), .lit (.int .u8 17), .lit (.int .u8 4), .lit (.int .u8 62), .lit (.int .u8 47), .lit (.int .u8 59), .lit (.int .u8 36), .lit (.int .u8 45), .lit (.int .u8 43), .lit (.int .u8 51), .lit (.int .u8 22), .lit (.int .u8 53), .lit (.int .u8 39), .lit (.int .u8 33), .lit (.int .u8 30), .lit (.int .u8 24), .lit (.int .u8 18), .lit (.int .u8 12), .lit (.int .u8 5), .lit (.int .u8 63), .lit (.int .u8 55), .lit (.int .u8 48), .lit (.int .u8 27), .lit (.int .u8 60), .lit (.int .u8 41), .lit (.int .u8 37), .lit (.int .u8 16), .lit (.int .u8 46), .lit (.int .u8 35), .lit (.int .u8 44), .lit (.int .u8 21), .lit (.int .u8 52), .lit (.int .u8 32), .lit (.int .u8 23), .lit (.int .u8 11), .lit (.int .u8 54), .lit (.int .u8 26), .lit (.int .u8 40), .lit (.int .u8 15), .lit (.int .u8 34), .lit (.int .u8 20), .lit (.int .u8 31), .lit (.int .u8 10), .lit (.int .u8 25), .lit (.int .u8 14), .lit (.int .u8 19), .lit (.int .u8 9), .lit (.int .u8 13), .lit (.int .u8 8), .lit (.int .u8 7), .lit (.int .u8 6)]
def laid_internal_strconv_uint64pow10 {H : Type} : DataW H := .agg [.lit (.int .u64 1), .lit (.int .u64 10), .lit (.int .u64 100), .lit (.int .u64 1000), .lit (.int .u64 10000), .lit (.int .u64 100000), .lit (.int .u64 1000000), .lit (.int .u64 10000000), .lit (.int .u64 100000000), .lit (.int .u64 1000000000), .lit (.int .u64 10000000000), .lit (.int .u64 100000000000), .lit (.int .u64 1000000000000), .lit (.int .u64 10000000000000), .lit (.int .u64 100000000000000), .lit (.int .u64 1000000000000000), .lit (.int .u64 10000000000000000), .lit (.int .u64 100000000000000000), .lit (.int .u64 1000000000000000000), .lit (.int .u64 10000000000000000000)]

/-- 'commutatorlaw02.DyadicFinest': WHATEVER THE INPUT: true; the input reads as it did. -/
def dyadicFinestSpec : ChangeSpec := { name := "dyadicFinest", fn := fun _ => fun
  | [d1, d2] => { results := [.lit (.bool true)], args := [d1, d2] }
  | _ => none }
def dyadicFinestRow : OpenClaim := { program := "ytppdgooakleakaadoor", sum := "b28f1cef91258a89301adc167de1ca359b29e40d409b0f0b054bc724e5b0e45e", func := "commutator/commutatorlaw02.DyadicFinest", spec := "dyadicFinest", inPlace := ["internal/abi.NoEscape", "internal/bytealg.MakeNoZero"], recurses := true, named := ["math/bits.deBruijn32tab", "math/bits.overflowError", "internal/strconv.uint64pow10", "math/bits.deBruijn64tab"], apart := false, laid := [("math/bits.deBruijn32tab", laid_math_bits_deBruijn32tab), ("math/bits.deBruijn64tab", laid_math_bits_deBruijn64tab), ("internal/strconv.uint64pow10", laid_internal_strconv_uint64pow10)] }
def DyadicFinestSaid : Prop := dyadicFinestRow.holds Tryd.pinned (OpenSpec.ofChange dyadicFinestSpec)

/-- ITS FALSE NEIGHBOUR: 'it returns false'. Refute it at one input. -/
def dyadicFinestWrong : ChangeSpec := { name := "dyadicFinest", fn := fun _ => fun
  | [d1, d2] => { results := [.lit (.bool false)], args := [d1, d2] }
  | _ => none }
def DyadicFinestWrongFalsely : Prop := dyadicFinestRow.holds Tryd.pinned (OpenSpec.ofChange dyadicFinestWrong)

/-- 'commutatorlaw02.DyadicMuls': WHATEVER THE INPUT: true; the input reads as it did. -/
def dyadicMulsSpec : ChangeSpec := { name := "dyadicMuls", fn := fun _ => fun
  | [d1, d2, d3] => { results := [.lit (.bool true)], args := [d1, d2, d3] }
  | _ => none }
def dyadicMulsRow : OpenClaim := { program := "ytppdgooakleakaadoor", sum := "b28f1cef91258a89301adc167de1ca359b29e40d409b0f0b054bc724e5b0e45e", func := "commutator/commutatorlaw02.DyadicMuls", spec := "dyadicMuls", inPlace := ["internal/abi.NoEscape", "internal/bytealg.MakeNoZero"], recurses := true, named := ["math/bits.deBruijn32tab", "math/bits.overflowError", "internal/strconv.uint64pow10", "math/bits.deBruijn64tab"], apart := false, laid := [("math/bits.deBruijn32tab", laid_math_bits_deBruijn32tab), ("math/bits.deBruijn64tab", laid_math_bits_deBruijn64tab), ("internal/strconv.uint64pow10", laid_internal_strconv_uint64pow10)] }
def DyadicMulsSaid : Prop := dyadicMulsRow.holds Tryd.pinned (OpenSpec.ofChange dyadicMulsSpec)

/-- ITS FALSE NEIGHBOUR: 'it returns false'. Refute it at one input. -/
def dyadicMulsWrong : ChangeSpec := { name := "dyadicMuls", fn := fun _ => fun
  | [d1, d2, d3] => { results := [.lit (.bool false)], args := [d1, d2, d3] }
  | _ => none }
def DyadicMulsWrongFalsely : Prop := dyadicMulsRow.holds Tryd.pinned (OpenSpec.ofChange dyadicMulsWrong)

/-- 'commutatorlaw02.DyadicFloors': WHATEVER THE INPUT: true; the input reads as it did. -/
def dyadicFloorsSpec : ChangeSpec := { name := "dyadicFloors", fn := fun _ => fun
  | [d1, d2] => { results := [.lit (.bool true)], args := [d1, d2] }
  | _ => none }
def dyadicFloorsRow : OpenClaim := { program := "ytppdgooakleakaadoor", sum := "b28f1cef91258a89301adc167de1ca359b29e40d409b0f0b054bc724e5b0e45e", func := "commutator/commutatorlaw02.DyadicFloors", spec := "dyadicFloors", inPlace := ["internal/abi.NoEscape", "internal/bytealg.MakeNoZero"], recurses := true, named := ["math/bits.deBruijn32tab", "math/bits.overflowError", "internal/strconv.uint64pow10", "math/bits.deBruijn64tab"], apart := false, laid := [("math/bits.deBruijn32tab", laid_math_bits_deBruijn32tab), ("math/bits.deBruijn64tab", laid_math_bits_deBruijn64tab), ("internal/strconv.uint64pow10", laid_internal_strconv_uint64pow10)] }
def DyadicFloorsSaid : Prop := dyadicFloorsRow.holds Tryd.pinned (OpenSpec.ofChange dyadicFloorsSpec)

/-- ITS FALSE NEIGHBOUR: 'it returns false'. Refute it at one input. -/
def dyadicFloorsWrong : ChangeSpec := { name := "dyadicFloors", fn := fun _ => fun
  | [d1, d2] => { results := [.lit (.bool false)], args := [d1, d2] }
  | _ => none }
def DyadicFloorsWrongFalsely : Prop := dyadicFloorsRow.holds Tryd.pinned (OpenSpec.ofChange dyadicFloorsWrong)

/-- 'commutatorlaw02.DyadicQuos': WHATEVER THE INPUT: true; the input reads as it did. -/
def dyadicQuosSpec : ChangeSpec := { name := "dyadicQuos", fn := fun _ => fun
  | [d1, d2, d3] => { results := [.lit (.bool true)], args := [d1, d2, d3] }
  | _ => none }
def dyadicQuosRow : OpenClaim := { program := "ytppdgooakleakaadoor", sum := "b28f1cef91258a89301adc167de1ca359b29e40d409b0f0b054bc724e5b0e45e", func := "commutator/commutatorlaw02.DyadicQuos", spec := "dyadicQuos", inPlace := ["internal/abi.NoEscape", "internal/bytealg.MakeNoZero"], recurses := true, named := ["math/bits.deBruijn32tab", "math/bits.overflowError", "internal/strconv.uint64pow10", "math/bits.deBruijn64tab"], apart := false, laid := [("math/bits.deBruijn32tab", laid_math_bits_deBruijn32tab), ("math/bits.deBruijn64tab", laid_math_bits_deBruijn64tab), ("internal/strconv.uint64pow10", laid_internal_strconv_uint64pow10)] }
def DyadicQuosSaid : Prop := dyadicQuosRow.holds Tryd.pinned (OpenSpec.ofChange dyadicQuosSpec)

/-- ITS FALSE NEIGHBOUR: 'it returns false'. Refute it at one input. -/
def dyadicQuosWrong : ChangeSpec := { name := "dyadicQuos", fn := fun _ => fun
  | [d1, d2, d3] => { results := [.lit (.bool false)], args := [d1, d2, d3] }
  | _ => none }
def DyadicQuosWrongFalsely : Prop := dyadicQuosRow.holds Tryd.pinned (OpenSpec.ofChange dyadicQuosWrong)

/-- 'commutatorlaw02.DyadicAdds': WHATEVER THE INPUT: true; the input reads as it did. -/
def dyadicAddsSpec : ChangeSpec := { name := "dyadicAdds", fn := fun _ => fun
  | [d1, d2] => { results := [.lit (.bool true)], args := [d1, d2] }
  | _ => none }
def dyadicAddsRow : OpenClaim := { program := "ytppdgooakleakaadoor", sum := "b28f1cef91258a89301adc167de1ca359b29e40d409b0f0b054bc724e5b0e45e", func := "commutator/commutatorlaw02.DyadicAdds", spec := "dyadicAdds", inPlace := ["internal/abi.NoEscape", "internal/bytealg.MakeNoZero"], recurses := true, named := ["math/bits.deBruijn32tab", "math/bits.overflowError", "internal/strconv.uint64pow10", "math/bits.deBruijn64tab"], apart := false, laid := [("math/bits.deBruijn32tab", laid_math_bits_deBruijn32tab), ("math/bits.deBruijn64tab", laid_math_bits_deBruijn64tab), ("internal/strconv.uint64pow10", laid_internal_strconv_uint64pow10)] }
def DyadicAddsSaid : Prop := dyadicAddsRow.holds Tryd.pinned (OpenSpec.ofChange dyadicAddsSpec)

/-- ITS FALSE NEIGHBOUR: 'it returns false'. Refute it at one input. -/
def dyadicAddsWrong : ChangeSpec := { name := "dyadicAdds", fn := fun _ => fun
  | [d1, d2] => { results := [.lit (.bool false)], args := [d1, d2] }
  | _ => none }
def DyadicAddsWrongFalsely : Prop := dyadicAddsRow.holds Tryd.pinned (OpenSpec.ofChange dyadicAddsWrong)

/-- 'commutatorlaw02.DyadicRings': WHATEVER THE INPUT: true; the input reads as it did. -/
def dyadicRingsSpec : ChangeSpec := { name := "dyadicRings", fn := fun _ => fun
  | [d1, d2, d3] => { results := [.lit (.bool true)], args := [d1, d2, d3] }
  | _ => none }
def dyadicRingsRow : OpenClaim := { program := "ytppdgooakleakaadoor", sum := "b28f1cef91258a89301adc167de1ca359b29e40d409b0f0b054bc724e5b0e45e", func := "commutator/commutatorlaw02.DyadicRings", spec := "dyadicRings", inPlace := ["internal/abi.NoEscape", "internal/bytealg.MakeNoZero"], named := ["math/bits.deBruijn32tab", "math/bits.overflowError", "internal/strconv.uint64pow10", "math/bits.deBruijn64tab"], apart := false, laid := [("math/bits.deBruijn32tab", laid_math_bits_deBruijn32tab), ("math/bits.deBruijn64tab", laid_math_bits_deBruijn64tab), ("internal/strconv.uint64pow10", laid_internal_strconv_uint64pow10)] }
def DyadicRingsSaid : Prop := dyadicRingsRow.holds Tryd.pinned (OpenSpec.ofChange dyadicRingsSpec)

/-- ITS FALSE NEIGHBOUR: 'it returns false'. Refute it at one input. -/
def dyadicRingsWrong : ChangeSpec := { name := "dyadicRings", fn := fun _ => fun
  | [d1, d2, d3] => { results := [.lit (.bool false)], args := [d1, d2, d3] }
  | _ => none }
def DyadicRingsWrongFalsely : Prop := dyadicRingsRow.holds Tryd.pinned (OpenSpec.ofChange dyadicRingsWrong)

/-- 'commutatorlaw02.DyadicOrders': WHATEVER THE INPUT: true; the input reads as it did. -/
def dyadicOrdersSpec : ChangeSpec := { name := "dyadicOrders", fn := fun _ => fun
  | [d1, d2, d3] => { results := [.lit (.bool true)], args := [d1, d2, d3] }
  | _ => none }
def dyadicOrdersRow : OpenClaim := { program := "ytppdgooakleakaadoor", sum := "b28f1cef91258a89301adc167de1ca359b29e40d409b0f0b054bc724e5b0e45e", func := "commutator/commutatorlaw02.DyadicOrders", spec := "dyadicOrders", inPlace := ["internal/abi.NoEscape", "internal/bytealg.MakeNoZero"], named := ["math/bits.deBruijn32tab", "math/bits.overflowError", "internal/strconv.uint64pow10", "math/bits.deBruijn64tab"], apart := false, laid := [("math/bits.deBruijn32tab", laid_math_bits_deBruijn32tab), ("math/bits.deBruijn64tab", laid_math_bits_deBruijn64tab), ("internal/strconv.uint64pow10", laid_internal_strconv_uint64pow10)] }
def DyadicOrdersSaid : Prop := dyadicOrdersRow.holds Tryd.pinned (OpenSpec.ofChange dyadicOrdersSpec)

/-- ITS FALSE NEIGHBOUR: 'it returns false'. Refute it at one input. -/
def dyadicOrdersWrong : ChangeSpec := { name := "dyadicOrders", fn := fun _ => fun
  | [d1, d2, d3] => { results := [.lit (.bool false)], args := [d1, d2, d3] }
  | _ => none }
def DyadicOrdersWrongFalsely : Prop := dyadicOrdersRow.holds Tryd.pinned (OpenSpec.ofChange dyadicOrdersWrong)

/-- 'commutatorlaw02.DyadicInts': WHATEVER THE INPUT: true; the input reads as it did. -/
def dyadicIntsSpec : ChangeSpec := { name := "dyadicInts", fn := fun _ => fun
  | [d1, d2, d3] => { results := [.lit (.bool true)], args := [d1, d2, d3] }
  | _ => none }
def dyadicIntsRow : OpenClaim := { program := "ytppdgooakleakaadoor", sum := "b28f1cef91258a89301adc167de1ca359b29e40d409b0f0b054bc724e5b0e45e", func := "commutator/commutatorlaw02.DyadicInts", spec := "dyadicInts", inPlace := ["internal/abi.NoEscape", "internal/bytealg.MakeNoZero"], recurses := true, named := ["math/bits.deBruijn32tab", "math/bits.overflowError", "internal/strconv.uint64pow10", "math/bits.deBruijn64tab"], apart := false, laid := [("math/bits.deBruijn32tab", laid_math_bits_deBruijn32tab), ("math/bits.deBruijn64tab", laid_math_bits_deBruijn64tab), ("internal/strconv.uint64pow10", laid_internal_strconv_uint64pow10)] }
def DyadicIntsSaid : Prop := dyadicIntsRow.holds Tryd.pinned (OpenSpec.ofChange dyadicIntsSpec)

/-- ITS FALSE NEIGHBOUR: 'it returns false'. Refute it at one input. -/
def dyadicIntsWrong : ChangeSpec := { name := "dyadicInts", fn := fun _ => fun
  | [d1, d2, d3] => { results := [.lit (.bool false)], args := [d1, d2, d3] }
  | _ => none }
def DyadicIntsWrongFalsely : Prop := dyadicIntsRow.holds Tryd.pinned (OpenSpec.ofChange dyadicIntsWrong)

/-- 'commutatorlaw02.DyadicValid': WHATEVER THE INPUT: true; the input reads as it did. -/
def dyadicValidSpec : ChangeSpec := { name := "dyadicValid", fn := fun _ => fun
  | [d1, d2] => { results := [.lit (.bool true)], args := [d1, d2] }
  | _ => none }
def dyadicValidRow : OpenClaim := { program := "ytppdgooakleakaadoor", sum := "b28f1cef91258a89301adc167de1ca359b29e40d409b0f0b054bc724e5b0e45e", func := "commutator/commutatorlaw02.DyadicValid", spec := "dyadicValid", inPlace := ["internal/abi.NoEscape", "internal/bytealg.MakeNoZero"], named := ["math/bits.deBruijn32tab", "math/bits.overflowError", "internal/strconv.uint64pow10", "math/bits.deBruijn64tab"], apart := false, laid := [("math/bits.deBruijn32tab", laid_math_bits_deBruijn32tab), ("math/bits.deBruijn64tab", laid_math_bits_deBruijn64tab), ("internal/strconv.uint64pow10", laid_internal_strconv_uint64pow10)] }
def DyadicValidSaid : Prop := dyadicValidRow.holds Tryd.pinned (OpenSpec.ofChange dyadicValidSpec)

/-- ITS FALSE NEIGHBOUR: 'it returns false'. Refute it at one input. -/
def dyadicValidWrong : ChangeSpec := { name := "dyadicValid", fn := fun _ => fun
  | [d1, d2] => { results := [.lit (.bool false)], args := [d1, d2] }
  | _ => none }
def DyadicValidWrongFalsely : Prop := dyadicValidRow.holds Tryd.pinned (OpenSpec.ofChange dyadicValidWrong)

/- THE SECOND FORM. 'bulk': how many values and letters a reading holds, each counted each time it is reached (what is shared counts as often as it is met; a slice's spare places count too). A statement '..UptoSaid' is the law's where the arguments, and the package variables that the reading takes, are together of bulk at most 1048576: NARROWER than '..Said'. Prove '..Said' where nothing that the law and all that it calls make is longer than what came in: it says more and counts as full. Else prove '..UptoSaid'. A law counts once. -/
mutual
def uptoBulk {H : Type} : DataW H → Nat
  | .lit (.string bytes) => bytes.length + 1
  | .lit _ => 1
  | .nil => 1
  | .ptr d => uptoBulk d + 1
  | .slice elems spare => uptoBulkAll elems + uptoBulkAll spare + 1
  | .agg parts => uptoBulkAll parts + 1
  | .iface _ d => uptoBulk d + 1
  | .map entries => uptoBulkEntries entries + 1
  | .held _ => 1
def uptoBulkAll {H : Type} : List (DataW H) → Nat
  | [] => 0
  | d :: r => uptoBulk d + uptoBulkAll r
def uptoBulkEntries {H : Type} : List (Lit × DataW H) → Nat
  | [] => 0
  | x :: r => uptoBulkEntry x + uptoBulkEntries r
def uptoBulkEntry {H : Type} : Lit × DataW H → Nat
  | (.string bytes, d) => bytes.length + uptoBulk d + 1
  | (_, d) => uptoBulk d + 1
 end
def uptoSmall : (H : Type) → List (DataW H) → Bool := fun _ ds => decide (uptoBulkAll ds ≤ 1048576)
def OpenSpec.upto (s : _root_.Go.ChangeSpec) : _root_.Go.OpenSpec := { _root_.Go.OpenSpec.ofChange s with cond := some uptoSmall }

/-- 'commutatorlaw02.DyadicFinest', WHERE WHAT IT READS IS OF BULK AT MOST 1048576: true; the input reads as it did. -/
def dyadicFinestUptoRow : OpenClaim := { program := "ytppdgooakleakaadoor", sum := "b28f1cef91258a89301adc167de1ca359b29e40d409b0f0b054bc724e5b0e45e", func := "commutator/commutatorlaw02.DyadicFinest", spec := "dyadicFinest", inPlace := ["internal/abi.NoEscape", "internal/bytealg.MakeNoZero"], recurses := true, named := ["math/bits.deBruijn32tab", "math/bits.overflowError", "internal/strconv.uint64pow10", "math/bits.deBruijn64tab"], apart := false, laid := [("math/bits.deBruijn32tab", laid_math_bits_deBruijn32tab), ("math/bits.deBruijn64tab", laid_math_bits_deBruijn64tab), ("internal/strconv.uint64pow10", laid_internal_strconv_uint64pow10)], narrowed := true }
def DyadicFinestUptoSaid : Prop := dyadicFinestUptoRow.holds Tryd.pinned (OpenSpec.upto dyadicFinestSpec)

/-- 'commutatorlaw02.DyadicMuls', WHERE WHAT IT READS IS OF BULK AT MOST 1048576: true; the input reads as it did. -/
def dyadicMulsUptoRow : OpenClaim := { program := "ytppdgooakleakaadoor", sum := "b28f1cef91258a89301adc167de1ca359b29e40d409b0f0b054bc724e5b0e45e", func := "commutator/commutatorlaw02.DyadicMuls", spec := "dyadicMuls", inPlace := ["internal/abi.NoEscape", "internal/bytealg.MakeNoZero"], recurses := true, named := ["math/bits.deBruijn32tab", "math/bits.overflowError", "internal/strconv.uint64pow10", "math/bits.deBruijn64tab"], apart := false, laid := [("math/bits.deBruijn32tab", laid_math_bits_deBruijn32tab), ("math/bits.deBruijn64tab", laid_math_bits_deBruijn64tab), ("internal/strconv.uint64pow10", laid_internal_strconv_uint64pow10)], narrowed := true }
def DyadicMulsUptoSaid : Prop := dyadicMulsUptoRow.holds Tryd.pinned (OpenSpec.upto dyadicMulsSpec)

/-- 'commutatorlaw02.DyadicFloors', WHERE WHAT IT READS IS OF BULK AT MOST 1048576: true; the input reads as it did. -/
def dyadicFloorsUptoRow : OpenClaim := { program := "ytppdgooakleakaadoor", sum := "b28f1cef91258a89301adc167de1ca359b29e40d409b0f0b054bc724e5b0e45e", func := "commutator/commutatorlaw02.DyadicFloors", spec := "dyadicFloors", inPlace := ["internal/abi.NoEscape", "internal/bytealg.MakeNoZero"], recurses := true, named := ["math/bits.deBruijn32tab", "math/bits.overflowError", "internal/strconv.uint64pow10", "math/bits.deBruijn64tab"], apart := false, laid := [("math/bits.deBruijn32tab", laid_math_bits_deBruijn32tab), ("math/bits.deBruijn64tab", laid_math_bits_deBruijn64tab), ("internal/strconv.uint64pow10", laid_internal_strconv_uint64pow10)], narrowed := true }
def DyadicFloorsUptoSaid : Prop := dyadicFloorsUptoRow.holds Tryd.pinned (OpenSpec.upto dyadicFloorsSpec)

/-- 'commutatorlaw02.DyadicQuos', WHERE WHAT IT READS IS OF BULK AT MOST 1048576: true; the input reads as it did. -/
def dyadicQuosUptoRow : OpenClaim := { program := "ytppdgooakleakaadoor", sum := "b28f1cef91258a89301adc167de1ca359b29e40d409b0f0b054bc724e5b0e45e", func := "commutator/commutatorlaw02.DyadicQuos", spec := "dyadicQuos", inPlace := ["internal/abi.NoEscape", "internal/bytealg.MakeNoZero"], recurses := true, named := ["math/bits.deBruijn32tab", "math/bits.overflowError", "internal/strconv.uint64pow10", "math/bits.deBruijn64tab"], apart := false, laid := [("math/bits.deBruijn32tab", laid_math_bits_deBruijn32tab), ("math/bits.deBruijn64tab", laid_math_bits_deBruijn64tab), ("internal/strconv.uint64pow10", laid_internal_strconv_uint64pow10)], narrowed := true }
def DyadicQuosUptoSaid : Prop := dyadicQuosUptoRow.holds Tryd.pinned (OpenSpec.upto dyadicQuosSpec)

/-- 'commutatorlaw02.DyadicAdds', WHERE WHAT IT READS IS OF BULK AT MOST 1048576: true; the input reads as it did. -/
def dyadicAddsUptoRow : OpenClaim := { program := "ytppdgooakleakaadoor", sum := "b28f1cef91258a89301adc167de1ca359b29e40d409b0f0b054bc724e5b0e45e", func := "commutator/commutatorlaw02.DyadicAdds", spec := "dyadicAdds", inPlace := ["internal/abi.NoEscape", "internal/bytealg.MakeNoZero"], recurses := true, named := ["math/bits.deBruijn32tab", "math/bits.overflowError", "internal/strconv.uint64pow10", "math/bits.deBruijn64tab"], apart := false, laid := [("math/bits.deBruijn32tab", laid_math_bits_deBruijn32tab), ("math/bits.deBruijn64tab", laid_math_bits_deBruijn64tab), ("internal/strconv.uint64pow10", laid_internal_strconv_uint64pow10)], narrowed := true }
def DyadicAddsUptoSaid : Prop := dyadicAddsUptoRow.holds Tryd.pinned (OpenSpec.upto dyadicAddsSpec)

/-- 'commutatorlaw02.DyadicRings', WHERE WHAT IT READS IS OF BULK AT MOST 1048576: true; the input reads as it did. -/
def dyadicRingsUptoRow : OpenClaim := { program := "ytppdgooakleakaadoor", sum := "b28f1cef91258a89301adc167de1ca359b29e40d409b0f0b054bc724e5b0e45e", func := "commutator/commutatorlaw02.DyadicRings", spec := "dyadicRings", inPlace := ["internal/abi.NoEscape", "internal/bytealg.MakeNoZero"], named := ["math/bits.deBruijn32tab", "math/bits.overflowError", "internal/strconv.uint64pow10", "math/bits.deBruijn64tab"], apart := false, laid := [("math/bits.deBruijn32tab", laid_math_bits_deBruijn32tab), ("math/bits.deBruijn64tab", laid_math_bits_deBruijn64tab), ("internal/strconv.uint64pow10", laid_internal_strconv_uint64pow10)], narrowed := true }
def DyadicRingsUptoSaid : Prop := dyadicRingsUptoRow.holds Tryd.pinned (OpenSpec.upto dyadicRingsSpec)

/-- 'commutatorlaw02.DyadicOrders', WHERE WHAT IT READS IS OF BULK AT MOST 1048576: true; the input reads as it did. -/
def dyadicOrdersUptoRow : OpenClaim := { program := "ytppdgooakleakaadoor", sum := "b28f1cef91258a89301adc167de1ca359b29e40d409b0f0b054bc724e5b0e45e", func := "commutator/commutatorlaw02.DyadicOrders", spec := "dyadicOrders", inPlace := ["internal/abi.NoEscape", "internal/bytealg.MakeNoZero"], named := ["math/bits.deBruijn32tab", "math/bits.overflowError", "internal/strconv.uint64pow10", "math/bits.deBruijn64tab"], apart := false, laid := [("math/bits.deBruijn32tab", laid_math_bits_deBruijn32tab), ("math/bits.deBruijn64tab", laid_math_bits_deBruijn64tab), ("internal/strconv.uint64pow10", laid_internal_strconv_uint64pow10)], narrowed := true }
def DyadicOrdersUptoSaid : Prop := dyadicOrdersUptoRow.holds Tryd.pinned (OpenSpec.upto dyadicOrdersSpec)

/-- 'commutatorlaw02.DyadicInts', WHERE WHAT IT READS IS OF BULK AT MOST 1048576: true; the input reads as it did. -/
def dyadicIntsUptoRow : OpenClaim := { program := "ytppdgooakleakaadoor", sum := "b28f1cef91258a89301adc167de1ca359b29e40d409b0f0b054bc724e5b0e45e", func := "commutator/commutatorlaw02.DyadicInts", spec := "dyadicInts", inPlace := ["internal/abi.NoEscape", "internal/bytealg.MakeNoZero"], recurses := true, named := ["math/bits.deBruijn32tab", "math/bits.overflowError", "internal/strconv.uint64pow10", "math/bits.deBruijn64tab"], apart := false, laid := [("math/bits.deBruijn32tab", laid_math_bits_deBruijn32tab), ("math/bits.deBruijn64tab", laid_math_bits_deBruijn64tab), ("internal/strconv.uint64pow10", laid_internal_strconv_uint64pow10)], narrowed := true }
def DyadicIntsUptoSaid : Prop := dyadicIntsUptoRow.holds Tryd.pinned (OpenSpec.upto dyadicIntsSpec)

/-- 'commutatorlaw02.DyadicValid', WHERE WHAT IT READS IS OF BULK AT MOST 1048576: true; the input reads as it did. -/
def dyadicValidUptoRow : OpenClaim := { program := "ytppdgooakleakaadoor", sum := "b28f1cef91258a89301adc167de1ca359b29e40d409b0f0b054bc724e5b0e45e", func := "commutator/commutatorlaw02.DyadicValid", spec := "dyadicValid", inPlace := ["internal/abi.NoEscape", "internal/bytealg.MakeNoZero"], named := ["math/bits.deBruijn32tab", "math/bits.overflowError", "internal/strconv.uint64pow10", "math/bits.deBruijn64tab"], apart := false, laid := [("math/bits.deBruijn32tab", laid_math_bits_deBruijn32tab), ("math/bits.deBruijn64tab", laid_math_bits_deBruijn64tab), ("internal/strconv.uint64pow10", laid_internal_strconv_uint64pow10)], narrowed := true }
def DyadicValidUptoSaid : Prop := dyadicValidUptoRow.holds Tryd.pinned (OpenSpec.upto dyadicValidSpec)

end Rows
end Go.Proofs.YtppdgooakleakaaDoor
