/- The abstract executor, part 3: the operations that are no calls of Go functions. -/
import Derived.Test.YtekmhhmemkjcbaaAx2
set_option linter.unusedSimpArgs false
set_option linter.unusedVariables false
set_option linter.deprecated false
namespace Go.Ax
open Go Go.RowKit

inductive Upd where
  | keep
  | new (m : MB)
  | set (b : Nat) (m : MB)

structure Eff where
  need : Prop
  val : AV
  upd : Upd

def AS.upd (s : AS) : Upd → AS
  | .keep => s
  | .new m => ⟨s.env, (s.next, m) :: s.mem, s.next + 1⟩
  | .set b m => ⟨s.env, (b, m) :: s.mem, s.next⟩

def AS.put (s : AS) (d : Option Tmp) (av : AV) : AS :=
  match d with
  | some d => ⟨(d, av) :: s.env, s.mem, s.next⟩
  | none => s

def ev (s : AS) : Operand → Option AV
  | .tmp t => look s.env t
  | .const c => some (.v c)
  | .func f => some (.fn f [])
  | .global _ => none

def AV.cells : AV → List AV
  | .agg l => l
  | a => [a]
def AV.one : AV → Bool
  | .v x => x.oneCell'
  | .agg _ => false
  | .tup _ => false
  | .top => false
  | _ => true

/-! ### integers -/
def ibin (op : BinOp) (k : IntKind) (a b : Int) : Option (Prop × Value) :=
  match op with
  | .add => some (True, .int k (k.wrap (a + b)))
  | .sub => some (True, .int k (k.wrap (a - b)))
  | .mul => some (True, .int k (k.wrap (a * b)))
  | .quo => some (b ≠ 0, .int k (k.wrap (a.tdiv b)))
  | .rem => some (b ≠ 0, .int k (a.tmod b))
  | .and => some (True, .int k (k.wrap ((BitVec.ofInt k.bits a &&& BitVec.ofInt k.bits b).toNat)))
  | .or => some (True, .int k (k.wrap ((BitVec.ofInt k.bits a ||| BitVec.ofInt k.bits b).toNat)))
  | .xor => some (True, .int k (k.wrap ((BitVec.ofInt k.bits a ^^^ BitVec.ofInt k.bits b).toNat)))
  | .andNot => some (True, .int k (k.wrap ((BitVec.ofInt k.bits a &&& ~~~ (BitVec.ofInt k.bits b)).toNat)))
  | .eql => some (True, .bool (decide (a = b)))
  | .neq => some (True, .bool (!decide (a = b)))
  | .lss => some (True, .bool (decide (a < b)))
  | .leq => some (True, .bool (decide (a ≤ b)))
  | .gtr => some (True, .bool (decide (b < a)))
  | .geq => some (True, .bool (decide (b ≤ a)))
  | _ => none

def ishift (op : BinOp) (k : IntKind) (a b : Int) : Option (Prop × Value) :=
  match op with
  | .shl => some (0 ≤ b, .int k (k.wrap (a * 2 ^ (min b.toNat k.bits))))
  | .shr => some (0 ≤ b, .int k (a / 2 ^ (min b.toNat k.bits)))
  | _ => none

def isShift : BinOp → Bool
  | .shl => true
  | .shr => true
  | _ => false

/-- '==' and '!=' of an interface value with the literal nil. -/
def eqNil (op : BinOp) (isNil : Bool) : Option Eff :=
  match op with
  | .eql => some ⟨True, .v (.bool isNil), .keep⟩
  | .neq => some ⟨True, .v (.bool (!isNil)), .keep⟩
  | _ => none

def eqBool (op : BinOp) (a b : Bool) : Option Eff :=
  match op with
  | .eql => some ⟨True, .v (.bool (decide (a = b))), .keep⟩
  | .neq => some ⟨True, .v (.bool (!decide (a = b))), .keep⟩
  | _ => none

def toEff : Option (Prop × Value) → Option Eff
  | some (p, x) => some ⟨p, .v x, .keep⟩
  | none => none

def isNilConst : Operand → Bool
  | .const .nilIface => true
  | _ => false

def isBoolT : Option TyI → Bool
  | some ⟨_, _, _, .bool⟩ => true
  | _ => false
def isIfaceT : Option TyI → Bool
  | some ⟨_, _, _, .iface⟩ => true
  | _ => false
def isSlcT : Option TyI → Bool
  | some ⟨_, _, _, .slc _⟩ => true
  | _ => false

def isStrT : Option TyI → Bool
  | some ⟨_, _, _, .str⟩ => true
  | _ => false

/-- '+', '==' and '!=' of strings. -/
def strBin (op : BinOp) (m n : ByteArray) : Option Eff :=
  match op with
  | .add => some ⟨m.size + n.size ≤ 9223372036854775807, .v (.string (m ++ n)), .keep⟩
  | .eql => some ⟨True, .v (.bool (decide (m = n))), .keep⟩
  | .neq => some ⟨True, .v (.bool (!decide (m = n))), .keep⟩
  | _ => none

def aBin (ti : Types) (op : BinOp) (t : TypeId) (y : Operand) (a b : Option AV) : Option Eff :=
  match a, b with
  | some (.v (.int k m)), some (.v (.int k' n)) =>
    if isShift op then toEff (ishift op k m n) else if k = k' then toEff (ibin op k m n) else none
  | some (.v (.bool m)), some (.v (.bool n)) => if isBoolT (ti t) then eqBool op m n else none
  | some (.v (.string m)), some (.v (.string n)) => if isStrT (ti t) then strBin op m n else none
  | some (.v .nilIface), some (.v .nilIface) => if isNilConst y && isIfaceT (ti t) then eqNil op true else none
  | some (.v (.iface _ _)), some (.v .nilIface) => if isIfaceT (ti t) then eqNil op false else none
  | _, _ => none

def aUn (op : UnOp) (a : Option AV) : Option Eff :=
  match op, a with
  | .neg, some (.v (.int k n)) => some ⟨True, .v (.int k (k.wrap (0 - n))), .keep⟩
  | .not, some (.v (.bool b)) => some ⟨True, .v (.bool (!b)), .keep⟩
  | _, _ => none

/-! ### memory -/
def pk (t : Bool) (x y : AV) : AV := match t with | true => x | false => y
theorem pk_bool (t x y : Bool) : pk t (.v (.bool x)) (.v (.bool y)) = .v (.bool (bif t then x else y)) := by cases t <;> rfl

def aPick (c a b : Option AV) : Option Eff :=
  match c, a, b with
  | some (.v (.bool t)), some x, some y => some ⟨True, pk t x y, .keep⟩
  | _, _, _ => none

def aAlloc (next : Nat) (y : Option TyI) : Option Eff :=
  match y with
  | some y => some ⟨True, .p next y.size 0 0, .new ⟨y.size, [y.zero.map fun z => .v z.val]⟩⟩
  | none => none

def aBox (next : Nat) (x : Option AV) : Option Eff :=
  match x with
  | some av => if av.cells.all AV.one then some ⟨True, .p next av.cells.length 0 0, .new ⟨av.cells.length, [av.cells]⟩⟩ else none
  | none => none

/-- What a pointer points at: the row's cells from the pointer on, and what must hold for the row to exist. -/
def behind (mem : List (Nat × MB)) : AV → Option (Prop × List AV)
  | .p b sz row j => match look mem b with
    | some m => if m.sz = sz then some (row < m.rows.length, (m.rows.getD row []).drop j) else none
    | none => none
  | .rp l => some (True, l)
  | _ => none

def aLoad (mem : List (Nat × MB)) (y : Option TyI) (a : Option AV) : Option Eff :=
  match y, a with
  | some y, some a => match behind mem a with
    | some (p, cs) => if y.kd.agg then some ⟨p ∧ y.size ≤ cs.length, .agg (cs.take y.size), .keep⟩ else match cs with
      | c :: _ => some ⟨p, c, .keep⟩
      | [] => none
    | none => none
  | _, _ => none

def aStore (mem : List (Nat × MB)) (y : Option TyI) (a x : Option AV) : Option Eff :=
  match y, a, x with
  | some y, some (.p b sz row j), some x => match look mem b with
    | some m => if m.sz = sz ∧ x.cells.length = y.size ∧ x.cells.all AV.one then
        some ⟨row < m.rows.length ∧ j + y.size ≤ (m.rows.getD row []).length, .v undef, .set b ⟨m.sz, m.rows.set row ((m.rows.getD row []).take j ++ x.cells ++ (m.rows.getD row []).drop (j + y.size))⟩⟩
      else none
    | none => none
  | _, _, _ => none

def aNilCheck (a : Option AV) : Option Eff :=
  match a with
  | some (.p b sz row j) => some ⟨True, .p b sz row j, .keep⟩
  | some (.rp l) => some ⟨True, .rp l, .keep⟩
  | _ => none

def shiftPtr (n : Nat) : AV → Option AV
  | .p b sz row j => some (.p b sz row (j + n))
  | .rp l => some (.rp (l.drop n))
  | _ => none

def aFieldAddr (ti : Types) (y : Option TyI) (a : Option AV) (f : Nat) : Option Eff :=
  match y, a with
  | some ⟨_, _, _, .st fs⟩, some a => match fs[f]? with
    | some (off, ft) => match ti ft with
      | some z => if z.size = 0 then none else match shiftPtr off a with
        | some p => some ⟨True, p, .keep⟩
        | none => none
      | none => none
    | none => none
  | _, _ => none

def partOf (y : TyI) (cs : List AV) (off : Nat) : Option AV :=
  if y.kd.agg then (if off + y.size ≤ cs.length then some (.agg ((cs.drop off).take y.size)) else none) else cs[off]?

def aField (ti : Types) (y : Option TyI) (a : Option AV) (f : Nat) : Option Eff :=
  match y, a with
  | some ⟨_, _, _, .st fs⟩, some (.agg cs) => match fs[f]? with
    | some (off, ft) => match ti ft with
      | some z => match partOf z cs off with
        | some v => some ⟨True, v, .keep⟩
        | none => none
      | none => none
    | none => none
  | _, _ => none

def aIndexAddr (ti : Types) (y : Option TyI) (a i : Option AV) : Option Eff :=
  match y, a, i with
  | some ⟨_, _, _, .slc e⟩, some (.ps b sz row n), some (.v (.int _ k)) => match ti e with
    | some z => if z.size = sz then some ⟨0 ≤ k ∧ k < n, .p b sz (row + k.toNat) 0, .keep⟩ else none
    | none => none
  | some ⟨_, _, _, .slc e⟩, some (.sl sz rows), some (.v (.int _ k)) => match ti e with
    | some z => if z.size = sz then some ⟨0 ≤ k ∧ k < rows.length, .rp (rows.getD k.toNat []), .keep⟩ else none
    | none => none
  | some ⟨_, _, _, .arr n e⟩, some a, some (.v (.int _ k)) => match ti e with
    | some z => match shiftPtr (k.toNat * z.size) a with
      | some p => some ⟨0 ≤ k ∧ k < n, p, .keep⟩
      | none => none
    | none => none
  | _, _, _ => none

def aIndex (ti : Types) (y : Option TyI) (a i : Option AV) : Option Eff :=
  match y, a, i with
  | some ⟨_, _, _, .arr n e⟩, some (.agg cs), some (.v (.int _ k)) => match ti e with
    | some z => if z.kd.agg then some ⟨(0 ≤ k ∧ k < n) ∧ k.toNat * z.size + z.size ≤ cs.length, .agg ((cs.drop (k.toNat * z.size)).take z.size), .keep⟩
      else some ⟨(0 ≤ k ∧ k < n) ∧ k.toNat * z.size < cs.length, cs.getD (k.toNat * z.size) (.v undef), .keep⟩
    | none => none
  | some ⟨_, _, _, .str⟩, some (.v (.string s)), some (.v (.int _ k)) => some ⟨0 ≤ k ∧ k < s.size, .v (.int .u8 (s.data.toList.getD k.toNat 0).toNat), .keep⟩
  | _, _, _ => none

/-! ### slices -/
def aMakeSlice (ti : Types) (next : Nat) (y : Option TyI) (l c : Option AV) : Option Eff :=
  match y, l, c with
  | some ⟨_, _, _, .slc e⟩, some (.v (.int _ l)), some (.v (.int _ c)) => match ti e with
    | some z => if z.size = 0 then none else some ⟨0 ≤ l ∧ l ≤ c ∧ z.bytes * c ≤ 281474976710656 ∧ c ≤ 9223372036854775807, .ps next z.size 0 l.toNat, .new ⟨z.size, List.replicate c.toNat (z.zero.map fun q => .v q.val)⟩⟩
    | none => none
  | _, _, _ => none

def bndOf (o : Option (Option AV)) (d : Int) : Option Int :=
  match o with
  | none => some d
  | some (some (.v (.int _ n))) => some n
  | _ => none

def aSlice (ti : Types) (y : Option TyI) (a : Option AV) (lo hi : Option (Option AV)) (mx : Bool) : Option Eff :=
  match mx, y, a with
  | false, some ⟨_, _, _, .slc e⟩, some (.ps b sz row n) => match ti e, bndOf lo 0, bndOf hi n with
    | some z, some l, some h => if z.size = sz then some ⟨0 ≤ l ∧ l ≤ h ∧ h ≤ n, .ps b sz (row + l.toNat) (h.toNat - l.toNat), .keep⟩ else none
    | _, _, _ => none
  | false, some ⟨_, _, _, .slc e⟩, some (.sl sz rows) => match ti e, bndOf lo 0, bndOf hi rows.length with
    | some z, some l, some h => if z.size = sz then some ⟨0 ≤ l ∧ l ≤ h ∧ h ≤ rows.length, .sl sz ((rows.drop l.toNat).take (h.toNat - l.toNat)), .keep⟩ else none
    | _, _, _ => none
  | false, some ⟨_, _, _, .slc e⟩, some (.v (.slice none 0 0)) => match ti e, bndOf lo 0, bndOf hi 0 with
    | some _, some l, some h => some ⟨l = 0 ∧ h = 0, .v (.slice none 0 0), .keep⟩
    | _, _, _ => none
  | false, some ⟨_, _, _, .str⟩, some (.v (.string s)) => match bndOf lo 0, bndOf hi s.size with
    | some l, some h => some ⟨0 ≤ l ∧ l ≤ h ∧ h ≤ s.size, .v (.string (s.extract l.toNat h.toNat)), .keep⟩
    | _, _ => none
  | _, _, _ => none

def fillA : List AV → List (Nat × Nat × AV) → Option (List AV)
  | cs, [] => some cs
  | cs, (off, size, v) :: rest =>
    if v.cells.length = size ∧ off + size ≤ cs.length ∧ v.cells.all AV.one then fillA (cs.take off ++ v.cells ++ cs.drop (off + size)) rest else none

/-- The parts of a composite literal with their places. -/
def placed (place : Nat → Option (Nat × Nat)) (s : AS) : List (Nat × Operand) → Option (List (Nat × Nat × AV))
  | [] => some []
  | (i, x) :: rest => match place i, ev s x, placed place s rest with
    | some (off, size), some v, some l => some ((off, size, v) :: l)
    | _, _, _ => none

def stPlace (ti : Types) (fs : List (Nat × Nat)) (i : Nat) : Option (Nat × Nat) :=
  match fs[i]? with
  | some (off, ft) => match ti ft with
    | some z => some (off, z.size)
    | none => none
  | none => none

def aBuild (ti : Types) (s : AS) (y : Option TyI) (parts : List (Nat × Operand)) : Option Eff :=
  match y with
  | some ⟨_, _, zero, .st fs⟩ => match placed (stPlace ti fs) s parts with
    | some l => match fillA (zero.map fun z => .v z.val) l with
      | some cs => if fs.all (fun f => (ti f.2).isSome) then some ⟨True, .agg cs, .keep⟩ else none
      | none => none
    | none => none
  | some ⟨_, _, zero, .arr _ e⟩ => match ti e with
    | some z => match placed (fun i => some (i * z.size, z.size)) s parts with
      | some l => match fillA (zero.map fun z => .v z.val) l with
        | some cs => some ⟨True, .agg cs, .keep⟩
        | none => none
      | none => none
    | none => none
  | _ => none

def aConvert (y z : Option TyI) (a : Option AV) : Option Eff :=
  match y, z, a with
  | some ⟨_, _, _, .int _⟩, some ⟨_, _, _, .int k⟩, some (.v (.int _ n)) => some ⟨True, .v (.int k (k.wrap n)), .keep⟩
  | _, _, _ => none

def aMakeInterface (t : TypeId) (y : Option TyI) (a : Option AV) : Option Eff :=
  match y, a with
  | some y, some (.v x) => if isIfaceT (some y) then none else some ⟨True, .v (.iface t x), .keep⟩
  | _, _ => none

def aAssert (asserted : TypeId) (y : Option TyI) (a : Option AV) : Option Eff :=
  match y, a with
  | some y, some (.v .nilIface) => if isIfaceT (some y) || y.kd.agg then none else match y.zero with
    | [z] => some ⟨True, .tup [.v z.val, .v (.bool false)], .keep⟩
    | _ => none
  | some y, some (.v (.iface t x)) => if isIfaceT (some y) || y.kd.agg then none else match y.zero with
    | [z] => if t = asserted then some ⟨True, .tup [.v x, .v (.bool true)], .keep⟩ else some ⟨True, .tup [.v z.val, .v (.bool false)], .keep⟩
    | _ => none
  | _, _ => none

def aExtract (a : Option AV) (i : Nat) : Option Eff :=
  match a with
  | some (.tup l) => match l[i]? with
    | some v => some ⟨True, v, .keep⟩
    | none => none
  | _ => none

def evL (s : AS) : List Operand → Option (List AV)
  | [] => some []
  | x :: xs => match ev s x, evL s xs with
    | some a, some l => some (a :: l)
    | _, _ => none

def AV.priv : AV → Bool
  | .p _ _ _ _ => true
  | .ps _ _ _ _ => true
  | _ => false
/-- What is captured must be read-only. -/
def aMakeFunc (s : AS) (fn : Fn) (first captured : List Operand) : Option Eff :=
  match fn, first, evL s captured with
  | .func f, [], some l => if l.any AV.priv then none else some ⟨True, .fn f l, .keep⟩
  | _, _, _ => none

def aLen (a : Option AV) : Option Eff :=
  match a with
  | some (.ps _ _ _ n) => some ⟨True, .v (.int .i64 n), .keep⟩
  | some (.sl _ rows) => some ⟨True, .v (.int .i64 rows.length), .keep⟩
  | some (.v (.slice none 0 0)) => some ⟨True, .v (.int .i64 0), .keep⟩
  | _ => none

def aMin (l : Option (List AV)) : Option Eff :=
  match l with
  | some [.v (.int k a), .v (.int k' b)] => if k = k' then some ⟨True, .v (.int k (min a b)), .keep⟩ else none
  | some [.v (.int k a), .v (.int k' b), .v (.int k'' c)] => if k = k' ∧ k = k'' then some ⟨True, .v (.int k (min (min a b) c)), .keep⟩ else none
  | some [.v (.int k a), .v (.int k' b), .v (.int k'' c), .v (.int k3 d)] => if k = k' ∧ k = k'' ∧ k = k3 then some ⟨True, .v (.int k (min (min (min a b) c) d)), .keep⟩ else none
  | _ => none
def aMax (l : Option (List AV)) : Option Eff :=
  match l with
  | some [.v (.int k a), .v (.int k' b)] => if k = k' then some ⟨True, .v (.int k (max a b)), .keep⟩ else none
  | some [.v (.int k a), .v (.int k' b), .v (.int k'' c)] => if k = k' ∧ k = k'' then some ⟨True, .v (.int k (max (max a b) c)), .keep⟩ else none
  | some [.v (.int k a), .v (.int k' b), .v (.int k'' c), .v (.int k3 d)] => if k = k' ∧ k = k'' ∧ k = k3 then some ⟨True, .v (.int k (max (max (max a b) c) d)), .keep⟩ else none
  | _ => none

def headT (l : List TypeId) : Option TypeId := l.head?
def aLenT (ti : Types) (t : Option TypeId) (a : Option AV) : Option Eff :=
  match t with
  | some t => if isSlcT (ti t) then aLen a else if isStrT (ti t) then (match a with | some (.v (.string s)) => some ⟨True, .v (.int .i64 s.size), .keep⟩ | _ => none) else none
  | none => none

def aBuiltin (ti : Types) (s : AS) (b : Builtin) (types : List TypeId) (args : List Operand) : Option Eff :=
  match b, args with
  | .len, [x] => aLenT ti (headT types) (ev s x)
  | .min, l => aMin (evL s l)
  | .max, l => aMax (evL s l)
  | _, _ => none

def aop (ti : Types) (s : AS) : Op → Option Eff
  | .move x => (match ev s x with | some av => some ⟨True, av, .keep⟩ | none => none)
  | .assign x => (match ev s x with | some av => some ⟨True, av, .keep⟩ | none => none)
  | .pick c a b => aPick (ev s c) (ev s a) (ev s b)
  | .alloc t => aAlloc s.next (ti t)
  | .box _ x => aBox s.next (ev s x)
  | .build t parts => aBuild ti s (ti t) parts.toList
  | .load t a => aLoad s.mem (ti t) (ev s a)
  | .store t a x => aStore s.mem (ti t) (ev s a) (ev s x)
  | .nilCheck x => aNilCheck (ev s x)
  | .binOp op t x y _ => aBin ti op t y (ev s x) (ev s y)
  | .unOp op _ x => aUn op (ev s x)
  | .convert src dst x => aConvert (ti src) (ti dst) (ev s x)
  | .makeInterface t x => aMakeInterface t (ti t) (ev s x)
  | .makeFunc fn first captured => aMakeFunc s fn first.toList captured.toList
  | .fieldAddr t x f => aFieldAddr ti (ti t) (ev s x) f
  | .field t x f => aField ti (ti t) (ev s x) f
  | .indexAddr t x i => aIndexAddr ti (ti t) (ev s x) (ev s i)
  | .makeSlice t l c => aMakeSlice ti s.next (ti t) (ev s l) (ev s c)
  | .slice t x lo hi mx => aSlice ti (ti t) (ev s x) (lo.map (ev s)) (hi.map (ev s)) mx.isSome
  | .index t x i => aIndex ti (ti t) (ev s x) (ev s i)
  | .typeAssert x _ t commaOk => if commaOk then aAssert t (ti t) (ev s x) else none
  | .extract t i => aExtract (ev s t) i
  | .call ⟨.builtin b, args, types⟩ => aBuiltin ti s b types.toList args.toList
  | _ => none
end Go.Ax
