/- The abstract executor, part 1: abstract values, what it means that a value reads as one, abstract states, and that states and worlds fit. -/
import Derived.WalkKit
import Derived.Orders
import Derived.Below
import Derived.Laws.CopyRow
import Derived.Laws.Rows
set_option linter.unusedSimpArgs false
set_option linter.unusedVariables false
set_option linter.deprecated false
namespace Go.Ax
open Go Go.RowKit

/-- Abstract values: an exact value; a pointer into a private block (by its own number; row and offset); a private slice; a pointer that is only read; a slice that is only read; aggregates; tuples; function values. -/
inductive AV where
  | v (x : Value)
  | p (b sz row j : Nat)
  | ps (b sz row n : Nat)
  | rp (cells : List AV)
  | sl (sz : Nat) (rows : List (List AV))
  | agg (l : List AV)
  | tup (l : List AV)
  | fn (f : FuncId) (caps : List AV)
  | top

structure MB where
  sz : Nat
  rows : List (List AV)

def look {α : Type} : List (Nat × α) → Nat → Option α
  | [], _ => none
  | (k, x) :: l, t => if k = t then some x else look l t

structure AS where
  env : List (Nat × AV)
  mem : List (Nat × MB)
  next : Nat

abbrev Sig := Nat → Option Nat
def nσ : Sig := fun _ => none

inductive Rel (σ : Sig) (S : Nat → Prop) (w : World) : Value → AV → Prop
  | v (x : Value) : Rel σ S w x (.v x)
  | p {b k sz row j : Nat} (h : σ b = some k) : Rel σ S w (.pointer (some ⟨k, row * sz + j, none⟩)) (.p b sz row j)
  | ps {b k sz row n off cap : Nat} (h : σ b = some k) (hn : n ≤ cap) (ho : off = row * sz ∨ cap = 0)
      (hs : ∃ c e f, w.heap[k]? = some (.cells c e f) ∧ off + cap * sz ≤ c.size) :
      Rel σ S w (.slice (some ⟨k, off, none⟩) n cap) (.ps b sz row n)
  | ps0 {b sz row : Nat} : Rel σ S w (.slice none 0 0) (.ps b sz row 0)
  | top (x : Value) : Rel σ S w x .top
  | nil {sz : Nat} : Rel σ S w (.slice none 0 0) (.sl sz [])
  | e {a : Addr} {cap sz : Nat} : Rel σ S w (.slice (some a) 0 cap) (.sl sz [])
  | sl {k off cap sz : Nat} {rows : List (List AV)} (c : Nat → Nat → Value) (hk : S k) (hc : rows.length ≤ cap) (hl : ∀ r ∈ rows, r.length = sz)
      (hcell : ∀ (i : Nat) (r : List AV) (j : Nat) (av : AV), rows[i]? = some r → r[j]? = some av → w.cell? ⟨k, off + i * sz + j, none⟩ = some (c i j))
      (hr : ∀ (i : Nat) (r : List AV) (j : Nat) (av : AV), rows[i]? = some r → r[j]? = some av → Rel σ S w (c i j) av) :
      Rel σ S w (.slice (some ⟨k, off, none⟩) rows.length cap) (.sl sz rows)
  | rp {k off : Nat} {l : List AV} (c : Nat → Value) (hk : S k)
      (hcell : ∀ (j : Nat) (av : AV), l[j]? = some av → w.cell? ⟨k, off + j, none⟩ = some (c j))
      (hr : ∀ (j : Nat) (av : AV), l[j]? = some av → Rel σ S w (c j) av) : Rel σ S w (.pointer (some ⟨k, off, none⟩)) (.rp l)
  | agg {cs : Array Value} {l : List AV} (h : cs.size = l.length) (hr : ∀ (i : Nat) (x : Value) (av : AV), cs[i]? = some x → l[i]? = some av → Rel σ S w x av) : Rel σ S w (.agg cs) (.agg l)
  | tup {cs : Array Value} {l : List AV} (h : cs.size = l.length) (hr : ∀ (i : Nat) (x : Value) (av : AV), cs[i]? = some x → l[i]? = some av → Rel σ S w x av) : Rel σ S w (.tuple cs) (.tup l)
  | fn {f : FuncId} {cs : Array Value} {l : List AV} (h : cs.size = l.length) (hr : ∀ (i : Nat) (x : Value) (av : AV), cs[i]? = some x → l[i]? = some av → Rel σ S w x av) : Rel σ S w (.func (.func f) #[] cs) (.fn f l)

/-- Worlds in which what was readable stays readable. -/
structure Keeps (σ : Sig) (S : Nat → Prop) (w w' : World) : Prop where
  old : ∀ k, S k → w'.heap[k]? = w.heap[k]?
  size : ∀ b k c e f, σ b = some k → w.heap[k]? = some (.cells c e f) → ∃ c' e' f', w'.heap[k]? = some (.cells c' e' f') ∧ c.size ≤ c'.size

theorem cell_of_heap {w w' : World} {k o : Nat} (h : w'.heap[k]? = w.heap[k]?) : w'.cell? ⟨k, o, none⟩ = w.cell? ⟨k, o, none⟩ := by
  simp only [World.cell?, h]

theorem Rel.mono {σ σ' : Sig} {S S' : Nat → Prop} {w w' : World} (hσ : ∀ b k, σ b = some k → σ' b = some k) (hS : ∀ k, S k → S' k) (hw : Keeps σ S w w')
    {x : Value} {av : AV} (h : Rel σ S w x av) : Rel σ' S' w' x av := by
  induction h with
  | v x => exact .v x
  | p h => exact .p (hσ _ _ h)
  | ps h hn ho hs =>
    obtain ⟨c, e, f, h1, h2⟩ := hs
    obtain ⟨c', e', f', h3, h4⟩ := hw.size _ _ _ _ _ h h1
    exact .ps (hσ _ _ h) hn ho ⟨c', e', f', h3, Nat.le_trans h2 h4⟩
  | ps0 => exact .ps0
  | top x => exact .top x
  | nil => exact .nil
  | e => exact .e
  | sl c hk hc hl hcell hr ih => exact .sl c (hS _ hk) hc hl (fun i r j av h1 h2 => by rw [cell_of_heap (hw.old _ hk)]; exact hcell i r j av h1 h2) ih
  | rp c hk hcell hr ih => exact .rp c (hS _ hk) (fun j av h1 => by rw [cell_of_heap (hw.old _ hk)]; exact hcell j av h1) ih
  | agg h hr ih => exact .agg h ih
  | tup h hr ih => exact .tup h ih
  | fn h hr ih => exact .fn h ih

/-- One abstract value says no less than another. -/
def Le (a b : AV) : Prop := ∀ σ S w x, Rel σ S w x a → Rel σ S w x b
/-- An abstract value that names no private block. -/
def Cl (a : AV) : Prop := ∀ σ S w x, Rel σ S w x a → Rel nσ S w x a

theorem Le.refl (a : AV) : Le a a := fun _ _ _ _ h => h
theorem Le.trans {a b c : AV} (h : Le a b) (k : Le b c) : Le a c := fun _ _ _ _ x => k _ _ _ _ (h _ _ _ _ x)
theorem Le.nil (sz : Nat) : Le (.v (.slice none 0 0)) (.sl sz []) := fun _ _ _ _ h => by cases h; exact .nil

theorem Le.top (a : AV) : Le a .top := fun _ _ _ x _ => .top x
theorem Le.ps0 (b sz row : Nat) : Le (.v (.slice none 0 0)) (.ps b sz row 0) := fun _ _ _ _ h => by cases h; exact .ps0
theorem Cl.top : Cl .top := fun _ _ _ x _ => .top x

inductive LeL : List AV → List AV → Prop
  | nil : LeL [] []
  | cons {a b : AV} {l m : List AV} (h : Le a b) (t : LeL l m) : LeL (a :: l) (b :: m)

theorem LeL.refl : ∀ l : List AV, LeL l l
  | [] => .nil
  | a :: l => .cons (.refl a) (.refl l)

theorem LeL.length {l m : List AV} (h : LeL l m) : l.length = m.length := by
  induction h with
  | nil => rfl
  | cons _ _ ih => simp [ih]

theorem LeL.get {l m : List AV} (h : LeL l m) : ∀ (i : Nat) (b : AV), m[i]? = some b → ∃ a, l[i]? = some a ∧ Le a b := by
  induction h with
  | nil => intro i b hb; simp at hb
  | cons h t ih =>
    intro i b hb
    cases i with
    | zero => simp at hb; subst hb; exact ⟨_, rfl, h⟩
    | succ i => simp at hb; simpa using ih i b hb

theorem LeL.toRel {σ : Sig} {S : Nat → Prop} {w : World} {cs : Array Value} {l m : List AV} (h : LeL l m) (hr : ∀ (i : Nat) (x : Value) (av : AV), cs[i]? = some x → l[i]? = some av → Rel σ S w x av) :
    ∀ (i : Nat) (x : Value) (av : AV), cs[i]? = some x → m[i]? = some av → Rel σ S w x av := fun i x av hx ha => by
  obtain ⟨a, h1, h2⟩ := h.get i av ha
  exact h2 _ _ _ _ (hr i x a hx h1)

theorem Le.agg {l m : List AV} (h : LeL l m) : Le (.agg l) (.agg m) := fun _ _ _ _ hx => by
  cases hx with
  | agg hs hr => exact .agg (by rw [hs, h.length]) (h.toRel hr)
theorem Le.tup {l m : List AV} (h : LeL l m) : Le (.tup l) (.tup m) := fun _ _ _ _ hx => by
  cases hx with
  | tup hs hr => exact .tup (by rw [hs, h.length]) (h.toRel hr)

theorem Cl.v (x : Value) : Cl (.v x) := fun _ _ _ _ h => by cases h; exact .v _
theorem Cl.sl {sz : Nat} {rows : List (List AV)} (h : ∀ r ∈ rows, ∀ a ∈ r, Cl a) : Cl (.sl sz rows) := fun _ _ _ _ hx => by
  cases hx with
  | nil => exact .nil
  | e => exact .e
  | sl c hk hc hl hcell hr => exact .sl c hk hc hl hcell (fun i r j av h1 h2 => h r (List.mem_of_getElem? h1) av (List.mem_of_getElem? h2) _ _ _ _ (hr i r j av h1 h2))
theorem Cl.rp {l : List AV} (h : ∀ a ∈ l, Cl a) : Cl (.rp l) := fun _ _ _ _ hx => by
  cases hx with
  | rp c hk hcell hr => exact .rp c hk hcell (fun j av h1 => h av (List.mem_of_getElem? h1) _ _ _ _ (hr j av h1))
theorem Cl.agg {l : List AV} (h : ∀ a ∈ l, Cl a) : Cl (.agg l) := fun _ _ _ _ hx => by
  cases hx with
  | agg hs hr => exact .agg hs (fun i x av h1 h2 => h av (List.mem_of_getElem? h2) _ _ _ _ (hr i x av h1 h2))
theorem Cl.tup {l : List AV} (h : ∀ a ∈ l, Cl a) : Cl (.tup l) := fun _ _ _ _ hx => by
  cases hx with
  | tup hs hr => exact .tup hs (fun i x av h1 h2 => h av (List.mem_of_getElem? h2) _ _ _ _ (hr i x av h1 h2))
theorem Cl.fn {f : FuncId} {l : List AV} (h : ∀ a ∈ l, Cl a) : Cl (.fn f l) := fun _ _ _ _ hx => by
  cases hx with
  | fn hs hr => exact .fn hs (fun i x av h1 h2 => h av (List.mem_of_getElem? h2) _ _ _ _ (hr i x av h1 h2))

/-! ### Types as the executor sees them -/
inductive Z where
  | int (k : IntKind) | bool | str | slc | iface | ptr | func | map
def Z.val : Z → Value
  | .int k => .int k 0
  | .bool => .bool false
  | .str => .string ByteArray.empty
  | .slc => .slice none 0 0
  | .iface => .nilIface
  | .ptr => .pointer none
  | .func => .nilFunc
  | .map => .map none
inductive TK where
  | st (fs : List (Nat × Nat)) | arr (n e : Nat) | slc (e : Nat) | int (k : IntKind) | str | bool | iface | ptr (e : Nat) | other
structure TyI where
  size : Nat
  bytes : Nat
  zero : List Z
  kd : TK

def TK.ofDesc : TypeDesc → TK
  | .struct fs => .st (fs.toList.map fun f => (f.offset, f.type))
  | .array n e => .arr n e
  | .slice e => .slc e
  | .int k => .int k
  | .string => .str
  | .bool => .bool
  | .interface _ => .iface
  | .pointer e => .ptr e
  | _ => .other

def TK.agg : TK → Bool
  | .st _ | .arr _ _ => true
  | _ => false

/-- A type's row tells the truth. -/
structure TyOK (P : Program) (t : Nat) (y : TyI) : Prop where
  ex : ∃ i d, P.info? t = some i ∧ P.underlying t = some d ∧ i.size = y.size ∧ i.bytes = y.bytes ∧ TK.ofDesc d = y.kd ∧
    (∃ z, i.zero = some z ∧ z.cells = (y.zero.map Z.val).toArray ∧ (y.kd.agg = true → z = .agg (y.zero.map Z.val).toArray) ∧ (∀ zz, y.kd.agg = false → y.zero = [zz] → z = zz.val)) ∧ y.zero.length = y.size

abbrev Types := Nat → Option TyI
def TypesOK (P : Program) (ti : Types) : Prop := ∀ t y, ti t = some y → TyOK P t y

end Go.Ax
