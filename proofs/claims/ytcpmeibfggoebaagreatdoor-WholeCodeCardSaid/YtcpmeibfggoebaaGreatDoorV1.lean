/- The abstract executor and plain facts. -/
import Derived.WalkKit
import Derived.Orders
import Derived.Below
import Derived.Laws.CopyRow
import Derived.Laws.Rows
import Derived.Laws.StructEq
import Derived.Laws.MakeOwn
import Derived.Laws.Slices
import Derived.Tactics
set_option linter.unusedSimpArgs false
set_option linter.unusedVariables false
set_option linter.deprecated false
namespace Go.Ax
theorem dcT {p : Prop} [Decidable p] : (decide p = true) = p := decide_eq_true_eq
theorem dcF {p : Prop} [Decidable p] : (decide p = false) ↔ ¬p := decide_eq_false_iff_not
theorem bnT {b : Bool} : (¬b = true) = (b = false) := Bool.not_eq_true b
theorem bnF {b : Bool} : (¬b = false) = (b = true) := Bool.not_eq_false b
theorem bnU {b : Bool} : ((!b) = true) = (b = false) := Bool.not_eq_true' b
theorem bnV {b : Bool} : ((!b) = false) = (b = true) := Bool.not_eq_false' b
end Go.Ax

namespace Go.Ax
open Go Go.RowKit
inductive AV where
 | v (x : Value)
 | p (b sz row j : Nat)
 | ps (b sz row n : Nat)
 | rp (cells : List AV)
 | sl (sz : Nat) (rows : List (List AV))
 | agg (l : List AV)
 | tup (l : List AV)
 | fn (f : FuncId) (caps : List AV)
 | top
structure MB where
 sz : Nat
 rows : List (List AV)
def look {α : Type} : List (Nat × α) → Nat → Option α
 | [], _ => none
 | (k, x) :: l, t => if k = t then some x else look l t
structure AS where
 env : List (Nat × AV)
 mem : List (Nat × MB)
 next : Nat
abbrev Sig := Nat → Option Nat
def nσ : Sig := fun _ => none
inductive Rel (σ : Sig) (S : Nat → Prop) (w : World) : Value → AV → Prop
 | v (x : Value) : Rel σ S w x (.v x)
 | p {b k sz row j : Nat} (h : σ b = some k) : Rel σ S w (.pointer (some ⟨k, row * sz + j, none⟩)) (.p b sz row j)
 | ps {b k sz row n off cap : Nat} (h : σ b = some k) (hn : n ≤ cap) (ho : off = row * sz ∨ cap = 0)
   (hs : ∃ c e f, w.heap[k]? = some (.cells c e f) ∧ off + cap * sz ≤ c.size) :
   Rel σ S w (.slice (some ⟨k, off, none⟩) n cap) (.ps b sz row n)
 | ps0 {b sz row : Nat} : Rel σ S w (.slice none 0 0) (.ps b sz row 0)
 | top (x : Value) : Rel σ S w x .top
 | nil {sz : Nat} : Rel σ S w (.slice none 0 0) (.sl sz [])
 | e {a : Addr} {cap sz : Nat} : Rel σ S w (.slice (some a) 0 cap) (.sl sz [])
 | sl {k off cap sz : Nat} {rows : List (List AV)} (c : Nat → Nat → Value) (hk : S k) (hc : rows.length ≤ cap) (hl : ∀ r ∈ rows, r.length = sz)
   (hcell : ∀ (i : Nat) (r : List AV) (j : Nat) (av : AV), rows[i]? = some r → r[j]? = some av → w.cell? ⟨k, off + i * sz + j, none⟩ = some (c i j))
   (hr : ∀ (i : Nat) (r : List AV) (j : Nat) (av : AV), rows[i]? = some r → r[j]? = some av → Rel σ S w (c i j) av) :
   Rel σ S w (.slice (some ⟨k, off, none⟩) rows.length cap) (.sl sz rows)
 | rp {k off : Nat} {l : List AV} (c : Nat → Value) (hk : S k)
   (hcell : ∀ (j : Nat) (av : AV), l[j]? = some av → w.cell? ⟨k, off + j, none⟩ = some (c j))
   (hr : ∀ (j : Nat) (av : AV), l[j]? = some av → Rel σ S w (c j) av) : Rel σ S w (.pointer (some ⟨k, off, none⟩)) (.rp l)
 | agg {cs : Array Value} {l : List AV} (h : cs.size = l.length) (hr : ∀ (i : Nat) (x : Value) (av : AV), cs[i]? = some x → l[i]? = some av → Rel σ S w x av) : Rel σ S w (.agg cs) (.agg l)
 | tup {cs : Array Value} {l : List AV} (h : cs.size = l.length) (hr : ∀ (i : Nat) (x : Value) (av : AV), cs[i]? = some x → l[i]? = some av → Rel σ S w x av) : Rel σ S w (.tuple cs) (.tup l)
 | fn {f : FuncId} {cs : Array Value} {l : List AV} (h : cs.size = l.length) (hr : ∀ (i : Nat) (x : Value) (av : AV), cs[i]? = some x → l[i]? = some av → Rel σ S w x av) : Rel σ S w (.func (.func f) #[] cs) (.fn f l)
structure Keeps (σ : Sig) (S : Nat → Prop) (w w' : World) : Prop where
 old : ∀ k, S k → w'.heap[k]? = w.heap[k]?
 size : ∀ b k c e f, σ b = some k → w.heap[k]? = some (.cells c e f) → ∃ c' e' f', w'.heap[k]? = some (.cells c' e' f') ∧ c.size ≤ c'.size
theorem zgi {w w' : World} {k o : Nat} (h : w'.heap[k]? = w.heap[k]?) : w'.cell? ⟨k, o, none⟩ = w.cell? ⟨k, o, none⟩ := by
 simp only [World.cell?, h]
theorem Rel.mono {σ σ' : Sig} {S S' : Nat → Prop} {w w' : World} (hσ : ∀ b k, σ b = some k → σ' b = some k) (hS : ∀ k, S k → S' k) (hw : Keeps σ S w w')
  {x : Value} {av : AV} (h : Rel σ S w x av) : Rel σ' S' w' x av := by
 induction h with
 | v x => exact .v x
 | p h => exact .p (hσ _ _ h)
 | ps h hn ho hs =>
  obtain ⟨c, e, f, h1, h2⟩ := hs
  obtain ⟨c', e', f', h3, h4⟩ := hw.size _ _ _ _ _ h h1
  exact .ps (hσ _ _ h) hn ho ⟨c', e', f', h3, Nat.le_trans h2 h4⟩
 | ps0 => exact .ps0
 | top x => exact .top x
 | nil => exact .nil
 | e => exact .e
 | sl c hk hc hl hcell hr ih => exact .sl c (hS _ hk) hc hl (fun i r j av h1 h2 => by rw [zgi (hw.old _ hk)]; exact hcell i r j av h1 h2) ih
 | rp c hk hcell hr ih => exact .rp c (hS _ hk) (fun j av h1 => by rw [zgi (hw.old _ hk)]; exact hcell j av h1) ih
 | agg h hr ih => exact .agg h ih
 | tup h hr ih => exact .tup h ih
 | fn h hr ih => exact .fn h ih
def Le (a b : AV) : Prop := ∀ σ S w x, Rel σ S w x a → Rel σ S w x b
def Cl (a : AV) : Prop := ∀ σ S w x, Rel σ S w x a → Rel nσ S w x a
theorem Le.refl (a : AV) : Le a a := fun _ _ _ _ h => h
theorem Le.nil (sz : Nat) : Le (.v (.slice none 0 0)) (.sl sz []) := fun _ _ _ _ h => by cases h; exact .nil
theorem Le.ps0 (b sz row : Nat) : Le (.v (.slice none 0 0)) (.ps b sz row 0) := fun _ _ _ _ h => by cases h; exact .ps0
inductive LeL : List AV → List AV → Prop
 | nil : LeL [] []
 | cons {a b : AV} {l m : List AV} (h : Le a b) (t : LeL l m) : LeL (a :: l) (b :: m)
theorem LeL.refl : ∀ l : List AV, LeL l l
 | [] => .nil
 | a :: l => .cons (.refl a) (.refl l)
theorem LeL.length {l m : List AV} (h : LeL l m) : l.length = m.length := by
 induction h with
 | nil => rfl
 | cons _ _ ih => simp [ih]
theorem LeL.get {l m : List AV} (h : LeL l m) : ∀ (i : Nat) (b : AV), m[i]? = some b → ∃ a, l[i]? = some a ∧ Le a b := by
 induction h with
 | nil => intro i b hb; simp at hb
 | cons h t ih =>
  intro i b hb
  cases i with
  | zero => simp at hb; subst hb; exact ⟨_, rfl, h⟩
  | succ i => simp at hb; simpa using ih i b hb
theorem LeL.toRel {σ : Sig} {S : Nat → Prop} {w : World} {cs : Array Value} {l m : List AV} (h : LeL l m) (hr : ∀ (i : Nat) (x : Value) (av : AV), cs[i]? = some x → l[i]? = some av → Rel σ S w x av) :
  ∀ (i : Nat) (x : Value) (av : AV), cs[i]? = some x → m[i]? = some av → Rel σ S w x av := fun i x av hx ha => by
 obtain ⟨a, h1, h2⟩ := h.get i av ha
 exact h2 _ _ _ _ (hr i x a hx h1)
theorem Le.agg {l m : List AV} (h : LeL l m) : Le (.agg l) (.agg m) := fun _ _ _ _ hx => by
 cases hx with
 | agg hs hr => exact .agg (by rw [hs, h.length]) (h.toRel hr)
theorem Le.tup {l m : List AV} (h : LeL l m) : Le (.tup l) (.tup m) := fun _ _ _ _ hx => by
 cases hx with
 | tup hs hr => exact .tup (by rw [hs, h.length]) (h.toRel hr)
theorem Cl.v (x : Value) : Cl (.v x) := fun _ _ _ _ h => by cases h; exact .v _
theorem Cl.sl {sz : Nat} {rows : List (List AV)} (h : ∀ r ∈ rows, ∀ a ∈ r, Cl a) : Cl (.sl sz rows) := fun _ _ _ _ hx => by
 cases hx with
 | nil => exact .nil
 | e => exact .e
 | sl c hk hc hl hcell hr => exact .sl c hk hc hl hcell (fun i r j av h1 h2 => h r (List.mem_of_getElem? h1) av (List.mem_of_getElem? h2) _ _ _ _ (hr i r j av h1 h2))
theorem Cl.rp {l : List AV} (h : ∀ a ∈ l, Cl a) : Cl (.rp l) := fun _ _ _ _ hx => by
 cases hx with
 | rp c hk hcell hr => exact .rp c hk hcell (fun j av h1 => h av (List.mem_of_getElem? h1) _ _ _ _ (hr j av h1))
theorem Cl.agg {l : List AV} (h : ∀ a ∈ l, Cl a) : Cl (.agg l) := fun _ _ _ _ hx => by
 cases hx with
 | agg hs hr => exact .agg hs (fun i x av h1 h2 => h av (List.mem_of_getElem? h2) _ _ _ _ (hr i x av h1 h2))
theorem Cl.tup {l : List AV} (h : ∀ a ∈ l, Cl a) : Cl (.tup l) := fun _ _ _ _ hx => by
 cases hx with
 | tup hs hr => exact .tup hs (fun i x av h1 h2 => h av (List.mem_of_getElem? h2) _ _ _ _ (hr i x av h1 h2))
theorem Cl.fn {f : FuncId} {l : List AV} (h : ∀ a ∈ l, Cl a) : Cl (.fn f l) := fun _ _ _ _ hx => by
 cases hx with
 | fn hs hr => exact .fn hs (fun i x av h1 h2 => h av (List.mem_of_getElem? h2) _ _ _ _ (hr i x av h1 h2))
inductive Z where
 | int (k : IntKind) | bool | str | slc | iface | ptr | func | map
def Z.val : Z → Value
 | .int k => .int k 0
 | .bool => .bool false
 | .str => .string ByteArray.empty
 | .slc => .slice none 0 0
 | .iface => .nilIface
 | .ptr => .pointer none
 | .func => .nilFunc
 | .map => .map none
inductive TK where
 | st (fs : List (Nat × Nat)) | arr (n e : Nat) | slc (e : Nat) | int (k : IntKind) | str | bool | iface | ptr (e : Nat) | other
structure TyI where
 size : Nat
 bytes : Nat
 zero : List Z
 kd : TK
def TK.ofDesc : TypeDesc → TK
 | .struct fs => .st (fs.toList.map fun f => (f.offset, f.type))
 | .array n e => .arr n e
 | .slice e => .slc e
 | .int k => .int k
 | .string => .str
 | .bool => .bool
 | .interface _ => .iface
 | .pointer e => .ptr e
 | _ => .other
def TK.agg : TK → Bool
 | .st _ | .arr _ _ => true
 | _ => false
structure TyOK (P : Program) (t : Nat) (y : TyI) : Prop where
 ex : ∃ i d, P.info? t = some i ∧ P.underlying t = some d ∧ i.size = y.size ∧ i.bytes = y.bytes ∧ TK.ofDesc d = y.kd ∧
  (∃ z, i.zero = some z ∧ z.cells = (y.zero.map Z.val).toArray ∧ (y.kd.agg = true → z = .agg (y.zero.map Z.val).toArray) ∧ (∀ zz, y.kd.agg = false → y.zero = [zz] → z = zz.val)) ∧ y.zero.length = y.size
abbrev zaN := Nat → Option TyI
def zam (P : Program) (ti : zaN) : Prop := ∀ t y, ti t = some y → TyOK P t y
abbrev GL := List (Nat × List Value)
structure Base where
 d : Nat → Prop
 G : GL
 an : Option Nat
 df : List Deferred
 fx : List (Nat × Value)
def Fr (D : Base) (a : Act) : Prop := a.defers = D.df ∧ ∀ p ∈ D.fx, a.tmps[p.1]? = some p.2
def GH (w : World) (g : Nat) (l : List Value) : Prop := ∃ c e f, w.heap[g]? = some (.cells c e f) ∧ (∀ (j : Nat) (x : Value), l[j]? = some x → c[j]? = some x) ∧ (l ≠ [] ∧ c.size = l.length ∨ l = [] ∧ ((g ≠ 1 ∧ ∃ te pe, c[0]? = some (.iface te pe)) ∨ (g = 1 ∧ ∃ m, c[0]? = some (.int .i64 m))))
def GS (G : GL) (S : Nat → Prop) (w : World) : Prop := ∀ g l, (g, l) ∈ G → S g ∧ GH w g l
theorem GH.eq {w w' : World} {g : Nat} {l : List Value} (h : GH w g l) (he : w'.heap[g]? = w.heap[g]?) : GH w' g l := by
 obtain ⟨c, e, f, h1, h2⟩ := h
 exact ⟨c, e, f, by rw [he]; exact h1, h2⟩
theorem GH.lt {w : World} {g : Nat} {l : List Value} (h : GH w g l) : g < w.heap.size := by
 obtain ⟨c, e, f, h1, _⟩ := h
 exact (Array.getElem?_eq_some_iff.1 h1).1
structure Bel (D : Base) (w w' : World) : Prop where
 os : w'.os = w.os
 tape : w'.tape = w.tape
 output : w'.output = w.output
 size : w.heap.size ≤ w'.heap.size
 block : ∀ k, k < w.heap.size → ¬ D.d k → w'.heap[k]? = w.heap[k]?
 keptF : ∀ k c e f, D.d k → w.heap[k]? = some (.cells c e f) → ∃ c' e', w'.heap[k]? = some (.cells c' e' f) ∧ c.size ≤ c'.size
 glob : ∀ g l, (g, l) ∈ D.G → ¬ D.d g ∧ GH w g l
theorem Bel.kept {D : Base} {w w' : World} (h : Bel D w w') : ∀ k c e f, D.d k → w.heap[k]? = some (.cells c e f) → ∃ c' e' f', w'.heap[k]? = some (.cells c' e' f') ∧ c.size ≤ c'.size := fun k c e f hd hc => by
 obtain ⟨c', e', h1, h2⟩ := h.keptF k c e f hd hc
 exact ⟨c', e', f, h1, h2⟩
theorem Bel.refl {D : Base} {w : World} (h : ∀ g l, (g, l) ∈ D.G → ¬ D.d g ∧ GH w g l) : Bel D w w := ⟨rfl, rfl, rfl, Nat.le_refl _, fun _ _ _ => rfl, fun _ c e f _ h => ⟨c, e, h, Nat.le_refl _⟩, h⟩
theorem Bel.gh {D : Base} {w w' : World} (h : Bel D w w') {g : Nat} {l : List Value} (hg : (g, l) ∈ D.G) : GH w' g l := (h.glob g l hg).2.eq (h.block g (h.glob g l hg).2.lt (h.glob g l hg).1)
theorem za8 {w : World} {k : Nat} {o : Obj} (h : w.heap[k]? = some o) : k < w.heap.size := (Array.getElem?_eq_some_iff.1 h).1
theorem Bel.then {D : Base} {w0 w w' : World} (h : Bel D w0 w) (k : Below w.heap.size w w') : Bel D w0 w' :=
 ⟨k.os.trans h.os, k.tape.trans h.tape, k.output.trans h.output, Nat.le_trans h.size k.size, fun i hi hd => (k.block i (Nat.lt_of_lt_of_le hi h.size)).trans (h.block i hi hd),
  fun i c e f hd hc => by obtain ⟨c', e', h1, h2⟩ := h.keptF i c e f hd hc; exact ⟨c', e', by rw [k.block i (za8 h1)]; exact h1, h2⟩, h.glob⟩
theorem Bel.none {G : GL} {w w' : World} (h : Bel ⟨fun _ => False, G, none, [], []⟩ w w') : Below w.heap.size w w' := ⟨h.os, h.tape, h.output, h.size, fun k hk => h.block k hk id⟩
def Own (D : Base) (w0 : World) (k : Nat) : Prop := w0.heap.size ≤ k ∨ D.d k
def zjr (σ : Sig) (S F : Nat → Prop) (w : World) (b : Nat) (m : MB) : Prop :=
 ∃ k c e, σ b = some k ∧ F k ∧ ¬ S k ∧ w.heap[k]? = some (.cells c e (0, 0)) ∧ (∀ r ∈ m.rows, r.length = m.sz) ∧ m.rows.length * m.sz ≤ c.size ∧
  ∀ (i : Nat) (r : List AV) (j : Nat) (av : AV), m.rows[i]? = some r → r[j]? = some av → ∃ x, c[i * m.sz + j]? = some x ∧ Rel σ S w x av
def zky (σ : Sig) (S F : Nat → Prop) (w : World) (b : Nat) (m : MB) : Prop := (m.rows = [] ∧ σ b = none) ∨ zjr σ S F w b m
theorem zky.row {σ : Sig} {S F : Nat → Prop} {w : World} {b : Nat} {m : MB} (h : zky σ S F w b m) {i : Nat} (hi : i < m.rows.length) : zjr σ S F w b m := by
 rcases h with ⟨h, _⟩ | h
 ·rw [h] at hi; simp at hi
 ·exact h
theorem zky.named {σ : Sig} {S F : Nat → Prop} {w : World} {b k : Nat} {m : MB} (h : zky σ S F w b m) (hs : σ b = some k) : zjr σ S F w b m := by
 rcases h with ⟨_, h⟩ | h
 ·rw [h] at hs; cases hs
 ·exact h
structure Fit (D : Base) (S0 : Nat → Prop) (w0 : World) (σ : Sig) (S : Nat → Prop) (mem : List (Nat × MB)) (U : Nat → Prop) (w : World) : Prop where
 below : Bel D w0 w
 dom : ∀ b k, σ b = some k → U b ∧ k < w.heap.size
 inj : ∀ b b' k m m', look mem b = some m → look mem b' = some m' → σ b = some k → σ b' = some k → b = b'
 sbd : ∀ k, S k → k < w.heap.size
 s0 : ∀ k, S0 k → S k
 s1 : ∀ k, S k → S0 k ∨ Own D w0 k
 glob : (∀ g l, (g, l) ∈ D.G → S g) ∧ ∀ k, D.an = some k → σ 0 = some k
 mem : ∀ b m, look mem b = some m → zky σ S (Own D w0) w b m
def zat (σ : Sig) (S : Nat → Prop) (w : World) (env : List (Nat × AV)) (a : Act) : Prop :=
 ∀ t av, look env t = some av → ∃ x, a.tmps[t]? = some x ∧ Rel σ S w x av
structure Sim (D : Base) (S0 : Nat → Prop) (w0 : World) (nt : Nat) (s : AS) (a : Act) (w : World) : Prop where
 defers : Fr D a
 nt : a.tmps.size = nt
 ex : ∃ σ S, Fit D S0 w0 σ S s.mem (fun b => b < s.next) w ∧ zat σ S w s.env a
theorem Fit.gs {D : Base} {S0 : Nat → Prop} {w0 : World} {σ : Sig} {S : Nat → Prop} {mem : List (Nat × MB)} {U : Nat → Prop} {w : World} (h : Fit D S0 w0 σ S mem U w) : GS D.G S w := fun g l hg => ⟨h.glob.1 g l hg, h.below.gh hg⟩
section
variable {D : Base} {S0 : Nat → Prop} {w0 : World} {σ σ' : Sig} {S S' : Nat → Prop} {mem : List (Nat × MB)} {U : Nat → Prop} {w w' : World} {env : List (Nat × AV)} {a : Act}
theorem zat.mono (hσ : ∀ b k, σ b = some k → σ' b = some k) (hS : ∀ k, S k → S' k) (hw : Keeps σ S w w') (h : zat σ S w env a) : zat σ' S' w' env a := fun t av ht => by
 obtain ⟨x, hx, hr⟩ := h t av ht
 exact ⟨x, hx, hr.mono hσ hS hw⟩
theorem zat.put (h : zat σ S w env a) {d : Nat} (hd : d < a.tmps.size) {x : Value} {av : AV} (hr : Rel σ S w x av) : zat σ S w ((d, av) :: env) (a.put (some d) x) := fun t av' ht => by
 simp only [look] at ht
 split at ht
 ·rename_i hdt
  injection ht with ht
  subst hdt ht
  exact ⟨x, by simp [Act.put, hd], hr⟩
 ·rename_i hdt
  obtain ⟨x', hx', hr'⟩ := h t av' ht
  exact ⟨x', by simp [Act.put, Array.getElem?_setIfInBounds_ne hdt, hx'], hr'⟩
theorem zgs (a : Act) (d : Option Tmp) (x : Value) : (a.put d x).tmps.size = a.tmps.size := by cases d <;> simp [Act.put]
theorem Fr.put {D : Base} {a : Act} (h : Fr D a) {o : Option Tmp} (x : Value) (ho : ∀ d, o = some d → ∀ p ∈ D.fx, p.1 ≠ d) : Fr D (a.put o x) := by
 cases o with
 | none => exact h
 | some d => exact ⟨h.1, fun p hp => by simp only [Act.put]; rw [Array.getElem?_setIfInBounds_ne (fun e => ho d rfl p hp e.symm)]; exact h.2 p hp⟩
def zf4 (S : Nat → Prop) (w w' : World) (k : Nat) : Prop := S k ∨ (w.heap.size ≤ k ∧ k < w'.heap.size)
theorem Fit.keeps_below (h : Fit D S0 w0 σ S mem U w) (hb : Below w.heap.size w w') : Keeps σ S w w' where
 old k hk := hb.block k (h.sbd k hk)
 size b k c e f hs hc := ⟨c, e, f, by rw [hb.block k (h.dom b k hs).2]; exact hc, Nat.le_refl _⟩
theorem Fit.grow (h : Fit D S0 w0 σ S mem U w) (hb : Below w.heap.size w w') : Fit D S0 w0 σ (zf4 S w w') mem U w' where
 below := h.below.then hb
 dom b k hk := ⟨(h.dom b k hk).1, Nat.lt_of_lt_of_le (h.dom b k hk).2 hb.size⟩
 inj := h.inj
 sbd k hk := by rcases hk with hk | hk; exact Nat.lt_of_lt_of_le (h.sbd k hk) hb.size; exact hk.2
 s0 k hk := .inl (h.s0 k hk)
 s1 k hk := by rcases hk with hk | hk; exact h.s1 k hk; exact .inr (.inl (Nat.le_trans h.below.size hk.1))
 glob := ⟨fun g l hg => .inl (h.glob.1 g l hg), h.glob.2⟩
 mem b m hm := by
  rcases h.mem b m hm with hn | ⟨k, c, e, h1, h2, h3, h4, h5, h6, h7⟩
  ·exact .inl hn
  have hk := (h.dom b k h1).2
  refine .inr ⟨k, c, e, h1, h2, fun hs => ?_, by rw [hb.block k hk]; exact h4, h5, h6, fun i r j av hi hj => ?_⟩
  ·rcases hs with hs | hs
   ·exact h3 hs
   ·omega
  ·obtain ⟨x, hx, hr⟩ := h7 i r j av hi hj
   exact ⟨x, hx, hr.mono (fun _ _ h => h) (fun _ h => .inl h) (h.keeps_below hb)⟩
theorem zat.grow (he : zat σ S w env a) (h : Fit D S0 w0 σ S mem U w) (hb : Below w.heap.size w w') : zat σ (zf4 S w w') w' env a :=
 he.mono (fun _ _ h => h) (fun _ h => .inl h) (h.keeps_below hb)
def upd (σ : Sig) (b k : Nat) : Sig := fun x => if x = b then some k else σ x
theorem zdf (h : Fit D S0 w0 σ S mem U w) {id : Nat} (hid : ¬ U id) (b k : Nat) (hb : σ b = some k) (k' : Nat) : upd σ id k' b = some k := by
 unfold upd
 have hne : b ≠ id := by
  intro e
  subst e
  exact hid (h.dom _ k hb).1
 rw [if_neg hne]
 exact hb
theorem zcC (w : World) (o : Obj) {k : Nat} (h : k < w.heap.size) : (w.alloc o).heap[k]? = w.heap[k]? := Below.heap_alloc w o k h
theorem zbc (w : World) (o : Obj) : (w.alloc o).heap[w.heap.size]? = some o := by
 show (w.heap.push o)[w.heap.size]? = _
 simp
theorem Fit.keeps_alloc (h : Fit D S0 w0 σ S mem U w) (o : Obj) : Keeps σ S w (w.alloc o) :=
 h.keeps_below ((Below.refl _ _).alloc (Nat.le_refl _) o)
theorem Fit.new (h : Fit D S0 w0 σ S mem U w) {next : Nat} (hid : ¬ U next) (c : Array Value) (e : TypeId) (m : MB) (hl : ∀ r ∈ m.rows, r.length = m.sz) (hz : m.rows.length * m.sz ≤ c.size)
  (hc : ∀ (i : Nat) (r : List AV) (j : Nat) (av : AV), m.rows[i]? = some r → r[j]? = some av → ∃ x, c[i * m.sz + j]? = some x ∧ Rel σ S w x av) :
  Fit D S0 w0 (upd σ next w.heap.size) S ((next, m) :: mem) (fun b => U b ∨ b = next) (w.alloc (.cells c e)) where
 below := h.below.then ((Below.refl _ _).alloc (Nat.le_refl _) _)
 dom b k hk := by
  unfold upd at hk
  split at hk
  ·injection hk with hk; subst hk; rename_i hb; exact ⟨.inr hb, by simp⟩
  ·have := h.dom b k hk; exact ⟨.inl this.1, by simp; omega⟩
 inj b b' k m1 m2 h1 h2 h3 h4 := by
  simp only [look] at h1 h2
  unfold upd at h3 h4
  by_cases e1 : b = next <;> by_cases e2 : b' = next
  ·rw [e1, e2]
  ·rw [if_pos e1] at h3; rw [if_neg e2] at h4
   injection h3 with h3; subst h3
   have := (h.dom b' _ h4).2; omega
  ·rw [if_neg e1] at h3; rw [if_pos e2] at h4
   injection h4 with h4; subst h4
   have := (h.dom b _ h3).2; omega
  ·rw [if_neg e1] at h3; rw [if_neg e2] at h4
   rw [if_neg (fun e => e1 e.symm)] at h1; rw [if_neg (fun e => e2 e.symm)] at h2
   exact h.inj b b' k m1 m2 h1 h2 h3 h4
 sbd k hk := by have := h.sbd k hk; simp; omega
 s0 := h.s0
 s1 := h.s1
 glob := ⟨h.glob.1, fun k hk => zdf h hid 0 k (h.glob.2 k hk) _⟩
 mem b m' hm := by
  simp only [look] at hm
  split at hm
  ·rename_i hb
   injection hm with hm
   subst hb hm
   refine .inr ⟨w.heap.size, c, e, by simp [upd], .inl h.below.size, fun hs => Nat.lt_irrefl _ (h.sbd _ hs), zbc _ _, hl, hz, fun i r j av hi hj => ?_⟩
   obtain ⟨x, hx, hr⟩ := hc i r j av hi hj
   exact ⟨x, hx, hr.mono (fun b k hb => zdf h hid b k hb _) (fun _ h => h) (h.keeps_alloc _)⟩
  ·rename_i hb
   rcases h.mem b m' hm with ⟨hn1, hn2⟩ | ⟨k, c', e', h1, h2, h3, h4, h5, h6, h7⟩
   ·refine .inl ⟨hn1, ?_⟩
    unfold upd
    rw [if_neg (fun e => hb e.symm)]; exact hn2
   have hk := (h.dom b k h1).2
   refine .inr ⟨k, c', e', zdf h hid b k h1 _, h2, h3, by rw [zcC _ _ hk]; exact h4, h5, h6, fun i r j av hi hj => ?_⟩
   obtain ⟨x, hx, hr⟩ := h7 i r j av hi hj
   exact ⟨x, hx, hr.mono (fun b k hb => zdf h hid b k hb _) (fun _ h => h) (h.keeps_alloc _)⟩
theorem zat.new (he : zat σ S w env a) (h : Fit D S0 w0 σ S mem U w) {next : Nat} (hid : ¬ U next) (o : Obj) (k' : Nat) : zat (upd σ next k') S (w.alloc o) env a :=
 he.mono (fun b k hb => zdf h hid b k hb _) (fun _ h => h) (h.keeps_alloc _)
theorem zbP (w : World) (g : Nat) (c : Array Value) {k : Nat} (h : k ≠ g) : (w.setRow g c).heap[k]? = w.heap[k]? := by
 simp only [World.setRow, Array.getElem?_modify]
 rw [if_neg (fun e => h e.symm)]
theorem zm0 {w0 w : World} {D : Base} (h : Bel D w0 w) {g : Nat} (hg : Own D w0 g) {c c' : Array Value} {e : TypeId} {f : Nat × Nat} (hc : w.heap[g]? = some (.cells c e f)) (hs : c.size = c'.size) : Bel D w0 (w.setRow g c') :=
 ⟨h.os, h.tape, h.output, by simpa [World.setRow] using h.size, fun k hk hd => by
  rw [zbP _ _ _ (fun e => by subst e; rcases hg with hg | hg; omega; exact hd hg)]; exact h.block k hk hd,
  fun k d e' f' hd hcd => by
   obtain ⟨c1, e1, h1, h2⟩ := h.keptF k d e' f' hd hcd
   by_cases hkg : k = g
   ·subst hkg
    rw [hc] at h1
    injection h1 with h1
    injection h1 with h1 h3 h4
    subst h1 h4
    exact ⟨c', e, setRow_heap w k c c' e f hc, by omega⟩
   ·exact ⟨c1, e1, by rw [zbP _ _ _ hkg]; exact h1, h2⟩, h.glob⟩
theorem Fit.keeps_set (h : Fit D S0 w0 σ S mem U w) {k : Nat} (hk : ¬ S k) {c c' : Array Value} {e : TypeId} {f : Nat × Nat} (hc : w.heap[k]? = some (.cells c e f)) (hs : c.size = c'.size) : Keeps σ S w (w.setRow k c') where
 old i hi := zbP _ _ _ (fun e => hk (e ▸ hi))
 size b i d e' f' hb hd := by
  by_cases hik : i = k
  ·subst hik
   rw [hc] at hd
   injection hd with hd
   injection hd with hd1 hd2 hd3
   subst hd1 hd2 hd3
   exact ⟨c', e, f, setRow_heap w i c c' e f hc, by omega⟩
  ·exact ⟨d, e', f', by rw [zbP _ _ _ hik]; exact hd, Nat.le_refl _⟩
theorem Fit.set (h : Fit D S0 w0 σ S mem U w) {b k : Nat} {m m' : MB} (hm : look mem b = some m) (hσ : σ b = some k) {c c' : Array Value} {e : TypeId} (hc : w.heap[k]? = some (.cells c e (0, 0))) (hs : c.size = c'.size)
  (hl : ∀ r ∈ m'.rows, r.length = m'.sz) (hz : m'.rows.length * m'.sz ≤ c'.size)
  (hr : ∀ (i : Nat) (r : List AV) (j : Nat) (av : AV), m'.rows[i]? = some r → r[j]? = some av → ∃ x, c'[i * m'.sz + j]? = some x ∧ Rel σ S w x av) :
  Fit D S0 w0 σ S ((b, m') :: mem) U (w.setRow k c') ∧ Keeps σ S w (w.setRow k c') := by
 obtain ⟨k0, c0, e0, g1, g2, g3, g4, g5, g6, g7⟩ := (h.mem b m hm).named hσ
 have hkk : k0 = k := by rw [hσ] at g1; injection g1 with g1; exact g1.symm
 subst hkk
 have hke := h.keeps_set g3 hc hs
 have hsz : (w.setRow k0 c').heap.size = w.heap.size := by simp [World.setRow]
 refine ⟨⟨zm0 h.below g2 hc hs, fun b k hk => by rw [hsz]; exact h.dom b k hk, ?_, fun k hk => by rw [hsz]; exact h.sbd k hk, h.s0, h.s1, h.glob, ?_⟩, hke⟩
 ·intro b1 b2 k m1 m2 h1 h2 h3 h4
  have q1 : ∃ m1', look mem b1 = some m1' := by
   simp only [look] at h1
   split at h1
   ·rename_i e1; exact ⟨m, e1 ▸ hm⟩
   ·exact ⟨_, h1⟩
  have q2 : ∃ m2', look mem b2 = some m2' := by
   simp only [look] at h2
   split at h2
   ·rename_i e1; exact ⟨m, e1 ▸ hm⟩
   ·exact ⟨_, h2⟩
  obtain ⟨_, q1⟩ := q1
  obtain ⟨_, q2⟩ := q2
  exact h.inj b1 b2 k _ _ q1 q2 h3 h4
 ·intro b1 m1 h1
  simp only [look] at h1
  split at h1
  ·rename_i hb
   injection h1 with h1
   subst hb h1
   refine .inr ⟨k0, c', e, hσ, g2, g3, setRow_heap w k0 c c' e (0, 0) hc, hl, hz, fun i r j av hi hj => ?_⟩
   obtain ⟨x, hx, hx2⟩ := hr i r j av hi hj
   exact ⟨x, hx, hx2.mono (fun _ _ h => h) (fun _ h => h) hke⟩
  ·rename_i hb
   rcases h.mem b1 m1 h1 with hn | ⟨k1, c1, e1, f1, f2, f3, f4, f5, f6, f7⟩
   ·exact .inl hn
   have hne : k1 ≠ k0 := fun e => hb (h.inj b b1 k0 m m1 hm h1 hσ (e ▸ f1))
   refine .inr ⟨k1, c1, e1, f1, f2, f3, by rw [zbP _ _ _ hne]; exact f4, f5, f6, fun i r j av hi hj => ?_⟩
   obtain ⟨x, hx, hx2⟩ := f7 i r j av hi hj
   exact ⟨x, hx, hx2.mono (fun _ _ h => h) (fun _ h => h) hke⟩
end
inductive Upd where
 | keep
 | new (m : MB)
 | set (b : Nat) (m : MB)
 | app (b : Nat) (m : MB)
def dropM (b : Nat) : List (Nat × MB) → List (Nat × MB)
 | [] => []
 | (k, m) :: l => bif k == b then dropM b l else (k, m) :: dropM b l
structure Eff where
 need : Prop
 val : AV
 upd : Upd
def AS.upd (s : AS) : Upd → AS
 | .keep => s
 | .new m => ⟨s.env, (s.next, m) :: s.mem, s.next + 1⟩
 | .set b m => ⟨s.env, (b, m) :: s.mem, s.next⟩
 | .app b m => ⟨s.env, (s.next, m) :: dropM b s.mem, s.next + 1⟩
def AS.put (s : AS) (d : Option Tmp) (av : AV) : AS :=
 match d with
 | some d => ⟨(d, av) :: s.env, s.mem, s.next⟩
 | none => s
def ev (s : AS) : Operand → Option AV
 | .tmp t => look s.env t
 | .const c => some (.v c)
 | .func f => some (.fn f [])
 | .global _ => none
def AV.cells : AV → List AV
 | .agg l => l
 | a => [a]
def AV.one : AV → Bool
 | .v x => x.oneCell'
 | .agg _ => false
 | .tup _ => false
 | .top => false
 | _ => true
def zeW (k : IntKind) (a b : Int) : Int := ((BitVec.ofInt k.bits a &&& BitVec.ofInt k.bits b).toNat : Nat)
def bOr (k : IntKind) (a b : Int) : Int := ((BitVec.ofInt k.bits a ||| BitVec.ofInt k.bits b).toNat : Nat)
def bXor (k : IntKind) (a b : Int) : Int := ((BitVec.ofInt k.bits a ^^^ BitVec.ofInt k.bits b).toNat : Nat)
def zhA (k : IntKind) (a b : Int) : Int := ((BitVec.ofInt k.bits a &&& ~~~ (BitVec.ofInt k.bits b)).toNat : Nat)
def ibin (op : BinOp) (k : IntKind) (a b : Int) : Option (Prop × Value) :=
 match op with
 | .add => some (True, .int k (k.wrap (a + b)))
 | .sub => some (True, .int k (k.wrap (a - b)))
 | .mul => some (True, .int k (k.wrap (a * b)))
 | .quo => some (b ≠ 0, .int k (k.wrap (a.tdiv b)))
 | .rem => some (b ≠ 0, .int k (a.tmod b))
 | .and => some (True, .int k (k.wrap (zeW k a b)))
 | .or => some (True, .int k (k.wrap (bOr k a b)))
 | .xor => some (True, .int k (k.wrap (bXor k a b)))
 | .andNot => some (True, .int k (k.wrap (zhA k a b)))
 | .eql => some (True, .bool (decide (a = b)))
 | .neq => some (True, .bool (!decide (a = b)))
 | .lss => some (True, .bool (decide (a < b)))
 | .leq => some (True, .bool (decide (a ≤ b)))
 | .gtr => some (True, .bool (decide (b < a)))
 | .geq => some (True, .bool (decide (b ≤ a)))
 | _ => none
def ishift (op : BinOp) (k : IntKind) (a b : Int) : Option (Prop × Value) :=
 match op with
 | .shl => some (0 ≤ b, .int k (k.wrap (a * 2 ^ (min b.toNat k.bits))))
 | .shr => some (0 ≤ b, .int k (a / 2 ^ (min b.toNat k.bits)))
 | _ => none
def isShift : BinOp → Bool
 | .shl => true
 | .shr => true
 | _ => false
def eqNil (op : BinOp) (isNil : Bool) : Option Eff :=
 match op with
 | .eql => some ⟨True, .v (.bool isNil), .keep⟩
 | .neq => some ⟨True, .v (.bool (!isNil)), .keep⟩
 | _ => none
def eqBool (op : BinOp) (a b : Bool) : Option Eff :=
 match op with
 | .eql => some ⟨True, .v (.bool (decide (a = b))), .keep⟩
 | .neq => some ⟨True, .v (.bool (!decide (a = b))), .keep⟩
 | _ => none
def toEff : Option (Prop × Value) → Option Eff
 | some (p, x) => some ⟨p, .v x, .keep⟩
 | none => none
def isNilConst : Operand → Bool
 | .const .nilIface => true
 | _ => false
def isBoolT : Option TyI → Bool
 | some ⟨_, _, _, .bool⟩ => true
 | _ => false
def isIfaceT : Option TyI → Bool
 | some ⟨_, _, _, .iface⟩ => true
 | _ => false
def isSlcT : Option TyI → Bool
 | some ⟨_, _, _, .slc _⟩ => true
 | _ => false
def isStrT : Option TyI → Bool
 | some ⟨_, _, _, .str⟩ => true
 | _ => false
def strBin (op : BinOp) (m n : ByteArray) : Option Eff :=
 match op with
 | .add => some ⟨m.size + n.size ≤ 9223372036854775807, .v (.string (m ++ n)), .keep⟩
 | .eql => some ⟨True, .v (.bool (decide (m = n))), .keep⟩
 | .neq => some ⟨True, .v (.bool (!decide (m = n))), .keep⟩
 | _ => none
def aBin (ti : zaN) (op : BinOp) (t : TypeId) (y : Operand) (a b : Option AV) : Option Eff :=
 match a, b with
 | some (.v (.int k m)), some (.v (.int k' n)) =>
  if isShift op then toEff (ishift op k m n) else if k = k' then toEff (ibin op k m n) else none
 | some (.v (.bool m)), some (.v (.bool n)) => if isBoolT (ti t) then eqBool op m n else none
 | some (.v (.string m)), some (.v (.string n)) => if isStrT (ti t) then strBin op m n else none
 | some (.v .nilIface), some (.v .nilIface) => if isNilConst y && isIfaceT (ti t) then eqNil op true else none
 | some (.v (.iface _ _)), some (.v .nilIface) => if isIfaceT (ti t) then eqNil op false else none
 | _, _ => none
def aUn (op : UnOp) (a : Option AV) : Option Eff :=
 match op, a with
 | .neg, some (.v (.int k n)) => some ⟨True, .v (.int k (k.wrap (0 - n))), .keep⟩
 | .not, some (.v (.bool b)) => some ⟨True, .v (.bool (!b)), .keep⟩
 | .xor, some (.v (.int .u32 n)) => some ⟨0 ≤ n ∧ n ≤ 4294967295, .v (.int .u32 (4294967295 - n)), .keep⟩
 | _, _ => none
def pk (t : Bool) (x y : AV) : AV := match t with | true => x | false => y
def aPick (c a b : Option AV) : Option Eff :=
 match c, a, b with
 | some (.v (.bool t)), some x, some y => some ⟨True, pk t x y, .keep⟩
 | _, _, _ => none
def aAlloc (next : Nat) (y : Option TyI) : Option Eff :=
 match y with
 | some y => some ⟨True, .p next y.size 0 0, .new ⟨y.size, [y.zero.map fun z => .v z.val]⟩⟩
 | none => none
def aBox0 (next : Nat) (x : Option AV) : Option Eff :=
 match x with
 | some av => if av.cells.all AV.one then some ⟨True, .p next av.cells.length 0 0, .new ⟨av.cells.length, [av.cells]⟩⟩ else none
 | none => none
def aBox (next : Nat) (x : Option AV) : Option Eff :=
 match x with
 | some (.sl _ _) => none
 | y => aBox0 next y
def behind (mem : List (Nat × MB)) : AV → Option (Prop × List AV)
 | .p b sz row j => match look mem b with
  | some m => if m.sz = sz then some (row < m.rows.length, (m.rows.getD row []).drop j) else none
  | none => none
 | .rp l => some (True, l)
 | _ => none
def aLoad (mem : List (Nat × MB)) (y : Option TyI) (a : Option AV) : Option Eff :=
 match y, a with
 | some y, some a => match behind mem a with
  | some (p, cs) => if y.kd.agg then some ⟨p ∧ y.size ≤ cs.length, .agg (cs.take y.size), .keep⟩ else match cs with
   | c :: _ => some ⟨p, c, .keep⟩
   | [] => none
  | none => none
 | _, _ => none
def aStore (mem : List (Nat × MB)) (y : Option TyI) (a x : Option AV) : Option Eff :=
 match y, a, x with
 | some y, some (.p b sz row j), some x => match look mem b with
  | some m => if m.sz = sz ∧ x.cells.length = y.size ∧ x.cells.all AV.one then
    some ⟨row < m.rows.length ∧ j + y.size ≤ (m.rows.getD row []).length, .v undef, .set b ⟨m.sz, m.rows.set row ((m.rows.getD row []).take j ++ x.cells ++ (m.rows.getD row []).drop (j + y.size))⟩⟩
   else none
  | none => none
 | _, _, _ => none
def aNilCheck (a : Option AV) : Option Eff :=
 match a with
 | some (.p b sz row j) => some ⟨True, .p b sz row j, .keep⟩
 | some (.rp l) => some ⟨True, .rp l, .keep⟩
 | _ => none
def shiftPtr (n : Nat) : AV → Option AV
 | .p b sz row j => some (.p b sz row (j + n))
 | .rp l => some (.rp (l.drop n))
 | _ => none
def aFieldAddr (ti : zaN) (y : Option TyI) (a : Option AV) (f : Nat) : Option Eff :=
 match y, a with
 | some ⟨_, _, _, .st fs⟩, some a => match fs[f]? with
  | some (off, ft) => match ti ft with
   | some z => if z.size = 0 then none else match shiftPtr off a with
    | some p => some ⟨True, p, .keep⟩
    | none => none
   | none => none
  | none => none
 | _, _ => none
def partOf (y : TyI) (cs : List AV) (off : Nat) : Option AV :=
 if y.kd.agg then (if off + y.size ≤ cs.length then some (.agg ((cs.drop off).take y.size)) else none) else cs[off]?
def aField (ti : zaN) (y : Option TyI) (a : Option AV) (f : Nat) : Option Eff :=
 match y, a with
 | some ⟨_, _, _, .st fs⟩, some (.agg cs) => match fs[f]? with
  | some (off, ft) => match ti ft with
   | some z => match partOf z cs off with
    | some v => some ⟨True, v, .keep⟩
    | none => none
   | none => none
  | none => none
 | _, _ => none
def aIndexAddr (ti : zaN) (y : Option TyI) (a i : Option AV) : Option Eff :=
 match y, a, i with
 | some ⟨_, _, _, .slc e⟩, some (.ps b sz row n), some (.v (.int _ k)) => match ti e with
  | some z => if z.size = sz then some ⟨0 ≤ k ∧ k < n, .p b sz (row + k.toNat) 0, .keep⟩ else none
  | none => none
 | some ⟨_, _, _, .slc e⟩, some (.sl sz rows), some (.v (.int _ k)) => match ti e with
  | some z => if z.size = sz then some ⟨0 ≤ k ∧ k < rows.length, .rp (rows.getD k.toNat []), .keep⟩ else none
  | none => none
 | some ⟨_, _, _, .arr n e⟩, some a, some (.v (.int _ k)) => match ti e with
  | some z => match shiftPtr (k.toNat * z.size) a with
   | some p => some ⟨0 ≤ k ∧ k < n, p, .keep⟩
   | none => none
  | none => none
 | _, _, _ => none
def aIndex (ti : zaN) (y : Option TyI) (a i : Option AV) : Option Eff :=
 match y, a, i with
 | some ⟨_, _, _, .arr n e⟩, some (.agg cs), some (.v (.int _ k)) => match ti e with
  | some z => if z.kd.agg then some ⟨(0 ≤ k ∧ k < n) ∧ k.toNat * z.size + z.size ≤ cs.length, .agg ((cs.drop (k.toNat * z.size)).take z.size), .keep⟩
   else some ⟨(0 ≤ k ∧ k < n) ∧ k.toNat * z.size < cs.length, cs.getD (k.toNat * z.size) (.v undef), .keep⟩
  | none => none
 | some ⟨_, _, _, .str⟩, some (.v (.string s)), some (.v (.int _ k)) => some ⟨0 ≤ k ∧ k < s.size, .v (.int .u8 (s.data.toList.getD k.toNat 0).toNat), .keep⟩
 | _, _, _ => none
def aMakeSlice (ti : zaN) (next : Nat) (y : Option TyI) (l c : Option AV) : Option Eff :=
 match y, l, c with
 | some ⟨_, _, _, .slc e⟩, some (.v (.int _ l)), some (.v (.int _ c)) => match ti e with
  | some z => if z.size = 0 then none else some ⟨0 ≤ l ∧ l ≤ c ∧ z.bytes * c ≤ 281474976710656 ∧ c ≤ 9223372036854775807, .ps next z.size 0 l.toNat, .new ⟨z.size, List.replicate c.toNat (z.zero.map fun q => .v q.val)⟩⟩
  | none => none
 | _, _, _ => none
def bndOf (o : Option (Option AV)) (d : Int) : Option Int :=
 match o with
 | none => some d
 | some (some (.v (.int _ n))) => some n
 | _ => none
def aSlice (ti : zaN) (y : Option TyI) (a : Option AV) (lo hi : Option (Option AV)) (mx : Bool) : Option Eff :=
 match mx, y, a with
 | false, some ⟨_, _, _, .slc e⟩, some (.ps b sz row n) => match ti e, bndOf lo 0, bndOf hi n with
  | some z, some l, some h => if z.size = sz then some ⟨0 ≤ l ∧ l ≤ h ∧ h ≤ n, .ps b sz (row + l.toNat) (h.toNat - l.toNat), .keep⟩ else none
  | _, _, _ => none
 | false, some ⟨_, _, _, .slc e⟩, some (.sl sz rows) => match ti e, bndOf lo 0, bndOf hi rows.length with
  | some z, some l, some h => if z.size = sz then some ⟨0 ≤ l ∧ l ≤ h ∧ h ≤ rows.length, .sl sz ((rows.drop l.toNat).take (h.toNat - l.toNat)), .keep⟩ else none
  | _, _, _ => none
 | false, some ⟨_, _, _, .slc e⟩, some (.v (.slice none 0 0)) => match ti e, bndOf lo 0, bndOf hi 0 with
  | some _, some l, some h => some ⟨l = 0 ∧ h = 0, .v (.slice none 0 0), .keep⟩
  | _, _, _ => none
 | false, some ⟨_, _, _, .str⟩, some (.v (.string s)) => match bndOf lo 0, bndOf hi s.size with
  | some l, some h => some ⟨0 ≤ l ∧ l ≤ h ∧ h ≤ s.size, .v (.string (s.extract l.toNat h.toNat)), .keep⟩
  | _, _ => none
 | _, _, _ => none
def fillA : List AV → List (Nat × Nat × AV) → Option (List AV)
 | cs, [] => some cs
 | cs, (off, size, v) :: rest =>
  if v.cells.length = size ∧ off + size ≤ cs.length ∧ v.cells.all AV.one then fillA (cs.take off ++ v.cells ++ cs.drop (off + size)) rest else none
def placed (place : Nat → Option (Nat × Nat)) (s : AS) : List (Nat × Operand) → Option (List (Nat × Nat × AV))
 | [] => some []
 | (i, x) :: rest => match place i, ev s x, placed place s rest with
  | some (off, size), some v, some l => some ((off, size, v) :: l)
  | _, _, _ => none
def stPlace (ti : zaN) (fs : List (Nat × Nat)) (i : Nat) : Option (Nat × Nat) :=
 match fs[i]? with
 | some (off, ft) => match ti ft with
  | some z => some (off, z.size)
  | none => none
 | none => none
def aBuild (ti : zaN) (s : AS) (y : Option TyI) (parts : List (Nat × Operand)) : Option Eff :=
 match y with
 | some ⟨_, _, zero, .st fs⟩ => match placed (stPlace ti fs) s parts with
  | some l => match fillA (zero.map fun z => .v z.val) l with
   | some cs => if fs.all (fun f => (ti f.2).isSome) then some ⟨True, .agg cs, .keep⟩ else none
   | none => none
  | none => none
 | some ⟨_, _, zero, .arr _ e⟩ => match ti e with
  | some z => match placed (fun i => some (i * z.size, z.size)) s parts with
   | some l => match fillA (zero.map fun z => .v z.val) l with
    | some cs => some ⟨True, .agg cs, .keep⟩
    | none => none
   | none => none
  | none => none
 | _ => none
def aConvert (y z : Option TyI) (a : Option AV) : Option Eff :=
 match y, z, a with
 | some ⟨_, _, _, .int _⟩, some ⟨_, _, _, .int k⟩, some (.v (.int _ n)) => some ⟨True, .v (.int k (k.wrap n)), .keep⟩
 | _, _, _ => none
def aMakeInterface (t : TypeId) (y : Option TyI) (a : Option AV) : Option Eff :=
 match y, a with
 | some y, some (.v x) => if isIfaceT (some y) then none else some ⟨True, .v (.iface t x), .keep⟩
 | _, _ => none
def aAssert (asserted : TypeId) (y : Option TyI) (a : Option AV) : Option Eff :=
 match y, a with
 | some y, some (.v .nilIface) => if isIfaceT (some y) || y.kd.agg then none else match y.zero with
  | [z] => some ⟨True, .tup [.v z.val, .v (.bool false)], .keep⟩
  | _ => none
 | some y, some (.v (.iface t x)) => if isIfaceT (some y) || y.kd.agg then none else match y.zero with
  | [z] => if t = asserted then some ⟨True, .tup [.v x, .v (.bool true)], .keep⟩ else some ⟨True, .tup [.v z.val, .v (.bool false)], .keep⟩
  | _ => none
 | _, _ => none
def aExtract (a : Option AV) (i : Nat) : Option Eff :=
 match a with
 | some (.tup l) => match l[i]? with
  | some v => some ⟨True, v, .keep⟩
  | none => none
 | _ => none
def evL (s : AS) : List Operand → Option (List AV)
 | [] => some []
 | x :: xs => match ev s x, evL s xs with
  | some a, some l => some (a :: l)
  | _, _ => none
def AV.priv : AV → Bool
 | .p _ _ _ _ => true
 | .ps _ _ _ _ => true
 | _ => false
def aMakeFunc (s : AS) (fn : Fn) (first captured : List Operand) : Option Eff :=
 match fn, first, evL s captured with
 | .func f, [], some l => if l.any AV.priv then none else some ⟨True, .fn f l, .keep⟩
 | _, _, _ => none
def aLen (a : Option AV) : Option Eff :=
 match a with
 | some (.ps _ _ _ n) => some ⟨True, .v (.int .i64 n), .keep⟩
 | some (.sl _ rows) => some ⟨True, .v (.int .i64 rows.length), .keep⟩
 | some (.v (.slice none 0 0)) => some ⟨True, .v (.int .i64 0), .keep⟩
 | _ => none
def aMin (l : Option (List AV)) : Option Eff :=
 match l with
 | some [.v (.int k a), .v (.int k' b)] => if k = k' then some ⟨True, .v (.int k (min a b)), .keep⟩ else none
 | some [.v (.int k a), .v (.int k' b), .v (.int k'' c)] => if k = k' ∧ k = k'' then some ⟨True, .v (.int k (min (min a b) c)), .keep⟩ else none
 | some [.v (.int k a), .v (.int k' b), .v (.int k'' c), .v (.int k3 d)] => if k = k' ∧ k = k'' ∧ k = k3 then some ⟨True, .v (.int k (min (min (min a b) c) d)), .keep⟩ else none
 | _ => none
def aMax (l : Option (List AV)) : Option Eff :=
 match l with
 | some [.v (.int k a), .v (.int k' b)] => if k = k' then some ⟨True, .v (.int k (max a b)), .keep⟩ else none
 | some [.v (.int k a), .v (.int k' b), .v (.int k'' c)] => if k = k' ∧ k = k'' then some ⟨True, .v (.int k (max (max a b) c)), .keep⟩ else none
 | some [.v (.int k a), .v (.int k' b), .v (.int k'' c), .v (.int k3 d)] => if k = k' ∧ k = k'' ∧ k = k3 then some ⟨True, .v (.int k (max (max (max a b) c) d)), .keep⟩ else none
 | _ => none
def headT (l : List TypeId) : Option TypeId := l.head?
def aLenT (ti : zaN) (t : Option TypeId) (a : Option AV) : Option Eff :=
 match t with
 | some t => if isSlcT (ti t) then aLen a else if isStrT (ti t) then (match a with | some (.v (.string s)) => some ⟨True, .v (.int .i64 s.size), .keep⟩ | _ => none) else none
 | none => none
def aBuiltin (ti : zaN) (s : AS) (b : Builtin) (types : List TypeId) (args : List Operand) : Option Eff :=
 match b, args with
 | .len, [x] => aLenT ti (headT types) (ev s x)
 | .min, l => aMin (evL s l)
 | .max, l => aMax (evL s l)
 | _, _ => none
def aop (ti : zaN) (s : AS) : Op → Option Eff
 | .move x => (match ev s x with | some av => some ⟨True, av, .keep⟩ | none => none)
 | .assign x => (match ev s x with | some av => some ⟨True, av, .keep⟩ | none => none)
 | .pick c a b => aPick (ev s c) (ev s a) (ev s b)
 | .alloc t => aAlloc s.next (ti t)
 | .box _ x => aBox s.next (ev s x)
 | .build t parts => aBuild ti s (ti t) parts.toList
 | .load t a => aLoad s.mem (ti t) (ev s a)
 | .store t a x => aStore s.mem (ti t) (ev s a) (ev s x)
 | .nilCheck x => aNilCheck (ev s x)
 | .binOp op t x y _ => aBin ti op t y (ev s x) (ev s y)
 | .unOp op _ x => aUn op (ev s x)
 | .convert src dst x => aConvert (ti src) (ti dst) (ev s x)
 | .makeInterface t x => aMakeInterface t (ti t) (ev s x)
 | .makeFunc fn first captured => aMakeFunc s fn first.toList captured.toList
 | .fieldAddr t x f => aFieldAddr ti (ti t) (ev s x) f
 | .field t x f => aField ti (ti t) (ev s x) f
 | .indexAddr t x i => aIndexAddr ti (ti t) (ev s x) (ev s i)
 | .makeSlice t l c => aMakeSlice ti s.next (ti t) (ev s l) (ev s c)
 | .slice t x lo hi mx => aSlice ti (ti t) (ev s x) (lo.map (ev s)) (hi.map (ev s)) mx.isSome
 | .index t x i => aIndex ti (ti t) (ev s x) (ev s i)
 | .typeAssert x _ t commaOk => if commaOk then aAssert t (ti t) (ev s x) else none
 | .extract t i => aExtract (ev s t) i
 | .call ⟨.builtin b, args, types⟩ => aBuiltin ti s b types.toList args.toList
 | _ => none
section
variable {P : Program} {ti : zaN} {D : Base} {S0 : Nat → Prop} {w0 : World} {σ : Sig} {S : Nat → Prop} {w : World} {s : AS} {a : Act}
theorem za3 (hE : zat σ S w s.env a) {x : Operand} {av : AV} (h : ev s x = some av) : Rel σ S w (a.eval x) av := by
 cases x with
 | tmp t =>
  obtain ⟨v, h1, h2⟩ := hE t av h
  have : a.eval (.tmp t) = v := by simp [Act.eval, h1]
  rw [this]; exact h2
 | const c => simp [ev] at h; subst h; exact .v _
 | func f => simp [ev] at h; subst h; exact .fn rfl (by intro i x av hx; simp at hx)
 | global g => simp [ev] at h
theorem zdZ {x y : Value} (h : Rel σ S w x (.v y)) : x = y := by cases h; rfl
theorem zee (hE : zat σ S w s.env a) {x : Operand} {v : Value} (h : ev s x = some (.v v)) : a.eval x = v := zdZ (za3 hE h)
def zbN (P : Program) (a : Act) (o : Oper) (σ : Sig) (S : Nat → Prop) (w : World) (av : AV) : Prop := ∃ x, (execOp a.eval o).run P w = .ok (.value x) w ∧ Rel σ S w x av
variable {o : Oper}
theorem s_move (hE : zat σ S w s.env a) {x : Operand} (ho : o.op = .move x ∨ o.op = .assign x) {av : AV} (h : ev s x = some av) : zbN P a o σ S w av := by
 refine ⟨a.eval x, ?_, za3 hE h⟩
 rcases ho with ho | ho <;> simp [execOp, ho]
theorem s_ibin {op : BinOp} {k : IntKind} {m n : Int} {p : Prop} {v : Value} (h : ibin op k m n = some (p, v)) (hp : p) (hs : isShift op = false) (t : TypeId) :
  (binOp op t (.int k m) (.int k n)).run P w = .ok v w := by
 have e1 : ∀ x y : Int, (x == y) = decide (x = y) := fun x y => by by_cases hxy : x = y <;> simp [zeW, bOr, bXor, zhA, hxy]
 have e2 : ∀ x y : Int, (x != y) = !decide (x = y) := fun x y => by by_cases hxy : x = y <;> simp [zeW, bOr, bXor, zhA, hxy]
 cases op <;> simp [zeW, bOr, bXor, zhA, isShift] at hs <;> simp only [ibin, Option.some.injEq, Prod.mk.injEq, reduceCtorEq] at h <;> obtain ⟨rfl, rfl⟩ := h <;>
  simp [zeW, bOr, bXor, zhA, binOp, Op.intArith, Op.intBits, Op.intCmp, Op.intDiv, e1, e2, hp]
theorem s_ishift {op : BinOp} {k k' : IntKind} {m n : Int} {p : Prop} {v : Value} (h : ishift op k m n = some (p, v)) (hp : p) (t : TypeId) :
  (binOp op t (.int k m) (.int k' n)).run P w = .ok v w := by
 cases op <;> simp [ishift] at h <;> obtain ⟨h1, h2⟩ := h <;> subst h2 <;> rw [← h1] at hp <;> simp [binOp, Op.shift, Int.not_lt.2 hp, Int.fdiv_eq_ediv_of_nonneg _ (show (0:Int) ≤ 2 ^ (min n.toNat k.bits) from Int.le_of_lt (Int.pow_pos (by decide)))]
theorem zdz (op : BinOp) (t : TypeId) (x y : Operand) (v u : Value) (h : match v, u with | .nilIface, .nilIface => isNilConst y = true | .agg _, .agg _ => False | _, _ => True) :
  (eqGuard op t x y v u).run P w = .ok () w := by
 unfold eqGuard
 cases op <;> simp only [Bool.not_true, Bool.not_false, Bool.false_eq_true, if_false, if_true, Sem.run_pure]
 all_goals
  cases v <;> cases u <;> simp only [Sem.run_pure] at h ⊢
  all_goals first
   | exact h.elim
   | (cases y <;> simp [isNilConst] at h ⊢)
theorem zag (hT : zam P ti) {t : TypeId} {y : TyI} (h : ti t = some y) : ∃ i d, P.info? t = some i ∧ P.underlying t = some d ∧ i.size = y.size ∧ i.bytes = y.bytes ∧ TK.ofDesc d = y.kd ∧
  (∃ z, i.zero = some z ∧ z.cells = (y.zero.map Z.val).toArray ∧ (y.kd.agg = true → z = .agg (y.zero.map Z.val).toArray) ∧ (∀ zz, y.kd.agg = false → y.zero = [zz] → z = zz.val)) ∧ y.zero.length = y.size := (hT t y h).ex
theorem zaw {t : TypeId} {i : TypeInfo} (h : P.info? t = some i) : (Go.sizeOf t).run P w = .ok i.size w := by
 simp [Go.sizeOf, typeInfo, h]
theorem zcU {t : TypeId} {d : TypeDesc} (h : P.underlying t = some d) : (isAgg t).run P w = .ok (TK.ofDesc d).agg w := by
 unfold isAgg
 rw [Sem.run_bind, run_underlying h]
 cases d <;> simp [TK.ofDesc, TK.agg]
theorem zaT {t : TypeId} {i : TypeInfo} {z : Value} (h : P.info? t = some i) (hz : i.zero = some z) : (zeroValue t).run P w = .ok z w := by
 simp [zeroValue, typeInfo, h, hz]
theorem zfq (hT : zam P ti) {t : TypeId} (h : isIfaceT (ti t) = true) : ∃ ms, P.underlying t = some (.interface ms) := by
 cases hy : ti t with
 | none => simp [hy, isIfaceT] at h
 | some y =>
  obtain ⟨i, d, h1, h2, h3, h4, h5, h6⟩ := zag hT hy
  obtain ⟨sz, by_, zz, kd⟩ := y
  cases kd <;> simp [hy, isIfaceT] at h
  cases d <;> simp [TK.ofDesc] at h5
  exact ⟨_, h2⟩
theorem zj3 (hT : zam P ti) {t : TypeId} (h : isBoolT (ti t) = true) : P.underlying t = some .bool := by
 cases hy : ti t with
 | none => simp [hy, isBoolT] at h
 | some y =>
  obtain ⟨i, d, h1, h2, h3, h4, h5, h6⟩ := zag hT hy
  obtain ⟨sz, by_, zz, kd⟩ := y
  cases kd <;> simp [hy, isBoolT] at h
  cases d <;> simp [TK.ofDesc] at h5
  exact h2
theorem zeS (hT : zam P ti) {t : TypeId} (h : isSlcT (ti t) = true) : ∃ e, P.underlying t = some (.slice e) := by
 cases hy : ti t with
 | none => simp [hy, isSlcT] at h
 | some y =>
  obtain ⟨i, d, h1, h2, h3, h4, h5, h6⟩ := zag hT hy
  obtain ⟨sz, by_, zz, kd⟩ := y
  cases kd <;> simp [hy, isSlcT] at h
  cases d <;> simp [TK.ofDesc] at h5
  exact ⟨_, h2⟩
theorem zg9 (hT : zam P ti) {t : TypeId} (h : isStrT (ti t) = true) : P.underlying t = some .string := by
 cases hy : ti t with
 | none => simp [hy, isStrT] at h
 | some y =>
  obtain ⟨i, d, h1, h2, h3, h4, h5, h6⟩ := zag hT hy
  obtain ⟨sz, by_, zz, kd⟩ := y
  cases kd <;> simp [hy, isStrT] at h
  cases d <;> simp [TK.ofDesc] at h5
  exact h2
theorem zfa (d : Nat) {t : TypeId} {ms : Array (String × TypeId)} (h : P.underlying t = some (.interface ms)) : (Op.equalIn (d + 1) t .nilIface .nilIface).run P w = .ok true w := by
 simp [Op.equalIn, run_underlying h]
theorem zeL (d : Nat) {t u : TypeId} {x : Value} {ms : Array (String × TypeId)} (h : P.underlying t = some (.interface ms)) : (Op.equalIn (d + 1) t (.iface u x) .nilIface).run P w = .ok false w := by
 simp [Op.equalIn, run_underlying h]
theorem zgU (d : Nat) {t : TypeId} {x y : Bool} (h : P.underlying t = some .bool) : (Op.equalIn (d + 1) t (.bool x) (.bool y)).run P w = .ok (x == y) w := by
 simp [Op.equalIn, run_underlying h]
theorem zfb {t : TypeId} {ms : Array (String × TypeId)} (h : P.underlying t = some (.interface ms)) : (Op.equal t .nilIface .nilIface).run P w = .ok true w := zfa 9999 h
theorem zeM {t u : TypeId} {x : Value} {ms : Array (String × TypeId)} (h : P.underlying t = some (.interface ms)) : (Op.equal t (.iface u x) .nilIface).run P w = .ok false w := zeL 9999 h
theorem zgV {t : TypeId} {x y : Bool} (h : P.underlying t = some .bool) : (Op.equal t (.bool x) (.bool y)).run P w = .ok (x == y) w := zgU 9999 h
theorem s_bin (hT : zam P ti) (hE : zat σ S w s.env a) {op : BinOp} {t t' : TypeId} {x y : Operand} (ho : o.op = .binOp op t x y t') {e : Eff}
  (h : aBin ti op t y (ev s x) (ev s y) = some e) (hn : e.need) : e.upd = .keep ∧ zbN P a o σ S w e.val := by
 have main : ∀ v u r : Value, a.eval x = v → a.eval y = u → (eqGuard op t x y v u).run P w = .ok () w → (binOp op t v u).run P w = .ok r w →
   zbN P a o σ S w (.v r) := fun v u r hv hu hg hb => by
  refine ⟨r, ?_, .v _⟩
  simp [execOp, ho, hv, hu, hg, hb]
 unfold aBin at h
 split at h
 ·rename_i k m k' n hx hy
  have ex := zee hE hx
  have ey := zee hE hy
  have g := zdz (P := P) (w := w) op t x y (.int k m) (.int k' n) trivial
  split at h
  ·rename_i hs
   cases hq : ishift op k m n with
   | none => simp [hq, toEff] at h
   | some pv =>
    obtain ⟨p, v⟩ := pv
    simp [hq, toEff] at h; subst h
    exact ⟨rfl, main _ _ _ ex ey g (s_ishift hq hn t)⟩
  ·rename_i hs
   split at h
   ·rename_i hk
    subst hk
    cases hq : ibin op k m n with
    | none => simp [hq, toEff] at h
    | some pv =>
     obtain ⟨p, v⟩ := pv
     simp [hq, toEff] at h; subst h
     exact ⟨rfl, main _ _ _ ex ey g (s_ibin hq hn (by simpa using hs) t)⟩
   ·cases h
 ·rename_i m n hx hy
  split at h
  ·rename_i hb
   have ub := zj3 hT hb
   have g := zdz (P := P) (w := w) op t x y (.bool m) (.bool n) trivial
   have e1 : ∀ x y : Bool, (x == y) = decide (x = y) := fun x y => by cases x <;> cases y <;> rfl
   cases op <;> simp [eqBool] at h <;> subst h <;> refine ⟨rfl, main _ _ _ (zee hE hx) (zee hE hy) g ?_⟩ <;> simp [binOp, zgV ub, e1]
  ·cases h
 ·rename_i m n hx hy
  split at h
  ·rename_i hb
   have ub := zg9 hT hb
   have g := zdz (P := P) (w := w) op t x y (.string m) (.string n) trivial
   have e0 : (m.toList == n.toList) = decide (m = n) := by
    rw [Bool.eq_iff_iff]
    simp only [beq_iff_eq, decide_eq_true_eq]
    constructor
    ·intro h
     rw [ByteArray.toList_eq, ByteArray.toList_eq] at h
     exact ByteArray.ext (Array.ext' h)
    ·intro h; rw [h]
   cases op <;> simp [strBin] at h <;> subst h <;> refine ⟨rfl, main _ _ _ (zee hE hx) (zee hE hy) g ?_⟩
   ·have hn1 : m.size + n.size ≤ 9223372036854775807 := hn
    have hn' : ¬ (9223372036854775807 : Int) < (m.size : Int) + (n.size : Int) := by omega
    simp [binOp, Op.stringOp, hn']
   ·simp [binOp, Op.stringOp, e0]
   ·simp [binOp, Op.stringOp, e0]
  ·cases h
 ·rename_i hx hy
  split at h
  ·rename_i hb
   simp only [Bool.and_eq_true] at hb
   obtain ⟨ms, ub⟩ := zfq hT hb.2
   have g := zdz (P := P) (w := w) op t x y .nilIface .nilIface hb.1
   cases op <;> simp [eqNil] at h <;> subst h <;> refine ⟨rfl, main _ _ _ (zee hE hx) (zee hE hy) g ?_⟩ <;> simp [binOp, zfb ub]
  ·cases h
 ·rename_i u v hx hy
  split at h
  ·rename_i hb
   obtain ⟨ms, ub⟩ := zfq hT hb
   have g := zdz (P := P) (w := w) op t x y (.iface u v) .nilIface trivial
   cases op <;> simp [eqNil] at h <;> subst h <;> refine ⟨rfl, main _ _ _ (zee hE hx) (zee hE hy) g ?_⟩ <;> simp [binOp, zeM ub]
  ·cases h
 ·cases h
theorem compl32 {n : Int} (h : 0 ≤ n ∧ n ≤ 4294967295) : IntKind.u32.wrap (((BitVec.ofInt IntKind.u32.bits IntKind.u32.max ^^^ BitVec.ofInt IntKind.u32.bits n).toNat : Nat) : Int) = 4294967295 - n := by
 have e : (BitVec.ofInt IntKind.u32.bits IntKind.u32.max ^^^ BitVec.ofInt IntKind.u32.bits n).toNat = (4294967295 - n).toNat := by
  show (BitVec.allOnes 32 ^^^ BitVec.ofInt 32 n).toNat = _
  rw [BitVec.allOnes_xor, BitVec.toNat_not, BitVec.toNat_ofInt]
  omega
 rw [e, Int.toNat_of_nonneg (by omega)]
 simp only [IntKind.wrap, IntKind.bits, IntKind.signed]; simp; omega
theorem s_un (hE : zat σ S w s.env a) {op : UnOp} {t : TypeId} {x : Operand} (ho : o.op = .unOp op t x) {e : Eff} (h : aUn op (ev s x) = some e) (hn : e.need) : e.upd = .keep ∧ zbN P a o σ S w e.val := by
 unfold aUn at h
 split at h
 ·rename_i k n hx; injection h with h; subst h; exact ⟨rfl, _, by simp [execOp, ho, zee hE hx, Op.unary, Op.intArith], .v _⟩
 ·rename_i b hx; injection h with h; subst h; exact ⟨rfl, _, by simp [execOp, ho, zee hE hx, Op.unary], .v _⟩
 ·rename_i n hx
  injection h with h; subst h
  have e0 : (Op.unary .xor (.int .u32 n)).run P w = .ok (.int .u32 (IntKind.u32.wrap (((BitVec.ofInt IntKind.u32.bits IntKind.u32.max ^^^ BitVec.ofInt IntKind.u32.bits n).toNat : Nat) : Int))) w := by
   have hs : IntKind.u32.signed = false := rfl
   simp [Op.unary, Op.intBits, hs]
  rw [compl32 hn] at e0
  exact ⟨rfl, _, by simp only [execOp, ho, zee hE hx, Sem.run_bind, e0, Result.andThen_ok]; rfl, .v _⟩
 ·cases h
theorem s_pick (hE : zat σ S w s.env a) {c x y : Operand} (ho : o.op = .pick c x y) {e : Eff} (h : aPick (ev s c) (ev s x) (ev s y) = some e) : e.upd = .keep ∧ zbN P a o σ S w e.val := by
 unfold aPick at h
 split at h
 ·rename_i t u v hc hx hy
  injection h with h; subst h
  refine ⟨rfl, (if t = true then a.eval x else a.eval y), by simp [execOp, ho, zee hE hc, asBool], ?_⟩
  cases t
  ·exact za3 hE hy
  ·exact za3 hE hx
 ·cases h
theorem zkQ {x : Value} {av : AV} (h : Rel σ S w x av) (h1 : av.one = true) : x.oneCell' = true := by
 cases h <;> first | exact h1 | rfl | simp [AV.one] at h1
theorem zn3 {x : Value} (h : x.oneCell' = true) : x.cells = #[x] := by cases x <;> first | rfl | simp [Value.oneCell'] at h
theorem zgY {x : Value} {av : AV} (h : Rel σ S w x av) (h1 : av.cells.all AV.one = true) :
  x.cells.size = av.cells.length ∧ (∀ (i : Nat) (y : Value) (b : AV), x.cells[i]? = some y → av.cells[i]? = some b → Rel σ S w y b) ∧ (∀ y ∈ x.cells.toList, y.oneCell' = true) := by
 have single : av.cells = [av] → x.cells.size = av.cells.length ∧ (∀ (i : Nat) (y : Value) (b : AV), x.cells[i]? = some y → av.cells[i]? = some b → Rel σ S w y b) ∧ (∀ y ∈ x.cells.toList, y.oneCell' = true) := fun hs => by
  rw [hs] at h1 ⊢
  have ho : av.one = true := by simpa using h1
  have hx := zkQ h ho
  rw [zn3 hx]
  refine ⟨rfl, fun i y b hy hb => ?_, fun y hy => by simp at hy; subst hy; exact hx⟩
  cases i with
  | zero => simp at hy hb; subst hy hb; exact h
  | succ i => simp at hb
 cases h with
 | @agg cs l hs hr =>
  refine ⟨hs, fun i y b hy hb => hr i y b hy hb, fun y hy => ?_⟩
  obtain ⟨i, hi⟩ := List.getElem?_of_mem hy
  have hi' : cs[i]? = some y := by simpa [Value.cells] using hi
  have hlt : i < cs.size := (Array.getElem?_eq_some_iff.1 hi').1
  have hl : i < l.length := by rw [← hs]; exact hlt
  have hb : l[i]? = some l[i] := by simp [hl]
  exact zkQ (hr i y _ hi' hb) (List.all_eq_true.1 h1 _ (List.mem_of_getElem? hb))
 | v x => exact single rfl
 | p h => exact single rfl
 | ps h h' h'' h''' => exact single rfl
 | ps0 => exact single rfl
 | top => exact single rfl
 | nil => exact single rfl
 | e => exact single rfl
 | sl c _ _ _ _ _ => exact single rfl
 | rp c _ _ _ => exact single rfl
 | tup _ _ => exact single rfl
 | fn _ _ => exact single rfl
end
theorem zcd (g o j : Nat) : (⟨g, o, none⟩ : Addr).add j = ⟨g, o + j, none⟩ := by unfold Addr.add; split <;> simp_all
theorem zcN {Q : Nat → Value → Prop} : ∀ (n : Nat), (∀ j, j < n → ∃ y, Q j y) → ∃ l : List Value, l.length = n ∧ ∀ j y, l[j]? = some y → Q j y
 | 0, _ => ⟨[], rfl, fun j y h => by simp at h⟩
 | n + 1, h => by
  obtain ⟨l, h1, h2⟩ := zcN n (fun j hj => h j (by omega))
  obtain ⟨y, hy⟩ := h n (by omega)
  refine ⟨l ++ [y], by simp [h1], fun j z hz => ?_⟩
  rw [List.getElem?_append] at hz
  split at hz
  ·exact h2 j z hz
  ·have hj : j = n := by
    rcases Nat.lt_or_ge (j - l.length) 1 with h' | h'
    ·omega
    ·rw [List.getElem?_eq_none (by simpa using h')] at hz; cases hz
   subst hj
   rw [h1, Nat.sub_self] at hz
   simp at hz; subst hz; exact hy
section
variable {P : Program} {ti : zaN} {D : Base} {S0 : Nat → Prop} {w0 : World} {σ : Sig} {S : Nat → Prop} {w : World} {s : AS} {a : Act} {o : Oper} {mem : List (Nat × MB)} {U : Nat → Prop}
theorem zbm {k j : Nat} {c : Array Value} {e : TypeId} {f : Nat × Nat} (h : w.heap[k]? = some (.cells c e f)) : w.cell? ⟨k, j, none⟩ = c[j]? := by
 simp [World.cell?, h]
theorem zbL {α : Type} {l : List α} {d : α} {i : Nat} (h : i < l.length) : l[i]? = some (l.getD i d) := by
 simp [List.getD, h]
theorem zhy (hF : Fit D S0 w0 σ S mem U w) {x : Value} {av : AV} (hr : Rel σ S w x av) {p : Prop} {cs : List AV} (h : behind mem av = some (p, cs)) (hp : p) :
  ∃ k off, x = .pointer (some ⟨k, off, none⟩) ∧ ∀ (j : Nat) (b : AV), cs[j]? = some b → ∃ y, w.cell? ⟨k, off + j, none⟩ = some y ∧ Rel σ S w y b := by
 unfold behind at h
 split at h
 ·rename_i b sz row j
  split at h
  ·rename_i m hm
   split at h
   ·rename_i hsz
    simp only [Option.some.injEq, Prod.mk.injEq] at h
    obtain ⟨h1, h2⟩ := h
    subst h2
    rw [← h1] at hp
    obtain ⟨k, c, e, g1, g2, g3, g4, g5, g6, g7⟩ := (hF.mem b m hm).row hp
    cases hr with
    | p hs =>
     have : _ = k := Option.some.inj (hs.symm.trans g1)
     subst this
     refine ⟨_, _, rfl, fun i b' hi => ?_⟩
     simp only [List.getElem?_drop] at hi
     obtain ⟨y, hy, hy2⟩ := g7 row _ _ b' (zbL hp) hi
     exact ⟨y, by rw [zbm g4, Nat.add_assoc, ← hsz]; exact hy, hy2⟩
   ·cases h
  ·cases h
 ·simp only [Option.some.injEq, Prod.mk.injEq] at h
  obtain ⟨h1, h2⟩ := h
  subst h2
  cases hr with
  | rp c hk hcell hr => exact ⟨_, _, rfl, fun j b hb => ⟨_, hcell j b hb, hr j b hb⟩⟩
 ·cases h
theorem s_load (hT : zam P ti) (hF : Fit D S0 w0 σ S s.mem U w) (hE : zat σ S w s.env a) {t : TypeId} {x : Operand} (ho : o.op = .load t x) {e : Eff}
  (h : aLoad s.mem (ti t) (ev s x) = some e) (hn : e.need) : e.upd = .keep ∧ zbN P a o σ S w e.val := by
 unfold aLoad at h
 split at h
 ·rename_i y av hy hx
  split at h
  ·rename_i p cs hb
   obtain ⟨i, d, h1, h2, h3, h4, h5, h6⟩ := zag hT hy
   split at h
   ·rename_i hagg
    injection h with h; subst h
    obtain ⟨hp, hlen⟩ := hn
    obtain ⟨k, off, hxe, hc⟩ := zhy hF (za3 hE hx) hb hp
    obtain ⟨l, hl1, hl2⟩ := zcN (Q := fun j v => w.cell? ⟨k, off + j, none⟩ = some v ∧ ∃ b, cs[j]? = some b ∧ Rel σ S w v b) y.size (fun j hj => by
     have hj' : j < cs.length := by omega
     obtain ⟨v, hv, hv2⟩ := hc j cs[j] (by simp [hj'])
     exact ⟨v, hv, cs[j], by simp [hj'], hv2⟩)
    refine ⟨rfl, .agg l.toArray, ?_, .agg (by simp [hl1]; omega) (fun i' v b hv hb' => ?_)⟩
    ·have hrun := run_loadCells_list (P := P) w ⟨k, off, none⟩ l (fun j v hv => by rw [zcd]; exact (hl2 j v hv).1)
     rw [hl1] at hrun
     simp [execOp, ho, hxe, Instr.loadAt, Instr.sureAddr, loadVar, zcU h2, h5, hagg, zaw h1, h3, hrun]
    ·simp at hv
     obtain ⟨_, b'', hb1, hb2⟩ := hl2 i' v hv
     rw [List.getElem?_take] at hb'
     split at hb'
     ·rw [hb1] at hb'; injection hb' with hb'; subst hb'; exact hb2
     ·cases hb'
   ·rename_i hagg
    split at h
    ·rename_i c tl
     injection h with h; subst h
     obtain ⟨k, off, hxe, hc⟩ := zhy hF (za3 hE hx) hb hn
     obtain ⟨v, hv, hv2⟩ := hc 0 c rfl
     refine ⟨rfl, v, ?_, hv2⟩
     have hagg' : y.kd.agg = false := by simpa using hagg
     have hv' : w.cell? ⟨k, off, none⟩ = some v := hv
     simp [execOp, ho, hxe, Instr.loadAt, Instr.sureAddr, loadVar, zcU h2, h5, hagg', load, Sem.run, hv']
    ·cases h
  ·cases h
 ·cases h
theorem zfK {t : TypeId} {i : TypeInfo} (hi : P.info? t = some i) {k off : Nat} {c : Array Value} {e : TypeId} (hk : w.heap[k]? = some (.cells c e (0, 0))) {v : Value}
  (hs : v.cells.size = i.size) (h1 : ∀ y ∈ v.cells.toList, y.oneCell' = true) (hfit : off + i.size ≤ c.size) :
  (storeVar t ⟨k, off, none⟩ v).run P w = .ok () (w.setRow k (c.toList.take off ++ v.cells.toList ++ c.toList.drop (off + i.size)).toArray) := by
 have := run_storeCells_at P k off e v.cells.toList 0 c w hk (by simp [hs]; exact hfit) h1
 simp only [Nat.add_zero, Array.length_toList, hs] at this
 simp [storeVar, zaw hi, hs, this]
theorem s_store (hT : zam P ti) (hF : Fit D S0 w0 σ S s.mem U w) (hE : zat σ S w s.env a) {t : TypeId} {x y : Operand} (ho : o.op = .store t x y) {e : Eff}
  (h : aStore s.mem (ti t) (ev s x) (ev s y) = some e) (hn : e.need) :
  ∃ w', (execOp a.eval o).run P w = .ok .skip w' ∧ Fit D S0 w0 σ S (s.upd e.upd).mem U w' ∧ Keeps σ S w w' ∧ e.val = .v undef := by
 unfold aStore at h
 split at h
 ·rename_i _ _ _ yt b sz row j av hy hx hv
  split at h
  ·rename_i m hm
   split at h
   ·rename_i hc
    injection h with h; subst h
    obtain ⟨hsz, hlen, hone⟩ := hc
    obtain ⟨hrow, hj⟩ := hn
    obtain ⟨i, d, h1, h2, h3, h4, h5, h6⟩ := zag hT hy
    obtain ⟨k, c, e, g1, g2, g3, g4, g5, g6, g7⟩ := (hF.mem b m hm).row hrow
    have hptr := za3 hE hx
    generalize hpx : a.eval x = px at hptr
    obtain ⟨r1, r2, r3⟩ := zgY (za3 hE hv) hone
    cases hptr with
    | @p _ k' _ _ _ hs =>
     have : k' = k := Option.some.inj (hs.symm.trans g1)
     subst this
     subst hsz
     have hrl : (m.rows.getD row []).length = m.sz := g5 _ (List.mem_of_getElem? (zbL hrow))
     have hle : row * m.sz + m.sz ≤ c.size := by
      have : (row + 1) * m.sz ≤ m.rows.length * m.sz := Nat.mul_le_mul_right _ hrow
      rw [Nat.add_mul, Nat.one_mul] at this
      omega
     have hvs : (a.eval y).cells.size = i.size := by rw [r1, hlen, h3]
     have hfit : row * m.sz + j + i.size ≤ c.size := by rw [h3]; omega
     have hrun := zfK (P := P) (t := t) h1 g4 hvs r3 hfit
     refine ⟨w.setRow k' (c.toList.take (row * m.sz + j) ++ (a.eval y).cells.toList ++ c.toList.drop (row * m.sz + j + i.size)).toArray, by simp [execOp, ho, hpx, Instr.storeAt, Instr.sureAddr, hrun], ?_⟩
     have key := hF.set (b := b) (m := m) (m' := ⟨m.sz, m.rows.set row ((m.rows.getD row []).take j ++ av.cells ++ (m.rows.getD row []).drop (j + yt.size))⟩) hm g1
      (c' := (c.toList.take (row * m.sz + j) ++ (a.eval y).cells.toList ++ c.toList.drop (row * m.sz + j + i.size)).toArray) g4
      (by simp [hvs]; omega)
      (fun r hr => by
       rcases List.mem_or_eq_of_mem_set hr with hr | hr
       ·exact g5 r hr
       ·subst hr; simp only [List.length_append, List.length_take, List.length_drop]; show _ = m.sz; omega)
      (by simp [hvs]; omega)
      (fun i' r j' bv hi' hj' => by
       simp only [List.getElem?_toArray]
       have hc'' : ∀ q, (c.toList.take (row * m.sz + j) ++ (a.eval y).cells.toList ++ c.toList.drop (row * m.sz + j + i.size))[q]? =
         if q < row * m.sz + j then c[q]? else if q < row * m.sz + j + i.size then (a.eval y).cells[q - (row * m.sz + j)]? else c[q]? := fun q => by
        have hl1 : (c.toList.take (row * m.sz + j)).length = row * m.sz + j := by simp; omega
        rw [List.getElem?_append, List.getElem?_append]
        simp only [List.length_append, hl1, Array.length_toList, hvs]
        by_cases q1 : q < row * m.sz + j
        ·rw [if_pos (by omega), if_pos q1, if_pos q1, List.getElem?_take, if_pos q1]; simp
        ·by_cases q2 : q < row * m.sz + j + i.size
         ·rw [if_pos q2, if_neg q1, if_neg q1, if_pos q2]; simp
         ·rw [if_neg q2, if_neg q1, if_neg q2, List.getElem?_drop]; simp; congr 1; omega
       rw [hc'']
       show ∃ x, _ ∧ _
       simp only at hi'
       have hrr : r.length = m.sz := by
        have := List.mem_of_getElem? hi'
        rcases List.mem_or_eq_of_mem_set this with hr | hr
        ·exact g5 r hr
        ·subst hr; simp only [List.length_append, List.length_take, List.length_drop]; omega
       have hj'' : j' < m.sz := by rw [← hrr]; exact (List.getElem?_eq_some_iff.1 hj').1
       rw [List.getElem?_set] at hi'
       split at hi'
       ·rename_i hrw
        subst hrw
        injection hi' with hi'
        subst hi'
        have hl1 : ((m.rows.getD row []).take j).length = j := by simp only [List.length_take]; omega
        rw [List.getElem?_append, List.getElem?_append] at hj'
        simp only [List.length_append, hl1, hlen] at hj'
        by_cases q1 : j' < j
        ·rw [if_pos (by omega), if_pos q1, List.getElem?_take, if_pos q1] at hj'
         rw [if_pos (by omega)]
         exact g7 row _ j' bv (zbL hrow) hj'
        ·by_cases q2 : j' < j + yt.size
         ·rw [if_pos q2, if_neg q1] at hj'
          rw [if_neg (by omega), if_pos (by omega)]
          have hlt : j' - j < (a.eval y).cells.size := by omega
          refine ⟨(a.eval y).cells[j' - j], ?_, r2 (j' - j) _ bv (by simp [hlt]) hj'⟩
          rw [show row * m.sz + j' - (row * m.sz + j) = j' - j by omega]
          simp [hlt]
         ·rw [if_neg q2, List.getElem?_drop] at hj'
          rw [if_neg (by omega), if_neg (by omega)]
          exact g7 row _ j' bv (zbL hrow) (by rw [← hj']; congr 1; omega)
       ·rename_i hrw
        have hne : ¬ (row * m.sz + j ≤ i' * m.sz + j' ∧ i' * m.sz + j' < row * m.sz + j + i.size) := by
         intro ⟨q1, q2⟩
         rcases Nat.lt_or_ge i' row with hlt | hge
         ·have : (i' + 1) * m.sz ≤ row * m.sz := Nat.mul_le_mul_right _ hlt
          rw [Nat.add_mul, Nat.one_mul] at this
          omega
         ·have hgt : row < i' := by omega
          have : (row + 1) * m.sz ≤ i' * m.sz := Nat.mul_le_mul_right _ hgt
          rw [Nat.add_mul, Nat.one_mul] at this
          omega
        have hold := g7 i' r j' bv hi' hj'
        by_cases q1 : i' * m.sz + j' < row * m.sz + j
        ·rw [if_pos q1]; exact hold
        ·rw [if_neg q1, if_neg (fun q2 => hne ⟨by omega, q2⟩)]; exact hold)
     exact ⟨key.1, key.2, rfl⟩
   ·cases h
  ·cases h
 ·cases h
theorem zh0 (t : TypeId) (v : Value) : (newVar t v).run P w = .ok ⟨w.heap.size, 0, none⟩ (w.alloc (.cells v.cells t)) := by
 rfl
theorem zoc (hid : ¬ U s.next) (hF : Fit D S0 w0 σ S s.mem U w) (hE : zat σ S w s.env a) (c : Array Value) (t : TypeId) (l : List AV) (hs : c.size = l.length)
  (hr : ∀ (i : Nat) (x : Value) (av : AV), c[i]? = some x → l[i]? = some av → Rel σ S w x av) :
  Fit D S0 w0 (upd σ s.next w.heap.size) S ((s.next, ⟨l.length, [l]⟩) :: s.mem) (fun b => U b ∨ b = s.next) (w.alloc (.cells c t)) ∧ zat (upd σ s.next w.heap.size) S (w.alloc (.cells c t)) s.env a ∧
   Rel (upd σ s.next w.heap.size) S (w.alloc (.cells c t)) (.pointer (some ⟨w.heap.size, 0, none⟩)) (.p s.next l.length 0 0) := by
 refine ⟨hF.new hid c t ⟨l.length, [l]⟩ (fun r hr => by simp at hr; subst hr; rfl) (by simp [hs]) (fun i r j av hi hj => ?_), hE.new hF hid _ _, ?_⟩
 ·cases i with
  | zero =>
   simp at hi; subst hi
   have hlt : j < c.size := by rw [hs]; exact (List.getElem?_eq_some_iff.1 hj).1
   exact ⟨c[j], by simp [hlt], hr j _ av (by simp [hlt]) hj⟩
  | succ i => simp at hi
 ·have : (0 : Nat) = 0 * l.length + 0 := by simp
  have h2 := Rel.p (σ := upd σ s.next w.heap.size) (S := S) (w := w.alloc (.cells c t)) (b := s.next) (k := w.heap.size) (sz := l.length) (row := 0) (j := 0) (by simp [upd])
  simpa using h2
theorem s_alloc (hT : zam P ti) (hid : ¬ U s.next) (hF : Fit D S0 w0 σ S s.mem U w) (hE : zat σ S w s.env a) {t : TypeId} (ho : o.op = .alloc t) {e : Eff} (h : aAlloc s.next (ti t) = some e) :
  ∃ x w' σ', (execOp a.eval o).run P w = .ok (.value x) w' ∧ Fit D S0 w0 σ' S (s.upd e.upd).mem (fun b => U b ∨ b = s.next) w' ∧ zat σ' S w' s.env a ∧ Rel σ' S w' x e.val := by
 unfold aAlloc at h
 split at h
 ·rename_i y hy
  injection h with h; subst h
  obtain ⟨i, d, h1, h2, h3, h4, h5, ⟨z, hz1, hz2, hz3⟩, h7⟩ := zag hT hy
  obtain ⟨k1, k2, k3⟩ := zoc hid hF hE z.cells t (y.zero.map fun z => .v z.val) (by rw [hz2]; simp) (fun i x av hx hav => by
   rw [hz2] at hx
   simp at hx hav
   obtain ⟨a1, ha1, rfl⟩ := hx
   obtain ⟨a2, ha2, rfl⟩ := hav
   rw [ha1] at ha2; injection ha2 with ha2; subst ha2
   exact .v _)
  simp only [List.length_map, h7] at k1 k2 k3
  refine ⟨_, _, _, ?_, k1, k2, k3⟩
  simp [execOp, ho, Instr.alloc, zaT h1 hz1, zh0]
 ·cases h
theorem s_box0 (hid : ¬ U s.next) (hF : Fit D S0 w0 σ S s.mem U w) (hE : zat σ S w s.env a) {t : TypeId} {x : Operand} (ho : o.op = .box t x) {e : Eff} (h : aBox0 s.next (ev s x) = some e) :
  ∃ x w' σ', (execOp a.eval o).run P w = .ok (.value x) w' ∧ Fit D S0 w0 σ' S (s.upd e.upd).mem (fun b => U b ∨ b = s.next) w' ∧ zat σ' S w' s.env a ∧ Rel σ' S w' x e.val := by
 unfold aBox0 at h
 split at h
 ·rename_i av hx
  split at h
  ·rename_i hone
   injection h with h; subst h
   obtain ⟨r1, r2, r3⟩ := zgY (za3 hE hx) hone
   obtain ⟨k1, k2, k3⟩ := zoc hid hF hE (a.eval x).cells t av.cells r1 r2
   exact ⟨_, _, _, by simp [execOp, ho, Instr.box, zh0], k1, k2, k3⟩
  ·cases h
 ·cases h
theorem s_box (hid : ¬ U s.next) (hF : Fit D S0 w0 σ S s.mem U w) (hE : zat σ S w s.env a) {t : TypeId} {x : Operand} (ho : o.op = .box t x) {e : Eff} (h : aBox s.next (ev s x) = some e) :
  ∃ x w' σ', (execOp a.eval o).run P w = .ok (.value x) w' ∧ Fit D S0 w0 σ' S (s.upd e.upd).mem (fun b => U b ∨ b = s.next) w' ∧ zat σ' S w' s.env a ∧ Rel σ' S w' x e.val := by
 unfold aBox at h
 split at h
 ·cases h
 ·exact s_box0 hid hF hE ho h
end
section
variable {P : Program} {ti : zaN} {D : Base} {S0 : Nat → Prop} {w0 : World} {σ : Sig} {S : Nat → Prop} {w : World} {s : AS} {a : Act} {o : Oper} {mem : List (Nat × MB)} {U : Nat → Prop}
theorem zjJ {x : Value} {b sz row j : Nat} (h : Rel σ S w x (.p b sz row j)) : ∃ k, σ b = some k ∧ x = .pointer (some ⟨k, row * sz + j, none⟩) := by
 cases h with | p h => exact ⟨_, h, rfl⟩
theorem zgX {x : Value} {b sz row n : Nat} (h : Rel σ S w x (.ps b sz row n)) : (x = .slice none 0 0 ∧ n = 0) ∨ ∃ (k off cap : Nat), σ b = some k ∧ x = .slice (some ⟨k, off, none⟩) n cap ∧ n ≤ cap ∧ (off = row * sz ∨ cap = 0) ∧
  ∃ c e f, w.heap[k]? = some (.cells c e f) ∧ off + cap * sz ≤ c.size := by
 cases h with
 | ps h h1 h2 h3 => exact .inr ⟨_, _, _, h, rfl, h1, h2, h3⟩
 | ps0 => exact .inl ⟨rfl, rfl⟩
theorem rel_rp {x : Value} {l : List AV} (h : Rel σ S w x (.rp l)) : ∃ (k off : Nat) (c : Nat → Value), x = .pointer (some ⟨k, off, none⟩) ∧ S k ∧ (∀ (j : Nat) (av : AV), l[j]? = some av → w.cell? ⟨k, off + j, none⟩ = some (c j)) ∧
  ∀ (j : Nat) (av : AV), l[j]? = some av → Rel σ S w (c j) av := by
 cases h with | rp c h1 h2 h3 => exact ⟨_, _, c, rfl, h1, h2, h3⟩
theorem zeO {x : Value} {l : List AV} (h : Rel σ S w x (.agg l)) : ∃ cs : Array Value, x = .agg cs ∧ cs.size = l.length ∧ ∀ (i : Nat) (y : Value) (av : AV), cs[i]? = some y → l[i]? = some av → Rel σ S w y av := by
 cases h with | agg h1 h2 => exact ⟨_, rfl, h1, h2⟩
theorem zkP {x : Value} {l : List AV} (h : Rel σ S w x (.tup l)) : ∃ cs : Array Value, x = .tuple cs ∧ cs.size = l.length ∧ ∀ (i : Nat) (y : Value) (av : AV), cs[i]? = some y → l[i]? = some av → Rel σ S w y av := by
 cases h with | tup h1 h2 => exact ⟨_, rfl, h1, h2⟩
theorem ze6 {n : Nat} {av b : AV} {x : Value} (hr : Rel σ S w x av) (h : shiftPtr n av = some b) : ∃ k off, x = .pointer (some ⟨k, off, none⟩) ∧ Rel σ S w (.pointer (some ⟨k, off + n, none⟩)) b := by
 unfold shiftPtr at h
 split at h
 ·rename_i b0 sz row j
  injection h with h; subst h
  cases hr with
  | p hs => exact ⟨_, _, rfl, by rw [Nat.add_assoc]; exact .p hs⟩
 ·rename_i l
  injection h with h; subst h
  cases hr with
  | @rp k off l c hk hcell hr =>
   refine ⟨k, off, rfl, .rp (fun j => c (n + j)) hk (fun j av hj => ?_) (fun j av hj => ?_)⟩
   ·rw [Nat.add_assoc]; exact hcell (n + j) av (by simpa using hj)
   ·exact hr (n + j) av (by simpa using hj)
 ·cases h
theorem zmx (hE : zat σ S w s.env a) {x : Operand} (ho : o.op = .nilCheck x) {e : Eff} (h : aNilCheck (ev s x) = some e) : e.upd = .keep ∧ zbN P a o σ S w e.val := by
 unfold aNilCheck at h
 split at h
 ·rename_i b sz row j hx
  injection h with h; subst h
  have hr := za3 hE hx
  obtain ⟨k, h1, h2⟩ := zjJ hr
  exact ⟨rfl, a.eval x, by simp [execOp, ho, h2], hr⟩
 ·rename_i l hx
  injection h with h; subst h
  have hr := za3 hE hx
  obtain ⟨k, off, c, h2, _⟩ := rel_rp hr
  exact ⟨rfl, a.eval x, by simp [execOp, ho, h2], hr⟩
 ·cases h
theorem zjB {d : TypeDesc} {fs : List (Nat × Nat)} (h : TK.ofDesc d = .st fs) : ∃ fields, d = .struct fields ∧ ∀ (f off ft : Nat), fs[f]? = some (off, ft) → ∃ g : Field, fields[f]? = some g ∧ g.offset = off ∧ g.type = ft := by
 cases d <;> simp [TK.ofDesc] at h
 rename_i fields
 refine ⟨fields, rfl, fun f off ft hf => ?_⟩
 subst h
 simp at hf
 obtain ⟨g, hg, h1, h2⟩ := hf
 exact ⟨g, hg, h1, h2⟩
theorem zkL (hT : zam P ti) (hE : zat σ S w s.env a) {t : TypeId} {x : Operand} {f : Nat} (ho : o.op = .fieldAddr t x f) {e : Eff} (h : aFieldAddr ti (ti t) (ev s x) f = some e) :
  e.upd = .keep ∧ zbN P a o σ S w e.val := by
 unfold aFieldAddr at h
 split at h
 ·rename_i _ _ z1 z2 z3 fs av hy hx
  split at h
  ·rename_i off ft hf
   split at h
   ·rename_i z hz
    split at h
    ·cases h
    ·rename_i hne
     split at h
     ·rename_i p hp
      injection h with h; subst h
      obtain ⟨i, d, h1, h2, h3, h4, h5, h6⟩ := zag hT hy
      obtain ⟨fields, rfl, hfs⟩ := zjB h5
      obtain ⟨g, hg, hgo, hgt⟩ := hfs f off ft hf
      obtain ⟨i', d', k1, k2, k3, _⟩ := zag hT hz
      obtain ⟨k, o', hxe, hr⟩ := ze6 (za3 hE hx) hp
      refine ⟨rfl, _, ?_, hr⟩
      subst hgo hgt
      have hne' : ¬ i'.size = 0 := by rw [k3]; exact hne
      simp [execOp, ho, hxe, Instr.fieldAt, Instr.sureAddr, run_underlying h2, hg, fieldPlace, zaw k1, hne', zcd]
     ·cases h
   ·cases h
  ·cases h
 ·cases h
theorem zg4 (hT : zam P ti) {ft : TypeId} {z : TyI} (hz : ti ft = some z) {cs : Array Value} {l : List AV} {off : Nat} {v : AV} (hs : cs.size = l.length)
  (hr : ∀ (i : Nat) (y : Value) (av : AV), cs[i]? = some y → l[i]? = some av → Rel σ S w y av) (h : partOf z l off = some v) :
  ∃ x, (part ft cs off).run P w = .ok x w ∧ Rel σ S w x v := by
 obtain ⟨i, d, h1, h2, h3, h4, h5, h6⟩ := zag hT hz
 unfold partOf at h
 split at h
 ·rename_i hagg
  split at h
  ·rename_i hle
   injection h with h; subst h
   refine ⟨.agg (cs.extract off (off + z.size)), by simp [part, zcU h2, h5, hagg, zaw h1, h3], .agg (by simp; omega) (fun i' y av hy hav => ?_)⟩
   rw [Array.getElem?_extract] at hy
   rw [List.getElem?_take] at hav
   split at hy
   ·split at hav
    ·exact hr (off + i') y av hy (by simpa using hav)
    ·cases hav
   ·cases hy
  ·cases h
 ·rename_i hagg
  have hlt : off < cs.size := by rw [hs]; exact (List.getElem?_eq_some_iff.1 h).1
  have hagg' : z.kd.agg = false := by simpa using hagg
  exact ⟨cs[off], by simp [part, zcU h2, h5, hagg', hlt], hr off _ v (by simp [hlt]) h⟩
theorem s_field (hT : zam P ti) (hE : zat σ S w s.env a) {t : TypeId} {x : Operand} {f : Nat} (ho : o.op = .field t x f) {e : Eff} (h : aField ti (ti t) (ev s x) f = some e) :
  e.upd = .keep ∧ zbN P a o σ S w e.val := by
 unfold aField at h
 split at h
 ·rename_i _ _ z1 z2 z3 fs l hy hx
  split at h
  ·rename_i off ft hf
   split at h
   ·rename_i z hz
    split at h
    ·rename_i v hp
     injection h with h; subst h
     obtain ⟨i, d, h1, h2, h3, h4, h5, h6⟩ := zag hT hy
     obtain ⟨fields, rfl, hfs⟩ := zjB h5
     obtain ⟨g, hg, hgo, hgt⟩ := hfs f off ft hf
     obtain ⟨cs, hxe, hs, hr⟩ := zeO (za3 hE hx)
     obtain ⟨y, hy1, hy2⟩ := zg4 hT hz hs hr hp
     refine ⟨rfl, y, ?_, hy2⟩
     subst hgo hgt
     simp [execOp, ho, hxe, Instr.field, run_underlying h2, hg, asAgg, hy1]
    ·cases h
   ·cases h
  ·cases h
 ·cases h
theorem zbU {d : TypeDesc} {e : Nat} (h : TK.ofDesc d = .slc e) : d = .slice e := by cases d <;> simp [TK.ofDesc] at h; subst h; rfl
theorem zgE {d : TypeDesc} {n e : Nat} (h : TK.ofDesc d = .arr n e) : d = .array n e := by cases d <;> simp [TK.ofDesc] at h; obtain ⟨rfl, rfl⟩ := h; rfl
theorem zjU {k : Int} {n : Nat} (h0 : 0 ≤ k) (h1 : k < n) : k.toNat < n := by omega
theorem zkK (hT : zam P ti) (hE : zat σ S w s.env a) {t : TypeId} {x i : Operand} (ho : o.op = .indexAddr t x i) {e : Eff} (h : aIndexAddr ti (ti t) (ev s x) (ev s i) = some e) (hn : e.need) :
  e.upd = .keep ∧ zbN P a o σ S w e.val := by
 unfold aIndexAddr at h
 split at h
 ·rename_i _ _ _ z1 z2 z3 et b sz row n ik k hy hx hi
  split at h
  ·rename_i z hz
   split at h
   ·rename_i hsz
    injection h with h; subst h
    obtain ⟨h0, hlt⟩ := hn
    obtain ⟨ii, d, h1, h2, h3, h4, h5, h6⟩ := zag hT hy
    have hd := zbU h5
    subst hd
    obtain ⟨i', d', k1, k2, k3, _⟩ := zag hT hz
    obtain ⟨kk, off, cap, g1, g2, g3, g4, g5⟩ := (zgX (za3 hE hx)).resolve_left (fun q => by omega)
    have hoff : off = row * sz := by
     rcases g4 with g4 | g4
     ·exact g4
     ·omega
    refine ⟨rfl, .pointer (some ⟨kk, (row + k.toNat) * sz + 0, none⟩), ?_, .p g1⟩
    have hcond : 0 ≤ k ∧ k < (n : Int) := ⟨h0, hlt⟩
    simp [execOp, ho, g2, zee hE hi, Instr.indexAt, asIntOf, run_underlying h2, hcond, zaw k1, k3, hsz, zcd, hoff, Nat.add_mul]
   ·cases h
  ·cases h
 ·rename_i _ _ _ z1 z2 z3 et sz rows ik k hy hx hi
  split at h
  ·rename_i z hz
   split at h
   ·rename_i hsz
    injection h with h; subst h
    obtain ⟨h0, hlt⟩ := hn
    obtain ⟨ii, d, h1, h2, h3, h4, h5, h6⟩ := zag hT hy
    have hd := zbU h5
    subst hd
    obtain ⟨i', d', k1, k2, k3, _⟩ := zag hT hz
    have hrel := za3 hE hx
    have hlt' : k.toNat < rows.length := zjU h0 hlt
    generalize hpx : a.eval x = px at hrel
    cases hrel with
    | nil => simp at hlt'
    | e => simp at hlt'
    | @sl kk off cap _ _ c hk hc hl hcell hr =>
     have hrow := zbL (d := ([] : List AV)) hlt'
     refine ⟨rfl, .pointer (some ⟨kk, off + k.toNat * sz, none⟩), ?_, .rp (fun j => c k.toNat j) hk (fun j av hj => hcell k.toNat _ j av hrow hj) (fun j av hj => hr k.toNat _ j av hrow hj)⟩
     have hcond : 0 ≤ k ∧ k < (rows.length : Int) := ⟨h0, hlt⟩
     simp [execOp, ho, hpx, zee hE hi, Instr.indexAt, asIntOf, run_underlying h2, hcond, zaw k1, k3, hsz, zcd]
   ·cases h
  ·cases h
 ·rename_i _ _ _ z1 z2 z3 n et av ik k hy hx hi
  split at h
  ·rename_i z hz
   split at h
   ·rename_i p hp
    injection h with h; subst h
    obtain ⟨h0, hlt⟩ := hn
    obtain ⟨ii, d, h1, h2, h3, h4, h5, h6⟩ := zag hT hy
    have hd := zgE h5
    subst hd
    obtain ⟨i', d', k1, k2, k3, _⟩ := zag hT hz
    obtain ⟨kk, off, hxe, hr⟩ := ze6 (za3 hE hx) hp
    refine ⟨rfl, _, ?_, hr⟩
    have hcond : 0 ≤ k ∧ k < (n : Int) := ⟨h0, hlt⟩
    simp [execOp, ho, hxe, zee hE hi, Instr.indexAt, Instr.sureAddr, asIntOf, run_underlying h2, hcond, zaw k1, k3, zcd]
   ·cases h
  ·cases h
 ·cases h
theorem zpC (s : ByteArray) (k : Nat) (h : k < s.size) : s[k]? = some (s.data.toList.getD k 0) := by
 have h' : k < s.data.size := h
 simp [h]
 rfl
theorem s_index (hT : zam P ti) (hE : zat σ S w s.env a) {t : TypeId} {x i : Operand} (ho : o.op = .index t x i) {e : Eff} (h : aIndex ti (ti t) (ev s x) (ev s i) = some e) (hn : e.need) :
  e.upd = .keep ∧ zbN P a o σ S w e.val := by
 unfold aIndex at h
 split at h
 ·rename_i _ _ _ z1 z2 z3 n et l ik k hy hx hi
  split at h
  ·rename_i z hz
   obtain ⟨ii, d, h1, h2, h3, h4, h5, h6⟩ := zag hT hy
   have hd := zgE h5
   subst hd
   obtain ⟨i', d', k1, k2, k3, _⟩ := zag hT hz
   obtain ⟨cs, hxe, hs, hr⟩ := zeO (za3 hE hx)
   split at h
   ·rename_i hagg
    injection h with h; subst h
    obtain ⟨hcond, hle⟩ := hn
    obtain ⟨y, hy1, hy2⟩ := zg4 (off := k.toNat * z.size) (v := .agg ((l.drop (k.toNat * z.size)).take z.size)) hT hz hs hr (by simp [partOf, hagg, hle])
    exact ⟨rfl, y, by simp [execOp, ho, hxe, zee hE hi, Instr.index, asIntOf, run_underlying h2, hcond, zaw k1, k3, hy1], hy2⟩
   ·rename_i hagg
    injection h with h; subst h
    obtain ⟨hcond, hlt⟩ := hn
    obtain ⟨y, hy1, hy2⟩ := zg4 (off := k.toNat * z.size) (v := l.getD (k.toNat * z.size) (.v undef)) hT hz hs hr (by
     have : z.kd.agg = false := by simpa using hagg
     simp only [partOf, this, Bool.false_eq_true, if_false]; exact zbL hlt)
    exact ⟨rfl, y, by simp [execOp, ho, hxe, zee hE hi, Instr.index, asIntOf, run_underlying h2, hcond, zaw k1, k3, hy1], hy2⟩
  ·cases h
 ·rename_i _ _ _ z1 z2 z3 b ik k hy hx hi
  injection h with h; subst h
  obtain ⟨h0, hlt⟩ := hn
  obtain ⟨ii, d, h1, h2, h3, h4, h5, h6⟩ := zag hT hy
  have hd : d = .string := by cases d <;> simp [TK.ofDesc] at h5; rfl
  subst hd
  have hg := zpC b k.toNat (by omega)
  exact ⟨rfl, _, by simp [execOp, ho, zee hE hx, zee hE hi, Instr.index, asIntOf, run_underlying h2, h0, hg], .v _⟩
 ·cases h
theorem znD (hT : zam P ti) (hE : zat σ S w s.env a) {t u : TypeId} {x : Operand} (ho : o.op = .convert t u x) {e : Eff} (h : aConvert (ti t) (ti u) (ev s x) = some e) :
  e.upd = .keep ∧ zbN P a o σ S w e.val := by
 unfold aConvert at h
 split at h
 ·rename_i _ _ _ z1 z2 z3 k1 y1 y2 y3 k k' n hy hz hx
  injection h with h; subst h
  obtain ⟨ii, d, h1, h2, h3, h4, h5, h6⟩ := zag hT hy
  obtain ⟨ii', d', g1, g2, g3, g4, g5, g6⟩ := zag hT hz
  have hd : d = .int k1 := by cases d <;> simp [TK.ofDesc] at h5; subst h5; rfl
  have hd' : d' = .int k := by cases d' <;> simp [TK.ofDesc] at g5; subst g5; rfl
  subst hd hd'
  exact ⟨rfl, _, by simp [execOp, ho, zee hE hx, convert, run_underlying h2, run_underlying g2, Conv.intToInt], .v _⟩
 ·cases h
theorem zgT (hT : zam P ti) (hE : zat σ S w s.env a) {t : TypeId} {x : Operand} (ho : o.op = .makeInterface t x) {e : Eff} (h : aMakeInterface t (ti t) (ev s x) = some e) :
  e.upd = .keep ∧ zbN P a o σ S w e.val := by
 unfold aMakeInterface at h
 split at h
 ·rename_i y v hy hx
  split at h
  ·cases h
  ·rename_i hni
   injection h with h; subst h
   obtain ⟨ii, d, h1, h2, h3, h4, h5, h6⟩ := zag hT hy
   refine ⟨rfl, .iface t (a.eval x), ?_, by rw [zee hE hx]; exact .v _⟩
   have hd : ∀ ms, d ≠ .interface ms := fun ms hd => by
    subst hd
    obtain ⟨q1, q2, q3, kd⟩ := y
    simp [TK.ofDesc] at h5
    subst h5
    simp [isIfaceT] at hni
   simp only [execOp, ho, Instr.makeInterface, Sem.run_bind, run_underlying h2, Result.andThen_ok]
   cases d <;> first | exact (hd _ rfl).elim | simp
 ·cases h
theorem s_assert (hT : zam P ti) (hE : zat σ S w s.env a) {t u : TypeId} {x : Operand} (ho : o.op = .typeAssert x u t true) {e : Eff} (h : aAssert t (ti t) (ev s x) = some e) :
  e.upd = .keep ∧ zbN P a o σ S w e.val := by
 have desc : ∀ (y : TyI) (d : TypeDesc), (isIfaceT (some y) || y.kd.agg) ≠ true → TK.ofDesc d = y.kd → (∀ ms, d ≠ .interface ms) := fun y d hc h5 ms hd => by
  subst hd
  obtain ⟨q1, q2, q3, kd⟩ := y
  simp [TK.ofDesc] at h5
  subst h5
  simp [isIfaceT] at hc
 have tupR : ∀ (v : Value) (b : Bool), Rel σ S w (.tuple #[v, .bool b]) (.tup [.v v, .v (.bool b)]) := fun v b => .tup rfl (fun i y av hy hav => by
  match i with
  | 0 => simp at hy hav; subst hy hav; exact .v _
  | 1 => simp at hy hav; subst hy hav; exact .v _
  | n + 2 => simp at hav)
 unfold aAssert at h
 split at h
 ·rename_i y hy hx
  split at h
  ·cases h
  ·rename_i hni
   split at h
   ·rename_i zz hz1
    injection h with h; subst h
    obtain ⟨ii, d, h1, h2, h3, h4, h5, ⟨z, hz2, hz3, hz4, hz5⟩, h7⟩ := zag hT hy
    have hd := desc y d hni h5
    have hag : y.kd.agg = false := by
     cases hq : y.kd.agg with
     | false => rfl
     | true => simp [hq] at hni
    have hz := hz5 zz hag hz1
    subst hz
    refine ⟨rfl, .tuple #[zz.val, .bool false], ?_, tupR _ _⟩
    simp only [execOp, ho, zee hE hx, Instr.typeAssert, Sem.run_bind, run_underlying h2, Result.andThen_ok]
    cases d <;> first | exact (hd _ rfl).elim | simp [zaT h1 hz2]
   ·cases h
 ·rename_i y t' v hy hx
  split at h
  ·cases h
  ·rename_i hni
   split at h
   ·rename_i zz hz1
    obtain ⟨ii, d, h1, h2, h3, h4, h5, ⟨z, hz2, hz3, hz4, hz5⟩, h7⟩ := zag hT hy
    have hd := desc y d hni h5
    have hag : y.kd.agg = false := by
     cases hq : y.kd.agg with
     | false => rfl
     | true => simp [hq] at hni
    have hz := hz5 zz hag hz1
    subst hz
    have run : ∀ r, (if t' = t then (pure (.tuple #[v, .bool true]) : Sem Value) else do pure (.tuple #[← zeroValue t, .bool false])).run P w = .ok r w → (execOp a.eval o).run P w = .ok (.value r) w := fun r hr => by
     simp only [execOp, ho, zee hE hx, Instr.typeAssert, Sem.run_bind, run_underlying h2, Result.andThen_ok]
     by_cases ht : t' = t
     ·simp only [ht, if_true, Sem.run_pure, Result.ok.injEq, and_true] at hr
      subst hr
      cases d <;> first | exact (hd _ rfl).elim | simp [ht]
     ·simp [ht, zaT h1 hz2] at hr
      subst hr
      cases d <;> first | exact (hd _ rfl).elim | simp [ht, zaT h1 hz2]
    split at h
    ·rename_i ht
     injection h with h; subst h
     exact ⟨rfl, _, run _ (by simp [ht]), tupR _ _⟩
    ·rename_i ht
     injection h with h; subst h
     exact ⟨rfl, _, run _ (by simp [ht, zaT h1 hz2]), tupR _ _⟩
   ·cases h
 ·cases h
theorem znC (hE : zat σ S w s.env a) {x : Operand} {i : Nat} (ho : o.op = .extract x i) {e : Eff} (h : aExtract (ev s x) i = some e) : e.upd = .keep ∧ zbN P a o σ S w e.val := by
 unfold aExtract at h
 split at h
 ·rename_i l hx
  split at h
  ·rename_i v hv
   injection h with h; subst h
   obtain ⟨cs, hxe, hs, hr⟩ := zkP (za3 hE hx)
   have hlt : i < cs.size := by rw [hs]; exact (List.getElem?_eq_some_iff.1 hv).1
   exact ⟨rfl, cs[i], by simp [execOp, ho, hxe, Instr.extract, hlt], hr i _ v (by simp [hlt]) hv⟩
  ·cases h
 ·cases h
theorem zeA (hE : zat σ S w s.env a) : ∀ (xs : List Operand) (l : List AV), evL s xs = some l → xs.length = l.length ∧ ∀ (i : Nat) (y : Value) (av : AV), (xs.map a.eval)[i]? = some y → l[i]? = some av → Rel σ S w y av
 | [], l, h => by simp [evL] at h; subst h; exact ⟨rfl, fun i y av hy => by simp at hy⟩
 | x :: xs, l, h => by
  simp only [evL] at h
  split at h
  ·rename_i v l' hv hl
   injection h with h; subst h
   obtain ⟨h1, h2⟩ := zeA hE xs l' hl
   refine ⟨by simp [h1], fun i y av hy hav => ?_⟩
   cases i with
   | zero => simp at hy hav; subst hy hav; exact za3 hE hv
   | succ i => simp at hav; exact h2 i y av (by simpa using hy) hav
  ·cases h
theorem zmy (hE : zat σ S w s.env a) {fn : Fn} {first captured : Array Operand} (ho : o.op = .makeFunc fn first captured) {e : Eff} (h : aMakeFunc s fn first.toList captured.toList = some e) :
  e.upd = .keep ∧ zbN P a o σ S w e.val := by
 unfold aMakeFunc at h
 split at h
 ·rename_i f l hf hl
  split at h
  ·cases h
  injection h with h; subst h
  obtain ⟨h1, h2⟩ := zeA hE _ _ hl
  have hf' : first = #[] := by simpa using hf
  subst hf'
  refine ⟨rfl, .func (.func f) #[] (captured.map a.eval), by simp [execOp, ho, Instr.makeFunc], .fn (by simpa using h1) (fun i y av hy hav => h2 i y av (by simpa using hy) hav)⟩
 ·cases h
end
theorem zih (off : Nat) : ∀ (vs : List Value) (j : Nat) (cs : Array Value), off + j + vs.length ≤ cs.size →
  ((vs.zipIdx j).foldl (fun (cs : Array Value) (p : Value × Nat) => cs.setIfInBounds (off + p.2) p.1) cs).toList = cs.toList.take (off + j) ++ vs ++ cs.toList.drop (off + j + vs.length)
 | [], j, cs, _ => by simp
 | v :: vs, j, cs, h => by
  have hlt : off + j < cs.size := by simp at h; omega
  simp only [List.zipIdx_cons, List.foldl_cons]
  rw [zih off vs (j + 1) _ (by simp at h ⊢; omega)]
  have e := list_seg_step cs.toList (off + j) v vs (by simp at h ⊢; omega)
  simp only [Array.toList_setIfInBounds]
  simpa [Nat.add_assoc] using e
section
variable {P : Program} {ti : zaN} {D : Base} {S0 : Nat → Prop} {w0 : World} {σ : Sig} {S : Nat → Prop} {w : World} {s : AS} {a : Act} {o : Oper} {mem : List (Nat × MB)} {U : Nat → Prop}
theorem zfY (place place' : Nat → Option (Nat × Nat)) (hp : ∀ i q, place i = some q → place' i = some q) : ∀ (parts : List (Nat × Operand)) (l : List (Nat × Nat × AV)) (cs : Array Value) (cells cells' : List AV), (∀ p ∈ parts, ∀ b, ev s p.2 = some b → Rel σ S w (a.eval p.2) b) →
  placed place s parts = some l → fillA cells l = some cells' → cs.size = cells.length → (∀ (i : Nat) (y : Value) (av : AV), cs[i]? = some y → cells[i]? = some av → Rel σ S w y av) →
  ∃ cs' : Array Value, Instr.fill place' cs (parts.map fun (p : Nat × Operand) => (p.1, a.eval p.2)) = some cs' ∧ cs'.size = cells'.length ∧ ∀ (i : Nat) (y : Value) (av : AV), cs'[i]? = some y → cells'[i]? = some av → Rel σ S w y av
 | [], l, cs, cells, cells', _, h1, h2, h3, h4 => by
  simp [placed] at h1; subst h1
  simp [fillA] at h2; subst h2
  exact ⟨cs, by simp [Instr.fill], h3, h4⟩
 | (i, x) :: parts, l, cs, cells, cells', hE, h1, h2, h3, h4 => by
  simp only [placed] at h1
  split at h1
  ·rename_i off size v l' hpl hv hl
   injection h1 with h1; subst h1
   simp only [fillA] at h2
   split at h2
   ·rename_i hc
    obtain ⟨c1, c2, c3⟩ := hc
    obtain ⟨r1, r2, r3⟩ := zgY (hE (i, x) (List.mem_cons_self ..) _ hv) c3
    have hfold := zih off (a.eval x).cells.toList 0 cs (by simp [r1]; omega)
    simp only [Nat.add_zero, Array.length_toList, r1, c1] at hfold
    have hz : (a.eval x).cells.zipIdx.foldl (fun (cs : Array Value) (p : Value × Nat) => cs.setIfInBounds (off + p.2) p.1) cs =
      (((a.eval x).cells.toList.zipIdx 0).foldl (fun (cs : Array Value) (p : Value × Nat) => cs.setIfInBounds (off + p.2) p.1) cs) := by
     rw [← Array.foldl_toList, Array.toList_zipIdx]
    generalize hcs1 : ((a.eval x).cells.toList.zipIdx 0).foldl (fun (cs : Array Value) (p : Value × Nat) => cs.setIfInBounds (off + p.2) p.1) cs = cs1 at hfold hz
    have hsz1 : cs1.size = cells.length := by
     have : cs1.toList.length = cells.length := by rw [hfold]; simp [r1, c1]; omega
     simpa using this
    obtain ⟨cs', k1, k2, k3⟩ := zfY place place' hp parts l' cs1 _ cells' (fun p hp => hE p (List.mem_cons_of_mem _ hp)) hl h2 (by rw [hsz1]; simp [c1]; omega) (fun i' y av hy hav => by
     rw [← Array.getElem?_toList, hfold] at hy
     have hlt : off + size ≤ cs.size := by omega
     rw [List.getElem?_append, List.getElem?_append] at hy hav
     simp only [List.length_append, List.length_take, Array.length_toList, r1, c1, show min off cs.size = off by omega, show min off cells.length = off by omega] at hy hav
     by_cases q1 : i' < off
     ·rw [if_pos (by omega), if_pos q1, List.getElem?_take, if_pos q1] at hy hav
      exact h4 i' y av (by simpa using hy) hav
     ·by_cases q2 : i' < off + size
      ·rw [if_pos q2, if_neg q1] at hy hav
       exact r2 _ y av (by simpa using hy) hav
      ·rw [if_neg q2, List.getElem?_drop] at hy hav
       exact h4 _ y av (by simpa using hy) hav)
    refine ⟨cs', ?_, k2, k3⟩
    simp only [List.map_cons, Instr.fill, hp i _ hpl]
    rw [if_neg (by simp [r1, c1]; omega), hz]
    exact k1
   ·cases h2
  ·cases h1
theorem zj8 (hE : zat σ S w s.env a) (place place' : Nat → Option (Nat × Nat)) (hp : ∀ i q, place i = some q → place' i = some q) (parts : List (Nat × Operand)) (l : List (Nat × Nat × AV)) (cs : Array Value) (cells cells' : List AV)
  (h1 : placed place s parts = some l) (h2 : fillA cells l = some cells') (h3 : cs.size = cells.length) (h4 : ∀ (i : Nat) (y : Value) (av : AV), cs[i]? = some y → cells[i]? = some av → Rel σ S w y av) :
  ∃ cs' : Array Value, Instr.fill place' cs (parts.map fun (p : Nat × Operand) => (p.1, a.eval p.2)) = some cs' ∧ cs'.size = cells'.length ∧ ∀ (i : Nat) (y : Value) (av : AV), cs'[i]? = some y → cells'[i]? = some av → Rel σ S w y av :=
 zfY place place' hp parts l cs cells cells' (fun _ _ _ hb => za3 hE hb) h1 h2 h3 h4
theorem zls {y : TyI} {z : Value} (hz : z.cells = (y.zero.map Z.val).toArray) : z.cells.size = (y.zero.map fun z => AV.v z.val).length ∧
  ∀ (i : Nat) (x : Value) (av : AV), z.cells[i]? = some x → (y.zero.map fun z => AV.v z.val)[i]? = some av → Rel σ S w x av := by
 refine ⟨by rw [hz]; simp, fun i x av hx hav => ?_⟩
 rw [hz] at hx
 simp at hx hav
 obtain ⟨a1, ha1, rfl⟩ := hx
 obtain ⟨a2, ha2, rfl⟩ := hav
 rw [ha1] at ha2; injection ha2 with ha2; subst ha2
 exact .v _
theorem zlA {α β : Type} (g : α → Sem β) (h : α → β) : ∀ (l : List α), (∀ f ∈ l, (g f).run P w = .ok (h f) w) → (l.mapM g).run P w = .ok (l.map h) w
 | [], _ => by simp
 | f :: fs, hg => by
  have ih := zlA g h fs (fun x hx => hg x (by simp [hx]))
  simp only [List.mapM_cons, Sem.run_bind, hg f (by simp), Result.andThen_ok, ih, Sem.run_pure, List.map_cons]
theorem znE {α β : Type} (g : α → Sem β) (h : α → β) (l : Array α) (hg : ∀ f ∈ l.toList, (g f).run P w = .ok (h f) w) : (l.mapM g).run P w = .ok (l.toList.map h).toArray w := by
 rw [Array.mapM_eq_mapM_toList]
 have := zlA g h l.toList hg
 simp [this]
theorem s_build (hT : zam P ti) (hE : zat σ S w s.env a) {t : TypeId} {parts : Array (Nat × Operand)} (ho : o.op = .build t parts) {e : Eff} (h : aBuild ti s (ti t) parts.toList = some e) :
  e.upd = .keep ∧ zbN P a o σ S w e.val := by
 unfold aBuild at h
 split at h
 ·rename_i _ z1 z2 zero fs hy
  split at h
  ·rename_i l hl
   split at h
   ·rename_i cs hcs
    split at h
    ·rename_i hall
     injection h with h; subst h
     obtain ⟨i, d, h1, h2, h3, h4, h5, ⟨z, hz1, hz2, hz3⟩, h7⟩ := zag hT hy
     have hd : ∃ fields, d = .struct fields ∧ fs = fields.toList.map fun f => (f.offset, f.type) := by
      cases d <;> simp [TK.ofDesc] at h5
      exact ⟨_, rfl, by simp [h5]⟩
     obtain ⟨fields, rfl, hfs⟩ := hd
     subst hfs
     obtain ⟨q1, q2⟩ := zls (σ := σ) (S := S) (w := w) hz2
     have hmp := znE (P := P) (w := w) (fun (f : Field) => (do pure (f.offset, ← Go.sizeOf f.type) : Sem (Nat × Nat))) (fun f => (f.offset, ((ti f.type).map (·.size)).getD 0)) fields (fun f hf => by
      have := List.all_eq_true.1 hall (f.offset, f.type) (List.mem_map.2 ⟨f, hf, rfl⟩)
      simp only at this
      cases hq : ti f.type with
      | none => simp [hq] at this
      | some y =>
       obtain ⟨i, d, g1, g2, g3, _⟩ := zag hT hq
       simp only [Sem.run_bind, zaw g1, Result.andThen_ok, Sem.run_pure, g3, Option.map_some, Option.getD_some])
     obtain ⟨cs', k1, k2, k3⟩ := zj8 hE (stPlace ti (fields.toList.map fun f => (f.offset, f.type))) (fun i => (fields.toList.map fun f => (f.offset, ((ti f.type).map (·.size)).getD 0)).toArray[i]?) (fun i q hq => by
      unfold stPlace at hq
      split at hq
      ·rename_i off ft hf
       split at hq
       ·rename_i y hyy
        injection hq with hq; subst hq
        simp at hf
        obtain ⟨f, hf, rfl, rfl⟩ := hf
        simp [hf, hyy]
       ·cases hq
      ·cases hq) _ _ _ _ _ hl hcs q1 q2
     refine ⟨rfl, .agg cs', ?_, .agg k2 k3⟩
     have hpar : (parts.map fun (p : Nat × Operand) => (p.1, a.eval p.2)).toList = parts.toList.map fun (p : Nat × Operand) => (p.1, a.eval p.2) := by simp
     simp only [execOp, ho, Instr.build, Sem.run_bind, zaT h1 hz1, Result.andThen_ok, run_underlying h2, hmp]
     rw [hpar, k1]
     simp
    ·cases h
   ·cases h
  ·cases h
 ·rename_i _ z1 z2 zero n et hy
  split at h
  ·rename_i z' hz'
   split at h
   ·rename_i l hl
    split at h
    ·rename_i cs hcs
     injection h with h; subst h
     obtain ⟨i, d, h1, h2, h3, h4, h5, ⟨z, hz1, hz2, hz3⟩, h7⟩ := zag hT hy
     have hd := zgE h5
     subst hd
     obtain ⟨i', d', g1, g2, g3, _⟩ := zag hT hz'
     obtain ⟨q1, q2⟩ := zls (σ := σ) (S := S) (w := w) hz2
     obtain ⟨cs', k1, k2, k3⟩ := zj8 hE _ (fun i => some (i * z'.size, z'.size)) (fun i q hq => hq) _ _ _ _ _ hl hcs q1 q2
     refine ⟨rfl, .agg cs', ?_, .agg k2 k3⟩
     have hpar : (parts.map fun (p : Nat × Operand) => (p.1, a.eval p.2)).toList = parts.toList.map fun (p : Nat × Operand) => (p.1, a.eval p.2) := by simp
     simp only [execOp, ho, Instr.build, Sem.run_bind, zaT h1 hz1, Result.andThen_ok, run_underlying h2, zaw g1, g3]
     rw [hpar, k1]
     simp
    ·cases h
   ·cases h
  ·cases h
 ·cases h
end
section
variable {P : Program} {ti : zaN} {D : Base} {S0 : Nat → Prop} {w0 : World} {σ : Sig} {S : Nat → Prop} {w : World} {s : AS} {a : Act} {o : Oper} {mem : List (Nat × MB)} {U : Nat → Prop}
theorem zkJ (hT : zam P ti) (hid : ¬ U s.next) (hF : Fit D S0 w0 σ S s.mem U w) (hE : zat σ S w s.env a) {t : TypeId} {x y : Operand} (ho : o.op = .makeSlice t x y) {e : Eff} (h : aMakeSlice ti s.next (ti t) (ev s x) (ev s y) = some e) (hn : e.need) :
  ∃ x w' σ', (execOp a.eval o).run P w = .ok (.value x) w' ∧ Fit D S0 w0 σ' S (s.upd e.upd).mem (fun b => U b ∨ b = s.next) w' ∧ zat σ' S w' s.env a ∧ Rel σ' S w' x e.val := by
 unfold aMakeSlice at h
 split at h
 ·rename_i _ _ _ z1 z2 z3 et k1 l k2 c hy hx hc
  split at h
  ·rename_i z hz
   split at h
   ·cases h
   ·rename_i hne
    injection h with h; subst h
    obtain ⟨n1, n2, n3, n4⟩ := hn
    obtain ⟨i, d, h1, h2, h3, h4, h5, h6⟩ := zag hT hy
    have hd := zbU h5
    subst hd
    obtain ⟨i', d', g1, g2, g3, g4, g5, ⟨zv, hz1, hz2, hz3⟩, g7⟩ := zag hT hz
    have hrun := run_make (P := P) w t et i' zv h2 g1 hz1 k1 k2 l c n1 n2 (by rw [g4]; exact n3) n4
    have hzs : zv.cells.size = z.size := by rw [hz2]; simp [g7]
    have hcs : (madeCells zv.cells (c.toNat * i'.size)).size = c.toNat * z.size := by rw [size_madeCells, g3]
    have cell : ∀ (i : Nat) (r : List AV) (j : Nat) (av : AV), (List.replicate c.toNat (z.zero.map fun q => AV.v q.val))[i]? = some r → r[j]? = some av → ∃ x, (madeCells zv.cells (c.toNat * i'.size))[i * z.size + j]? = some x ∧ Rel σ S w x av := fun i r j av hi hj => by
     rw [List.getElem?_replicate] at hi
     split at hi
     ·rename_i hlt
      injection hi with hi; subst hi
      have hj' : j < z.size := by
       have := (List.getElem?_eq_some_iff.1 hj).1
       simpa [g7] using this
      have hlt2 : i * z.size + j < c.toNat * z.size := by
       have : (i + 1) * z.size ≤ c.toNat * z.size := Nat.mul_le_mul_right _ hlt
       rw [Nat.add_mul, Nat.one_mul] at this
       omega
      have hmod : (i * z.size + j) % z.size = j := by rw [Nat.add_comm, Nat.add_mul_mod_self_right, Nat.mod_eq_of_lt hj']
      simp only [List.getElem?_map] at hj
      obtain ⟨q, hq, rfl⟩ := Option.map_eq_some_iff.1 hj
      refine ⟨q.val, ?_, .v _⟩
      unfold madeCells
      rw [Array.getElem?_map, Array.getElem?_range, g3, if_pos hlt2]
      simp only [Option.map_some, hzs, hmod]
      rw [hz2]
      simp [hq]
     ·cases hi
    refine ⟨_, _, _, by simp only [execOp, ho, zee hE hx, zee hE hc, Sem.run_bind, hrun, Result.andThen_ok]; rfl,
     hF.new hid (madeCells zv.cells (c.toNat * i'.size)) et ⟨z.size, List.replicate c.toNat (z.zero.map fun q => .v q.val)⟩ (fun r hr => by rw [List.eq_of_mem_replicate hr]; simp [g7]) (by rw [hcs]; simp) cell, hE.new hF hid _ _, ?_⟩
    refine .ps (k := w.heap.size) (off := 0) (by simp [upd]) (by omega) (.inl (by simp)) ⟨_, et, (0, 0), zbc w _, ?_⟩
    rw [hcs]; omega
  ·cases h
 ·cases h
theorem zbF (hE : zat σ S w s.env a) {x : Option Operand} {d n : Int} (h : bndOf (x.map (ev s)) d = some n) : (x.map a.eval = none ∧ n = d) ∨ ∃ k, x.map a.eval = some (.int k n) := by
 cases x with
 | none => simp [bndOf] at h; exact .inl ⟨rfl, h.symm⟩
 | some x =>
  simp only [Option.map_some, bndOf] at h
  split at h
  ·cases ‹some (ev s x) = none›
  ·rename_i k m hx
   injection h with h; subst h
   injection hx with hx
   exact .inr ⟨k, by simp [zee hE hx]⟩
  ·cases h
theorem zh1 (isSlice : Bool) (len cap : Nat) (lo hi : Option Value) (l h : Int) (hl : (lo = none ∧ l = 0) ∨ ∃ k, lo = some (.int k l)) (hh : (hi = none ∧ h = len) ∨ ∃ k, hi = some (.int k h)) (h0 : 0 ≤ l) (h1 : l ≤ h) (h2 : h ≤ cap) :
  (Instr.sliceBounds isSlice len cap lo hi none).run P w = .ok (l.toNat, h.toNat, cap) w := by
 have q : ((h.toNat : Nat) : Int) = h := Int.toNat_of_nonneg (by omega)
 rcases hl with ⟨rfl, rfl⟩ | ⟨k, rfl⟩ <;> rcases hh with ⟨rfl, rfl⟩ | ⟨k', rfl⟩
 ·simp [Instr.sliceBounds]
 ·simp [Instr.sliceBounds, Instr.sliceBound, asIntOf, (show 0 ≤ h ∧ h ≤ (cap : Int) from ⟨by omega, h2⟩)]
 ·simp [Instr.sliceBounds, Instr.sliceBound, asIntOf, (show 0 ≤ l ∧ l ≤ (len : Int) from ⟨h0, h1⟩)]
 ·simp [Instr.sliceBounds, Instr.sliceBound, asIntOf, q, (show 0 ≤ h ∧ h ≤ (cap : Int) from ⟨by omega, h2⟩), (show 0 ≤ l ∧ l ≤ h from ⟨h0, h1⟩)]
theorem s_slice (hT : zam P ti) (hE : zat σ S w s.env a) {t : TypeId} {x : Operand} {lo hi mx : Option Operand} (ho : o.op = .slice t x lo hi mx) {e : Eff} (h : aSlice ti (ti t) (ev s x) (lo.map (ev s)) (hi.map (ev s)) mx.isSome = some e) (hn : e.need) :
  e.upd = .keep ∧ zbN P a o σ S w e.val := by
 have hm : mx = none := by
  cases mx with
  | none => rfl
  | some m => simp [aSlice] at h
 subst hm
 have slc : ∀ {et : TypeId} {z : TyI} {base : Option Addr} {len cap : Nat} {l hh : Int}, P.underlying t = some (.slice et) → ti et = some z → a.eval x = .slice base len cap →
   ((lo.map a.eval = none ∧ l = 0) ∨ ∃ k, lo.map a.eval = some (.int k l)) → ((hi.map a.eval = none ∧ hh = len) ∨ ∃ k, hi.map a.eval = some (.int k hh)) → 0 ≤ l → l ≤ hh → hh ≤ cap →
   (execOp a.eval o).run P w = .ok (.value (.slice (if cap = l.toNat then base else base.map (·.add (l.toNat * z.size))) (hh.toNat - l.toNat) (cap - l.toNat))) w := fun {et z base len cap l hh} hu hz hx hl hh' h0 h1 h2 => by
  obtain ⟨i', d', g1, g2, g3, g4, g5, ⟨zv, hz1, hz2, hz3⟩, g7⟩ := zag hT hz
  have hb := zh1 (P := P) (w := w) true len cap (lo.map a.eval) (hi.map a.eval) l hh hl hh' h0 h1 h2
  simp only [execOp, ho, Instr.sliceAt, Instr.slice, Sem.run_bind, run_underlying hu, Result.andThen_ok, hx, Option.map_none, hb, zaw g1, g3, Sem.run_pure]
 unfold aSlice at h
 split at h
 ·rename_i _ _ _ z1 z2 z3 et b sz row n hm0 hy hx
  split at h
  ·rename_i z l hh hz hl hh2
   split at h
   ·rename_i hsz
    injection h with h; subst h
    obtain ⟨h0, h1, h2⟩ := hn
    obtain ⟨ii, d, q1, q2, q3, q4, q5, q6⟩ := zag hT hy
    have hd := zbU q5
    subst hd
    rcases zgX (za3 hE hx) with ⟨e1, rfl⟩ | ⟨k, off, cap, f1, f2, f3, f4, c, e, f, f5, f6⟩
    ·have hl0 : l = 0 := by omega
     have hh0 : hh = 0 := by omega
     subst hl0 hh0
     exact ⟨rfl, _, slc q2 hz e1 (zbF hE hl) (zbF hE hh2) h0 h1 (by simp), .ps0⟩
    ·refine ⟨rfl, _, slc q2 hz f2 (zbF hE hl) (zbF hE hh2) h0 h1 (by omega), ?_⟩
     by_cases hcl : cap = l.toNat
     ·rw [if_pos hcl]
      have e0 : hh.toNat - l.toNat = 0 := by omega
      have e1 : cap - l.toNat = 0 := by omega
      rw [e0, e1]
      exact .ps f1 (Nat.le_refl _) (.inr rfl) ⟨c, e, f, f5, by rw [Nat.zero_mul]; omega⟩
     ·rw [if_neg hcl]
      simp only [Option.map_some, zcd]
      refine .ps f1 (by omega) ?_ ⟨c, e, f, f5, ?_⟩
      ·rcases f4 with f4 | f4
       ·left; rw [f4, hsz, Nat.add_mul]
       ·right; omega
      ·rw [hsz]
       have : (cap - l.toNat) * sz = cap * sz - l.toNat * sz := Nat.sub_mul ..
       have : l.toNat * sz ≤ cap * sz := Nat.mul_le_mul_right _ (by omega)
       omega
   ·cases h
  ·cases h
 ·rename_i _ _ _ z1 z2 z3 et sz rows hm0 hy hx
  split at h
  ·rename_i z l hh hz hl hh2
   split at h
   ·rename_i hsz
    injection h with h; subst h
    obtain ⟨h0, h1, h2⟩ := hn
    obtain ⟨ii, d, q1, q2, q3, q4, q5, q6⟩ := zag hT hy
    have hd := zbU q5
    subst hd
    have hr := za3 hE hx
    generalize hpx : a.eval x = px at hr
    have nilR : rows.length = 0 → (rows.drop l.toNat).take (hh.toNat - l.toNat) = [] := fun h => by
     have : rows = [] := List.length_eq_zero_iff.1 h
     rw [this]; simp
    cases hr with
    | nil =>
     have hl0 : l = 0 := by simp at h2; omega
     have hh0 : hh = 0 := by simp at h2; omega
     subst hl0 hh0
     exact ⟨rfl, _, slc q2 hz hpx (zbF hE hl) (zbF hE hh2) h0 h1 (by simp), .nil⟩
    | @e ad cap _ =>
     have hl0 : l = 0 := by simp at h2; omega
     have hh0 : hh = 0 := by simp at h2; omega
     subst hl0 hh0
     refine ⟨rfl, _, slc q2 hz hpx (zbF hE hl) (zbF hE hh2) h0 h1 (by simp), ?_⟩
     simp only [Int.toNat_zero, Nat.zero_mul, Nat.sub_zero, List.drop_zero, List.take_zero]
     split
     ·exact .e
     ·exact .e
    | @sl k off cap _ _ c hk hc hlr hcell hrr =>
     refine ⟨rfl, _, slc q2 hz hpx (zbF hE hl) (zbF hE hh2) h0 h1 (by omega), ?_⟩
     have hlen : ((rows.drop l.toNat).take (hh.toNat - l.toNat)).length = hh.toNat - l.toNat := by simp; omega
     by_cases hcl : cap = l.toNat
     ·rw [if_pos hcl]
      have e0 : hh.toNat - l.toNat = 0 := by omega
      rw [e0, List.take_zero]
      exact .e
     ·rw [if_neg hcl]
      simp only [Option.map_some, zcd]
      have get : ∀ (i : Nat) (r : List AV), ((rows.drop l.toNat).take (hh.toNat - l.toNat))[i]? = some r → rows[l.toNat + i]? = some r := fun i r hi => by
       rw [List.getElem?_take] at hi
       split at hi
       ·rw [List.getElem?_drop] at hi; exact hi
       ·cases hi
      have key := Rel.sl (σ := σ) (S := S) (w := w) (k := k) (off := off + l.toNat * z.size) (cap := cap - l.toNat) (sz := sz) (rows := (rows.drop l.toNat).take (hh.toNat - l.toNat)) (fun i j => c (l.toNat + i) j) hk (by rw [hlen]; omega)
       (fun r hr => hlr r (List.mem_of_mem_drop (List.mem_of_mem_take hr)))
       (fun i r j av hi hj => by
        rw [hsz, show off + l.toNat * sz + i * sz + j = off + (l.toNat + i) * sz + j by rw [Nat.add_mul]; omega]
        exact hcell _ r j av (get i r hi) hj)
       (fun i r j av hi hj => hrr _ r j av (get i r hi) hj)
      rw [hlen] at key
      exact key
   ·cases h
  ·cases h
 ·rename_i _ _ _ z1 z2 z3 et hm0 hy hx
  split at h
  ·rename_i z l hh hz hl hh2
   injection h with h; subst h
   obtain ⟨rfl, rfl⟩ := hn
   obtain ⟨ii, d, q1, q2, q3, q4, q5, q6⟩ := zag hT hy
   have hd := zbU q5
   subst hd
   exact ⟨rfl, _, slc q2 hz (zee hE hx) (zbF hE hl) (zbF hE hh2) (Int.le_refl _) (Int.le_refl _) (by simp), .v _⟩
  ·cases h
 ·rename_i _ _ _ z1 z2 z3 b hm0 hy hx
  split at h
  ·rename_i l hh hl hh2
   injection h with h; subst h
   obtain ⟨h0, h1, h2⟩ := hn
   obtain ⟨ii, d, q1, q2, q3, q4, q5, q6⟩ := zag hT hy
   have hd : d = .string := by cases d <;> simp [TK.ofDesc] at q5; rfl
   subst hd
   have hb := zh1 (P := P) (w := w) false b.size b.size (lo.map a.eval) (hi.map a.eval) l hh (zbF hE hl) (zbF hE hh2) h0 h1 h2
   refine ⟨rfl, .string (b.extract l.toNat hh.toNat), ?_, .v _⟩
   simp only [execOp, ho, Instr.sliceAt, Instr.slice, Sem.run_bind, run_underlying q2, Result.andThen_ok, zee hE hx, Option.map_none, hb, Sem.run_pure, Option.isSome_none, Bool.false_eq_true, if_false]
  ·cases h
 ·cases h
end
section
variable {P : Program} {ti : zaN} {D : Base} {S0 : Nat → Prop} {w0 : World} {σ : Sig} {S : Nat → Prop} {w : World} {s : AS} {a : Act} {o : Oper} {mem : List (Nat × MB)} {U : Nat → Prop}
theorem zda {b : Builtin} {args : Array Operand} {types : Array TypeId} (ho : o.op = .call ⟨.builtin b, args, types⟩) :
  (execOp a.eval o).run P w = (builtin b types o.type (args.map fun | .const _ => true | _ => false) (args.map a.eval)).run P w := by
 simp [execOp, ho, resolve, invoke]; rfl
theorem s_len (hT : zam P ti) (hE : zat σ S w s.env a) {args : Array Operand} {types : Array TypeId} (ho : o.op = .call ⟨.builtin .len, args, types⟩) {x : Operand} (hargs : args.toList = [x]) {e : Eff}
  (h : aLenT ti (headT types.toList) (ev s x) = some e) : e.upd = .keep ∧ zbN P a o σ S w e.val := by
 have ha : args = #[x] := by rw [← Array.toArray_toList (xs := args), hargs]
 subst ha
 unfold aLenT at h
 split at h
 ·rename_i t ht
  split at h
  case isFalse =>
   split at h
   ·rename_i hs
    split at h
    ·rename_i b hx
     injection h with h; subst h
     have hu := zg9 hT hs
     have h0 : types[0]? = some t := by
      rw [headT, List.head?_eq_getElem?] at ht
      simpa using ht
     refine ⟨rfl, _, ?_, .v _⟩
     rw [zda ho]
     simp [builtin, Builtin.len_, h0, zee hE hx, run_underlying hu, goInt]
    ·cases h
   ·cases h
  ·rename_i hs
   obtain ⟨et, hu⟩ := zeS hT hs
   have h0 : types[0]? = some t := by
    rw [headT, List.head?_eq_getElem?] at ht
    simpa using ht
   have run : ∀ (b : Option Addr) (n c : Nat), a.eval x = .slice b n c → (execOp a.eval o).run P w = .ok (.value (.int .i64 n)) w := fun b n c hx => by
    rw [zda ho]
    simp [builtin, Builtin.len_, h0, hx, run_underlying hu, goInt]
   unfold aLen at h
   split at h
   ·rename_i hx
    injection h with h; subst h
    rcases zgX (za3 hE hx) with ⟨q1, q2⟩ | ⟨k, off, cap, _, g2, _⟩
    ·subst q2; exact ⟨rfl, _, run _ _ _ q1, .v _⟩
    ·exact ⟨rfl, _, run _ _ _ g2, .v _⟩
   ·rename_i sz rows hx
    injection h with h; subst h
    have hr := za3 hE hx
    generalize hpx : a.eval x = px at hr
    cases hr with
    | nil => exact ⟨rfl, _, run _ _ _ hpx, .v _⟩
    | e => exact ⟨rfl, _, run _ _ _ hpx, .v _⟩
    | sl c _ _ _ _ _ => exact ⟨rfl, _, run _ _ _ hpx, .v _⟩
   ·rename_i hx
    injection h with h; subst h
    exact ⟨rfl, _, run _ _ _ (zee hE hx), .v _⟩
   ·cases h
 ·cases h
theorem zcO (hE : zat σ S w s.env a) : ∀ (xs : List Operand) (vs : List Value), evL s xs = some (vs.map .v) → xs.map a.eval = vs
 | [], vs, h => by
  simp [evL] at h
  cases vs <;> simp at h ⊢
 | x :: xs, vs, h => by
  simp only [evL] at h
  split at h
  ·rename_i v l hv hl
   cases vs with
   | nil => simp at h
   | cons u us =>
    simp at h
    obtain ⟨h1, h2⟩ := h
    subst h1 h2
    simp [zee hE hv, zcO hE xs us hl]
  ·cases h
theorem zop (a b : Int) : (if b < a then b else a) = min a b := by omega
theorem zoq (a b : Int) : (if b > a then b else a) = max a b := by omega
theorem s_min (hE : zat σ S w s.env a) {args : Array Operand} {types : Array TypeId} (ho : o.op = .call ⟨.builtin .min, args, types⟩) {e : Eff}
  (h : aMin (evL s args.toList) = some e) : e.upd = .keep ∧ zbN P a o σ S w e.val := by
 have run : ∀ vs : List Value, args.toList.map a.eval = vs → ∀ v, (Builtin.min_ types o.type vs.toArray).run P w = .ok v w → (execOp a.eval o).run P w = .ok (.value v) w := fun vs hvs v hv => by
  have : args.map a.eval = vs.toArray := Array.ext' (by rw [Array.toList_map, hvs])
  rw [zda ho, this]
  simp [builtin, hv]
 unfold aMin at h
 split at h
 ·rename_i k x k' y hl
  split at h
  ·rename_i hk
   subst hk
   injection h with h; subst h
   exact ⟨rfl, _, run [.int k x, .int k y] (zcO hE _ _ hl) _ (by simp [Builtin.min_, Builtin.min2, zop]), .v _⟩
  ·cases h
 ·rename_i k x k' y k'' z hl
  split at h
  ·rename_i hk
   obtain ⟨rfl, rfl⟩ := hk
   injection h with h; subst h
   exact ⟨rfl, _, run [.int k x, .int k y, .int k z] (zcO hE _ _ hl) _ (by simp [Builtin.min_, Builtin.min2, zop]), .v _⟩
  ·cases h
 ·rename_i k x k' y k'' z k3 u hl
  split at h
  ·rename_i hk
   obtain ⟨rfl, rfl, rfl⟩ := hk
   injection h with h; subst h
   exact ⟨rfl, _, run [.int k x, .int k y, .int k z, .int k u] (zcO hE _ _ hl) _ (by simp [Builtin.min_, Builtin.min2, zop]), .v _⟩
  ·cases h
 ·cases h
theorem s_max (hE : zat σ S w s.env a) {args : Array Operand} {types : Array TypeId} (ho : o.op = .call ⟨.builtin .max, args, types⟩) {e : Eff}
  (h : aMax (evL s args.toList) = some e) : e.upd = .keep ∧ zbN P a o σ S w e.val := by
 have run : ∀ vs : List Value, args.toList.map a.eval = vs → ∀ v, (Builtin.max_ types o.type vs.toArray).run P w = .ok v w → (execOp a.eval o).run P w = .ok (.value v) w := fun vs hvs v hv => by
  have : args.map a.eval = vs.toArray := Array.ext' (by rw [Array.toList_map, hvs])
  rw [zda ho, this]
  simp [builtin, hv]
 unfold aMax at h
 split at h
 ·rename_i k x k' y hl
  split at h
  ·rename_i hk
   subst hk
   injection h with h; subst h
   exact ⟨rfl, _, run [.int k x, .int k y] (zcO hE _ _ hl) _ (by simp [Builtin.max_, Builtin.max2, zoq]), .v _⟩
  ·cases h
 ·rename_i k x k' y k'' z hl
  split at h
  ·rename_i hk
   obtain ⟨rfl, rfl⟩ := hk
   injection h with h; subst h
   exact ⟨rfl, _, run [.int k x, .int k y, .int k z] (zcO hE _ _ hl) _ (by simp [Builtin.max_, Builtin.max2, zoq]), .v _⟩
  ·cases h
 ·rename_i k x k' y k'' z k3 u hl
  split at h
  ·rename_i hk
   obtain ⟨rfl, rfl, rfl⟩ := hk
   injection h with h; subst h
   exact ⟨rfl, _, run [.int k x, .int k y, .int k z, .int k u] (zcO hE _ _ hl) _ (by simp [Builtin.max_, Builtin.max2, zoq]), .v _⟩
  ·cases h
 ·cases h
def zfT (U : Nat → Prop) (id : Nat) : Upd → Nat → Prop
 | .new _ => fun b => U b ∨ b = id
 | .app _ _ => fun b => U b ∨ b = id
 | _ => U
theorem zm9 {n : Nat} {y : Option TyI} {e : Eff} (h : aAlloc n y = some e) (U : Nat → Prop) (id : Nat) : zfT U id e.upd = fun b => U b ∨ b = id := by
 unfold aAlloc at h
 split at h
 ·injection h with h; subst h; rfl
 ·cases h
theorem aBox_upd {n : Nat} {y : Option AV} {e : Eff} (h : aBox n y = some e) (U : Nat → Prop) (id : Nat) : zfT U id e.upd = fun b => U b ∨ b = id := by
 unfold aBox at h
 split at h
 ·cases h
 unfold aBox0 at h
 split at h
 ·split at h
  ·injection h with h; subst h; rfl
  ·cases h
 ·cases h
theorem zhR {ti : zaN} {n : Nat} {y : Option TyI} {l c : Option AV} {e : Eff} (h : aMakeSlice ti n y l c = some e) (U : Nat → Prop) (id : Nat) : zfT U id e.upd = fun b => U b ∨ b = id := by
 unfold aMakeSlice at h
 split at h
 ·split at h
  ·split at h
   ·cases h
   ·injection h with h; subst h; rfl
  ·cases h
 ·cases h
theorem zm5 {mem : List (Nat × MB)} {y : Option TyI} {x z : Option AV} {e : Eff} (h : aStore mem y x z = some e) (U : Nat → Prop) (id : Nat) : zfT U id e.upd = U := by
 unfold aStore at h
 split at h
 ·split at h
  ·split at h
   ·injection h with h; subst h; rfl
   ·cases h
  ·cases h
 ·cases h
def Ran (P : Program) (D : Base) (S0 : Nat → Prop) (w0 : World) (S : Nat → Prop) (s : AS) (a : Act) (o : Oper) (w : World) (e : Eff) (U : Nat → Prop) : Prop :=
 ∃ x w' σ', ((execOp a.eval o).run P w = .ok (.value x) w' ∨ ((execOp a.eval o).run P w = .ok .skip w' ∧ x = undef)) ∧
  Fit D S0 w0 σ' S (s.upd e.upd).mem (zfT U s.next e.upd) w' ∧ zat σ' S w' s.env a ∧ Rel σ' S w' x e.val
theorem zap (hF : Fit D S0 w0 σ S s.mem U w) (hE : zat σ S w s.env a) {e : Eff} (h : e.upd = .keep ∧ zbN P a o σ S w e.val) : Ran P D S0 w0 S s a o w e U := by
 obtain ⟨h1, x, h2, h3⟩ := h
 refine ⟨x, w, σ, .inl h2, ?_, hE, h3⟩
 rw [h1]; exact hF
theorem zks (hT : zam P ti) (hid : ¬ U s.next) (hF : Fit D S0 w0 σ S s.mem U w) (hE : zat σ S w s.env a) {e : Eff} (h : aop ti s o.op = some e) (hn : e.need) : Ran P D S0 w0 S s a o w e U := by
 cases ho : o.op with
 | move x =>
  simp only [ho, aop] at h
  split at h
  ·rename_i av hv; injection h with h; subst h; exact zap hF hE ⟨rfl, s_move hE (.inl ho) hv⟩
  ·cases h
 | assign x =>
  simp only [ho, aop] at h
  split at h
  ·rename_i av hv; injection h with h; subst h; exact zap hF hE ⟨rfl, s_move hE (.inr ho) hv⟩
  ·cases h
 | pick c x y => simp only [ho, aop] at h; exact zap hF hE (s_pick hE ho h)
 | alloc t =>
  simp only [ho, aop] at h
  obtain ⟨x, w', σ', h1, h2, h3, h4⟩ := s_alloc (P := P) hT hid hF hE ho h
  rw [← zm9 h U s.next] at h2
  exact ⟨x, w', σ', .inl h1, h2, h3, h4⟩
 | box t x =>
  simp only [ho, aop] at h
  obtain ⟨x, w', σ', h1, h2, h3, h4⟩ := s_box (P := P) hid hF hE ho h
  rw [← aBox_upd h U s.next] at h2
  exact ⟨x, w', σ', .inl h1, h2, h3, h4⟩
 | makeSlice t l c =>
  simp only [ho, aop] at h
  obtain ⟨x, w', σ', h1, h2, h3, h4⟩ := zkJ (P := P) hT hid hF hE ho h hn
  rw [← zhR h U s.next] at h2
  exact ⟨x, w', σ', .inl h1, h2, h3, h4⟩
 | slice t x lo hi mx => simp only [ho, aop] at h; exact zap hF hE (s_slice hT hE ho h hn)
 | build t parts => simp only [ho, aop] at h; exact zap hF hE (s_build hT hE ho h)
 | load t x => simp only [ho, aop] at h; exact zap hF hE (s_load hT hF hE ho h hn)
 | store t x y =>
  simp only [ho, aop] at h
  obtain ⟨w', h1, h2, h3, h4⟩ := s_store (P := P) hT hF hE ho h hn
  have hg := zm5 h U s.next
  generalize hU : zfT U s.next e.upd = U' at hg
  subst hg
  rw [← hU] at h2
  exact ⟨undef, w', σ, .inr ⟨h1, rfl⟩, h2, hE.mono (fun _ _ h => h) (fun _ h => h) h3, by rw [h4]; exact .v _⟩
 | nilCheck x => simp only [ho, aop] at h; exact zap hF hE (zmx hE ho h)
 | binOp op t x y t' => simp only [ho, aop] at h; exact zap hF hE (s_bin hT hE ho h hn)
 | unOp op t x => simp only [ho, aop] at h; exact zap hF hE (s_un hE ho h hn)
 | convert t u x => simp only [ho, aop] at h; exact zap hF hE (znD hT hE ho h)
 | makeInterface t x => simp only [ho, aop] at h; exact zap hF hE (zgT hT hE ho h)
 | makeFunc fn first captured => simp only [ho, aop] at h; exact zap hF hE (zmy hE ho h)
 | fieldAddr t x f => simp only [ho, aop] at h; exact zap hF hE (zkL hT hE ho h)
 | field t x f => simp only [ho, aop] at h; exact zap hF hE (s_field hT hE ho h)
 | indexAddr t x i => simp only [ho, aop] at h; exact zap hF hE (zkK hT hE ho h hn)
 | index t x i => simp only [ho, aop] at h; exact zap hF hE (s_index hT hE ho h hn)
 | typeAssert x t u c =>
  simp only [ho, aop] at h
  split at h
  ·rename_i hc; rw [hc] at ho; exact zap hF hE (s_assert hT hE ho h)
  ·cases h
 | extract x i => simp only [ho, aop] at h; exact zap hF hE (znC hE ho h)
 | call c =>
  obtain ⟨cl, args, types⟩ := c
  cases cl with
  | builtin b =>
   simp only [ho, aop] at h
   unfold aBuiltin at h
   split at h
   ·rename_i x hargs; exact zap hF hE (s_len hT hE ho hargs h)
   ·exact zap hF hE (s_min hE ho h)
   ·exact zap hF hE (s_max hE ho h)
   ·cases h
  | value f => simp [ho, aop] at h
  | invoke r m => simp [ho, aop] at h
 | _ => simp [ho, aop] at h
end
abbrev Gd := Option (Option Tmp × Bool)
inductive It where
 | code (c : Code)
 | op (o : Oper) (g : Gd)
 | blk (id : Nat)
 | lp (k : Nat)
def gd (ops : List Oper) (o : Oper) : Gd :=
 match o.guard with
 | none => none
 | some (j, want) => some ((ops[j]?).bind (·.dst), want)
def zeb (ops : List Oper) : List Oper → List It
 | [] => []
 | o :: l => .op o (gd ops o) :: zeb ops l
def zcu (g : Gd) (tmps : Array Value) : Bool :=
 match g with
 | none => true
 | some (t, want) => (match t.bind (tmps[·]?) with | some (.bool b) => some b | _ => none) == some want
def zaJ (P : Program) (R : Exit → Act → World → Prop) (M : Nat → Act → World → Prop) : List It → Exit → Act → World → Prop
 | [], e, a, w => R e a w
 | .code c :: r, .normal, a, w => c.wp P (zaJ P R M r) a w
 | .op o g :: r, .normal, a, w => if zcu g a.tmps then o.wp P a w (zaJ P R M r .normal) (zaJ P R M r) else zaJ P R M r .normal (a.put o.dst undef) w
 | .blk _ :: r, .normal, a, w => zaJ P R M r .normal a w
 | .lp k :: _, .normal, a, w => M k a w
 | .blk id :: r, .exit id', a, w => if id' = id then zaJ P R M r .normal a w else zaJ P R M r (.exit id') a w
 | _ :: r, e, a, w => zaJ P R M r e a w
def zjZ : List It → List Nat
 | [] => []
 | .lp k :: r => k :: zjZ r
 | _ :: r => zjZ r
def fresh : List It → Nat
 | [] => 0
 | .lp k :: r => max (k + 1) (fresh r)
 | _ :: r => fresh r
theorem zdw : ∀ (r : List It) (k : Nat), k ∈ zjZ r → k < fresh r
 | [], k, h => by simp [zjZ] at h
 | .lp j :: r, k, h => by
  simp only [zjZ, List.mem_cons] at h
  simp only [fresh]
  rcases h with h | h
  ·omega
  ·have := zdw r k h; omega
 | .code _ :: r, k, h => zdw r k h
 | .op _ _ :: r, k, h => zdw r k h
 | .blk _ :: r, k, h => zdw r k h
section
variable {P : Program} {R : Exit → Act → World → Prop} {M : Nat → Act → World → Prop} {r : List It} {a : Act} {w : World}
theorem Oper.wp_monoQ {o : Oper} {a : Act} {w : World} {K K' : Act → World → Prop} {Q Q' : Exit → Act → World → Prop} (hk : ∀ a w, K a w → K' a w) (hq : ∀ e a w, e ≠ .normal → Q e a w → Q' e a w) (h : o.wp P a w K Q) : o.wp P a w K' Q' := by
 unfold Oper.wp at h ⊢
 generalize (execOp a.eval o).run P w = res at h ⊢
 cases res with
 | ok n w' =>
  cases n <;> simp only [Oper.upon] at h ⊢
  case value v => exact hk _ _ h
  case skip => exact hk _ _ h
  case defer d => exact hk _ _ h
  case enter f args =>
   refine h.mono fun e w'' q => ?_
   cases e with
   | returned v => exact hk _ _ q
   | panicked chain => exact hq _ _ _ (by simp) q
   | outgrown => obtain ⟨a', w', hq'⟩ := q; exact ⟨a', w', hq _ _ _ (by simp) hq'⟩
  case row row args => exact h.mono fun v w'' q => hk _ _ q
 | halt x w' =>
  cases x <;> simp only [Oper.upon] at h ⊢
  exact hq _ _ _ (by simp) h
theorem zd4 {M' : Nat → Act → World → Prop} : ∀ (r : List It), (∀ k a w, k ∈ zjZ r → M k a w → M' k a w) → ∀ (e : Exit) (a : Act) (w : World), zaJ P R M r e a w → zaJ P R M' r e a w
 | [], _, _, _, _, h => h
 | .code c :: r, hm, e, a, w, h => by
  have ih := zd4 r hm
  cases e <;> simp only [zaJ] at h ⊢ <;> first | exact ih _ _ _ h | exact wp_mono h ih
 | .op o g :: r, hm, e, a, w, h => by
  have ih := zd4 r hm
  cases e <;> simp only [zaJ] at h ⊢ <;> first | exact ih _ _ _ h | skip
  split
  ·rename_i hg; rw [if_pos hg] at h; exact Oper.wp_monoQ (ih _) (fun e a w _ => ih e a w) h
  ·rename_i hg; rw [if_neg hg] at h; exact ih _ _ _ h
 | .blk id :: r, hm, e, a, w, h => by
  have ih := zd4 r hm
  cases e <;> simp only [zaJ] at h ⊢ <;> first | exact ih _ _ _ h | skip
  split
  ·rename_i hg; rw [if_pos hg] at h; exact ih _ _ _ h
  ·rename_i hg; rw [if_neg hg] at h; exact ih _ _ _ h
 | .lp k :: r, hm, e, a, w, h => by
  have ih := zd4 (M' := M') r (fun k' a w hk => hm k' a w (by simp [zjZ, hk]))
  cases e <;> simp only [zaJ] at h ⊢ <;> first | exact ih _ _ _ h | exact hm k a w (by simp [zjZ]) h
theorem zlE {x y : Code} (h : zaJ P R M (.code x :: .code y :: r) .normal a w) : zaJ P R M (.code (.seq x y) :: r) .normal a w := by
 simp only [zaJ] at h ⊢
 refine wp_seq (wp_mono h fun e a w q => ?_)
 cases e <;> simpa only [zaJ, Exit.then] using q
theorem zfM {id : Nat} {c : Code} (h : zaJ P R M (.code c :: .blk id :: r) .normal a w) : zaJ P R M (.code (.block id c) :: r) .normal a w := by
 simp only [zaJ] at h ⊢
 refine wp_block (wp_mono h fun e a w q => ?_)
 cases e <;> simpa only [zaJ, Exit.inBlock] using q
theorem znK (h : zaJ P R M r .normal a w) : zaJ P R M (.code .skip :: r) .normal a w := wp_skip h
theorem real_ret (h : zaJ P R M r .ret a w) : zaJ P R M (.code .ret :: r) .normal a w := wp_ret h
theorem znL {id : Nat} (h : zaJ P R M r (.exit id) a w) : zaJ P R M (.code (.exit id) :: r) .normal a w := wp_exit h
theorem znN {c : Operand} {x y : Code} {t : Bool} (hc : a.eval c = .bool t) (h : zaJ P R M (.code (if t then x else y) :: r) .normal a w) : zaJ P R M (.code (.cond c x y) :: r) .normal a w := wp_cond hc h
theorem zie (ops : Array Oper) (o : Oper) (tmps : Array Value) : Region.wanted o (yielded ops tmps) = zcu (gd ops.toList o) tmps := by
 unfold Region.wanted gd zcu yielded
 cases o.guard with
 | none => rfl
 | some p => obtain ⟨j, want⟩ := p; simp; rfl
theorem zd5 (ops : List Oper) : ∀ (l : List Oper) (e : Exit) (a : Act) (w : World), e ≠ .normal → zaJ P R M (zeb ops l ++ r) e a w = zaJ P R M r e a w
 | [], e, a, w, _ => rfl
 | o :: l, e, a, w, h => by
  have ih := zd5 ops l e a w h
  cases e <;> first | exact (h rfl).elim | (simp only [zeb, List.cons_append, zaJ]; exact ih)
theorem zg2 (ops : Array Oper) : ∀ (l : List Oper) (a : Act) (w : World), zaJ P R M (zeb ops.toList l ++ r) .normal a w → wpList P ops (zaJ P R M r) l a w
 | [], a, w, h => h
 | o :: l, a, w, h => by
  simp only [zeb, List.cons_append, zaJ] at h
  unfold wpList
  rw [zie]
  split
  ·rename_i hg
   rw [if_pos hg] at h
   refine .inl (Oper.wp_monoQ (fun a w => zg2 ops l a w) (fun e a w he q => ?_) h)
   rw [zd5 _ _ _ _ _ he] at q; exact q
  ·rename_i hg
   rw [if_neg hg] at h
   exact zg2 ops l _ _ h
theorem zg1 {id : Nat} {ops : Array Oper} (h : zaJ P R M (zeb ops.toList ops.toList ++ r) .normal a w) : zaJ P R M (.code (.region id ops false) :: r) .normal a w := by
 simp only [zaJ]
 exact wp_region_list (zg2 ops _ _ _ h)
def zfN (id : Nat) : List It → Option (List It)
 | [] => none
 | .blk id' :: r => if id' = id then some r else zfN id r
 | _ :: r => zfN id r
theorem zds (id : Nat) : ∀ (r r' : List It) (a : Act) (w : World), zfN id r = some r' → zaJ P R M r' .normal a w → zaJ P R M r (.exit id) a w
 | [], r', a, w, h, _ => by simp [zfN] at h
 | .blk id' :: r, r', a, w, h, k => by
  simp only [zfN] at h
  simp only [zaJ]
  split at h
  ·rename_i he
   injection h with h; subst h
   rw [if_pos he.symm]; exact k
  ·rename_i he
   rw [if_neg (fun e => he e.symm)]
   exact zds id r r' a w h k
 | .code c :: r, r', a, w, h, k => by simp only [zfN] at h; simp only [zaJ]; exact zds id r r' a w h k
 | .op o g :: r, r', a, w, h, k => by simp only [zfN] at h; simp only [zaJ]; exact zds id r r' a w h k
 | .lp _ :: r, r', a, w, h, k => by simp only [zfN] at h; simp only [zaJ]; exact zds id r r' a w h k
theorem zfi : ∀ (r : List It), R .ret a w → zaJ P R M r .ret a w
 | [], h => h
 | .blk _ :: r, h => by simp only [zaJ]; exact zfi r h
 | .code _ :: r, h => by simp only [zaJ]; exact zfi r h
 | .op _ _ :: r, h => by simp only [zaJ]; exact zfi r h
 | .lp _ :: r, h => by simp only [zaJ]; exact zfi r h
end
def zbS (P : Program) (f : FuncId) : Prop := ∀ (args : Array Value) (w : World), (callFunc f args).run P w = .ok (.enter f args) w
structure CallOK (P : Program) (G : GL) (f : FuncId) (args : List AV) (res : AV) : Prop where
 enters : zbS P f
 cla : ∀ x ∈ args, Cl x
 clr : Cl res
 runs : ∀ (S : Nat → Prop) (w : World) (vs : Array Value), (∀ k, S k → k < w.heap.size) → GS G S w → vs.size = args.length →
  (∀ (i : Nat) (x : Value) (av : AV), vs[i]? = some x → args[i]? = some av → Rel nσ S w x av) →
  Calls P f vs w fun e w' => Below w.heap.size w w' ∧ ∃ x, e = .returned x ∧ Rel nσ (zf4 S w w') w' x res
structure Cx where
 P : Program
 G : GL
 ti : zaN
 nt : Nat
 an : Bool
 pn : Bool
 kp : List Nat
def znf (D : Base) (C : Cx) : Prop := D.G = C.G ∧ (C.an = false → D.an = none) ∧ D.fx.map Prod.fst = C.kp
def PCh (ch : List PanicEntry) : Prop := ch = [{ v := .iface 91 (.agg #[]), recovered := false, goexit := false }]
def PBel (D : Base) (w0 w : World) (ch : List PanicEntry) : Prop := PCh ch ∧ Bel D w0 w
def PanOK (C : Cx) (D : Base) (w0 : World) (Q : Exit → Act → World → Prop) : Prop := C.pn = true → ∀ (ch : List PanicEntry) (a : Act) (w : World), Fr D a → PBel D w0 w ch → Q (.panic ch) a w
structure Rc where
 val : AV
 up : Upd
 rd : Option Nat
 wr : Option Nat
def isCall : Op → Bool
 | .call ⟨.value _, _, _⟩ => true
 | _ => false
def blockOf : Option AV → Option Nat
 | some (.p b _ _ _) => some b
 | _ => none
def rdOf (s : AS) : Op → Option Nat
 | .load _ x => blockOf (ev s x)
 | _ => none
def wrOf (s : AS) : Op → Option Nat
 | .store _ x _ => blockOf (ev s x)
 | .alloc _ => some s.next
 | .box _ _ => some s.next
 | .makeSlice _ _ _ => some s.next
 | _ => none
def zjq (C : Cx) (s : AS) (o : Oper) (av : AV) : Prop := ∀ (σ : Sig) (S : Nat → Prop) (a : Act) (w : World), (∀ k, S k → k < w.heap.size) → GS C.G S w → (∀ x ∈ o.op.operands.toList, ∀ b, ev s x = some b → Rel σ S w (a.eval x) b) →
 ∃ v w', (execOp a.eval o).run C.P w = .ok (.value v) w' ∧ Below w.heap.size w w' ∧ Rel σ (zf4 S w w') w' v av
def tch (id : Nat) (u : Upd) (b : Nat) : Bool := match u with
 | .keep => false
 | .new _ => b == id
 | .set c _ => b == c
 | .app c _ => b == id || b == c
def zm1 : Op → Bool
 | .call ⟨.builtin .append, _, _⟩ => true
 | _ => false
def OpR (C : Cx) (s : AS) (o : Oper) (rc : Rc) : Prop := ∀ (D : Base) (S0 : Nat → Prop) (w0 : World) (σ : Sig) (S U : Nat → Prop) (a : Act) (w : World) (K : Act → World → Prop) (Q : Exit → Act → World → Prop), znf D C → ¬ U s.next →
 Fit D S0 w0 σ S s.mem U w → zat σ S w s.env a →
 (∀ (x : Value) (w' : World) (σ' : Sig) (S' : Nat → Prop), Fit D S0 w0 σ' S' (s.upd rc.up).mem (zfT U s.next rc.up) w' → zat σ' S' w' s.env a → Rel σ' S' w' x rc.val → K (a.put o.dst x) w') → o.wp C.P a w K Q
def zkA (s s' : AS) (o : Oper) (rc : Rc) : Prop := (∀ x ∈ o.op.operands.toList, ev s x = ev s' x) ∧ (∀ b, rc.rd = some b ∨ rc.wr = some b → look s.mem b = look s'.mem b) ∧ s.next = s'.next
theorem zkA.refl (s : AS) (o : Oper) (rc : Rc) : zkA s s o rc := ⟨fun _ _ => rfl, fun _ _ => rfl, rfl⟩
theorem zkA.trans {s s' s'' : AS} {o : Oper} {rc : Rc} (h : zkA s s' o rc) (k : zkA s' s'' o rc) : zkA s s'' o rc := ⟨fun x hx => (h.1 x hx).trans (k.1 x hx), fun b hb => (h.2.1 b hb).trans (k.2.1 b hb), h.2.2.trans k.2.2⟩
structure OwnOK (C : Cx) (s : AS) (o : Oper) (rc : Rc) : Prop where
 nocall : isCall o.op = false
 noop : ∀ s', aop C.ti s' o.op = none
 run : ∀ s', zkA s s' o rc → OpR C s' o rc
 tch : ∀ b, tch s.next rc.up b = true → rc.wr = some b ∨ (rc.rd = some b ∧ zm1 o.op = true)
def CallRc (C : Cx) (s : AS) (g : FuncId) (as : List AV) (rc : Rc) : Prop := ∀ (D : Base) (S0 : Nat → Prop) (w0 : World) (σ : Sig) (S U : Nat → Prop) (env : List (Nat × AV)) (a : Act) (w : World) (vs : Array Value), znf D C → ¬ U s.next →
 Fit D S0 w0 σ S s.mem U w → zat σ S w env a → vs.size = as.length → (∀ (i : Nat) (x : Value) (av : AV), vs[i]? = some x → as[i]? = some av → Rel σ S w x av) →
 Calls C.P g vs w fun e w' => (∃ x, e = .returned x ∧ ∃ σ' S', Fit D S0 w0 σ' S' (s.upd rc.up).mem (zfT U s.next rc.up) w' ∧ zat σ' S' w' env a ∧ Rel σ' S' w' x rc.val) ∨ (C.pn = true ∧ ∃ ch, e = .panicked ch ∧ PBel D w0 w' ch)
structure OwnCall (C : Cx) (s : AS) (g : FuncId) (as : List AV) (rc : Rc) : Prop where
 enters : zbS C.P g
 run : ∀ s', (∀ b, rc.rd = some b ∨ rc.wr = some b → look s.mem b = look s'.mem b) → s.next = s'.next → CallRc C s' g as rc
 tch : ∀ b, tch s.next rc.up b = true → rc.wr = some b
inductive RecOK (C : Cx) (s : AS) (o : Oper) : Rc → Prop
 | callo (f : Operand) (args : Array Operand) (ty : Array TypeId) (g : FuncId) (caps as : List AV) (rc : Rc) (ho : o.op = .call ⟨.value f, args, ty⟩) (hf : ev s f = some (.fn g caps)) (ha : evL s args.toList = some as)
   (h : OwnCall C s g (as ++ caps) rc) : RecOK C s o rc
 | plain (e : Eff) (hc : isCall o.op = false) (he : aop C.ti s o.op = some e) (hn : e.need) : RecOK C s o ⟨e.val, e.upd, rdOf s o.op, wrOf s o.op⟩
 | call (f : Operand) (args : Array Operand) (ty : Array TypeId) (g : FuncId) (caps as args' : List AV) (res : AV) (ho : o.op = .call ⟨.value f, args, ty⟩) (hf : ev s f = some (.fn g caps)) (ha : evL s args.toList = some as)
   (hle : LeL (as ++ caps) args') (hk : CallOK C.P C.G g args' res) : RecOK C s o ⟨res, .keep, none, none⟩
 | sem (av : AV) (hc : isCall o.op = false) (he : aop C.ti s o.op = none) (h : zjq C s o av) : RecOK C s o ⟨av, .keep, rdOf s o.op, wrOf s o.op⟩
 | own (rc : Rc) (h : OwnOK C s o rc) : RecOK C s o rc
theorem zid {t : Tmp} {want : Bool} {x : Value} {tmps : Array Value} (hv : tmps[t]? = some x) (hx : x ≠ .bool want) : zcu (some (some t, want)) tmps = false := by
 simp only [zcu, Option.bind_some, hv]
 cases x with
 | bool b => simp only [beq_eq_false_iff_ne, ne_eq, Option.some.injEq]; intro h; exact hx (by rw [h])
 | _ => rfl
inductive RecG (C : Cx) (s : AS) (o : Oper) : Gd → Rc → Prop
 | none {rc : Rc} (h : RecOK C s o rc) : RecG C s o .none rc
 | yes {t : Tmp} {want : Bool} {rc : Rc} (hl : look s.env t = some (.v (.bool want))) (h : RecOK C s o rc) : RecG C s o (some (some t, want)) rc
 | no {t : Tmp} {want : Bool} {x : Value} (hl : look s.env t = some (.v x)) (hx : x ≠ .bool want) : RecG C s o (some (some t, want)) ⟨.v undef, .keep, .none, .none⟩
def kpOK : List Nat → Nat → Prop
 | [], _ => True
 | k :: l, d => ¬ k = d ∧ kpOK l d
theorem kpOK.ne : ∀ {l : List Nat} {d : Nat}, kpOK l d → ∀ k ∈ l, k ≠ d
 | [], _, _, k, hk => by cases hk
 | j :: l, d, h, k, hk => by
  rcases List.mem_cons.1 hk with rfl | hk
  ·exact h.1
  ·exact kpOK.ne h.2 k hk
theorem kpOK_nil (d : Nat) : kpOK [] d = True := (rfl)
theorem kpOK_cons (k : Nat) (l : List Nat) (d : Nat) : kpOK (k :: l) d = (¬ k = d ∧ kpOK l d) := (rfl)
def dstOK (C : Cx) : Option Tmp → Prop
 | some d => d < C.nt ∧ kpOK C.kp d
 | none => True
theorem zhm {C : Cx} {D : Base} (hG : znf D C) {o : Option Tmp} (ho : dstOK C o) : ∀ d, o = some d → ∀ p ∈ D.fx, p.1 ≠ d := fun d hd p hp => by
 subst hd
 exact kpOK.ne ho.2 p.1 (by rw [← hG.2.2]; exact List.mem_map_of_mem hp)
def AS.did (s : AS) (o : Oper) (rc : Rc) : AS := (s.upd rc.up).put o.dst rc.val
section
variable {C : Cx} {D : Base} {S0 : Nat → Prop} {w0 : World} {σ : Sig} {S U : Nat → Prop} {s : AS} {a : Act} {w : World} {o : Oper}
theorem zkR (hT : zam C.P C.ti) (hid : ¬ U s.next) (hF : Fit D S0 w0 σ S s.mem U w) (hE : zat σ S w s.env a) {e : Eff} (he : aop C.ti s o.op = some e) (hn : e.need) {K : Act → World → Prop} {Q : Exit → Act → World → Prop}
  (hK : ∀ x w' σ' S', Fit D S0 w0 σ' S' (s.upd e.upd).mem (zfT U s.next e.upd) w' → zat σ' S' w' s.env a → Rel σ' S' w' x e.val → K (a.put o.dst x) w') : o.wp C.P a w K Q := by
  obtain ⟨x, w', σ', hrun, hF', hE', hr⟩ := zks (P := C.P) (o := o) hT hid hF hE he hn
  have hk := hK x w' σ' S hF' hE' hr
  unfold Oper.wp
  rcases hrun with hrun | ⟨hrun, rfl⟩
  ·rw [hrun]; exact hk
  ·rw [hrun]; exact hk
theorem zgZ (hT : zam C.P C.ti) (hG : znf D C) (hid : ¬ U s.next) (hF : Fit D S0 w0 σ S s.mem U w) (hE : zat σ S w s.env a) {rc : Rc} (h : RecOK C s o rc) {K : Act → World → Prop} {Q : Exit → Act → World → Prop} (hP : C.pn = true → ∀ (ch : List PanicEntry) (w : World), PBel D w0 w ch → Q (.panic ch) a w)
  (hK : ∀ x w' σ' S', Fit D S0 w0 σ' S' (s.upd rc.up).mem (zfT U s.next rc.up) w' → zat σ' S' w' s.env a → Rel σ' S' w' x rc.val → K (a.put o.dst x) w') : o.wp C.P a w K Q := by
 cases h with
 | own rc h => exact h.run s (.refl _ _ _) D S0 w0 σ S U a w K Q hG hid hF hE hK
 | callo f args ty g caps as rc ho hf ha h =>
  have hfv := za3 hE hf
  generalize hfe : a.eval f = fv at hfv
  obtain ⟨e1, e2⟩ := zeA hE _ _ ha
  cases hfv with
  | @fn _ cs _ hc1 hc2 =>
   have hrun : (execOp a.eval o).run C.P w = .ok (.enter g (args.map a.eval ++ cs)) w := by
    simp [execOp, ho, resolve, hfe, Deferred.ofValue, invoke, h.enters _ _]
   unfold Oper.wp
   rw [hrun]
   simp only [Oper.upon]
   have e1' : args.size = as.length := by simpa using e1
   have hlen : (args.map a.eval ++ cs).size = (as ++ caps).length := by simp [hc1, e1']
   refine (h.run s (fun _ _ => rfl) rfl D S0 w0 σ S U s.env a w _ hG hid hF hE hlen (fun i x av hx hav => ?_)).mono fun e w' hw => ?_
   ·rw [Array.getElem?_append] at hx
    rw [List.getElem?_append] at hav
    simp only [Array.size_map, e1'] at hx
    split at hx
    ·rename_i hi
     rw [if_pos hi] at hav
     exact e2 i x av (by simpa using hx) hav
    ·rename_i hi
     rw [if_neg hi] at hav
     exact hc2 _ x av hx hav
   ·rcases hw with ⟨x, rfl, σ', S', h1, h2, h3⟩ | ⟨hp, ch, rfl, hb⟩
    ·exact hK x w' σ' S' h1 h2 h3
    ·exact hP hp ch w' hb
 | plain e hc he hn =>
  obtain ⟨x, w', σ', hrun, hF', hE', hr⟩ := zks (P := C.P) (o := o) hT hid hF hE he hn
  have hk := hK x w' σ' S hF' hE' hr
  unfold Oper.wp
  rcases hrun with hrun | ⟨hrun, rfl⟩
  ·rw [hrun]; exact hk
  ·rw [hrun]; exact hk
 | sem av hc he h =>
  obtain ⟨v, w', hrun, hb, hr⟩ := h σ S a w hF.sbd (by rw [← hG.1]; exact hF.gs) (fun x _ b hb => za3 hE hb)
  unfold Oper.wp
  rw [hrun]
  exact hK v w' σ (zf4 S w w') (hF.grow hb) (hE.grow hF hb) hr
 | call f args ty g caps as args' res ho hf ha hle hcall =>
  have hfv := za3 hE hf
  generalize hfe : a.eval f = fv at hfv
  obtain ⟨e1, e2⟩ := zeA hE _ _ ha
  cases hfv with
  | @fn _ cs _ hc1 hc2 =>
   have hrun : (execOp a.eval o).run C.P w = .ok (.enter g (args.map a.eval ++ cs)) w := by
    simp [execOp, ho, resolve, hfe, Deferred.ofValue, invoke, hcall.enters _ _]
   unfold Oper.wp
   rw [hrun]
   simp only [Oper.upon]
   have hlen : (args.map a.eval ++ cs).size = args'.length := by rw [← hle.length]; simp [hc1]; simpa using e1
   have hargs' : ∀ (i : Nat) (x : Value) (av : AV), (args.map a.eval ++ cs)[i]? = some x → (as ++ caps)[i]? = some av → Rel σ S w x av := fun i x av hx hav => by
    rw [Array.getElem?_append] at hx
    rw [List.getElem?_append] at hav
    have e1' : args.size = as.length := by simpa using e1
    simp only [Array.size_map, e1'] at hx
    split at hx
    ·rename_i hi
     rw [if_pos hi] at hav
     exact e2 i x av (by simpa using hx) hav
    ·rename_i hi
     rw [if_neg hi] at hav
     exact hc2 _ x av hx hav
   refine (hcall.runs S w _ hF.sbd (by rw [← hG.1]; exact hF.gs) hlen (fun i x av hx hav => ?_)).mono fun e w' hw => ?_
   ·exact hcall.cla av (List.mem_of_getElem? hav) _ _ _ _ (hle.toRel hargs' i x av hx hav)
   ·obtain ⟨hb, x, rfl, hr⟩ := hw
    exact hK x w' σ (zf4 S w w') (hF.grow hb) (hE.grow hF hb) (hr.mono (fun b k h => by cases h) (fun _ h => h) ⟨fun _ _ => rfl, fun b k c e f hs hc => ⟨c, e, f, hc, Nat.le_refl _⟩⟩)
theorem zgM (s : AS) (u : Upd) : (s.upd u).env = s.env := by cases u <;> rfl
end
theorem ev_congr {s s' : AS} {x : Operand} (h : ∀ t, x = .tmp t → look s.env t = look s'.env t) : ev s x = ev s' x := by
 cases x <;> simp only [ev]
 exact h _ rfl
theorem zdy {s s' : AS} : ∀ (xs : List Operand), (∀ x ∈ xs, ev s x = ev s' x) → evL s xs = evL s' xs
 | [], _ => rfl
 | x :: xs, h => by
  simp only [evL]
  rw [h x (by simp), zdy xs (fun y hy => h y (by simp [hy]))]
theorem zf9 {s s' : AS} (place : Nat → Option (Nat × Nat)) : ∀ (ps : List (Nat × Operand)), (∀ p ∈ ps, ev s p.2 = ev s' p.2) → placed place s ps = placed place s' ps
 | [], _ => rfl
 | (i, x) :: ps, h => by
  simp only [placed]
  have e : ev s x = ev s' x := h (i, x) (by simp)
  rw [e, zf9 place ps (fun y hy => h y (by simp [hy]))]
theorem zkr {mem mem' : List (Nat × MB)} {av : AV} (h : ∀ b, blockOf (some av) = some b → look mem b = look mem' b) : behind mem av = behind mem' av := by
 unfold behind
 cases av <;> first | rfl | skip
 rename_i b sz row j
 simp only
 rw [h b rfl]
theorem zkt {ti : zaN} {s s' : AS} {op : Op} (hc : isCall op = false) (hv : ∀ x ∈ op.operands.toList, ev s x = ev s' x) (hm : ∀ b, rdOf s op = some b ∨ wrOf s op = some b → look s.mem b = look s'.mem b) (hn : s.next = s'.next) : aop ti s op = aop ti s' op := by
 cases op <;> simp only [aop]
 case move x => rw [hv x (by simp [Op.operands])]
 case assign x => rw [hv x (by simp [Op.operands])]
 case pick c a b => rw [hv c (by simp [Op.operands]), hv a (by simp [Op.operands]), hv b (by simp [Op.operands])]
 case alloc t => rw [hn]
 case box t x => rw [hn, hv x (by simp [Op.operands])]
 case build t parts =>
  have : ∀ place, placed place s parts.toList = placed place s' parts.toList := fun place => zf9 place _ (fun p hp => hv p.2 (by simp only [Op.operands]; exact List.mem_map.2 ⟨p, hp, rfl⟩))
  unfold aBuild
  simp only [this]
 case load t x =>
  have ex := hv x (by simp [Op.operands])
  unfold aLoad
  rw [← ex]
  cases hx : ev s x with
  | none => cases ti t <;> rfl
  | some av =>
   have : behind s.mem av = behind s'.mem av := zkr (fun b hb => hm b (.inl (by simp [rdOf, hx, hb])))
   cases ti t with
   | none => rfl
   | some y => simp only [this]
 case store t x y =>
  have ex := hv x (by simp [Op.operands])
  have ey := hv y (by simp [Op.operands])
  unfold aStore
  rw [← ex, ← ey]
  cases hx : ev s x with
  | none => cases ti t <;> rfl
  | some av =>
   cases av <;> first | (cases ti t <;> rfl) | skip
   rename_i b sz row j
   have hb := hm b (.inr (by simp [wrOf, hx, blockOf]))
   cases ti t with
   | none => rfl
   | some yy => cases ev s y <;> first | rfl | simp only [hb]
 case nilCheck x => rw [hv x (by simp [Op.operands])]
 case makeSlice t x y => rw [hn, hv x (by simp [Op.operands]), hv y (by simp [Op.operands])]
 case slice t x lo hi mx =>
  have e1 : lo.map (ev s) = lo.map (ev s') := by
   cases lo with
   | none => rfl
   | some l => simp only [Option.map_some]; rw [hv l (by simp [Op.operands])]
  have e2 : hi.map (ev s) = hi.map (ev s') := by
   cases hi with
   | none => rfl
   | some l => simp only [Option.map_some]; rw [hv l (by simp [Op.operands])]
  rw [hv x (by simp [Op.operands]), e1, e2]
 case binOp op t x y t' => rw [hv x (by simp [Op.operands]), hv y (by simp [Op.operands])]
 case unOp op t x => rw [hv x (by simp [Op.operands])]
 case convert t u x => rw [hv x (by simp [Op.operands])]
 case makeInterface t x => rw [hv x (by simp [Op.operands])]
 case makeFunc fn first captured =>
  unfold aMakeFunc
  rw [zdy captured.toList (fun x hx => hv x (by simp [Op.operands]; right; simpa using hx))]
 case fieldAddr t x f => rw [hv x (by simp [Op.operands])]
 case field t x f => rw [hv x (by simp [Op.operands])]
 case indexAddr t x i => rw [hv x (by simp [Op.operands]), hv i (by simp [Op.operands])]
 case index t x i => rw [hv x (by simp [Op.operands]), hv i (by simp [Op.operands])]
 case typeAssert x t u c => rw [hv x (by simp [Op.operands])]
 case extract x i => rw [hv x (by simp [Op.operands])]
 case call c =>
  obtain ⟨cl, args, types⟩ := c
  cases cl with
  | value f => simp [isCall] at hc
  | invoke r m => rfl
  | builtin b =>
   have hv' : ∀ x ∈ args.toList, ev s x = ev s' x := fun x hx => hv x (by simp [Op.operands, Call.operands]; simpa using hx)
   simp only
   unfold aBuiltin
   split
   ·rename_i x hx; rw [hv' x (by rw [hx]; simp)]
   ·rw [zdy _ hv']
   ·rw [zdy _ hv']
   ·rfl
abbrev FP := Option Nat × Option Nat
def AS.didD (s : AS) (o : Oper) (rc : Rc) : AS := ⟨(s.did o rc).env, (s.did o rc).mem, s.next + 1⟩
inductive Tr (C : Cx) (all : List Oper) : AS → List Oper → List Rc → AS → Prop
 | nil (s : AS) : Tr C all s [] [] s
 | cons {s s' : AS} {o : Oper} {l : List Oper} {rc : Rc} {recs : List Rc} (hd : dstOK C o.dst) (h : RecG C s o (gd all o) rc) (t : Tr C all (s.didD o rc) l recs s') : Tr C all s (o :: l) (rc :: recs) s'
def tmpsOf (x : List Operand) : List Tmp := x.filterMap fun | .tmp t => some t | _ => none
def looks (all : List Oper) (o : Oper) : List Tmp := tmpsOf o.op.operands.toList ++ (match gd all o with | some (some t, _) => [t] | _ => [])
def zjY (acc : List Nat) (edges : List Edge) : Nat := (edges.filter (Region.binds .any)).foldl (fun m e => m ||| 2 ^ e.on ||| acc.getD e.on 0) 0
def bef : List Nat → List Oper → List Nat
 | acc, [] => acc
 | acc, o :: l => bef (acc ++ [zjY acc o.after.toList]) l
def zhl : Nat → List Oper → Bool
 | _, [] => true
 | k, o :: l => o.after.toList.all (fun e => decide (e.on < k) || !Region.binds .any e) && zhl (k + 1) l
def zlO (x : Option Nat) (l : List Nat) : Bool := match x with | some t => l.contains t | none => false
def ziQ (x y : Option Nat) : Bool := match x, y with | some a, some b => a == b | _, _ => false
def zkB (all : List Oper) (a b : Oper) (f g : FP) : Bool :=
 zlO a.dst (looks all b) || zlO b.dst (looks all a) || ziQ a.dst b.dst || ziQ f.2 g.1 || ziQ f.2 g.2 || ziQ f.1 g.2 || (ziQ f.1 g.1 && (zm1 a.op || zm1 b.op))
def zbR (ops : List Oper) (fps : List FP) : Bool :=
 fps.length == ops.length && zhl 0 ops &&
 (let masks := bef [] ops
  (List.range ops.length).all fun j => (List.range j).all fun i =>
   (masks.getD j 0).testBit i || (match ops[i]?, ops[j]?, fps[i]?, fps[j]? with | some a, some b, some f, some g => !zkB all a b f g | _, _, _, _ => true))
where all := ops
def Rc.fp (rc : Rc) : FP := (rc.rd, rc.wr)
def zmu (ops : List Oper) (L : Nat → Bool) : Prop := ∀ (j : Nat) (o : Oper), ops[j]? = some o → L j = true → ∀ e ∈ o.after, Region.binds .any e = true → L e.on = true
theorem zig (acc : List Nat) : ∀ (es : List Edge) (m : Nat) (i : Nat), (es.foldl (fun m (e : Edge) => m ||| 2 ^ e.on ||| acc.getD e.on 0) m).testBit i = true → m.testBit i = true ∨ ∃ e ∈ es, e.on = i ∨ (acc.getD e.on 0).testBit i = true
 | [], m, i, h => .inl h
 | e :: es, m, i, h => by
  simp only [List.foldl_cons] at h
  rcases zig acc es _ i h with h1 | ⟨e', he', h1⟩
  ·rw [Nat.testBit_or, Nat.testBit_or, Nat.testBit_two_pow] at h1
   simp only [Bool.or_eq_true, decide_eq_true_eq] at h1
   rcases h1 with (h1 | h1) | h1
   ·exact .inl h1
   ·exact .inr ⟨e, by simp, .inl h1⟩
   ·exact .inr ⟨e, by simp, .inr h1⟩
  ·exact .inr ⟨e', by simp [he'], h1⟩
theorem zmm (ops : List Oper) (L : Nat → Bool) (hL : zmu ops L) : ∀ (l : List Oper) (acc : List Nat), (∀ j, l[j]? = ops[acc.length + j]?) → (∀ j i, L j = true → (acc.getD j 0).testBit i = true → L i = true) →
  ∀ j i, L j = true → ((bef acc l).getD j 0).testBit i = true → L i = true
 | [], acc, _, h => h
 | o :: l, acc, hl, h => by
  simp only [bef]
  refine zmm ops L hL l _ (fun j => by have := hl (j + 1); simp only [List.length_append, List.length_cons, List.length_nil] at *; rw [← Nat.add_assoc] at this; rw [show acc.length + (0 + 1) + j = acc.length + j + 1 by omega]; simpa using this) (fun j i hj hb => ?_)
  rcases Nat.lt_trichotomy j acc.length with hlt | heq | hgt
  ·have : (acc ++ [zjY acc o.after.toList]).getD j 0 = acc.getD j 0 := by simp [List.getD, List.getElem?_append, hlt]
   rw [this] at hb
   exact h j i hj hb
  ·subst heq
   have : (acc ++ [zjY acc o.after.toList]).getD acc.length 0 = zjY acc o.after.toList := by simp [List.getD]
   rw [this] at hb
   have ho : ops[acc.length]? = some o := by simpa using (hl 0).symm
   rcases zig acc _ 0 i hb with h1 | ⟨e, he, h1⟩
   ·simp at h1
   ·simp only [List.mem_filter] at he
    have hon := hL acc.length o ho hj e (by simpa using he.1) he.2
    rcases h1 with h1 | h1
    ·rw [← h1]; exact hon
    ·exact h e.on i hon h1
  ·have : (acc ++ [zjY acc o.after.toList])[j]? = none := by rw [List.getElem?_eq_none]; simp; omega
   simp [List.getD, this] at hb
def zjM (d : Option Tmp) (v : AV) (env : List (Nat × AV)) : List (Nat × AV) := match d with | some d => (d, v) :: env | none => env
def zhG (id : Nat) (u : Upd) (mem : List (Nat × MB)) : List (Nat × MB) := match u with | .keep => mem | .new m => (id, m) :: mem | .set b m => (b, m) :: mem | .app b m => (id, m) :: dropM b mem
def zeZ (L : Nat → Bool) : Nat → List (Oper × Rc) → List (Nat × AV) → List (Nat × AV)
 | _, [], env => env
 | k, (o, rc) :: l, env => zeZ L (k + 1) l (if L k then zjM o.dst rc.val env else env)
def zfn (L : Nat → Bool) (n0 : Nat) : Nat → List (Oper × Rc) → List (Nat × MB) → List (Nat × MB)
 | _, [], mem => mem
 | k, (_, rc) :: l, mem => zfn L n0 (k + 1) l (if L k then zhG (n0 + k) rc.up mem else mem)
theorem zfp {b : Nat} : ∀ (l : List (Nat × MB)) (c : Nat), look (dropM b l) c = if c = b then none else look l c
 | [], c => by simp [dropM, look]
 | (k, m) :: l, c => by
  simp only [dropM]
  by_cases hk : k = b
  ·subst hk
   simp only [beq_self_eq_true, cond_true]
   rw [zfp l c]
   by_cases hc : c = k
   ·simp [hc]
   ·simp only [hc, if_false, look]; rw [if_neg (fun e => hc e.symm)]
  ·simp only [beq_eq_false_iff_ne.2 hk, cond_false, look]
   rw [zfp l c]
   by_cases hc : c = b
   ·subst hc; simp [hk]
   ·simp [hc]
theorem zea {d : Option Tmp} {v : AV} {env : List (Nat × AV)} {t : Nat} (h : d ≠ some t) : look (zjM d v env) t = look env t := by
 cases d with
 | none => rfl
 | some d => simp only [zjM, look]; rw [if_neg (fun e => h (by rw [e]))]
theorem zd9 {id : Nat} {u : Upd} {mem : List (Nat × MB)} {b : Nat} (h : ¬ tch id u b = true) : look (zhG id u mem) b = look mem b := by
 cases u with
 | keep => rfl
 | new m => simp only [zhG, look]; rw [if_neg (fun e => h (by simp [tch, e]))]
 | set c m => simp only [zhG, look]; rw [if_neg (fun e => h (by simp [tch, e]))]
 | app c m =>
  simp only [zhG, look]
  rw [if_neg (fun e => h (by simp [tch, e])), zfp, if_neg (fun e => h (by simp [tch, e]))]
theorem zgc {d : Option Tmp} {v : AV} {env env' : List (Nat × AV)} {t : Nat} (h : d = some t) : look (zjM d v env) t = look (zjM d v env') t := by
 subst h; simp [zjM, look]
theorem zgb {id : Nat} {u : Upd} {mem mem' : List (Nat × MB)} {b : Nat} (h : tch id u b = true) : look (zhG id u mem) b = look (zhG id u mem') b := by
 cases u with
 | keep => simp [tch] at h
 | new m => simp [tch] at h; subst h; simp [zhG, look]
 | set c m => simp [tch] at h; subst h; simp [zhG, look]
 | app c m =>
  simp only [zhG, look, zfp]
  by_cases h1 : id = b
  ·simp [h1]
  ·simp only [tch, Bool.or_eq_true, beq_iff_eq] at h
   rcases h with h | h
   ·exact (h1 h.symm).elim
   ·simp [h]
theorem zdA {L L' : Nat → Bool} {t : Nat} : ∀ (l : List (Oper × Rc)) (k : Nat) (env env' : List (Nat × AV)), (∀ j o rc, l[j]? = some (o, rc) → o.dst = some t → L (k + j) = L' (k + j)) → look env t = look env' t →
  look (zeZ L k l env) t = look (zeZ L' k l env') t
 | [], _, _, _, _, h => h
 | (o, rc) :: l, k, env, env', hL, h => by
  simp only [zeZ]
  refine zdA l (k + 1) _ _ (fun j o' rc' hj hd => by have := hL (j + 1) o' rc' (by simpa using hj) hd; rwa [show k + (j + 1) = k + 1 + j by omega] at this) ?_
  by_cases hd : o.dst = some t
  ·have h0 := hL 0 o rc rfl hd
   simp only [Nat.add_zero] at h0
   rw [h0]
   split
   ·exact zgc hd
   ·exact h
  ·have e1 : look (if L k = true then zjM o.dst rc.val env else env) t = look env t := by split; exact zea hd; rfl
   have e2 : look (if L' k = true then zjM o.dst rc.val env' else env') t = look env' t := by split; exact zea hd; rfl
   rw [e1, e2, h]
theorem zdv {L L' : Nat → Bool} {n0 b : Nat} : ∀ (l : List (Oper × Rc)) (k : Nat) (mem mem' : List (Nat × MB)), (∀ j o rc, l[j]? = some (o, rc) → tch (n0 + (k + j)) rc.up b = true → L (k + j) = L' (k + j)) → look mem b = look mem' b →
  look (zfn L n0 k l mem) b = look (zfn L' n0 k l mem') b
 | [], _, _, _, _, h => h
 | (o, rc) :: l, k, mem, mem', hL, h => by
  simp only [zfn]
  refine zdv l (k + 1) _ _ (fun j o' rc' hj hd => by have := hL (j + 1) o' rc' (by simpa using hj) (by rwa [show k + (j + 1) = k + 1 + j by omega]); rwa [show k + (j + 1) = k + 1 + j by omega] at this) ?_
  by_cases hd : tch (n0 + k) rc.up b = true
  ·have h0 := hL 0 o rc rfl hd
   simp only [Nat.add_zero] at h0
   rw [h0]
   split
   ·exact zgb hd
   ·exact h
  ·have e1 : look (if L k = true then zhG (n0 + k) rc.up mem else mem) b = look mem b := by split; exact zd9 hd; rfl
   have e2 : look (if L' k = true then zhG (n0 + k) rc.up mem' else mem') b = look mem' b := by split; exact zd9 hd; rfl
   rw [e1, e2, h]
theorem zkc {L : Nat → Bool} {t : Nat} : ∀ (l : List (Oper × Rc)) (k i : Nat) (env env' : List (Nat × AV)) (o : Oper) (rc : Rc), l[i]? = some (o, rc) → o.dst = some t → L (k + i) = true →
  (∀ j o' rc', i < j → l[j]? = some (o', rc') → o'.dst = some t → L (k + j) = false) → look (zeZ L k l env) t = look (zjM o.dst rc.val env') t
 | [], _, _, _, _, _, _, h, _, _, _ => by simp at h
 | (o1, rc1) :: l, k, 0, env, env', o, rc, h, hd, hL, hlast => by
  simp at h
  obtain ⟨rfl, rfl⟩ := h
  simp only [zeZ]
  simp only [Nat.add_zero] at hL
  rw [if_pos hL]
  have := zdA (L := L) (L' := fun _ => false) (t := t) l (k + 1) (zjM o1.dst rc1.val env) (zjM o1.dst rc1.val env') (fun j o' rc' hj hdj => by
   have := hlast (j + 1) o' rc' (by omega) (by simpa using hj) hdj
   rwa [show k + (j + 1) = k + 1 + j by omega] at this) (zgc hd)
  rw [this]
  have none : ∀ (l : List (Oper × Rc)) (k : Nat) (env : List (Nat × AV)), zeZ (fun _ => false) k l env = env := fun l => by
   induction l with
   | nil => intro k env; rfl
   | cons x l ih => intro k env; obtain ⟨x1, x2⟩ := x; simp only [zeZ]; exact ih _ _
  rw [none]
 | (o1, rc1) :: l, k, i + 1, env, env', o, rc, h, hd, hL, hlast => by
  simp only [zeZ]
  refine zkc l (k + 1) i _ env' o rc (by simpa using h) hd (by rwa [show k + 1 + i = k + (i + 1) by omega]) (fun j o' rc' hij hj hdj => ?_)
  have := hlast (j + 1) o' rc' (by omega) (by simpa using hj) hdj
  rwa [show k + 1 + j = k + (j + 1) by omega]
theorem zjX {L : Nat → Bool} {n0 b : Nat} : ∀ (l : List (Oper × Rc)) (k i : Nat) (mem mem' : List (Nat × MB)) (o : Oper) (rc : Rc), l[i]? = some (o, rc) → tch (n0 + (k + i)) rc.up b = true → L (k + i) = true →
  (∀ j o' rc', i < j → l[j]? = some (o', rc') → tch (n0 + (k + j)) rc'.up b = true → L (k + j) = false) → look (zfn L n0 k l mem) b = look (zhG (n0 + (k + i)) rc.up mem') b
 | [], _, _, _, _, _, _, h, _, _, _ => by simp at h
 | (o1, rc1) :: l, k, 0, mem, mem', o, rc, h, hd, hL, hlast => by
  simp at h
  obtain ⟨rfl, rfl⟩ := h
  simp only [zfn]
  simp only [Nat.add_zero] at hL hd ⊢
  rw [if_pos hL]
  have := zdv (L := L) (L' := fun _ => false) (n0 := n0) (b := b) l (k + 1) (zhG (n0 + k) rc1.up mem) (zhG (n0 + k) rc1.up mem') (fun j o' rc' hj hdj => by
   have := hlast (j + 1) o' rc' (by omega) (by simpa using hj) (by rwa [show k + (j + 1) = k + 1 + j by omega])
   rwa [show k + (j + 1) = k + 1 + j by omega] at this) (zgb hd)
  rw [this]
  have none : ∀ (l : List (Oper × Rc)) (k : Nat) (mem : List (Nat × MB)), zfn (fun _ => false) n0 k l mem = mem := fun l => by
   induction l with
   | nil => intro k mem; rfl
   | cons x l ih => intro k mem; obtain ⟨x1, x2⟩ := x; simp only [zfn]; exact ih _ _
  rw [none]
 | (o1, rc1) :: l, k, i + 1, mem, mem', o, rc, h, hd, hL, hlast => by
  simp only [zfn]
  have := zjX (L := L) (n0 := n0) (b := b) l (k + 1) i (if L k = true then zhG (n0 + k) rc1.up mem else mem) mem' o rc (by simpa using h) (by rwa [show k + 1 + i = k + (i + 1) by omega]) (by rwa [show k + 1 + i = k + (i + 1) by omega]) (fun j o' rc' hij hj hdj => by
   have := hlast (j + 1) o' rc' (by omega) (by simpa using hj) (by rwa [show k + (j + 1) = k + 1 + j by omega])
   rwa [show k + 1 + j = k + (j + 1) by omega])
  rwa [show k + 1 + i = k + (i + 1) by omega] at this
section
variable {C : Cx} {D : Base} {S0 : Nat → Prop} {w0 : World}
theorem Fit.congr {σ : Sig} {S U U' : Nat → Prop} {mem mem' : List (Nat × MB)} {w : World} (h : Fit D S0 w0 σ S mem U w) (hm : ∀ b, look mem' b = look mem b) (hU : ∀ b, U b → U' b) : Fit D S0 w0 σ S mem' U' w where
 below := h.below
 dom b k hk := ⟨hU b (h.dom b k hk).1, (h.dom b k hk).2⟩
 inj b b' k m m' h1 h2 h3 h4 := h.inj b b' k m m' (by rw [← hm]; exact h1) (by rw [← hm]; exact h2) h3 h4
 sbd := h.sbd
 s0 := h.s0
 s1 := h.s1
 glob := h.glob
 mem b m hb := h.mem b m (by rw [← hm]; exact hb)
theorem zat.congr {σ : Sig} {S : Nat → Prop} {w : World} {env env' : List (Nat × AV)} {a : Act} (h : zat σ S w env a) (he : ∀ t, look env' t = look env t) : zat σ S w env' a := fun t av ht => h t av (by rw [← he]; exact ht)
theorem zg8 {all : List Oper} {o : Oper} {t : Tmp} {want : Bool} (h : gd all o = some (some t, want)) : t ∈ looks all o := by simp [looks, h]
theorem looks_op {all : List Oper} {o : Oper} {t : Tmp} (h : Operand.tmp t ∈ o.op.operands.toList) : t ∈ looks all o := by
 unfold looks tmpsOf
 rw [List.mem_append]
 left
 rw [List.mem_filterMap]
 exact ⟨_, h, rfl⟩
theorem zoW {all : List Oper} {o : Oper} {s s' : AS} (hv : ∀ t ∈ looks all o, look s.env t = look s'.env t) : ∀ x ∈ o.op.operands.toList, ev s x = ev s' x := fun x hx => ev_congr (fun t ht => hv t (looks_op (by rw [← ht]; exact hx)))
theorem zh3 {op : Op} {s s' : AS} (hv : ∀ x ∈ op.operands.toList, ev s x = ev s' x) (hn : s.next = s'.next) : rdOf s op = rdOf s' op ∧ wrOf s op = wrOf s' op := by
 constructor
 ·cases op <;> first | rfl | skip
  simp only [rdOf]
  rw [hv _ (by simp [Op.operands])]
 ·cases op <;> first | rfl | skip
  ·simp only [wrOf]; rw [hn]
  ·simp only [wrOf]; rw [hn]
  rotate_left
  ·simp only [wrOf]; rw [hn]
  ·simp only [wrOf]; rw [hv _ (by simp [Op.operands])]
theorem zg0 {all : List Oper} {o : Oper} {s s' : AS} {rc : Rc} (h : RecOK C s o rc) (hv : ∀ t ∈ looks all o, look s.env t = look s'.env t) (hm : ∀ b, rc.rd = some b ∨ rc.wr = some b → look s.mem b = look s'.mem b) (hn : s.next = s'.next) : RecOK C s' o rc := by
 have hv' := zoW hv
 cases h with
 | plain e hc he hneed =>
  have e1 := zkt (ti := C.ti) hc hv' hm hn
  obtain ⟨e2, e3⟩ := zh3 hv' hn
  rw [e2, e3]
  exact .plain e hc (by rw [← e1]; exact he) hneed
 | sem av hc he h =>
  have e1 := zkt (ti := C.ti) hc hv' hm hn
  obtain ⟨e2, e3⟩ := zh3 hv' hn
  rw [e2, e3]
  exact .sem av hc (by rw [← e1]; exact he) (fun σ S a w hS hgs hx => h σ S a w hS hgs (fun x hxo b hb => hx x hxo b (by rw [← hv' x hxo]; exact hb)))
 | own rc h =>
  have hag : zkA s s' o rc := ⟨hv', hm, hn⟩
  exact .own rc ⟨h.nocall, h.noop, fun s'' h'' => h.run s'' (hag.trans h''), by rw [← hn]; exact h.tch⟩
 | callo f args ty g caps as rc ho hf ha h =>
  have hf' : ev s f = ev s' f := hv' f (by rw [ho]; simp [Op.operands, Call.operands])
  have ha' : evL s args.toList = evL s' args.toList := zdy _ (fun x hx => hv' x (by rw [ho]; simp [Op.operands, Call.operands]; right; simpa using hx))
  exact .callo f args ty g caps as rc ho (by rw [← hf']; exact hf) (by rw [← ha']; exact ha) ⟨h.enters, fun s'' h1 h2 => h.run s'' (fun b hb => (hm b hb).trans (h1 b hb)) (hn.trans h2), by rw [← hn]; exact h.tch⟩
 | call f args ty g caps as args' res ho hf ha hle hk =>
  have hf' : ev s f = ev s' f := hv' f (by rw [ho]; simp [Op.operands, Call.operands])
  have ha' : evL s args.toList = evL s' args.toList := zdy _ (fun x hx => hv' x (by rw [ho]; simp [Op.operands, Call.operands]; right; simpa using hx))
  exact .call f args ty g caps as args' res ho (by rw [← hf']; exact hf) (by rw [← ha']; exact ha) hle hk
theorem zmC {all : List Oper} {o : Oper} {s s' : AS} {rc : Rc} (h : RecG C s o (gd all o) rc) (hv : ∀ t ∈ looks all o, look s.env t = look s'.env t) (hm : ∀ b, rc.rd = some b ∨ rc.wr = some b → look s.mem b = look s'.mem b) (hn : s.next = s'.next) : RecG C s' o (gd all o) rc := by
 generalize hg : gd all o = g at h
 cases h with
 | none h => exact .none (zg0 (all := all) h hv hm hn)
 | yes hl h => exact .yes (by rw [← hv _ (zg8 hg)]; exact hl) (zg0 (all := all) h hv hm hn)
 | no hl hx => exact .no (by rw [← hv _ (zg8 hg)]; exact hl) hx
theorem zo1 (s : AS) (o : Oper) (rc : Rc) : s.didD o rc = ⟨zjM o.dst rc.val s.env, zhG s.next rc.up s.mem, s.next + 1⟩ := by
 obtain ⟨val, up, rd, wr⟩ := rc
 cases up <;> cases hd : o.dst <;> simp [AS.didD, AS.did, AS.upd, AS.put, zjM, zhG, hd]
def zdU (l : List Oper) (recs : List Rc) : List (Oper × Rc) := l.zip recs
theorem zk9 (k0 : Nat) : ∀ (l : List (Oper × Rc)) (k : Nat) (env : List (Nat × AV)), k0 ≤ k → zeZ (fun j => decide (j < k0)) k l env = env
 | [], _, _, _ => rfl
 | (o, rc) :: l, k, env, h => by
  simp only [zeZ]
  rw [if_neg (by simp; omega)]
  exact zk9 k0 l (k + 1) env (by omega)
theorem zkY (k0 n0 : Nat) : ∀ (l : List (Oper × Rc)) (k : Nat) (mem : List (Nat × MB)), k0 ≤ k → zfn (fun j => decide (j < k0)) n0 k l mem = mem
 | [], _, _, _ => rfl
 | (o, rc) :: l, k, mem, h => by
  simp only [zfn]
  rw [if_neg (by simp; omega)]
  exact zkY k0 n0 l (k + 1) mem (by omega)
theorem tr_len {all : List Oper} {s s' : AS} {l : List Oper} {recs : List Rc} (h : Tr C all s l recs s') : recs.length = l.length := by
 induction h with
 | nil => rfl
 | cons _ _ _ ih => simp [ih]
theorem znk {all : List Oper} {n0 : Nat} : ∀ {s s' : AS} {l : List Oper} {recs : List Rc} (k : Nat), Tr C all s l recs s' → s.next = n0 + k → ∀ (i : Nat) (o : Oper) (rc : Rc), l[i]? = some o → recs[i]? = some rc →
  dstOK C o.dst ∧ RecG C ⟨zeZ (fun j => decide (j < k + i)) k (zdU l recs) s.env, zfn (fun j => decide (j < k + i)) n0 k (zdU l recs) s.mem, n0 + (k + i)⟩ o (gd all o) rc
 | s, s', [], recs, k, h, hn, i, o, rc, ho, hr => by simp at ho
 | s, s', o1 :: l, recs, k, h, hn, i, o, rc, ho, hr => by
  cases h with
  | @cons _ _ _ _ rc1 recs1 hd hg t =>
   cases i with
   | zero =>
    simp at ho hr
    subst ho hr
    refine ⟨hd, ?_⟩
    have : (⟨zeZ (fun j => decide (j < k + 0)) k (zdU (o1 :: l) (rc1 :: recs1)) s.env, zfn (fun j => decide (j < k + 0)) n0 k (zdU (o1 :: l) (rc1 :: recs1)) s.mem, n0 + (k + 0)⟩ : AS) = s := by
     rw [zk9 _ _ _ _ (by omega), zkY _ _ _ _ _ (by omega)]
     simp only [Nat.add_zero]
     rw [← hn]
    rw [this]; exact hg
   | succ i =>
    simp at ho hr
    have ih := znk (n0 := n0) (k + 1) t (by simp only [AS.didD]; omega) i o rc ho hr
    rw [zo1] at ih
    simp only [zdU, List.zip_cons_cons, zeZ, zfn] at ih ⊢
    rw [if_pos (by simp), if_pos (by simp)]
    rw [show k + (i + 1) = k + 1 + i by omega]
    rw [show n0 + k = s.next from hn.symm]
    exact ih
theorem tr_end {all : List Oper} {n0 : Nat} : ∀ {s s' : AS} {l : List Oper} {recs : List Rc} (k : Nat), Tr C all s l recs s' → s.next = n0 + k →
  s' = ⟨zeZ (fun _ => true) k (zdU l recs) s.env, zfn (fun _ => true) n0 k (zdU l recs) s.mem, n0 + k + l.length⟩
 | s, s', [], recs, k, h, hn => by
  cases h
  simp only [zdU, List.zip_nil_left, zeZ, zfn, List.length_nil, Nat.add_zero]
  rw [← hn]
 | s, s', o1 :: l, recs, k, h, hn => by
  cases h with
  | @cons _ _ _ _ rc1 recs1 hd hg t =>
   have ih := tr_end (n0 := n0) (k + 1) t (by simp only [AS.didD]; omega)
   rw [zo1] at ih
   rw [ih]
   simp only [zdU, List.zip_cons_cons, zeZ, zfn, if_true, List.length_cons, hn]
   congr 1
   omega
theorem zgg : ∀ (l : List Oper) (k i : Nat) (o : Oper), zhl k l = true → l[i]? = some o → ∀ e ∈ o.after, Region.binds .any e = true → e.on < k + i
 | [], _, _, _, _, h => by simp at h
 | o1 :: l, k, i, o, h, ho => by
  simp only [zhl, Bool.and_eq_true] at h
  cases i with
  | zero =>
   simp at ho; subst ho
   intro e he hb
   have := List.all_eq_true.1 h.1 e (by simpa using he)
   simpa [hb] using this
  | succ i =>
   simp at ho
   intro e he hb
   have := zgg l (k + 1) i o h.2 ho e he hb
   omega
theorem zio {ops : List Oper} {fps : List FP} (h : zbR ops fps = true) : fps.length = ops.length ∧ zhl 0 ops = true ∧
  ∀ (L : Nat → Bool), zmu ops L → ∀ (i j : Nat) (a b : Oper) (f g : FP), i < j → ops[i]? = some a → ops[j]? = some b → fps[i]? = some f → fps[j]? = some g → zkB ops a b f g = true → L j = true → L i = true := by
 unfold zbR at h
 simp only [Bool.and_eq_true, beq_iff_eq] at h
 obtain ⟨⟨h1, h2⟩, h3⟩ := h
 refine ⟨h1, h2, fun L hL i j a b f g hij ha hb hf hg hc hLj => ?_⟩
 have hjl : j < ops.length := (List.getElem?_eq_some_iff.1 hb).1
 have q := List.all_eq_true.1 (List.all_eq_true.1 h3 j (List.mem_range.2 hjl)) i (List.mem_range.2 hij)
 simp only [ha, hb, hf, hg, zbR.all, hc, Bool.not_true, Bool.or_false] at q
 exact zmm ops L hL ops [] (fun j => by simp) (fun j i _ hb => by simp at hb) j i hLj q
theorem zaE {x : Option (Prop × Value)} {e : Eff} (h : toEff x = some e) : e.upd = .keep := by
 unfold toEff at h
 split at h
 ·injection h with h; subst h; rfl
 ·cases h
theorem zaA {op : BinOp} {x y : Bool} {e : Eff} (h : eqBool op x y = some e) : e.upd = .keep := by
 unfold eqBool at h
 split at h <;> first | (injection h with h; subst h; rfl) | cases h
theorem zaG {op : BinOp} {x : Bool} {e : Eff} (h : eqNil op x = some e) : e.upd = .keep := by
 unfold eqNil at h
 split at h <;> first | (injection h with h; subst h; rfl) | cases h
theorem zaX {x : Option AV} {e : Eff} (h : aLen x = some e) : e.upd = .keep := by
 unfold aLen at h
 split at h <;> first | (injection h with h; subst h; rfl) | cases h
def zpv : Op → Bool
 | .alloc _ => true
 | .box _ _ => true
 | .store _ _ _ => true
 | .makeSlice _ _ _ => true
 | _ => false
theorem zaz {op : BinOp} {x y : ByteArray} {e : Eff} (h : strBin op x y = some e) : e.upd = .keep := by
 unfold strBin at h
 split at h <;> first | (injection h with h; subst h; rfl) | cases h
theorem zlm {ti : zaN} {y : Option TyI} {a : Option AV} {lo hi : Option (Option AV)} {mx : Bool} {e : Eff} (h : aSlice ti y a lo hi mx = some e) : e.upd = .keep := by
 unfold aSlice at h
 (repeat' split at h) <;> first | (injection h with h; subst h; rfl) | cases h
theorem zpO {ti : zaN} {op : BinOp} {t : TypeId} {y : Operand} {a b : Option AV} {e : Eff} (h : aBin ti op t y a b = some e) : e.upd = .keep := by
 unfold aBin at h
 (repeat' split at h) <;> first | (injection h with h; subst h; rfl) | cases h | exact zaE h | exact zaz h | exact zaA h | exact zaG h | exact zaX h
theorem aUn_keep {op : UnOp} {a : Option AV} {e : Eff} (h : aUn op a = some e) : e.upd = .keep := by
 unfold aUn at h
 (repeat' split at h) <;> first | (injection h with h; subst h; rfl) | cases h | exact zaE h | exact zaz h | exact zaA h | exact zaG h | exact zaX h
theorem zm6 {c a b : Option AV} {e : Eff} (h : aPick c a b = some e) : e.upd = .keep := by
 unfold aPick at h
 (repeat' split at h) <;> first | (injection h with h; subst h; rfl) | cases h | exact zaE h | exact zaz h | exact zaA h | exact zaG h | exact zaX h
theorem zlp {ti : zaN} {s : AS} {y : Option TyI} {ps : List (Nat × Operand)} {e : Eff} (h : aBuild ti s y ps = some e) : e.upd = .keep := by
 unfold aBuild at h
 (repeat' split at h) <;> first | (injection h with h; subst h; rfl) | cases h | exact zaE h | exact zaz h | exact zaA h | exact zaG h | exact zaX h
theorem zm7 {mem : List (Nat × MB)} {y : Option TyI} {a : Option AV} {e : Eff} (h : aLoad mem y a = some e) : e.upd = .keep := by
 unfold aLoad at h
 (repeat' split at h) <;> first | (injection h with h; subst h; rfl) | cases h | exact zaE h | exact zaz h | exact zaA h | exact zaG h | exact zaX h
theorem zhQ {a : Option AV} {e : Eff} (h : aNilCheck a = some e) : e.upd = .keep := by
 unfold aNilCheck at h
 (repeat' split at h) <;> first | (injection h with h; subst h; rfl) | cases h | exact zaE h | exact zaz h | exact zaA h | exact zaG h | exact zaX h
theorem zjp {y z : Option TyI} {a : Option AV} {e : Eff} (h : aConvert y z a = some e) : e.upd = .keep := by
 unfold aConvert at h
 (repeat' split at h) <;> first | (injection h with h; subst h; rfl) | cases h | exact zaE h | exact zaz h | exact zaA h | exact zaG h | exact zaX h
theorem zeX {t : TypeId} {y : Option TyI} {a : Option AV} {e : Eff} (h : aMakeInterface t y a = some e) : e.upd = .keep := by
 unfold aMakeInterface at h
 (repeat' split at h) <;> first | (injection h with h; subst h; rfl) | cases h | exact zaE h | exact zaz h | exact zaA h | exact zaG h | exact zaX h
theorem zhS {s : AS} {fn : Fn} {f c : List Operand} {e : Eff} (h : aMakeFunc s fn f c = some e) : e.upd = .keep := by
 unfold aMakeFunc at h
 (repeat' split at h) <;> first | (injection h with h; subst h; rfl) | cases h | exact zaE h | exact zaz h | exact zaA h | exact zaG h | exact zaX h
theorem zhD {ti : zaN} {y : Option TyI} {a : Option AV} {f : Nat} {e : Eff} (h : aFieldAddr ti y a f = some e) : e.upd = .keep := by
 unfold aFieldAddr at h
 (repeat' split at h) <;> first | (injection h with h; subst h; rfl) | cases h | exact zaE h | exact zaz h | exact zaA h | exact zaG h | exact zaX h
theorem zlo {ti : zaN} {y : Option TyI} {a : Option AV} {f : Nat} {e : Eff} (h : aField ti y a f = some e) : e.upd = .keep := by
 unfold aField at h
 (repeat' split at h) <;> first | (injection h with h; subst h; rfl) | cases h | exact zaE h | exact zaz h | exact zaA h | exact zaG h | exact zaX h
theorem zhC {ti : zaN} {y : Option TyI} {a i : Option AV} {e : Eff} (h : aIndexAddr ti y a i = some e) : e.upd = .keep := by
 unfold aIndexAddr at h
 (repeat' split at h) <;> first | (injection h with h; subst h; rfl) | cases h | exact zaE h | exact zaz h | exact zaA h | exact zaG h | exact zaX h
theorem zln {ti : zaN} {y : Option TyI} {a i : Option AV} {e : Eff} (h : aIndex ti y a i = some e) : e.upd = .keep := by
 unfold aIndex at h
 (repeat' split at h) <;> first | (injection h with h; subst h; rfl) | cases h | exact zaE h | exact zaz h | exact zaA h | exact zaG h | exact zaX h
theorem zkw {t : TypeId} {y : Option TyI} {a : Option AV} {e : Eff} (h : aAssert t y a = some e) : e.upd = .keep := by
 unfold aAssert at h
 (repeat' split at h) <;> first | (injection h with h; subst h; rfl) | cases h | exact zaE h | exact zaz h | exact zaA h | exact zaG h | exact zaX h
theorem zjo {a : Option AV} {i : Nat} {e : Eff} (h : aExtract a i = some e) : e.upd = .keep := by
 unfold aExtract at h
 (repeat' split at h) <;> first | (injection h with h; subst h; rfl) | cases h | exact zaE h | exact zaz h | exact zaA h | exact zaG h | exact zaX h
theorem zpM {l : Option (List AV)} {e : Eff} (h : aMin l = some e) : e.upd = .keep := by
 unfold aMin at h
 (repeat' split at h) <;> first | (injection h with h; subst h; rfl) | cases h | exact zaE h | exact zaz h | exact zaA h | exact zaG h | exact zaX h
theorem zpN {l : Option (List AV)} {e : Eff} (h : aMax l = some e) : e.upd = .keep := by
 unfold aMax at h
 (repeat' split at h) <;> first | (injection h with h; subst h; rfl) | cases h | exact zaE h | exact zaz h | exact zaA h | exact zaG h | exact zaX h
theorem zm8 {ti : zaN} {t : Option TypeId} {a : Option AV} {e : Eff} (h : aLenT ti t a = some e) : e.upd = .keep := by
 unfold aLenT at h
 (repeat' split at h) <;> first | (injection h with h; subst h; rfl) | cases h | exact zaE h | exact zaz h | exact zaA h | exact zaG h | exact zaX h
theorem aop_keep {ti : zaN} {s : AS} {op : Op} {e : Eff} (h : aop ti s op = some e) (hc : zpv op = false) : e.upd = .keep := by
 cases op <;> simp only [aop] at h <;> simp [zpv] at hc
 case move x => split at h <;> first | (injection h with h; subst h; rfl) | cases h
 case assign x => split at h <;> first | (injection h with h; subst h; rfl) | cases h
 case pick => exact zm6 h
 case build => exact zlp h
 case slice => exact zlm h
 case load => exact zm7 h
 case nilCheck => exact zhQ h
 case binOp => exact zpO h
 case unOp => exact aUn_keep h
 case convert => exact zjp h
 case makeInterface => exact zeX h
 case makeFunc => exact zhS h
 case fieldAddr => exact zhD h
 case field => exact zlo h
 case indexAddr => exact zhC h
 case index => exact zln h
 case typeAssert => split at h; exact zkw h; cases h
 case extract => exact zjo h
 case call c =>
  obtain ⟨cl, args, types⟩ := c
  cases cl <;> simp only [] at h <;> try (cases h; done)
  unfold aBuiltin at h
  split at h
  ·exact zm8 h
  ·exact zpM h
  ·exact zpN h
  ·cases h
 all_goals cases h
theorem touch_wr {s : AS} {o : Oper} {all : List Oper} {rc : Rc} (h : RecG C s o (gd all o) rc) (b : Nat) (ht : tch s.next rc.up b = true) : rc.wr = some b ∨ (rc.rd = some b ∧ zm1 o.op = true) := by
 have plain : ∀ rc, RecOK C s o rc → tch s.next rc.up b = true → rc.wr = some b ∨ (rc.rd = some b ∧ zm1 o.op = true) := fun rc h ht => by
  cases h with
  | own rc h => exact h.tch b ht
  | callo f args ty g caps as rc ho hf ha h => exact .inl (h.tch b ht)
  | plain e hc he hn =>
   left
   simp only at ht ⊢
   cases ho : o.op <;> rw [ho] at he <;> simp only [wrOf]
   case alloc t =>
    simp only [aop] at he
    unfold aAlloc at he
    split at he
    ·injection he with he; subst he; simp only [tch, beq_iff_eq] at ht; rw [ht]
    ·cases he
   case box t x =>
    simp only [aop] at he
    unfold aBox at he
    split at he
    ·cases he
    unfold aBox0 at he
    split at he
    ·split at he
     ·injection he with he; subst he; simp only [tch, beq_iff_eq] at ht; rw [ht]
     ·cases he
    ·cases he
   case makeSlice t x y =>
    simp only [aop] at he
    unfold aMakeSlice at he
    split at he
    ·split at he
     ·split at he
      ·cases he
      ·injection he with he; subst he; simp only [tch, beq_iff_eq] at ht; rw [ht]
     ·cases he
    ·cases he
   case store t x y =>
    simp only [aop] at he
    unfold aStore at he
    split at he
    ·rename_i hx _
     split at he
     ·split at he
      ·injection he with he; subst he
       simp only [tch, beq_iff_eq] at ht
       subst ht
       simp [hx, blockOf]
      ·cases he
     ·cases he
    ·cases he
   all_goals
    exfalso
    rw [aop_keep (ti := C.ti) (s := s) (op := o.op) (by rw [ho]; exact he) (by rw [ho]; rfl)] at ht
    cases ht
  | call => cases ht
  | sem => cases ht
 generalize gd all o = g at h
 cases h with
 | none h => exact plain _ h ht
 | yes hl h => exact plain _ h ht
 | no hl _ => cases ht
end
section
variable {C : Cx} {D : Base} {S0 : Nat → Prop} {w0 : World}
def count (listed : Array Bool) (n : Nat) : Nat := ((List.range n).filter fun i => !listed.getD i true).length
theorem zkn {listed : Array Bool} {n i : Nat} (hs : listed.size = n) (hi : i < n) (hun : listed.getD i true = false) : count listed n = count (listed.setIfInBounds i true) n + 1 := by
 unfold count
 have key : ∀ m, m ≤ n → ((List.range m).filter fun j => !listed.getD j true).length = ((List.range m).filter fun j => !(listed.setIfInBounds i true).getD j true).length + (if i < m then 1 else 0) := by
  intro m
  induction m with
  | zero => intro _; simp
  | succ m ih =>
   intro hm
   have ih := ih (by omega)
   rw [List.range_succ, List.filter_append, List.filter_append, List.length_append, List.length_append, ih]
   by_cases him : i = m
   ·subst him
    have : (listed.setIfInBounds i true).getD i true = true := by simp [hs, hi]
    have hun' : listed[i]?.getD true = false := by simpa using hun
    simp at this
    simp [this, hun', List.filter_cons]
   ·have e1 := getD_set_ne (listed := listed) true him
    have hlt : (i < m + 1) = (i < m) := by simp only [eq_iff_iff]; omega
    simp only [hlt]
    rw [show ([m].filter fun j => !(listed.setIfInBounds i true).getD j true) = ([m].filter fun j => !listed.getD j true) by simp only [List.filter_cons, e1, List.filter_nil]]
    omega
 have := key n (Nat.le_refl _)
 rw [if_pos hi] at this
 exact this
theorem zfU {listed : Array Bool} {i : Nat} (h : listed.getD i true = false) : listed.getD i false = false ∧ i < listed.size := by
 rcases Nat.lt_or_ge i listed.size with h' | h'
 ·simp [h'] at h ⊢; exact h
 ·simp [Array.getElem?_eq_none h'] at h
structure Mid (C : Cx) (D : Base) (S0 : Nat → Prop) (w0 : World) (ops : Array Oper) (recs : List Rc) (s : AS) (listed : Array Bool) (a : Act) (w : World) : Prop where
 defers : Fr D a
 nt : a.tmps.size = C.nt
 size : listed.size = ops.size
 closed : zmu ops.toList (fun j => listed.getD j false)
 ex : ∃ σ S, Fit D S0 w0 σ S (zfn (fun j => listed.getD j false) s.next 0 (zdU ops.toList recs) s.mem) (fun b => b < s.next ∨ (s.next ≤ b ∧ b < s.next + ops.size ∧ listed.getD (b - s.next) false = true)) w ∧
  zat σ S w (zeZ (fun j => listed.getD j false) 0 (zdU ops.toList recs) s.env) a
theorem zde {l : List Oper} {recs : List Rc} (hl : recs.length = l.length) (j : Nat) (o : Oper) (rc : Rc) : (zdU l recs)[j]? = some (o, rc) ↔ l[j]? = some o ∧ recs[j]? = some rc := by
 unfold zdU
 rw [List.getElem?_zip_eq_some]
theorem mid_step {ops : Array Oper} {recs : List Rc} {s s' : AS} (hT : zam C.P C.ti) (hG : znf D C) (ht : Tr C ops.toList s ops.toList recs s') (hck : zbR ops.toList (recs.map Rc.fp) = true)
  {listed : Array Bool} {a : Act} {w : World} (hm : Mid C D S0 w0 ops recs s listed a w) {i : Nat} (hi : i ∈ Region.ready .any ops listed) {Q : Exit → Act → World → Prop} {K : Act → World → Prop} (hP : PanOK C D w0 Q)
  (hK : ∀ a' w', Mid C D S0 w0 ops recs s (listed.setIfInBounds i true) a' w' → K a' w') : wpOp C.P ops Q i K a w := by
 obtain ⟨hun, o, ho, hall⟩ := mem_ready.1 hi
 obtain ⟨hd, hnt, hsz, hcl, σ, S, hF, hE⟩ := hm
 obtain ⟨hunf, hilt⟩ := zfU hun
 have hin : i < ops.size := by rw [← hsz]; exact hilt
 have hlen := tr_len ht
 have ho' : ops.toList[i]? = some o := by simpa using ho
 have hil : i < ops.toList.length := by simpa using hin
 obtain ⟨rc, hrc⟩ : ∃ rc, recs[i]? = some rc := ⟨recs[i]'(by omega), by simp [show i < recs.length by omega]⟩
 obtain ⟨ck1, ck2, ck3⟩ := zio hck
 obtain ⟨hdst, hg⟩ := znk (n0 := s.next) 0 ht (by omega) i o rc ho' hrc
 simp only [Nat.zero_add] at hg
 let L : Nat → Bool := fun j => listed.getD j false
 have ord : ∀ (j : Nat) (o' : Oper) (rc' : Rc), ops.toList[j]? = some o' → recs[j]? = some rc' → (i < j → zkB ops.toList o o' rc.fp rc'.fp = true → L j = false) ∧ (j < i → zkB ops.toList o' o rc'.fp rc.fp = true → L j = true) := fun j o' rc' hj hrj => by
  have f1 : (recs.map Rc.fp)[i]? = some rc.fp := by simp [hrc]
  have f2 : (recs.map Rc.fp)[j]? = some rc'.fp := by simp [hrj]
  constructor
  ·intro hij hc
   cases hL : L j with
   | false => rfl
   | true =>
    have := ck3 L hcl i j o o' _ _ hij ho' hj f1 f2 hc hL
    rw [show L i = false from hunf] at this
    cases this
  ·intro hji hc
   let L' : Nat → Bool := fun q => L q || decide (q = i)
   have hcl' : zmu ops.toList L' := fun q oq hoq hLq e he hb => by
    simp only [L', Bool.or_eq_true, decide_eq_true_eq] at hLq ⊢
    rcases hLq with hLq | rfl
    ·exact .inl (hcl q oq hoq hLq e he hb)
    ·have : oq = o := Option.some.inj (hoq.symm.trans ho')
     subst this
     exact .inl (hall e he hb)
   have := ck3 L' hcl' j i o' o _ _ hji hj ho' f2 f1 hc (by simp [L'])
   simp only [L', Bool.or_eq_true, decide_eq_true_eq] at this
   rcases this with h | h
   ·exact h
   ·omega
 have agreeT : ∀ t ∈ looks ops.toList o, look (zeZ (fun j => decide (j < i)) 0 (zdU ops.toList recs) s.env) t = look (zeZ L 0 (zdU ops.toList recs) s.env) t := fun t htl => by
  refine zdA _ 0 _ _ (fun j o' rc' hj hdj => ?_) rfl
  obtain ⟨hj1, hj2⟩ := (zde hlen j o' rc').1 hj
  simp only [Nat.zero_add]
  rcases Nat.lt_trichotomy j i with hlt | heq | hgt
  ·have hc : zkB ops.toList o' o rc'.fp rc.fp = true := by simp [zkB, zlO, hdj, htl]
   rw [(ord j o' rc' hj1 hj2).2 hlt hc]; simpa using hlt
  ·subst heq; simp; exact hunf
  ·have hc : zkB ops.toList o o' rc.fp rc'.fp = true := by simp [zkB, zlO, hdj, htl]
   rw [(ord j o' rc' hj1 hj2).1 hgt hc]; simp; omega
 have wrOf' : ∀ (j : Nat) (o' : Oper) (rc' : Rc) (b : Nat), ops.toList[j]? = some o' → recs[j]? = some rc' → tch (s.next + j) rc'.up b = true → rc'.wr = some b ∨ (rc'.rd = some b ∧ zm1 o'.op = true) := fun j o' rc' b hj hrj htb => by
  obtain ⟨_, hg'⟩ := znk (n0 := s.next) 0 ht (by omega) j o' rc' hj hrj
  simp only [Nat.zero_add] at hg'
  exact touch_wr hg' b htb
 have agreeM : ∀ b, rc.rd = some b ∨ rc.wr = some b → look (zfn (fun j => decide (j < i)) s.next 0 (zdU ops.toList recs) s.mem) b = look (zfn L s.next 0 (zdU ops.toList recs) s.mem) b := fun b hb => by
  refine zdv _ 0 _ _ (fun j o' rc' hj htj => ?_) rfl
  obtain ⟨hj1, hj2⟩ := (zde hlen j o' rc').1 hj
  simp only [Nat.zero_add] at htj ⊢
  have hw := wrOf' j o' rc' b hj1 hj2 htj
  rcases Nat.lt_trichotomy j i with hlt | heq | hgt
  ·have hc : zkB ops.toList o' o rc'.fp rc.fp = true := by
    rcases hb with hb | hb <;> rcases hw with hw | ⟨hw, hap⟩ <;> simp [zkB, Rc.fp, ziQ, hw, hb] <;> simp [hap]
   rw [(ord j o' rc' hj1 hj2).2 hlt hc]; simpa using hlt
  ·subst heq; simp; exact hunf
  ·have hc : zkB ops.toList o o' rc.fp rc'.fp = true := by
    rcases hb with hb | hb <;> rcases hw with hw | ⟨hw, hap⟩ <;> simp [zkB, Rc.fp, ziQ, hw, hb] <;> simp [hap]
   rw [(ord j o' rc' hj1 hj2).1 hgt hc]; simp; omega
 have hgL : RecG C ⟨zeZ L 0 (zdU ops.toList recs) s.env, zfn L s.next 0 (zdU ops.toList recs) s.mem, s.next + i⟩ o (gd ops.toList o) rc := zmC hg agreeT agreeM rfl
 let listed' := listed.setIfInBounds i true
 have hL' : ∀ j, listed'.getD j false = (L j || decide (j = i)) := fun j => by
  by_cases hji : j = i
  ·subst hji; simp [listed', hilt]
  ·have := getD_set_ne (listed := listed) false (fun e => hji e.symm)
   simp only [listed', this, hji, decide_false, Bool.or_false]; rfl
 have envEq : ∀ t, look (zeZ (fun j => listed'.getD j false) 0 (zdU ops.toList recs) s.env) t = look (zjM o.dst rc.val (zeZ L 0 (zdU ops.toList recs) s.env)) t := fun t => by
  by_cases hdt : o.dst = some t
  ·rw [zkc (zdU ops.toList recs) 0 i s.env (zeZ L 0 (zdU ops.toList recs) s.env) o rc ((zde hlen i o rc).2 ⟨ho', hrc⟩) hdt (by simp [hL']) (fun j o' rc' hij hj hdj => by
    obtain ⟨hj1, hj2⟩ := (zde hlen j o' rc').1 hj
    have hc : zkB ops.toList o o' rc.fp rc'.fp = true := by simp [zkB, ziQ, hdt, hdj]
    have := (ord j o' rc' hj1 hj2).1 hij hc
    simp only [Nat.zero_add, hL', this, Bool.false_or, decide_eq_false_iff_not]; omega)]
  ·rw [zea hdt]
   refine zdA _ 0 _ _ (fun j o' rc' hj hdj => ?_) rfl
   obtain ⟨hj1, hj2⟩ := (zde hlen j o' rc').1 hj
   simp only [Nat.zero_add, hL']
   have hne : j ≠ i := fun e => by
    subst e
    have : o' = o := Option.some.inj (hj1.symm.trans ho')
    subst this
    exact hdt hdj
   simp [hne]
 have memEq : ∀ b, look (zfn (fun j => listed'.getD j false) s.next 0 (zdU ops.toList recs) s.mem) b = look (zhG (s.next + i) rc.up (zfn L s.next 0 (zdU ops.toList recs) s.mem)) b := fun b => by
  by_cases htb : tch (s.next + i) rc.up b = true
  ·have hw := wrOf' i o rc b ho' hrc htb
   have := zjX (L := fun j => listed'.getD j false) (n0 := s.next) (b := b) (zdU ops.toList recs) 0 i s.mem (zfn L s.next 0 (zdU ops.toList recs) s.mem) o rc ((zde hlen i o rc).2 ⟨ho', hrc⟩) (by simpa using htb) (by simp [hL']) (fun j o' rc' hij hj hdj => by
    obtain ⟨hj1, hj2⟩ := (zde hlen j o' rc').1 hj
    have hw' := wrOf' j o' rc' b hj1 hj2 (by simpa using hdj)
    have hc : zkB ops.toList o o' rc.fp rc'.fp = true := by rcases hw with hw | ⟨hw, hap⟩ <;> rcases hw' with hw' | ⟨hw', hap'⟩ <;> simp [zkB, Rc.fp, ziQ, hw, hw'] <;> simp [hap]
    have := (ord j o' rc' hj1 hj2).1 hij hc
    simp only [Nat.zero_add, hL', this, Bool.false_or, decide_eq_false_iff_not]; omega)
   simpa using this
  ·rw [zd9 htb]
   refine zdv _ 0 _ _ (fun j o' rc' hj hdj => ?_) rfl
   obtain ⟨hj1, hj2⟩ := (zde hlen j o' rc').1 hj
   simp only [Nat.zero_add] at hdj
   simp only [Nat.zero_add, hL']
   have hne : j ≠ i := fun e => by
    subst e
    have : rc' = rc := Option.some.inj (hj2.symm.trans hrc)
    subst this
    exact htb hdj
   simp [hne]
 have mid' : ∀ (x : Value) (w' : World) (σ' : Sig) (S' : Nat → Prop), Fit D S0 w0 σ' S' (zhG (s.next + i) rc.up (zfn L s.next 0 (zdU ops.toList recs) s.mem)) (zfT (fun b => b < s.next ∨ (s.next ≤ b ∧ b < s.next + ops.size ∧ listed.getD (b - s.next) false = true)) (s.next + i) rc.up) w' →
   zat σ' S' w' (zeZ L 0 (zdU ops.toList recs) s.env) a → Rel σ' S' w' x rc.val → K (a.put o.dst x) w' := fun x w' σ' S' hF' hE' hr => by
  refine hK _ _ ⟨hd.put x (zhm hG hdst), by rw [zgs]; exact hnt, by simp [hsz], fun j oj hoj hLj e he hb => ?_, σ', S', hF'.congr memEq (fun b hb => ?_), ?_⟩
  ·simp only [listed', hL', Bool.or_eq_true, decide_eq_true_eq] at hLj ⊢
   rcases hLj with hLj | rfl
   ·exact .inl (hcl j oj hoj hLj e he hb)
   ·have : oj = o := Option.some.inj (hoj.symm.trans ho')
    subst this
    exact .inl (hall e he hb)
  ·have old : (b < s.next ∨ (s.next ≤ b ∧ b < s.next + ops.size ∧ listed.getD (b - s.next) false = true)) → (b < s.next ∨ (s.next ≤ b ∧ b < s.next + ops.size ∧ listed'.getD (b - s.next) false = true)) := fun h => by
    rcases h with h | ⟨h1, h2, h3⟩
    ·exact .inl h
    ·refine .inr ⟨h1, h2, ?_⟩
     rw [hL', show L (b - s.next) = true from h3]; rfl
   cases hup : rc.up with
   | keep => rw [hup] at hb; exact old hb
   | set c m => rw [hup] at hb; exact old hb
   | new m =>
    rw [hup] at hb
    rcases hb with hb | rfl
    ·exact old hb
    ·refine .inr ⟨by omega, by omega, ?_⟩
     rw [hL', show s.next + i - s.next = i by omega]; simp
   | app c m =>
    rw [hup] at hb
    rcases hb with hb | rfl
    ·exact old hb
    ·refine .inr ⟨by omega, by omega, ?_⟩
     rw [hL', show s.next + i - s.next = i by omega]; simp
  ·refine zat.congr (env := zjM o.dst rc.val (zeZ L 0 (zdU ops.toList recs) s.env)) ?_ envEq
   cases hdd : o.dst with
   | none => simpa [zjM, Act.put] using hE'
   | some d =>
    simp only [zjM]
    rw [hdd] at hdst
    exact hE'.put (by rw [hnt]; exact hdst.1) hr
 have hUi : ¬ (s.next + i < s.next ∨ (s.next ≤ s.next + i ∧ s.next + i < s.next + ops.size ∧ listed.getD (s.next + i - s.next) false = true)) := by
  rw [show s.next + i - s.next = i by omega, hunf]
  simp
 have upd_eq : ∀ s1 : AS, (s1.upd rc.up).mem = zhG s1.next rc.up s1.mem := fun s1 => by cases rc.up <;> rfl
 unfold wpOp
 simp only [ho]
 rw [zie]
 have run : RecOK C ⟨zeZ L 0 (zdU ops.toList recs) s.env, zfn L s.next 0 (zdU ops.toList recs) s.mem, s.next + i⟩ o rc → o.wp C.P a w K Q := fun h =>
  zgZ (s := ⟨zeZ L 0 (zdU ops.toList recs) s.env, zfn L s.next 0 (zdU ops.toList recs) s.mem, s.next + i⟩) hT hG hUi hF hE h (fun hp ch w2 hb => hP hp ch a w2 hd hb) (fun x w' σ' S' hF' hE' hr => mid' x w' σ' S' (by rw [upd_eq] at hF'; exact hF') hE' hr)
 generalize hgd : gd ops.toList o = g at hgL
 cases hgL with
 | none h => exact .inl (run h)
 | @yes t want rc hl h =>
  obtain ⟨v, hv, hvr⟩ := hE t _ hl
  have := zdZ hvr
  subst this
  rw [if_pos (by simp [zcu, hv])]
  exact .inl (run h)
 | @no t want x hl hx =>
  obtain ⟨v, hv, hvr⟩ := hE t _ hl
  have := zdZ hvr
  subst this
  rw [if_neg (by rw [zid hv hx]; exact Bool.false_ne_true)]
  exact mid' undef w σ S hF hE (.v _)
theorem znM {id : Nat} {ops : Array Oper} {recs : List Rc} {s s' : AS} (hT : zam C.P C.ti) (hG : znf D C) (hmx : C.P.follows .mixedOrders = true) (ht : Tr C ops.toList s ops.toList recs s') (hck : zbR ops.toList (recs.map Rc.fp) = true)
  {a : Act} {w : World} (hs : Sim D S0 w0 C.nt s a w) {Q : Exit → Act → World → Prop} (hP : PanOK C D w0 Q) (hQ : ∀ a' w', Sim D S0 w0 C.nt s' a' w' → Q .normal a' w') : (Code.region id ops true).wp C.P Q a w := by
 obtain ⟨hd, hnt, σ, S, hF, hE⟩ := hs
 have hlen := tr_len ht
 obtain ⟨ck1, ck2, ck3⟩ := zio hck
 refine wp_region_any hmx ?_
 have main : ∀ (fuel : Nat) (listed : Array Bool) (a : Act) (w : World), count listed ops.size = fuel → Mid C D S0 w0 ops recs s listed a w → wpAny C.P .any ops Q fuel listed a w := by
  have done : ∀ (listed : Array Bool) (a : Act) (w : World), Mid C D S0 w0 ops recs s listed a w → Region.ready .any ops listed = [] → (∀ j, j < ops.size → listed.getD j false = true) := fun listed a w hm hr j hj => by
   have : ∀ n, n < ops.size → listed.getD n false = true := fun n => by
    induction n using Nat.strongRecOn with
    | _ n ih =>
     intro hn
     have hn' : n < listed.size := by rw [hm.size]; exact hn
     cases hL : listed.getD n false with
     | true => rfl
     | false =>
      exfalso
      have hmem : n ∈ Region.ready .any ops listed := mem_ready.2 ⟨by simp [hn'] at hL ⊢; exact hL, ops[n], by simp [hn], fun e he hb => by
       have hlt := zgg ops.toList 0 n ops[n] ck2 (by simp [hn]) e he hb
       simp only [Nat.zero_add] at hlt
       exact ih e.on hlt (by omega)⟩
      rw [hr] at hmem; cases hmem
   exact this j hj
  have fin : ∀ (listed : Array Bool) (a : Act) (w : World), Mid C D S0 w0 ops recs s listed a w → Region.ready .any ops listed = [] → Q .normal a w := fun listed a w hm hr => by
   have hall := done listed a w hm hr
   obtain ⟨hd, hnt, hsz, hcl, σ, S, hF, hE⟩ := hm
   have he := tr_end (n0 := s.next) 0 ht (by omega)
   refine hQ a w ⟨hd, hnt, σ, S, ?_, ?_⟩
   ·rw [he]
    refine hF.congr (fun b => zdv _ 0 _ _ (fun j o' rc' hj htj => ?_) rfl) (fun b hb => ?_)
    ·obtain ⟨hj1, _⟩ := (zde hlen j o' rc').1 hj
     have : j < ops.size := by simpa using (List.getElem?_eq_some_iff.1 hj1).1
     simp only [Nat.zero_add]
     exact (hall j this).symm
    ·simp only [Array.length_toList]; rcases hb with hb | hb <;> omega
   ·rw [he]
    refine hE.congr (fun t => zdA _ 0 _ _ (fun j o' rc' hj htj => ?_) rfl)
    obtain ⟨hj1, _⟩ := (zde hlen j o' rc').1 hj
    have : j < ops.size := by simpa using (List.getElem?_eq_some_iff.1 hj1).1
    simp only [Nat.zero_add]
    exact (hall j this).symm
  intro fuel
  induction fuel with
  | zero =>
   intro listed a w hc hm
   have hr : Region.ready .any ops listed = [] := by
    cases hq : Region.ready .any ops listed with
    | nil => rfl
    | cons i l =>
     exfalso
     have hi : i ∈ Region.ready .any ops listed := by rw [hq]; simp
     obtain ⟨hun, o, ho, _⟩ := mem_ready.1 hi
     obtain ⟨_, hilt⟩ := zfU hun
     have := zkn hm.size (by rw [← hm.size]; exact hilt) hun
     omega
   exact ⟨hr, fin listed a w hm hr⟩
  | succ fuel ih =>
   intro listed a w hc hm
   refine ⟨fin listed a w hm, fun i hi => mid_step hT hG ht hck hm hi hP (fun a' w' hm' => ih _ a' w' ?_ hm')⟩
   obtain ⟨hun, o, ho, _⟩ := mem_ready.1 hi
   obtain ⟨_, hilt⟩ := zfU hun
   have := zkn hm.size (by rw [← hm.size]; exact hilt) hun
   omega
 have hrep : ∀ j, (Array.replicate ops.size false).getD j false = false := fun j => by
  rcases Nat.lt_or_ge j ops.size with h | h <;> simp [h]
 refine main _ _ _ _ ?_ ⟨hd, hnt, by simp, fun j o hj hL => ?_, σ, S, ?_, ?_⟩
 ·unfold count
  rw [List.filter_eq_self.2 (fun i hi => by have := List.mem_range.1 hi; simp [this])]
  simp
 ·have hL2 : (Array.replicate ops.size false).getD j false = true := hL
  rw [hrep] at hL2; cases hL2
 ·have hke : Keeps σ S w { w with drawn := w.drawn + 1 } := ⟨fun _ _ => rfl, fun b k c e f hs hc => ⟨c, e, f, hc, Nat.le_refl _⟩⟩
  have hb : Below w.heap.size w { w with drawn := w.drawn + 1 } := (Below.refl _ w).drew
  have hF' : Fit D S0 w0 σ S s.mem (fun b => b < s.next) { w with drawn := w.drawn + 1 } := ⟨hF.below.then hb, hF.dom, hF.inj, hF.sbd, hF.s0, hF.s1, hF.glob, fun b m hm => by
   rcases hF.mem b m hm with hn | ⟨k, c, e, h1, h2, h3, h4, h5, h6, h7⟩
   ·exact .inl hn
   exact .inr ⟨k, c, e, h1, h2, h3, h4, h5, h6, fun i r j av hi hj => by
    obtain ⟨x, hx, hr⟩ := h7 i r j av hi hj
    exact ⟨x, hx, Rel.mono (fun _ _ h => h) (fun _ h => h) hke hr⟩⟩⟩
  refine hF'.congr (fun b => ?_) (fun b hb => .inl hb)
  rw [show zfn (fun j => (Array.replicate ops.size false).getD j false) s.next 0 (zdU ops.toList recs) s.mem = zfn (fun j => decide (j < 0)) s.next 0 (zdU ops.toList recs) s.mem from by congr 1; funext j; rw [hrep]; simp]
  rw [zkY 0 _ _ _ _ (Nat.le_refl _)]
 ·have hke : Keeps σ S w { w with drawn := w.drawn + 1 } := ⟨fun _ _ => rfl, fun b k c e f hs hc => ⟨c, e, f, hc, Nat.le_refl _⟩⟩
  have hE' : zat σ S { w with drawn := w.drawn + 1 } s.env a := zat.mono (fun _ _ h => h) (fun _ h => h) hke hE
  refine hE'.congr (fun t => ?_)
  rw [show zeZ (fun j => (Array.replicate ops.size false).getD j false) 0 (zdU ops.toList recs) s.env = zeZ (fun j => decide (j < 0)) 0 (zdU ops.toList recs) s.env from by congr 1; funext j; rw [hrep]; simp]
  rw [zk9 0 _ _ _ (Nat.le_refl _)]
end
inductive Lab where
 | normal | ret | lp (k : Nat)
def zoz (env : List (Nat × AV)) : List (Nat × AV) → Prop
 | [] => True
 | (t, av) :: l => (∃ b, look env t = some b ∧ Le b av) ∧ zoz env l
def zoy (mem : List (Nat × MB)) : List (Nat × MB) → Prop
 | [] => True
 | (b, m) :: l => look mem b = some m ∧ zoy mem l
def cutσ (n : Nat) (σ : Sig) : Sig := fun b => if b < n then σ b else none
def NB (n : Nat) (a : AV) : Prop := ∀ σ S w x, Rel σ S w x a → Rel (cutσ n σ) S w x a
theorem NB.cl {n : Nat} {a : AV} (h : Cl a) : NB n a := fun σ S w x hx => (h σ S w x hx).mono (fun b k hb => by cases hb) (fun _ hk => hk) ⟨fun _ _ => rfl, fun b k c e f hb _ => by cases hb⟩
theorem NB.v {n : Nat} {x : Value} : NB n (.v x) := fun _ _ _ _ h => by cases h; exact .v _
theorem NB.p {n b sz row j : Nat} (hb : b < n) : NB n (.p b sz row j) := fun σ _ _ _ h => by
 cases h with
 | p h => exact .p (by simp [cutσ, hb, h])
theorem NB.ps {n b sz row m : Nat} (hb : b < n) : NB n (.ps b sz row m) := fun σ _ _ _ h => by
 cases h with
 | ps h hn ho hs => exact .ps (by simp [cutσ, hb, h]) hn ho hs
 | ps0 => exact .ps0
def nbEnv (n : Nat) : List (Nat × AV) → Prop
 | [] => True
 | (_, av) :: l => NB n av ∧ nbEnv n l
def nbL (n : Nat) : List AV → Prop
 | [] => True
 | a :: l => NB n a ∧ nbL n l
theorem zog {n : Nat} : ∀ (l : List AV), nbL n l → ∀ a ∈ l, NB n a
 | [], _, a, h => by cases h
 | b :: l, hl, a, h => by
  rcases List.mem_cons.1 h with rfl | h
  ·exact hl.1
  ·exact zog l hl.2 a h
def zh6 (n : Nat) : List (List AV) → Prop
 | [] => True
 | r :: l => nbL n r ∧ zh6 n l
def nbMem (n : Nat) : List (Nat × MB) → Prop
 | [] => True
 | (b, m) :: l => (b < n ∧ zh6 n m.rows) ∧ nbMem n l
theorem zh8 {n : Nat} : ∀ (l : List (Nat × AV)), nbEnv n l → ∀ t av, look l t = some av → NB n av
 | [], _, t, av, h => by simp [look] at h
 | (t', av') :: l, hl, t, av, h => by
  simp only [look] at h
  split at h
  ·injection h with h; subst h; exact hl.1
  ·exact zh8 l hl.2 t av h
theorem zh5 {n : Nat} : ∀ (l : List (List AV)), zh6 n l → ∀ r ∈ l, ∀ a ∈ r, NB n a
 | [], _, r, h => by cases h
 | r' :: l, hl, r, h => by
  rcases List.mem_cons.1 h with rfl | h
  ·exact zog _ hl.1
  ·exact zh5 l hl.2 r h
theorem zh7 {n : Nat} : ∀ (l : List (Nat × MB)), nbMem n l → ∀ b m, look l b = some m → b < n ∧ ∀ r ∈ m.rows, ∀ a ∈ r, NB n a
 | [], _, b, m, h => by simp [look] at h
 | (b', m') :: l, hl, b, m, h => by
  simp only [look] at h
  split at h
  ·rename_i he
   injection h with h; subst h he; exact ⟨hl.1.1, zh5 _ hl.1.2⟩
  ·exact zh7 l hl.2 b m h
def zaI (s s' : AS) : Prop := ∀ (D : Base) (S0 : Nat → Prop) (w0 : World) (σ : Sig) (S : Nat → Prop) (w : World), Fit D S0 w0 σ S s.mem (fun b => b < s.next) w → (D.an ≠ none → 0 < s'.next) →
 ∃ σ' S', Fit D S0 w0 σ' S' s'.mem (fun b => b < s'.next) w ∧ ∀ (a : Act), zat σ S w s.env a → zat σ' S' w s'.env a
structure WeakC (s s' : AS) : Prop where
 env : ∀ t av, look s'.env t = some av → ∃ b, look s.env t = some b ∧ Le b av
 mem : ∀ b m, look s'.mem b = some m → look s.mem b = some m
 next : s.next ≤ s'.next ∨ ((∀ t av, look s'.env t = some av → NB s'.next av) ∧ ∀ b m, look s'.mem b = some m → b < s'.next ∧ ∀ r ∈ m.rows, ∀ a ∈ r, NB s'.next a)
theorem zfS {env : List (Nat × AV)} : ∀ (l : List (Nat × AV)), zoz env l → ∀ t av, look l t = some av → ∃ b, look env t = some b ∧ Le b av
 | [], _, t, av, h => by simp [look] at h
 | (t', av') :: l, hl, t, av, h => by
  simp only [zoz] at hl
  simp only [look] at h
  split at h
  ·rename_i he; injection h with h; subst he h; exact hl.1
  ·exact zfS l hl.2 t av h
theorem zfR {mem : List (Nat × MB)} : ∀ (l : List (Nat × MB)), zoy mem l → ∀ b m, look l b = some m → look mem b = some m
 | [], _, b, m, h => by simp [look] at h
 | (b', m') :: l, hl, b, m, h => by
  simp only [zoy] at hl
  simp only [look] at h
  split at h
  ·rename_i he; injection h with h; subst he h; exact hl.1
  ·exact zfR l hl.2 b m h
section
variable {C : Cx} {D : Base} {S0 : Nat → Prop} {w0 : World}
theorem zky.cut {σ : Sig} {S F : Nat → Prop} {n b : Nat} {w : World} {m : MB} (h : zky σ S F w b m) (hb : b < n) (hr : ∀ r ∈ m.rows, ∀ a ∈ r, NB n a) : zky (cutσ n σ) S F w b m := by
 rcases h with ⟨h1, h2⟩ | ⟨k, c, e, h1, h2, h3, h4, h5, h6, h7⟩
 ·exact .inl ⟨h1, by simp [cutσ, hb, h2]⟩
 refine .inr ⟨k, c, e, by simp [cutσ, hb, h1], h2, h3, h4, h5, h6, fun i r j av hi hj => ?_⟩
 obtain ⟨x, hx, hrx⟩ := h7 i r j av hi hj
 exact ⟨x, hx, hr r (List.mem_of_getElem? hi) av (List.mem_of_getElem? hj) _ _ _ _ hrx⟩
theorem WeakC.weak {s s' : AS} (hw : WeakC s s') : zaI s s' := by
 intro D S0 w0 σ S w hF h0
 have env : ∀ (a : Act), zat σ S w s.env a → zat σ S w s'.env a := fun a hE t av ht => by
  obtain ⟨b, hb, hle⟩ := hw.env t av ht
  obtain ⟨x, hx, hr⟩ := hE t b hb
  exact ⟨x, hx, hle _ _ _ _ hr⟩
 rcases hw.next with hnx | ⟨hne, hnm⟩
 ·refine ⟨σ, S, ⟨hF.below, fun b k hk => ⟨?_, (hF.dom b k hk).2⟩, fun b b' k m m' h1 h2 h3 h4 => hF.inj b b' k m m' (hw.mem _ _ h1) (hw.mem _ _ h2) h3 h4, hF.sbd, hF.s0, hF.s1, hF.glob, fun b m hm => hF.mem b m (hw.mem _ _ hm)⟩, env⟩
  have := (hF.dom b k hk).1; omega
 ·have cut : ∀ b k, cutσ s'.next σ b = some k → b < s'.next ∧ σ b = some k := fun b k hk => by
   unfold cutσ at hk
   split at hk
   ·rename_i hb; exact ⟨hb, hk⟩
   ·cases hk
  refine ⟨cutσ s'.next σ, S, ⟨hF.below, fun b k hk => ⟨(cut b k hk).1, (hF.dom b k (cut b k hk).2).2⟩, fun b b' k m m' h1 h2 h3 h4 => hF.inj b b' k m m' (hw.mem _ _ h1) (hw.mem _ _ h2) (cut _ _ h3).2 (cut _ _ h4).2, hF.sbd, hF.s0, hF.s1, ⟨hF.glob.1, fun k hk => by have h1 := hF.glob.2 k hk; have h2 := h0 (by rw [hk]; exact fun h => by cases h); simp [cutσ, h2, h1]⟩, fun b m hm => ?_⟩, fun a hE t av ht => ?_⟩
  ·obtain ⟨q1, q2⟩ := hnm b m hm
   exact (hF.mem b m (hw.mem _ _ hm)).cut q1 q2
  ·obtain ⟨x, hx, hr⟩ := env a hE t av ht
   exact ⟨x, hx, hne t av ht _ _ _ _ hr⟩
theorem zaI.of {s s' : AS} (he : zoz s.env s'.env) (hm : zoy s.mem s'.mem) (hn : s.next ≤ s'.next) : zaI s s' := WeakC.weak ⟨zfS _ he, zfR _ hm, .inl hn⟩
theorem zaI.refl (s : AS) : zaI s s := fun _ _ _ σ S _ h _ => ⟨σ, S, h, fun _ h => h⟩
def zkx (an : Bool) (s s' : AS) : Prop := zaI s s' ∧ (an = true → 0 < s.next → 0 < s'.next)
theorem zkx.refl (an : Bool) (s : AS) : zkx an s s := ⟨.refl s, fun _ h => h⟩
theorem zaI.cut {s s' : AS} (he : zoz s.env s'.env) (hm : zoy s.mem s'.mem) (h1 : nbEnv s'.next s'.env) (h2 : nbMem s'.next s'.mem) : zaI s s' := WeakC.weak ⟨zfS _ he, zfR _ hm, .inr ⟨zh8 _ h1, zh7 _ h2⟩⟩
theorem zly {nt : Nat} {s s' : AS} {a : Act} {w : World} (hG : znf D C) (h : Sim D S0 w0 nt s a w) (hw : zkx C.an s s') : Sim D S0 w0 nt s' a w := by
 obtain ⟨hd, hn, σ, S, hF, hE⟩ := h
 have h0 : D.an ≠ none → 0 < s'.next := fun hne => by
  cases hk : D.an with
  | none => exact absurd hk hne
  | some k =>
   have h1 := (hF.dom 0 k (hF.glob.2 k hk)).1
   refine hw.2 ?_ h1
   cases hc : C.an with
   | false => have := hG.2.1 hc; rw [this] at hk; cases hk
   | true => rfl
 obtain ⟨σ', S', h1, h2⟩ := hw.1 _ _ _ _ _ _ hF h0
 exact ⟨hd, hn, σ', S', h1, h2 a hE⟩
def OpG (C : Cx) (s : AS) (o : Oper) (s' : AS) (av : AV) : Prop := ∀ (D : Base) (S0 : Nat → Prop) (w0 : World) (σ : Sig) (S : Nat → Prop) (a : Act) (w : World) (K : Act → World → Prop) (Q : Exit → Act → World → Prop), znf D C →
 Fit D S0 w0 σ S s.mem (fun b => b < s.next) w → zat σ S w s.env a →
 (∀ (σ' : Sig) (S' : Nat → Prop) (x : Value) (w' : World), Fit D S0 w0 σ' S' s'.mem (fun b => b < s'.next) w' → zat σ' S' w' s'.env a → Rel σ' S' w' x av → K (a.put o.dst x) w') → o.wp C.P a w K Q
def zlr (C : Cx) (s : AS) (g : FuncId) (as : List AV) (s' : AS) (res : AV) : Prop := ∀ (D : Base) (S0 : Nat → Prop) (w0 : World) (σ : Sig) (S : Nat → Prop) (a : Act) (w : World) (vs : Array Value), znf D C →
 Fit D S0 w0 σ S s.mem (fun b => b < s.next) w → zat σ S w s.env a → vs.size = as.length → (∀ (i : Nat) (x : Value) (av : AV), vs[i]? = some x → as[i]? = some av → Rel σ S w x av) →
 Calls C.P g vs w fun e w' => (∃ x, e = .returned x ∧ ∃ σ' S', Fit D S0 w0 σ' S' s'.mem (fun b => b < s'.next) w' ∧ zat σ' S' w' s'.env a ∧ Rel σ' S' w' x res) ∨ (C.pn = true ∧ ∃ ch, e = .panicked ch ∧ PBel D w0 w' ch)
theorem zfk {s : AS} {g : FuncId} {as : List AV} {rc : Rc} (h : OwnCall C s g as rc) : zlr C s g as (s.upd rc.up) rc.val := by
 intro D S0 w0 σ S a w vs hG hF hE hsz hr
 refine (h.run s (fun _ _ => rfl) rfl D S0 w0 σ S (fun b => b < s.next) s.env a w vs hG (Nat.lt_irrefl _) hF hE hsz hr).mono fun e w' hw => ?_
 rcases hw with ⟨x, rfl, σ', S', hF', hE', hr'⟩ | hw
 case inr => exact .inr hw
 refine .inl ⟨x, rfl, σ', S', hF'.congr (fun _ => rfl) (fun b hb => ?_), by rw [zgM]; exact hE', hr'⟩
 cases hu : rc.up with
 | keep => rw [hu] at hb; exact hb
 | set c m => rw [hu] at hb; exact hb
 | new m => rw [hu] at hb; rcases hb with hb | hb <;> simp [AS.upd] <;> omega
 | app c m => rw [hu] at hb; rcases hb with hb | hb <;> simp [AS.upd] <;> omega
inductive BigG (C : Cx) (s : AS) (o : Oper) : AS → AV → Prop
 | call (f : Operand) (args : Array Operand) (ty : Array TypeId) (g : FuncId) (caps as : List AV) (s' : AS) (res : AV) (ho : o.op = .call ⟨.value f, args, ty⟩) (hf : ev s f = some (.fn g caps)) (ha : evL s args.toList = some as)
   (hent : zbS C.P g) (hk : zlr C s g (as ++ caps) s' res) : BigG C s o s' res
 | sem (s' : AS) (av : AV) (hc : isCall o.op = false) (he : aop C.ti s o.op = none) (h : OpG C s o s' av) : BigG C s o s' av
def gOK (s : AS) : Gd → Prop
 | none => True
 | some (some t, want) => look s.env t = some (.v (.bool want))
 | some (none, _) => False
theorem znX {s : AS} {o : Oper} {rc : Rc} (h : OwnOK C s o rc) : OpG C s o (s.upd rc.up) rc.val := by
 intro D S0 w0 σ S a w K Q hG hF hE hK
 refine h.run s (.refl _ _ _) D S0 w0 σ S (fun b => b < s.next) a w K Q hG (Nat.lt_irrefl _) hF hE (fun x w' σ' S' hF' hE' hr => hK σ' S' x w' (hF'.congr (fun _ => rfl) (fun b hb => ?_)) (by rw [zgM]; exact hE') hr)
 cases hu : rc.up with
 | keep => rw [hu] at hb; exact hb
 | set c m => rw [hu] at hb; exact hb
 | new m => rw [hu] at hb; rcases hb with hb | hb <;> simp [AS.upd] <;> omega
 | app c m => rw [hu] at hb; rcases hb with hb | hb <;> simp [AS.upd] <;> omega
theorem zif {σ : Sig} {S : Nat → Prop} {w : World} {s : AS} {a : Act} (hE : zat σ S w s.env a) : ∀ {g : Gd}, gOK s g → zcu g a.tmps = true
 | none, _ => rfl
 | some (some t, want), h => by
  obtain ⟨v, hv, hvr⟩ := hE t _ h
  have := zdZ hvr
  subst this
  simp [zcu, hv]
 | some (none, _), h => h.elim
theorem zmZ (hG : znf D C) {s s' : AS} {o : Oper} {av : AV} (h : BigG C s o s' av) {σ : Sig} {S : Nat → Prop} {a : Act} {w : World} {K : Act → World → Prop} {Q : Exit → Act → World → Prop} (hF : Fit D S0 w0 σ S s.mem (fun b => b < s.next) w) (hE : zat σ S w s.env a) (hP : C.pn = true → ∀ (ch : List PanicEntry) (w : World), PBel D w0 w ch → Q (.panic ch) a w)
  (hK : ∀ (σ' : Sig) (S' : Nat → Prop) (x : Value) (w' : World), Fit D S0 w0 σ' S' s'.mem (fun b => b < s'.next) w' → zat σ' S' w' s'.env a → Rel σ' S' w' x av → K (a.put o.dst x) w') : o.wp C.P a w K Q := by
 cases h with
 | sem _ _ hc he h => exact h _ _ _ _ _ _ _ _ _ hG hF hE hK
 | call f args ty g caps as s' res ho hf ha hent hk =>
  have hfv := za3 hE hf
  generalize hfe : a.eval f = fv at hfv
  obtain ⟨e1, e2⟩ := zeA hE _ _ ha
  cases hfv with
  | @fn _ cs _ hc1 hc2 =>
   have hrun : (execOp a.eval o).run C.P w = .ok (.enter g (args.map a.eval ++ cs)) w := by
    simp [execOp, ho, resolve, hfe, Deferred.ofValue, invoke, hent _ _]
   unfold Oper.wp
   rw [hrun]
   simp only [Oper.upon]
   have e1' : args.size = as.length := by simpa using e1
   have hlen : (args.map a.eval ++ cs).size = (as ++ caps).length := by simp [hc1, e1']
   refine (hk _ _ _ _ _ _ _ _ hG hF hE hlen (fun i x av hx hav => ?_)).mono fun e w' hw => ?_
   ·rw [Array.getElem?_append] at hx
    rw [List.getElem?_append] at hav
    simp only [Array.size_map, e1'] at hx
    split at hx
    ·rename_i hi
     rw [if_pos hi] at hav
     exact e2 i x av (by simpa using hx) hav
    ·rename_i hi
     rw [if_neg hi] at hav
     exact hc2 _ x av hx hav
   ·rcases hw with ⟨x, rfl, σ', S', h1, h2, h3⟩ | ⟨hp, ch, rfl, hb⟩
    ·exact hK σ' S' x w' h1 h2 h3
    ·exact hP hp ch w' hb
structure CallX (P : Program) (G : GL) (f : FuncId) (args : List AV) (Φ : AV → Prop) : Prop where
 enters : zbS P f
 cla : ∀ x ∈ args, Cl x
 runs : ∀ (S : Nat → Prop) (w : World) (vs : Array Value), (∀ k, S k → k < w.heap.size) → GS G S w → vs.size = args.length →
  (∀ (i : Nat) (x : Value) (av : AV), vs[i]? = some x → args[i]? = some av → Rel nσ S w x av) →
  Calls P f vs w fun e w' => Below w.heap.size w w' ∧ ∃ x res, Φ res ∧ e = .returned x ∧ Rel nσ (zf4 S w w') w' x res
inductive BigX (C : Cx) (s : AS) (o : Oper) (Φ : AV → Prop) : Prop
 | call (f : Operand) (args : Array Operand) (ty : Array TypeId) (g : FuncId) (caps as args' : List AV) (ho : o.op = .call ⟨.value f, args, ty⟩) (hf : ev s f = some (.fn g caps)) (ha : evL s args.toList = some as)
   (hle : LeL (as ++ caps) args') (hk : CallX C.P C.G g args' Φ) : BigX C s o Φ
theorem zmY (hG : znf D C) {s : AS} {o : Oper} {Φ : AV → Prop} (h : BigX C s o Φ) {σ : Sig} {S : Nat → Prop} {a : Act} {w : World} {K : Act → World → Prop} {Q : Exit → Act → World → Prop} (hF : Fit D S0 w0 σ S s.mem (fun b => b < s.next) w) (hE : zat σ S w s.env a)
  (hK : ∀ (σ' : Sig) (S' : Nat → Prop) (x : Value) (av : AV) (w' : World), Φ av → Fit D S0 w0 σ' S' s.mem (fun b => b < s.next) w' → zat σ' S' w' s.env a → Rel σ' S' w' x av → K (a.put o.dst x) w') : o.wp C.P a w K Q := by
 cases h with
 | call f args ty g caps as args' ho hf ha hle hk =>
  have hfv := za3 hE hf
  generalize hfe : a.eval f = fv at hfv
  obtain ⟨e1, e2⟩ := zeA hE _ _ ha
  cases hfv with
  | @fn _ cs _ hc1 hc2 =>
   have hrun : (execOp a.eval o).run C.P w = .ok (.enter g (args.map a.eval ++ cs)) w := by
    simp [execOp, ho, resolve, hfe, Deferred.ofValue, invoke, hk.enters _ _]
   unfold Oper.wp
   rw [hrun]
   simp only [Oper.upon]
   have e1' : args.size = as.length := by simpa using e1
   have hlen : (args.map a.eval ++ cs).size = (as ++ caps).length := by simp [hc1, e1']
   have hrel : ∀ (i : Nat) (x : Value) (av : AV), (args.map a.eval ++ cs)[i]? = some x → (as ++ caps)[i]? = some av → Rel σ S w x av := fun i x av hx hav => by
    rw [Array.getElem?_append] at hx
    rw [List.getElem?_append] at hav
    simp only [Array.size_map, e1'] at hx
    split at hx
    ·rename_i hi
     rw [if_pos hi] at hav
     exact e2 i x av (by simpa using hx) hav
    ·rename_i hi
     rw [if_neg hi] at hav
     exact hc2 _ x av hx hav
   refine (hk.runs S w _ hF.sbd (by rw [← hG.1]; exact hF.gs) (by rw [hlen, hle.length]) (fun i x av hx hav => ?_)).mono fun e w' hw => ?_
   ·obtain ⟨c, hc, hle'⟩ := hle.get i av hav
    exact hk.cla av (List.mem_of_getElem? hav) _ _ _ _ (hle' _ _ _ _ (hrel i x c hx hc))
   ·obtain ⟨hb, x, res, hφ, rfl, hx⟩ := hw
    exact hK σ _ x res w' hφ (hF.grow hb) (hE.grow hF hb) (hx.mono (fun b k h => by cases h) (fun _ h => h) ⟨fun _ _ => rfl, fun b k c e f hs hc => ⟨c, e, f, hc, Nat.le_refl _⟩⟩)
def ex (C : Cx) : Nat → List It → AS → (Lab → AS → Prop) → Prop
 | 0, _, _, _ => False
 | _ + 1, [], s, Q => Q .normal s
 | n + 1, .blk _ :: r, s, Q => ex C n r s Q
 | _ + 1, .lp k :: _, s, Q => Q (.lp k) s
 | n + 1, .op o g :: r, s, Q => dstOK C o.dst ∧ ((∃ rc, RecG C s o g rc ∧ ex C n r (s.did o rc) Q) ∨ (gOK s g ∧ ∃ s' av, BigG C s o s' av ∧ ex C n r (s'.put o.dst av) Q) ∨ (gOK s g ∧ ∃ Φ : AV → Prop, BigX C s o Φ ∧ ∀ av, Φ av → ex C n r (s.put o.dst av) Q))
 | n + 1, .code c :: r, s, Q =>
  match c with
  | .skip => ex C n r s Q
  | .seq x y => ex C n (.code x :: .code y :: r) s Q
  | .block id x => ex C n (.code x :: .blk id :: r) s Q
  | .ret => Q .ret s
  | .exit id => match zfN id r with
   | some r' => ex C n r' s Q
   | none => False
  | .cond c x y => ∃ b, ev s c = some (.v (.bool b)) ∧ (b = true → ex C n (.code x :: r) s Q) ∧ (b = false → ex C n (.code y :: r) s Q)
  | .region _ ops false => ex C n (zeb ops.toList ops.toList ++ r) s Q
  | .region _ ops true => ∃ recs s', Tr C ops.toList s ops.toList recs s' ∧ zbR ops.toList (recs.map Rc.fp) = true ∧ ex C n r s' Q
  | .loop c => ∃ I : Nat → AS → Prop, (∃ m s', I m s' ∧ zkx C.an s s') ∧ ∀ m s', I m s' → ex C n (.code c :: .lp (fresh r) :: r) s' (fun l s'' => (l = .lp (fresh r) ∧ ∃ m' s3, m' < m ∧ I m' s3 ∧ zkx C.an s'' s3) ∨ (l ≠ .lp (fresh r) ∧ Q l s''))
  | _ => False
theorem znt {s : AS} {a : Act} {o : Oper} {rc : Rc} {w' : World} {σ : Sig} {S : Nat → Prop} {nt : Nat} (hd : Fr D a) (hn : a.tmps.size = nt) (hF : Fit D S0 w0 σ S (s.upd rc.up).mem (zfT (fun b => b < s.next) s.next rc.up) w')
  (hE : zat σ S w' s.env a) (ho : match o.dst with | some d => d < nt | none => True) {x : Value} (hr : Rel σ S w' x rc.val) (hk : ∀ d, o.dst = some d → ∀ p ∈ D.fx, p.1 ≠ d) : Sim D S0 w0 nt (s.did o rc) (a.put o.dst x) w' := by
 have hF' : Fit D S0 w0 σ S (s.upd rc.up).mem (fun b => b < (s.upd rc.up).next) w' := hF.congr (fun _ => rfl) (fun b hb => by
  cases hu : rc.up with
  | keep => rw [hu] at hb; exact hb
  | set c m => rw [hu] at hb; exact hb
  | new m => rw [hu] at hb; rcases hb with hb | hb <;> simp [AS.upd] <;> omega
  | app c m => rw [hu] at hb; rcases hb with hb | hb <;> simp [AS.upd] <;> omega)
 refine ⟨hd.put x hk, by rw [zgs]; exact hn, σ, S, ?_, ?_⟩
 ·unfold AS.did; cases o.dst <;> exact hF'
 ·unfold AS.did
  cases hdd : o.dst with
  | none => simp only [AS.put, zgM, Act.put]; exact hE
  | some d => rw [hdd] at ho; simp only [AS.put, zgM]; exact hE.put (by rw [hn]; exact ho) hr
structure Meets (C : Cx) (D : Base) (S0 : Nat → Prop) (w0 : World) (nt : Nat) (Q : Lab → AS → Prop) (r : List It) (R : Exit → Act → World → Prop) (M : Nat → Act → World → Prop) : Prop where
 normal : ∀ s a w, Q .normal s → Sim D S0 w0 nt s a w → R .normal a w
 ret : ∀ s a w, Q .ret s → Sim D S0 w0 nt s a w → R .ret a w
 lp : ∀ k s a w, Q (.lp k) s → Sim D S0 w0 nt s a w → M k a w
 pan : PanOK C D w0 R
theorem zcz {P : Program} {R : Exit → Act → World → Prop} {M : Nat → Act → World → Prop} : ∀ (r : List It) (ch : List PanicEntry) (a : Act) (w : World), R (.panic ch) a w → zaJ P R M r (.panic ch) a w
 | [], _, _, _, h => h
 | .blk _ :: r, _, _, _, h => by simp only [zaJ]; exact zcz r _ _ _ h
 | .code _ :: r, _, _, _, h => by simp only [zaJ]; exact zcz r _ _ _ h
 | .op _ _ :: r, _, _, _, h => by simp only [zaJ]; exact zcz r _ _ _ h
 | .lp _ :: r, _, _, _, h => by simp only [zaJ]; exact zcz r _ _ _ h
theorem zbb (hT : zam C.P C.ti) (hG : znf D C) (hmx : C.P.follows .mixedOrders = true) : ∀ (n : Nat) (todo : List It) (s : AS) (Q : Lab → AS → Prop) (R : Exit → Act → World → Prop) (M : Nat → Act → World → Prop), ex C n todo s Q → ∀ (a : Act) (w : World), Sim D S0 w0 C.nt s a w →
  Meets C D S0 w0 C.nt Q todo R M → zaJ C.P R M todo .normal a w
 | 0, _, _, _, _, _, h, _, _, _, _ => h.elim
 | n + 1, [], s, Q, R, M, h, a, w, hs, hm => hm.normal _ _ _ h hs
 | n + 1, .blk _ :: r, s, Q, R, M, h, a, w, hs, hm => by
  simp only [ex] at h
  simp only [zaJ]
  exact zbb hT hG hmx n r s Q R M h a w hs ⟨hm.normal, hm.ret, hm.lp, hm.pan⟩
 | n + 1, .lp k :: r, s, Q, R, M, h, a, w, hs, hm => by
  simp only [ex] at h
  simp only [zaJ]
  exact hm.lp k s a w h hs
 | n + 1, .op o g :: r, s, Q, R, M, h, a, w, hs, hm => by
  simp only [ex] at h
  obtain ⟨hdst, h⟩ := h
  obtain ⟨hd, hn, σ, S, hF, hE⟩ := hs
  have hdst' : match o.dst with | some d => d < C.nt | none => True := by
   have hdst := hdst
   unfold dstOK at hdst
   cases hdd : o.dst <;> rw [hdd] at hdst
   ·exact hdst
   ·exact hdst.1
  rcases h with ⟨rc, hg, hk⟩ | ⟨hg, s', av, hb, hk⟩ | ⟨hg, Φ, hb, hk⟩
  case inr.inr =>
   simp only [zaJ]
   rw [if_pos (zif hE hg)]
   refine zmY hG hb hF hE (fun σ' S' x av w' hφ hF' hE' hr => zbb hT hG hmx n r _ Q R M (hk av hφ) _ w' ⟨hd.put x (zhm hG hdst), by rw [zgs]; exact hn, σ', S', ?_, ?_⟩ ⟨hm.normal, hm.ret, hm.lp, hm.pan⟩)
   ·cases o.dst <;> exact hF'
   ·cases hdd : o.dst with
    | none => simp only [AS.put, Act.put]; exact hE'
    | some d => rw [hdd] at hdst'; simp only [AS.put]; exact hE'.put (by rw [hn]; exact hdst') hr
  case inr.inl =>
   simp only [zaJ]
   rw [if_pos (zif hE hg)]
   refine zmZ hG hb hF hE (fun hp ch w2 hb => zcz r ch a w2 (hm.pan hp ch a w2 hd hb)) (fun σ' S' x w' hF' hE' hr => zbb hT hG hmx n r _ Q R M hk _ w' ⟨hd.put x (zhm hG hdst), by rw [zgs]; exact hn, σ', S', ?_, ?_⟩ ⟨hm.normal, hm.ret, hm.lp, hm.pan⟩)
   ·cases o.dst <;> exact hF'
   ·cases hdd : o.dst with
    | none => simp only [AS.put, Act.put]; exact hE'
    | some d => rw [hdd] at hdst'; simp only [AS.put]; exact hE'.put (by rw [hn]; exact hdst') hr
  have next : ∀ a' w', Sim D S0 w0 C.nt (s.did o rc) a' w' → zaJ C.P R M r .normal a' w' := fun a' w' hs' => zbb hT hG hmx n r _ Q R M hk a' w' hs' ⟨hm.normal, hm.ret, hm.lp, hm.pan⟩
  simp only [zaJ]
  have run : RecOK C s o rc → o.wp C.P a w (zaJ C.P R M r .normal) (zaJ C.P R M r) := fun h => zgZ (U := fun b => b < s.next) hT hG (Nat.lt_irrefl _) hF hE h (fun hp ch w2 hb => zcz r ch a w2 (hm.pan hp ch a w2 hd hb)) (fun x w' σ' S' hF' hE' hr => next _ _ (znt hd hn hF' hE' hdst' hr (zhm hG hdst)))
  cases hg with
  | none h => rw [if_pos (show zcu none a.tmps = true from rfl)]; exact run h
  | @yes t want rc hl h =>
   obtain ⟨v, hv, hvr⟩ := hE t _ hl
   have := zdZ hvr
   subst this
   rw [if_pos (by simp [zcu, hv])]
   exact run h
  | @no t want x hl hx =>
   obtain ⟨v, hv, hvr⟩ := hE t _ hl
   have := zdZ hvr
   subst this
   rw [if_neg (by rw [zid hv hx]; exact Bool.false_ne_true)]
   exact next _ _ (znt (rc := ⟨.v undef, .keep, none, none⟩) hd hn hF hE hdst' (.v _) (zhm hG hdst))
 | n + 1, .code c :: r, s, Q, R, M, h, a, w, hs, hm => by
  have go : ∀ (todo : List It), ex C n todo s Q → zaJ C.P R M todo .normal a w := fun todo h => zbb hT hG hmx n todo s Q R M h a w hs ⟨hm.normal, hm.ret, hm.lp, hm.pan⟩
  simp only [ex] at h
  split at h
  ·exact znK (go _ h)
  ·exact zlE (go _ h)
  ·exact zfM (go _ h)
  ·exact real_ret (zfi r (hm.ret _ _ _ h hs))
  ·split at h
   ·rename_i r' hp
    exact znL (zds _ _ _ _ _ hp (go _ h))
   ·exact h.elim
  ·rename_i c x y
   obtain ⟨b, hc, ht, hf⟩ := h
   have hs' := hs
   obtain ⟨hd, hn, σ, S, hF, hE⟩ := hs'
   refine znN (zee hE hc) ?_
   cases b
   ·exact go _ (hf rfl)
   ·exact go _ (ht rfl)
  ·exact zg1 (go _ h)
  ·obtain ⟨recs, s', h1, h2, h3⟩ := h
   simp only [zaJ]
   exact znM hT hG hmx h1 h2 hs (fun hp ch a2 w2 hd hb => zcz r ch a2 w2 (hm.pan hp ch a2 w2 hd hb)) (fun a' w' hs' => zbb hT hG hmx n r s' Q R M h3 a' w' hs' ⟨hm.normal, hm.ret, hm.lp, hm.pan⟩)
  ·rename_i c
   obtain ⟨I, ⟨m0, s0, hI0, hw0⟩, hround⟩ := h
   simp only [zaJ]
   let J : Act → World → Nat → Prop := fun a w m => ∃ s', I m s' ∧ Sim D S0 w0 C.nt s' a w
   have classical : ∀ a w, (∃ m, J a w m) → ∃ m, J a w m ∧ ∀ m', J a w m' → m ≤ m' := fun a w ⟨m, hm⟩ => by
    induction m using Nat.strongRecOn with
    | _ m ih =>
     by_cases h : ∃ m', m' < m ∧ J a w m'
     ·obtain ⟨m', hlt, hJ⟩ := h; exact ih m' hlt hJ
     ·exact ⟨m, hm, fun m' hm' => Nat.le_of_not_lt fun hlt => h ⟨m', hlt, hm'⟩⟩
   let μ : Act → World → Nat := fun a w => open Classical in if h : ∃ m, J a w m then (classical a w h).choose else 0
   have hμ : ∀ a w (h : ∃ m, J a w m), J a w (μ a w) ∧ ∀ m', J a w m' → μ a w ≤ m' := fun a w h => by
    have e : μ a w = (classical a w h).choose := by simp only [μ]; rw [dif_pos h]
    rw [e]; exact (classical a w h).choose_spec
   refine wp_loop (fun a w => ∃ m, J a w m) μ ⟨m0, s0, hI0, zly hG hs hw0⟩ (fun a w hI => ?_)
   obtain ⟨⟨s', hI', hs'⟩, _⟩ := hμ a w hI
   have key := zbb hT hG hmx n _ s' _ R (fun k a' w' => (k = fresh r ∧ (∃ m, J a' w' m) ∧ μ a' w' < μ a w) ∨ (k ≠ fresh r ∧ M k a' w')) (hround _ s' hI') a w hs'
    ⟨fun s a w hq hs => by
     rcases hq with ⟨hq, _⟩ | ⟨_, hq⟩
     ·cases hq
     ·exact hm.normal s a w hq hs, fun s a w hq hs => by
     rcases hq with ⟨hq, _⟩ | ⟨_, hq⟩
     ·cases hq
     ·exact hm.ret s a w hq hs, fun k s a' w' hq hs => by
     rcases hq with ⟨hq, m', s3, hlt, hI3, hw3⟩ | ⟨hne, hq⟩
     ·injection hq with hq
      have hJ : J a' w' m' := ⟨s3, hI3, zly hG hs hw3⟩
      exact .inl ⟨hq, ⟨m', hJ⟩, Nat.lt_of_le_of_lt ((hμ a' w' ⟨m', hJ⟩).2 m' hJ) hlt⟩
     ·exact .inr ⟨fun e => hne (by rw [e]), hm.lp k s a' w' hq hs⟩, hm.pan⟩
   simp only [zaJ] at key
   refine wp_mono key fun e a' w' q => ?_
   have pass : zaJ C.P R (fun k a' w' => (k = fresh r ∧ (∃ m, J a' w' m) ∧ μ a' w' < μ a w) ∨ (k ≠ fresh r ∧ M k a' w')) r e a' w' → zaJ C.P R M r e a' w' := zd4 r (fun k a w hk hM => by
    have := zdw r k hk
    rcases hM with ⟨hM, _⟩ | ⟨_, hM⟩
    ·omega
    ·exact hM) e a' w'
   cases e with
   | normal =>
    simp only [Exit.then]
    simp only [zaJ] at q
    rcases q with ⟨_, q1, q2⟩ | ⟨q, _⟩
    ·exact ⟨q1, q2⟩
    ·exact (q rfl).elim
   | exit id => simp only [zaJ] at q; exact pass q
   | goto l => simp only [zaJ] at q; exact pass q
   | ret => simp only [zaJ] at q; exact pass q
   | panic ch => simp only [zaJ] at q; exact pass q
   | outgrown => simp only [zaJ] at q; exact pass q
  ·exact h.elim
end
inductive PubL {α : Type} (R : α → α → Prop) : List α → List α → Prop
 | nil : PubL R [] []
 | cons {a b : α} {l m : List α} (h : R a b) (t : PubL R l m) : PubL R (a :: l) (b :: m)
inductive Pub0 (mem : List (Nat × MB)) : AV → AV → Prop
 | same {a : AV} : Pub0 mem a a
 | ps {b sz row n : Nat} {m : MB} (hm : look mem b = some m) (hsz : m.sz = sz) (hn : row + n ≤ m.rows.length) : Pub0 mem (.ps b sz row n) (.sl sz ((m.rows.drop row).take n))
 | p {b sz row j : Nat} {m : MB} (hm : look mem b = some m) (hsz : m.sz = sz) (hn : row < m.rows.length) : Pub0 mem (.p b sz row j) (.rp ((m.rows.getD row []).drop j))
inductive Pub1 (mem : List (Nat × MB)) : AV → AV → Prop
 | same {a : AV} : Pub1 mem a a
 | ps {b sz row n : Nat} {m : MB} (hm : look mem b = some m) (hsz : m.sz = sz) (hn : row + n ≤ m.rows.length) : Pub1 mem (.ps b sz row n) (.sl sz ((m.rows.drop row).take n))
 | p {b sz row j : Nat} {m : MB} (hm : look mem b = some m) (hsz : m.sz = sz) (hn : row < m.rows.length) : Pub1 mem (.p b sz row j) (.rp ((m.rows.getD row []).drop j))
 | sl {sz : Nat} {rows rows' : List (List AV)} (h : PubL (PubL (Pub0 mem)) rows rows') : Pub1 mem (.sl sz rows) (.sl sz rows')
inductive Pub2 (mem : List (Nat × MB)) : AV → AV → Prop
 | one {a b : AV} (h : Pub1 mem a b) : Pub2 mem a b
 | agg {l m : List AV} (h : PubL (Pub1 mem) l m) : Pub2 mem (.agg l) (.agg m)
inductive Pub (mem : List (Nat × MB)) : AV → AV → Prop
 | one {a b : AV} (h : Pub2 mem a b) : Pub mem a b
 | tup {l m : List AV} (h : PubL (Pub2 mem) l m) : Pub mem (.tup l) (.tup m)
theorem Pub.same {mem : List (Nat × MB)} {a : AV} : Pub mem a a := .one (.one .same)
theorem PubL.spec {α : Type} {R : α → α → Prop} {l m : List α} (h : PubL R l m) : l.length = m.length ∧ ∀ (i : Nat) (b : α), m[i]? = some b → ∃ a, l[i]? = some a ∧ R a b := by
 induction h with
 | nil => exact ⟨rfl, fun i b hb => by simp at hb⟩
 | cons h t ih =>
  refine ⟨by simp [ih.1], fun i b hb => ?_⟩
  cases i with
  | zero => simp at hb; subst hb; exact ⟨_, rfl, h⟩
  | succ i => simp at hb; simpa using ih.2 i b hb
section
variable {P : Program} {ti : zaN} {D : Base} {S0 : Nat → Prop} {w0 : World} {σ : Sig} {S : Nat → Prop} {w : World} {s : AS} {a : Act} {mem : List (Nat × MB)} {U : Nat → Prop}
def zkC (σ : Sig) (mem : List (Nat × MB)) (S : Nat → Prop) (k : Nat) : Prop := S k ∨ ∃ b m, look mem b = some m ∧ σ b = some k
theorem zaF : Keeps σ S w w := ⟨fun _ _ => rfl, fun b k c e f hs hc => ⟨c, e, f, hc, Nat.le_refl _⟩⟩
theorem Rel.more {x : Value} {av : AV} (h : Rel σ S w x av) : Rel σ (zkC σ mem S) w x av := h.mono (fun _ _ h => h) (fun _ h => .inl h) zaF
theorem ziM (hF : Fit D S0 w0 σ S mem U w) {x : Value} {av b : AV} (hr : Rel σ S w x av) (h : Pub0 mem av b) : Rel σ (zkC σ mem S) w x b := by
 cases h with
 | same => exact hr.more
 | @ps b sz row n m hm hsz hn =>
  rcases zgX hr with ⟨rfl, rfl⟩ | ⟨k', off, cap, f1, rfl, f2, f3, f4⟩
  ·rw [List.take_zero]; exact .nil
  obtain ⟨k, c, e, g1, g2, g3, g4, g5, g6, g7⟩ := (hF.mem b m hm).named f1
  have : k' = k := Option.some.inj (f1.symm.trans g1)
  subst this
  have hlen : ((m.rows.drop row).take n).length = n := by simp; omega
  have hk : zkC σ mem S k' := .inr ⟨b, m, hm, f1⟩
  have hcell : ∀ (i : Nat) (r : List AV) (j : Nat) (av : AV), ((m.rows.drop row).take n)[i]? = some r → r[j]? = some av → ∃ y, c[(row + i) * m.sz + j]? = some y ∧ Rel σ S w y av := fun i r j av hi hj => by
   rw [List.getElem?_take] at hi
   split at hi
   ·rw [List.getElem?_drop] at hi
    exact g7 (row + i) r j av hi hj
   ·cases hi
  have key := Rel.sl (σ := σ) (S := zkC σ mem S) (w := w) (k := k') (off := off) (cap := cap) (sz := sz) (rows := (m.rows.drop row).take n) (fun i j => (c[(row + i) * m.sz + j]?).getD undef) hk (by rw [hlen]; exact f2)
   (fun r hr => by rw [← hsz]; exact g5 r (List.mem_of_mem_drop (List.mem_of_mem_take hr)))
   (fun i r j av hi hj => by
    obtain ⟨y, hy, _⟩ := hcell i r j av hi hj
    have hin : i < n := by
     have := (List.getElem?_eq_some_iff.1 hi).1
     omega
    have hoff : off = row * sz := by
     rcases f3 with f3 | f3
     ·exact f3
     ·omega
    rw [zbm g4]
    have e1 : off + i * sz + j = (row + i) * m.sz + j := by rw [hoff, ← hsz, Nat.add_mul]
    rw [e1, hy]; rfl)
   (fun i r j av hi hj => by
    obtain ⟨y, hy, hy2⟩ := hcell i r j av hi hj
    simp only [hy, Option.getD_some]
    exact hy2.more)
  rw [hlen] at key
  exact key
 | @p b sz row j m hm hsz hn =>
  obtain ⟨k, c, e, g1, g2, g3, g4, g5, g6, g7⟩ := (hF.mem b m hm).row hn
  obtain ⟨k', f1, rfl⟩ := zjJ hr
  have : k' = k := Option.some.inj (f1.symm.trans g1)
  subst this
  have hk : zkC σ mem S k' := .inr ⟨b, m, hm, f1⟩
  refine .rp (fun i => (c[row * m.sz + (j + i)]?).getD undef) hk (fun i av hi => ?_) (fun i av hi => ?_)
  ·rw [List.getElem?_drop] at hi
   obtain ⟨y, hy, _⟩ := g7 row _ (j + i) av (zbL hn) hi
   rw [zbm g4, Nat.add_assoc, ← hsz, hy]; rfl
  ·rw [List.getElem?_drop] at hi
   obtain ⟨y, hy, hy2⟩ := g7 row _ (j + i) av (zbL hn) hi
   simp only [hy, Option.getD_some]
   exact hy2.more
theorem zlH (hF : Fit D S0 w0 σ S mem U w) {x : Value} {av b : AV} (hr : Rel σ S w x av) (h : Pub1 mem av b) : Rel σ (zkC σ mem S) w x b := by
 cases h with
 | same => exact hr.more
 | ps hm hsz hn => exact ziM hF hr (.ps hm hsz hn)
 | p hm hsz hn => exact ziM hF hr (.p hm hsz hn)
 | @sl sz rows rows' h =>
  obtain ⟨hl, hp⟩ := h.spec
  cases hr with
  | nil => cases h; exact .nil
  | e => cases h; exact .e
  | sl c hk hc hrl hcell hrr =>
   rw [hl]
   refine .sl c (.inl hk) (by rw [← hl]; exact hc) (fun r' hr' => ?_) (fun i r' j av' hi hj => ?_) (fun i r' j av' hi hj => ?_)
   ·obtain ⟨i, hi⟩ := List.getElem?_of_mem hr'
    obtain ⟨r, h1, h2⟩ := hp i r' hi
    rw [← h2.spec.1]; exact hrl r (List.mem_of_getElem? h1)
   ·obtain ⟨r, h1, h2⟩ := hp i r' hi
    obtain ⟨a, h3, _⟩ := h2.spec.2 j av' hj
    exact hcell i r j a h1 h3
   ·obtain ⟨r, h1, h2⟩ := hp i r' hi
    obtain ⟨a, h3, h4⟩ := h2.spec.2 j av' hj
    exact ziM hF (hrr i r j a h1 h3) h4
theorem zlG (hF : Fit D S0 w0 σ S mem U w) {x : Value} {av b : AV} (hr : Rel σ S w x av) (h : Pub2 mem av b) : Rel σ (zkC σ mem S) w x b := by
 cases h with
 | one h => exact zlH hF hr h
 | agg h =>
  obtain ⟨cs, rfl, hs, hc⟩ := zeO hr
  obtain ⟨hl, hp⟩ := h.spec
  exact .agg (by rw [hs, hl]) (fun i y b hy hb => by
   obtain ⟨a, ha, hab⟩ := hp i b hb
   exact zlH hF (hc i y a hy ha) hab)
theorem zeP (hF : Fit D S0 w0 σ S mem U w) {x : Value} {av b : AV} (hr : Rel σ S w x av) (h : Pub mem av b) : Rel σ (zkC σ mem S) w x b := by
 cases h with
 | one h => exact zlG hF hr h
 | tup h =>
  obtain ⟨cs, rfl, hs, hc⟩ := zkP hr
  obtain ⟨hl, hp⟩ := h.spec
  exact .tup (by rw [hs, hl]) (fun i y b hy hb => by
   obtain ⟨a, ha, hab⟩ := hp i b hb
   exact zlG hF (hc i y a hy ha) hab)
def resOne (ti : zaN) (s : AS) : ResultVar → Option (Prop × AV)
 | .tmp t => match look s.env t with
  | some av => some (True, av)
  | none => none
 | .cell t ty => match aLoad s.mem (ti ty) (look s.env t) with
  | some e => some (e.need, e.val)
  | none => none
def resL (ti : zaN) (s : AS) : List ResultVar → Option (Prop × List AV)
 | [] => some (True, [])
 | r :: rs => match resOne ti s r, resL ti s rs with
  | some (p, a), some (q, l) => some (p ∧ q, a :: l)
  | _, _ => none
def one : List AV → AV
 | [a] => a
 | l => .tup l
def Fin (mem : List (Nat × MB)) (r : Option (Prop × List AV)) (res : AV) : Prop := ∃ p l b, r = some (p, l) ∧ p ∧ Pub mem (one l) b ∧ Le b res
theorem zkO (hT : zam P ti) (hF : Fit D S0 w0 σ S s.mem U w) (hE : zat σ S w s.env a) {r : ResultVar} {p : Prop} {av : AV} (h : resOne ti s r = some (p, av)) (hp : p) :
  ∃ x, (match r with | .tmp t => pure (a.tmps.getD t undef) | .cell t ty => do loadVar ty (← asAddr (a.tmps.getD t undef)) : Sem Value).run P w = .ok x w ∧ Rel σ S w x av := by
 cases r with
 | tmp t =>
  simp only [resOne] at h
  split at h
  ·rename_i b hb
   simp only [Option.some.injEq, Prod.mk.injEq] at h
   obtain ⟨_, rfl⟩ := h
   obtain ⟨x, hx, hr⟩ := hE t b hb
   exact ⟨x, by simp [hx], hr⟩
  ·cases h
 | cell t ty =>
  simp only [resOne] at h
  split at h
  ·rename_i e he
   simp only [Option.some.injEq, Prod.mk.injEq] at h
   obtain ⟨rfl, rfl⟩ := h
   have hl : aLoad s.mem (ti ty) (ev s (.tmp t)) = some e := he
   obtain ⟨_, x, hrun, hr⟩ := s_load (P := P) (o := { dst := none, op := .load ty (.tmp t), type := 0, pos := "", after := #[], guard := none }) hT hF hE rfl hl hp
   refine ⟨x, ?_, hr⟩
   have hptr : ∃ ad, a.tmps.getD t undef = .pointer (some ad) := by
    unfold aLoad at he
    split at he
    ·rename_i y b _ hb
     split at he
     ·rename_i q cs hq
      obtain ⟨x', hx', hr'⟩ := hE t b hb
      have : a.tmps.getD t undef = x' := by simp [hx']
      rw [this]
      unfold behind at hq
      split at hq
      ·obtain ⟨k, _, h2⟩ := zjJ hr'; exact ⟨_, h2⟩
      ·obtain ⟨k, o', c, h2, _⟩ := rel_rp hr'; exact ⟨_, h2⟩
      ·cases hq
     ·cases he
    ·cases he
   obtain ⟨ad, had⟩ := hptr
   simp only [execOp, Instr.loadAt, Instr.sureAddr, Act.eval, had, Sem.run_bind, Sem.run_pure, Result.andThen_ok] at hrun
   simp only [had, asAddr, Sem.run_bind, Sem.run_pure, Result.andThen_ok]
   cases hq : (loadVar ty ad).run P w with
   | ok y w' => rw [hq] at hrun; simp [Result.andThen] at hrun; obtain ⟨rfl, rfl⟩ := hrun; rfl
   | halt y w' => rw [hq] at hrun; simp [Result.andThen] at hrun
  ·cases h
theorem zjI (hT : zam P ti) (hF : Fit D S0 w0 σ S s.mem U w) (hE : zat σ S w s.env a) : ∀ (rs : List ResultVar) (p : Prop) (l : List AV), resL ti s rs = some (p, l) → p →
  ∃ xs : List Value, (rs.mapM fun (r : ResultVar) => (match r with | .tmp t => pure (a.tmps.getD t undef) | .cell t ty => do loadVar ty (← asAddr (a.tmps.getD t undef)) : Sem Value)).run P w = .ok xs w ∧ xs.length = l.length ∧
   ∀ (i : Nat) (x : Value) (av : AV), xs[i]? = some x → l[i]? = some av → Rel σ S w x av
 | [], p, l, h, hp => by
  simp only [resL, Option.some.injEq, Prod.mk.injEq] at h
  obtain ⟨_, rfl⟩ := h
  exact ⟨[], by simp, rfl, fun i x av hx => by simp at hx⟩
 | r :: rs, p, l, h, hp => by
  simp only [resL] at h
  split at h
  ·rename_i p1 b q1 l1 h1 h2
   simp only [Option.some.injEq, Prod.mk.injEq] at h
   obtain ⟨h3, rfl⟩ := h
   rw [← h3] at hp
   obtain ⟨x, hx, hr⟩ := zkO hT hF hE h1 hp.1
   obtain ⟨xs, hxs, hlen, hrs⟩ := zjI hT hF hE rs q1 l1 h2 hp.2
   refine ⟨x :: xs, ?_, by simp [hlen], fun i y av hy hav => ?_⟩
   ·simp only [List.mapM_cons, Sem.run_bind, Sem.run_pure]
    rw [hx]
    simp only [Result.andThen_ok]
    rw [hxs]
    simp
   ·cases i with
    | zero => simp at hy hav; subst hy hav; exact hr
    | succ i => simp at hy hav; exact hrs i y av hy hav
  ·cases h
theorem zch (hT : zam P ti) (hF : Fit D S0 w0 σ S s.mem U w) (hE : zat σ S w s.env a) {fn : Func} {p : Prop} {l : List AV} (hr1 : resL ti s fn.results.toList = some (p, l)) (hp1 : p) :
  ∃ v, (results fn a.tmps).run P w = .ok v w ∧ Rel σ S w v (one l) := by
 obtain ⟨xs, hxs, hxl, hxr⟩ := zjI (P := P) hT hF hE _ _ _ hr1 hp1
 have hm : (fn.results.mapM fun (r : ResultVar) => (match r with | .tmp t => pure (a.tmps.getD t undef) | .cell t ty => do loadVar ty (← asAddr (a.tmps.getD t undef)) : Sem Value)).run P w = .ok xs.toArray w := by
  rw [Array.mapM_eq_mapM_toList, map_eq_pure_bind, Sem.run_bind, hxs]
  simp
 refine ⟨if h : xs.toArray.size = 1 then xs.toArray[0] else .tuple xs.toArray, ?_, ?_⟩
 ·unfold results
  simp only [Sem.run_bind]
  refine Eq.trans (congrArg (fun r => Result.andThen r _) hm) ?_
  simp
 ·cases l with
  | nil =>
   have : xs = [] := by simpa using hxl
   subst this
   exact .tup rfl (fun i x av hx => by simp at hx)
  | cons b0 l0 =>
   cases l0 with
   | nil =>
    cases xs with
    | nil => simp at hxl
    | cons x0 xs0 =>
     have : xs0 = [] := by simpa using hxl
     subst this
     simpa [one] using hxr 0 x0 b0 rfl rfl
   | cons b1 l1 =>
    have h2 : xs.length = l1.length + 2 := by simpa using hxl
    rw [dif_neg (by simp [h2])]
    exact .tup (by simpa using hxl) (fun i x av hx hav => hxr i x av (by simpa using hx) hav)
def entryEnv : Nat → List AV → List (Nat × AV)
 | _, [] => []
 | i, a :: l => (i, a) :: entryEnv (i + 1) l
theorem zbK : ∀ (l : List AV) (i t : Nat) (av : AV), look (entryEnv i l) t = some av → i ≤ t ∧ l[t - i]? = some av
 | [], i, t, av, h => by simp [entryEnv, look] at h
 | b :: l, i, t, av, h => by
  simp only [entryEnv, look] at h
  split at h
  ·rename_i he
   injection h with h; subst he h
   exact ⟨Nat.le_refl _, by simp⟩
  ·rename_i he
   obtain ⟨h1, h2⟩ := zbK l (i + 1) t av h
   refine ⟨by omega, ?_⟩
   rw [show t - i = (t - (i + 1)) + 1 by omega]
   simpa using h2
def entry (args : List AV) : AS := ⟨entryEnv 0 args, [], 0⟩
def Ends (ti : zaN) (rs : List ResultVar) (res : AV) (l : Lab) (s : AS) : Prop := (l = .normal ∨ l = .ret) ∧ Fin s.mem (resL ti s rs) res
theorem zll {C : Cx} (hT : zam C.P C.ti) (hmx : C.P.follows .mixedOrders = true) {f : FuncId} {fn : Func} {c : Code} {args : List AV} {res : AV} (n : Nat) (hent : zbS C.P f) (hf : C.P.funcs[f]? = some fn) (hb : fn.body = some c) (hnt : fn.ntmps = C.nt) (hargs : args.length ≤ C.nt)
  (hcl : ∀ x ∈ args, Cl x) (hres : Cl res) (h : ex C n [.code c] (entry args) (Ends C.ti fn.results.toList res)) (hpn : C.pn = false := by rfl) (hkp : C.kp = [] := by rfl) : CallOK C.P C.G f args res := by
 refine ⟨hent, hcl, hres, fun S w vs hS hgs hsz hr => ?_⟩
 refine calls_of_wp hf hb ?_
 have hlen : (vs ++ Array.replicate (fn.ntmps - vs.size) undef).size = C.nt := by simp [hnt, hsz]; omega
 have hsim : Sim ⟨fun _ => False, C.G, none, [], []⟩ S w C.nt (entry args) { tmps := vs ++ Array.replicate (fn.ntmps - vs.size) undef, defers := [] } w := by
  refine ⟨⟨rfl, fun p hp => by cases hp⟩, hlen, nσ, S, ⟨Bel.refl (fun g l hg => ⟨id, (hgs g l hg).2⟩), (fun b k h => by cases h), (fun b b' k m m' h => by simp [entry, look] at h), hS, (fun _ h => h), (fun _ h => .inl h), ⟨fun g l hg => (hgs g l hg).1, fun k hk => by cases hk⟩, (fun b m h => by simp [entry, look] at h)⟩, fun t av ht => ?_⟩
  obtain ⟨_, h2⟩ := zbK args 0 t av ht
  simp only [Nat.sub_zero] at h2
  have hlt : t < vs.size := by rw [hsz]; exact (List.getElem?_eq_some_iff.1 h2).1
  exact ⟨vs[t], by simp [Array.getElem?_append, hlt], hr t _ av (by simp [hlt]) h2⟩
 have fin : ∀ (e : Exit) (s : AS) (a : Act) (w' : World), (e = .normal ∨ e = .ret) → Fin s.mem (resL C.ti s fn.results.toList) res → Sim ⟨fun _ => False, C.G, none, [], []⟩ S w C.nt s a w' → bodyPost C.P fn (fun e w' => Below w.heap.size w w' ∧ ∃ x, e = .returned x ∧ Rel nσ (zf4 S w w') w' x res) e a w' := fun e s a w' he hq hs => ?_
 ·have key := zbb (D := ⟨fun _ => False, C.G, none, [], []⟩) (S0 := S) (w0 := w) (R := bodyPost C.P fn fun e w' => Below w.heap.size w w' ∧ ∃ x, e = .returned x ∧ Rel nσ (zf4 S w w') w' x res) (M := fun _ _ _ => False) hT ⟨rfl, fun _ => rfl, hkp.symm⟩ hmx n _ _ _ h _ _ hsim
   ⟨fun s a w q hs => fin _ s a w (.inl rfl) q.2 hs, fun s a w q hs => fin _ s a w (.inr rfl) q.2 hs, fun k s a w q hs => (by rcases q.1 with q | q <;> cases q), fun hp => (by rw [hpn] at hp; cases hp)⟩
  simp only [zaJ] at key
  exact wp_mono key fun e a w' q => by cases e <;> exact q
 ·obtain ⟨p, l, b, hr1, hp1, hpub, hle⟩ := hq
  obtain ⟨hd, hn, σ, S', hF, hE⟩ := hs
  have hv := zch (P := C.P) hT hF hE hr1 hp1
  obtain ⟨v, hv1, hv2⟩ := hv
  have hfin : Below w.heap.size w w' ∧ ∃ x, Ending.returned v = .returned x ∧ Rel nσ (zf4 S w w') w' x res := by
   refine ⟨hF.below.none, v, rfl, ?_⟩
   have h1 := hle _ _ _ _ (zeP hF hv2 hpub)
   refine (hres _ _ _ _ h1).mono (fun _ _ h => h) (fun k hk => ?_) zaF
   rcases hk with hk | ⟨b, m, hm, hσ⟩
   ·rcases hF.s1 k hk with hk' | hk'
    ·exact .inl hk'
    ·exact .inr ⟨hk'.resolve_right id, hF.sbd k hk⟩
   ·obtain ⟨k', c', e', g1, g2, _⟩ := (hF.mem b m hm).named hσ
    have : k' = k := Option.some.inj (g1.symm.trans hσ)
    subst this
    exact .inr ⟨g2.resolve_right id, (hF.dom b _ hσ).2⟩
  rcases he with rfl | rfl
  ·exact ⟨hd.1, v, hv1, hfin⟩
  ·exact ⟨hd.1, v, hv1, hfin⟩
end
end Go.Ax
