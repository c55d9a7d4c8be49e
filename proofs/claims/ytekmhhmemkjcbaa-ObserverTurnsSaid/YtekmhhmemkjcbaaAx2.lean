/- The abstract executor, part 2: that an abstract state fits a frame and a world, and how it goes on fitting. -/
import Derived.Test.YtekmhhmemkjcbaaAx1
set_option linter.unusedSimpArgs false
set_option linter.unusedVariables false
set_option linter.deprecated false
namespace Go.Ax
open Go Go.RowKit

/-- Package variables that hold plain data: their blocks, with what these hold. -/
abbrev GL := List (Nat × List Value)
/-- The blocks that a callee is given to write; the package variables. -/
structure Base where
  d : Nat → Prop
  G : GL
def GH (w : World) (g : Nat) (l : List Value) : Prop := ∃ c e f, w.heap[g]? = some (.cells c e f) ∧ ∀ (j : Nat) (x : Value), l[j]? = some x → c[j]? = some x
/-- The package variables hold what they hold, and are only read. -/
def GS (G : GL) (S : Nat → Prop) (w : World) : Prop := ∀ g l, (g, l) ∈ G → S g ∧ GH w g l

theorem GH.eq {w w' : World} {g : Nat} {l : List Value} (h : GH w g l) (he : w'.heap[g]? = w.heap[g]?) : GH w' g l := by
  obtain ⟨c, e, f, h1, h2⟩ := h
  exact ⟨c, e, f, by rw [he]; exact h1, h2⟩
theorem GH.lt {w : World} {g : Nat} {l : List Value} (h : GH w g l) : g < w.heap.size := by
  obtain ⟨c, e, f, h1, _⟩ := h
  exact (Array.getElem?_eq_some_iff.1 h1).1

/-- Below the heap of old nothing has turned but in the blocks D, which have not shrunk. -/
structure Bel (D : Base) (w w' : World) : Prop where
  os : w'.os = w.os
  tape : w'.tape = w.tape
  output : w'.output = w.output
  size : w.heap.size ≤ w'.heap.size
  block : ∀ k, k < w.heap.size → ¬ D.d k → w'.heap[k]? = w.heap[k]?
  kept : ∀ k c e f, D.d k → w.heap[k]? = some (.cells c e f) → ∃ c' e' f', w'.heap[k]? = some (.cells c' e' f') ∧ c.size ≤ c'.size
  glob : ∀ g l, (g, l) ∈ D.G → ¬ D.d g ∧ GH w g l

theorem Bel.refl {D : Base} {w : World} (h : ∀ g l, (g, l) ∈ D.G → ¬ D.d g ∧ GH w g l) : Bel D w w := ⟨rfl, rfl, rfl, Nat.le_refl _, fun _ _ _ => rfl, fun _ c e f _ h => ⟨c, e, f, h, Nat.le_refl _⟩, h⟩
theorem Bel.gh {D : Base} {w w' : World} (h : Bel D w w') {g : Nat} {l : List Value} (hg : (g, l) ∈ D.G) : GH w' g l := (h.glob g l hg).2.eq (h.block g (h.glob g l hg).2.lt (h.glob g l hg).1)
theorem lt_of_get {w : World} {k : Nat} {o : Obj} (h : w.heap[k]? = some o) : k < w.heap.size := (Array.getElem?_eq_some_iff.1 h).1
theorem Bel.then {D : Base} {w0 w w' : World} (h : Bel D w0 w) (k : Below w.heap.size w w') : Bel D w0 w' :=
  ⟨k.os.trans h.os, k.tape.trans h.tape, k.output.trans h.output, Nat.le_trans h.size k.size, fun i hi hd => (k.block i (Nat.lt_of_lt_of_le hi h.size)).trans (h.block i hi hd),
    fun i c e f hd hc => by obtain ⟨c', e', f', h1, h2⟩ := h.kept i c e f hd hc; exact ⟨c', e', f', by rw [k.block i (lt_of_get h1)]; exact h1, h2⟩, h.glob⟩
theorem Bel.none {G : GL} {w w' : World} (h : Bel ⟨fun _ => False, G⟩ w w') : Below w.heap.size w w' := ⟨h.os, h.tape, h.output, h.size, fun k hk => h.block k hk id⟩

/-- The blocks that may be private. -/
def Own (D : Base) (w0 : World) (k : Nat) : Prop := w0.heap.size ≤ k ∨ D.d k

/-- Private block b holds what m says. -/
def MemAt (σ : Sig) (S F : Nat → Prop) (w : World) (b : Nat) (m : MB) : Prop :=
  ∃ k c e, σ b = some k ∧ F k ∧ ¬ S k ∧ w.heap[k]? = some (.cells c e (0, 0)) ∧ (∀ r ∈ m.rows, r.length = m.sz) ∧ m.rows.length * m.sz ≤ c.size ∧
    ∀ (i : Nat) (r : List AV) (j : Nat) (av : AV), m.rows[i]? = some r → r[j]? = some av → ∃ x, c[i * m.sz + j]? = some x ∧ Rel σ S w x av
/-- So it is, or it is a slice that has no block yet. -/
def MemOK (σ : Sig) (S F : Nat → Prop) (w : World) (b : Nat) (m : MB) : Prop := (m.rows = [] ∧ σ b = none) ∨ MemAt σ S F w b m

theorem MemOK.row {σ : Sig} {S F : Nat → Prop} {w : World} {b : Nat} {m : MB} (h : MemOK σ S F w b m) {i : Nat} (hi : i < m.rows.length) : MemAt σ S F w b m := by
  rcases h with ⟨h, _⟩ | h
  · rw [h] at hi; simp at hi
  · exact h
theorem MemOK.named {σ : Sig} {S F : Nat → Prop} {w : World} {b k : Nat} {m : MB} (h : MemOK σ S F w b m) (hs : σ b = some k) : MemAt σ S F w b m := by
  rcases h with ⟨_, h⟩ | h
  · rw [h] at hs; cases hs
  · exact h

/-- The memory side of a fit. -/
structure Fit (D : Base) (S0 : Nat → Prop) (w0 : World) (σ : Sig) (S : Nat → Prop) (mem : List (Nat × MB)) (U : Nat → Prop) (w : World) : Prop where
  below : Bel D w0 w
  dom : ∀ b k, σ b = some k → U b ∧ k < w.heap.size
  inj : ∀ b b' k m m', look mem b = some m → look mem b' = some m' → σ b = some k → σ b' = some k → b = b'
  sbd : ∀ k, S k → k < w.heap.size
  s0 : ∀ k, S0 k → S k
  s1 : ∀ k, S k → S0 k ∨ Own D w0 k
  glob : ∀ g l, (g, l) ∈ D.G → S g
  mem : ∀ b m, look mem b = some m → MemOK σ S (Own D w0) w b m

def EnvOK (σ : Sig) (S : Nat → Prop) (w : World) (env : List (Nat × AV)) (a : Act) : Prop :=
  ∀ t av, look env t = some av → ∃ x, a.tmps[t]? = some x ∧ Rel σ S w x av

structure Sim (D : Base) (S0 : Nat → Prop) (w0 : World) (nt : Nat) (s : AS) (a : Act) (w : World) : Prop where
  defers : a.defers = []
  nt : a.tmps.size = nt
  ex : ∃ σ S, Fit D S0 w0 σ S s.mem (fun b => b < s.next) w ∧ EnvOK σ S w s.env a

theorem Fit.gs {D : Base} {S0 : Nat → Prop} {w0 : World} {σ : Sig} {S : Nat → Prop} {mem : List (Nat × MB)} {U : Nat → Prop} {w : World} (h : Fit D S0 w0 σ S mem U w) : GS D.G S w := fun g l hg => ⟨h.glob g l hg, h.below.gh hg⟩

section
variable {D : Base} {S0 : Nat → Prop} {w0 : World} {σ σ' : Sig} {S S' : Nat → Prop} {mem : List (Nat × MB)} {U : Nat → Prop} {w w' : World} {env : List (Nat × AV)} {a : Act}

theorem EnvOK.mono (hσ : ∀ b k, σ b = some k → σ' b = some k) (hS : ∀ k, S k → S' k) (hw : Keeps σ S w w') (h : EnvOK σ S w env a) : EnvOK σ' S' w' env a := fun t av ht => by
  obtain ⟨x, hx, hr⟩ := h t av ht
  exact ⟨x, hx, hr.mono hσ hS hw⟩

theorem EnvOK.put (h : EnvOK σ S w env a) {d : Nat} (hd : d < a.tmps.size) {x : Value} {av : AV} (hr : Rel σ S w x av) : EnvOK σ S w ((d, av) :: env) (a.put (some d) x) := fun t av' ht => by
  simp only [look] at ht
  split at ht
  · rename_i hdt
    injection ht with ht
    subst hdt ht
    exact ⟨x, by simp [Act.put, hd], hr⟩
  · rename_i hdt
    obtain ⟨x', hx', hr'⟩ := h t av' ht
    exact ⟨x', by simp [Act.put, Array.getElem?_setIfInBounds_ne hdt, hx'], hr'⟩

theorem EnvOK.sub (h : EnvOK σ S w env a) {env' : List (Nat × AV)} (hs : ∀ t av, look env' t = some av → ∃ av', look env t = some av' ∧ Le av' av) : EnvOK σ S w env' a := fun t av ht => by
  obtain ⟨av', h1, h2⟩ := hs t av ht
  obtain ⟨x, hx, hr⟩ := h t av' h1
  exact ⟨x, hx, h2 _ _ _ _ hr⟩

theorem put_size (a : Act) (d : Option Tmp) (x : Value) : (a.put d x).tmps.size = a.tmps.size := by cases d <;> simp [Act.put]
theorem put_defers (a : Act) (d : Option Tmp) (x : Value) : (a.put d x).defers = a.defers := by cases d <;> rfl

/-! a callee has run, or a draw was made: what lies below the heap's size is as it was -/
def Grow (S : Nat → Prop) (w w' : World) (k : Nat) : Prop := S k ∨ (w.heap.size ≤ k ∧ k < w'.heap.size)

theorem Fit.keeps_below (h : Fit D S0 w0 σ S mem U w) (hb : Below w.heap.size w w') : Keeps σ S w w' where
  old k hk := hb.block k (h.sbd k hk)
  size b k c e f hs hc := ⟨c, e, f, by rw [hb.block k (h.dom b k hs).2]; exact hc, Nat.le_refl _⟩

theorem Fit.grow (h : Fit D S0 w0 σ S mem U w) (hb : Below w.heap.size w w') : Fit D S0 w0 σ (Grow S w w') mem U w' where
  below := h.below.then hb
  dom b k hk := ⟨(h.dom b k hk).1, Nat.lt_of_lt_of_le (h.dom b k hk).2 hb.size⟩
  inj := h.inj
  sbd k hk := by rcases hk with hk | hk; exact Nat.lt_of_lt_of_le (h.sbd k hk) hb.size; exact hk.2
  s0 k hk := .inl (h.s0 k hk)
  s1 k hk := by rcases hk with hk | hk; exact h.s1 k hk; exact .inr (.inl (Nat.le_trans h.below.size hk.1))
  glob g l hg := .inl (h.glob g l hg)
  mem b m hm := by
    rcases h.mem b m hm with hn | ⟨k, c, e, h1, h2, h3, h4, h5, h6, h7⟩
    · exact .inl hn
    have hk := (h.dom b k h1).2
    refine .inr ⟨k, c, e, h1, h2, fun hs => ?_, by rw [hb.block k hk]; exact h4, h5, h6, fun i r j av hi hj => ?_⟩
    · rcases hs with hs | hs
      · exact h3 hs
      · omega
    · obtain ⟨x, hx, hr⟩ := h7 i r j av hi hj
      exact ⟨x, hx, hr.mono (fun _ _ h => h) (fun _ h => .inl h) (h.keeps_below hb)⟩

theorem EnvOK.grow (he : EnvOK σ S w env a) (h : Fit D S0 w0 σ S mem U w) (hb : Below w.heap.size w w') : EnvOK σ (Grow S w w') w' env a :=
  he.mono (fun _ _ h => h) (fun _ h => .inl h) (h.keeps_below hb)

/-! a new block -/
def upd (σ : Sig) (b k : Nat) : Sig := fun x => if x = b then some k else σ x

theorem upd_old (h : Fit D S0 w0 σ S mem U w) {id : Nat} (hid : ¬ U id) (b k : Nat) (hb : σ b = some k) (k' : Nat) : upd σ id k' b = some k := by
  unfold upd
  have hne : b ≠ id := by
    intro e
    subst e
    exact hid (h.dom _ k hb).1
  rw [if_neg hne]
  exact hb

theorem heap_alloc_lt (w : World) (o : Obj) {k : Nat} (h : k < w.heap.size) : (w.alloc o).heap[k]? = w.heap[k]? := Below.heap_alloc w o k h
theorem heap_alloc_new (w : World) (o : Obj) : (w.alloc o).heap[w.heap.size]? = some o := by
  show (w.heap.push o)[w.heap.size]? = _
  simp

theorem Fit.keeps_alloc (h : Fit D S0 w0 σ S mem U w) (o : Obj) : Keeps σ S w (w.alloc o) :=
  h.keeps_below ((Below.refl _ _).alloc (Nat.le_refl _) o)

theorem Fit.new (h : Fit D S0 w0 σ S mem U w) {next : Nat} (hid : ¬ U next) (c : Array Value) (e : TypeId) (m : MB) (hl : ∀ r ∈ m.rows, r.length = m.sz) (hz : m.rows.length * m.sz ≤ c.size)
    (hc : ∀ (i : Nat) (r : List AV) (j : Nat) (av : AV), m.rows[i]? = some r → r[j]? = some av → ∃ x, c[i * m.sz + j]? = some x ∧ Rel σ S w x av) :
    Fit D S0 w0 (upd σ next w.heap.size) S ((next, m) :: mem) (fun b => U b ∨ b = next) (w.alloc (.cells c e)) where
  below := h.below.then ((Below.refl _ _).alloc (Nat.le_refl _) _)
  dom b k hk := by
    unfold upd at hk
    split at hk
    · injection hk with hk; subst hk; rename_i hb; exact ⟨.inr hb, by simp⟩
    · have := h.dom b k hk; exact ⟨.inl this.1, by simp; omega⟩
  inj b b' k m1 m2 h1 h2 h3 h4 := by
    simp only [look] at h1 h2
    unfold upd at h3 h4
    by_cases e1 : b = next <;> by_cases e2 : b' = next
    · rw [e1, e2]
    · rw [if_pos e1] at h3; rw [if_neg e2] at h4
      injection h3 with h3; subst h3
      have := (h.dom b' _ h4).2; omega
    · rw [if_neg e1] at h3; rw [if_pos e2] at h4
      injection h4 with h4; subst h4
      have := (h.dom b _ h3).2; omega
    · rw [if_neg e1] at h3; rw [if_neg e2] at h4
      rw [if_neg (fun e => e1 e.symm)] at h1; rw [if_neg (fun e => e2 e.symm)] at h2
      exact h.inj b b' k m1 m2 h1 h2 h3 h4
  sbd k hk := by have := h.sbd k hk; simp; omega
  s0 := h.s0
  s1 := h.s1
  glob := h.glob
  mem b m' hm := by
    simp only [look] at hm
    split at hm
    · rename_i hb
      injection hm with hm
      subst hb hm
      refine .inr ⟨w.heap.size, c, e, by simp [upd], .inl h.below.size, fun hs => Nat.lt_irrefl _ (h.sbd _ hs), heap_alloc_new _ _, hl, hz, fun i r j av hi hj => ?_⟩
      obtain ⟨x, hx, hr⟩ := hc i r j av hi hj
      exact ⟨x, hx, hr.mono (fun b k hb => upd_old h hid b k hb _) (fun _ h => h) (h.keeps_alloc _)⟩
    · rename_i hb
      rcases h.mem b m' hm with ⟨hn1, hn2⟩ | ⟨k, c', e', h1, h2, h3, h4, h5, h6, h7⟩
      · refine .inl ⟨hn1, ?_⟩
        unfold upd
        rw [if_neg (fun e => hb e.symm)]; exact hn2
      have hk := (h.dom b k h1).2
      refine .inr ⟨k, c', e', upd_old h hid b k h1 _, h2, h3, by rw [heap_alloc_lt _ _ hk]; exact h4, h5, h6, fun i r j av hi hj => ?_⟩
      obtain ⟨x, hx, hr⟩ := h7 i r j av hi hj
      exact ⟨x, hx, hr.mono (fun b k hb => upd_old h hid b k hb _) (fun _ h => h) (h.keeps_alloc _)⟩

theorem EnvOK.new (he : EnvOK σ S w env a) (h : Fit D S0 w0 σ S mem U w) {next : Nat} (hid : ¬ U next) (o : Obj) (k' : Nat) : EnvOK (upd σ next k') S (w.alloc o) env a :=
  he.mono (fun b k hb => upd_old h hid b k hb _) (fun _ h => h) (h.keeps_alloc _)

/-! a store into a private block -/
theorem heap_setRow_ne (w : World) (g : Nat) (c : Array Value) {k : Nat} (h : k ≠ g) : (w.setRow g c).heap[k]? = w.heap[k]? := by
  simp only [World.setRow, Array.getElem?_modify]
  rw [if_neg (fun e => h e.symm)]

theorem bel_setRow {w0 w : World} {D : Base} (h : Bel D w0 w) {g : Nat} (hg : Own D w0 g) {c c' : Array Value} {e : TypeId} {f : Nat × Nat} (hc : w.heap[g]? = some (.cells c e f)) (hs : c.size = c'.size) : Bel D w0 (w.setRow g c') :=
  ⟨h.os, h.tape, h.output, by simpa [World.setRow] using h.size, fun k hk hd => by
    rw [heap_setRow_ne _ _ _ (fun e => by subst e; rcases hg with hg | hg; omega; exact hd hg)]; exact h.block k hk hd,
    fun k d e' f' hd hcd => by
      obtain ⟨c1, e1, f1, h1, h2⟩ := h.kept k d e' f' hd hcd
      by_cases hkg : k = g
      · subst hkg
        rw [hc] at h1
        injection h1 with h1
        injection h1 with h1 _ _
        subst h1
        exact ⟨c', e, f, setRow_heap w k c c' e f hc, by omega⟩
      · exact ⟨c1, e1, f1, by rw [heap_setRow_ne _ _ _ hkg]; exact h1, h2⟩, h.glob⟩

theorem Fit.keeps_set (h : Fit D S0 w0 σ S mem U w) {k : Nat} (hk : ¬ S k) {c c' : Array Value} {e : TypeId} {f : Nat × Nat} (hc : w.heap[k]? = some (.cells c e f)) (hs : c.size = c'.size) : Keeps σ S w (w.setRow k c') where
  old i hi := heap_setRow_ne _ _ _ (fun e => hk (e ▸ hi))
  size b i d e' f' hb hd := by
    by_cases hik : i = k
    · subst hik
      rw [hc] at hd
      injection hd with hd
      injection hd with hd1 hd2 hd3
      subst hd1 hd2 hd3
      exact ⟨c', e, f, setRow_heap w i c c' e f hc, by omega⟩
    · exact ⟨d, e', f', by rw [heap_setRow_ne _ _ _ hik]; exact hd, Nat.le_refl _⟩

theorem Fit.set (h : Fit D S0 w0 σ S mem U w) {b k : Nat} {m m' : MB} (hm : look mem b = some m) (hσ : σ b = some k) {c c' : Array Value} {e : TypeId} (hc : w.heap[k]? = some (.cells c e (0, 0))) (hs : c.size = c'.size)
    (hl : ∀ r ∈ m'.rows, r.length = m'.sz) (hz : m'.rows.length * m'.sz ≤ c'.size)
    (hr : ∀ (i : Nat) (r : List AV) (j : Nat) (av : AV), m'.rows[i]? = some r → r[j]? = some av → ∃ x, c'[i * m'.sz + j]? = some x ∧ Rel σ S w x av) :
    Fit D S0 w0 σ S ((b, m') :: mem) U (w.setRow k c') ∧ Keeps σ S w (w.setRow k c') := by
  obtain ⟨k0, c0, e0, g1, g2, g3, g4, g5, g6, g7⟩ := (h.mem b m hm).named hσ
  have hkk : k0 = k := by rw [hσ] at g1; injection g1 with g1; exact g1.symm
  subst hkk
  have hke := h.keeps_set g3 hc hs
  have hsz : (w.setRow k0 c').heap.size = w.heap.size := by simp [World.setRow]
  refine ⟨⟨bel_setRow h.below g2 hc hs, fun b k hk => by rw [hsz]; exact h.dom b k hk, ?_, fun k hk => by rw [hsz]; exact h.sbd k hk, h.s0, h.s1, h.glob, ?_⟩, hke⟩
  · intro b1 b2 k m1 m2 h1 h2 h3 h4
    have q1 : ∃ m1', look mem b1 = some m1' := by
      simp only [look] at h1
      split at h1
      · rename_i e1; exact ⟨m, e1 ▸ hm⟩
      · exact ⟨_, h1⟩
    have q2 : ∃ m2', look mem b2 = some m2' := by
      simp only [look] at h2
      split at h2
      · rename_i e1; exact ⟨m, e1 ▸ hm⟩
      · exact ⟨_, h2⟩
    obtain ⟨_, q1⟩ := q1
    obtain ⟨_, q2⟩ := q2
    exact h.inj b1 b2 k _ _ q1 q2 h3 h4
  · intro b1 m1 h1
    simp only [look] at h1
    split at h1
    · rename_i hb
      injection h1 with h1
      subst hb h1
      refine .inr ⟨k0, c', e, hσ, g2, g3, setRow_heap w k0 c c' e (0, 0) hc, hl, hz, fun i r j av hi hj => ?_⟩
      obtain ⟨x, hx, hx2⟩ := hr i r j av hi hj
      exact ⟨x, hx, hx2.mono (fun _ _ h => h) (fun _ h => h) hke⟩
    · rename_i hb
      rcases h.mem b1 m1 h1 with hn | ⟨k1, c1, e1, f1, f2, f3, f4, f5, f6, f7⟩
      · exact .inl hn
      have hne : k1 ≠ k0 := fun e => hb (h.inj b b1 k0 m m1 hm h1 hσ (e ▸ f1))
      refine .inr ⟨k1, c1, e1, f1, f2, f3, by rw [heap_setRow_ne _ _ _ hne]; exact f4, f5, f6, fun i r j av hi hj => ?_⟩
      obtain ⟨x, hx, hx2⟩ := f7 i r j av hi hj
      exact ⟨x, hx, hx2.mono (fun _ _ h => h) (fun _ h => h) hke⟩
end
end Go.Ax
