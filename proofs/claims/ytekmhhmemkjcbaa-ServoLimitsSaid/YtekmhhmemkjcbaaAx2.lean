/- The abstract executor, part 2: that an abstract state fits a frame and a world, and how it goes on fitting. -/
import Derived.Test.YtekmhhmemkjcbaaAx1
set_option linter.unusedSimpArgs false
set_option linter.unusedVariables false
set_option linter.deprecated false
namespace Go.Ax
open Go Go.RowKit

/-- Private block b holds what m says. -/
def MemOK (σ : Sig) (S : Nat → Prop) (N : Nat) (w : World) (b : Nat) (m : MB) : Prop :=
  ∃ k c e, σ b = some k ∧ N ≤ k ∧ ¬ S k ∧ w.heap[k]? = some (.cells c e (0, 0)) ∧ (∀ r ∈ m.rows, r.length = m.sz) ∧ m.rows.length * m.sz ≤ c.size ∧
    ∀ (i : Nat) (r : List AV) (j : Nat) (av : AV), m.rows[i]? = some r → r[j]? = some av → ∃ x, c[i * m.sz + j]? = some x ∧ Rel σ S w x av

/-- The memory side of a fit. -/
structure Fit (S0 : Nat → Prop) (w0 : World) (σ : Sig) (S : Nat → Prop) (mem : List (Nat × MB)) (U : Nat → Prop) (w : World) : Prop where
  below : Below w0.heap.size w0 w
  dom : ∀ b k, σ b = some k → U b ∧ k < w.heap.size
  inj : ∀ b b' k m m', look mem b = some m → look mem b' = some m' → σ b = some k → σ b' = some k → b = b'
  sbd : ∀ k, S k → k < w.heap.size
  s0 : ∀ k, S0 k → S k
  s1 : ∀ k, S k → S0 k ∨ w0.heap.size ≤ k
  mem : ∀ b m, look mem b = some m → MemOK σ S w0.heap.size w b m

def EnvOK (σ : Sig) (S : Nat → Prop) (w : World) (env : List (Nat × AV)) (a : Act) : Prop :=
  ∀ t av, look env t = some av → ∃ x, a.tmps[t]? = some x ∧ Rel σ S w x av

structure Sim (S0 : Nat → Prop) (w0 : World) (nt : Nat) (s : AS) (a : Act) (w : World) : Prop where
  defers : a.defers = []
  nt : a.tmps.size = nt
  ex : ∃ σ S, Fit S0 w0 σ S s.mem (fun b => b < s.next) w ∧ EnvOK σ S w s.env a

section
variable {S0 : Nat → Prop} {w0 : World} {σ σ' : Sig} {S S' : Nat → Prop} {mem : List (Nat × MB)} {U : Nat → Prop} {w w' : World} {env : List (Nat × AV)} {a : Act}

theorem EnvOK.mono (hσ : ∀ b k, σ b = some k → σ' b = some k) (hS : ∀ k, S k → S' k) (hw : Keeps σ S w w') (h : EnvOK σ S w env a) : EnvOK σ' S' w' env a := fun t av ht => by
  obtain ⟨x, hx, hr⟩ := h t av ht
  exact ⟨x, hx, hr.mono hσ hS hw⟩

theorem EnvOK.put (h : EnvOK σ S w env a) {d : Nat} (hd : d < a.tmps.size) {x : Value} {av : AV} (hr : Rel σ S w x av) : EnvOK σ S w ((d, av) :: env) (a.put (some d) x) := fun t av' ht => by
  simp only [look] at ht
  split at ht
  · rename_i hdt
    injection ht with ht
    subst hdt ht
    exact ⟨x, by simp [Act.put, hd], hr⟩
  · rename_i hdt
    obtain ⟨x', hx', hr'⟩ := h t av' ht
    exact ⟨x', by simp [Act.put, Array.getElem?_setIfInBounds_ne hdt, hx'], hr'⟩

theorem EnvOK.sub (h : EnvOK σ S w env a) {env' : List (Nat × AV)} (hs : ∀ t av, look env' t = some av → ∃ av', look env t = some av' ∧ Le av' av) : EnvOK σ S w env' a := fun t av ht => by
  obtain ⟨av', h1, h2⟩ := hs t av ht
  obtain ⟨x, hx, hr⟩ := h t av' h1
  exact ⟨x, hx, h2 _ _ _ _ hr⟩

theorem put_size (a : Act) (d : Option Tmp) (x : Value) : (a.put d x).tmps.size = a.tmps.size := by cases d <;> simp [Act.put]
theorem put_defers (a : Act) (d : Option Tmp) (x : Value) : (a.put d x).defers = a.defers := by cases d <;> rfl

/-! a callee has run, or a draw was made: what lies below the heap's size is as it was -/
def Grow (S : Nat → Prop) (w w' : World) (k : Nat) : Prop := S k ∨ (w.heap.size ≤ k ∧ k < w'.heap.size)

theorem Fit.keeps_below (h : Fit S0 w0 σ S mem U w) (hb : Below w.heap.size w w') : Keeps σ S w w' where
  old k hk := hb.block k (h.sbd k hk)
  size b k c e f hs hc := ⟨c, e, f, by rw [hb.block k (h.dom b k hs).2]; exact hc, Nat.le_refl _⟩

theorem Fit.grow (h : Fit S0 w0 σ S mem U w) (hb : Below w.heap.size w w') : Fit S0 w0 σ (Grow S w w') mem U w' where
  below := h.below.trans (hb.mono h.below.size)
  dom b k hk := ⟨(h.dom b k hk).1, Nat.lt_of_lt_of_le (h.dom b k hk).2 hb.size⟩
  inj := h.inj
  sbd k hk := by rcases hk with hk | hk; exact Nat.lt_of_lt_of_le (h.sbd k hk) hb.size; exact hk.2
  s0 k hk := .inl (h.s0 k hk)
  s1 k hk := by rcases hk with hk | hk; exact h.s1 k hk; exact .inr (Nat.le_trans h.below.size hk.1)
  mem b m hm := by
    obtain ⟨k, c, e, h1, h2, h3, h4, h5, h6, h7⟩ := h.mem b m hm
    have hk := (h.dom b k h1).2
    refine ⟨k, c, e, h1, h2, fun hs => ?_, by rw [hb.block k hk]; exact h4, h5, h6, fun i r j av hi hj => ?_⟩
    · rcases hs with hs | hs
      · exact h3 hs
      · omega
    · obtain ⟨x, hx, hr⟩ := h7 i r j av hi hj
      exact ⟨x, hx, hr.mono (fun _ _ h => h) (fun _ h => .inl h) (h.keeps_below hb)⟩

theorem EnvOK.grow (he : EnvOK σ S w env a) (h : Fit S0 w0 σ S mem U w) (hb : Below w.heap.size w w') : EnvOK σ (Grow S w w') w' env a :=
  he.mono (fun _ _ h => h) (fun _ h => .inl h) (h.keeps_below hb)

/-! a new block -/
def upd (σ : Sig) (b k : Nat) : Sig := fun x => if x = b then some k else σ x

theorem upd_old (h : Fit S0 w0 σ S mem U w) {id : Nat} (hid : ¬ U id) (b k : Nat) (hb : σ b = some k) (k' : Nat) : upd σ id k' b = some k := by
  unfold upd
  have hne : b ≠ id := by
    intro e
    subst e
    exact hid (h.dom _ k hb).1
  rw [if_neg hne]
  exact hb

theorem heap_alloc_lt (w : World) (o : Obj) {k : Nat} (h : k < w.heap.size) : (w.alloc o).heap[k]? = w.heap[k]? := Below.heap_alloc w o k h
theorem heap_alloc_new (w : World) (o : Obj) : (w.alloc o).heap[w.heap.size]? = some o := by
  show (w.heap.push o)[w.heap.size]? = _
  simp

theorem Fit.keeps_alloc (h : Fit S0 w0 σ S mem U w) (o : Obj) : Keeps σ S w (w.alloc o) :=
  h.keeps_below ((Below.refl _ _).alloc (Nat.le_refl _) o)

theorem Fit.new (h : Fit S0 w0 σ S mem U w) {next : Nat} (hid : ¬ U next) (c : Array Value) (e : TypeId) (m : MB) (hl : ∀ r ∈ m.rows, r.length = m.sz) (hz : m.rows.length * m.sz ≤ c.size)
    (hc : ∀ (i : Nat) (r : List AV) (j : Nat) (av : AV), m.rows[i]? = some r → r[j]? = some av → ∃ x, c[i * m.sz + j]? = some x ∧ Rel σ S w x av) :
    Fit S0 w0 (upd σ next w.heap.size) S ((next, m) :: mem) (fun b => U b ∨ b = next) (w.alloc (.cells c e)) where
  below := h.below.alloc h.below.size _
  dom b k hk := by
    unfold upd at hk
    split at hk
    · injection hk with hk; subst hk; rename_i hb; exact ⟨.inr hb, by simp⟩
    · have := h.dom b k hk; exact ⟨.inl this.1, by simp; omega⟩
  inj b b' k m1 m2 h1 h2 h3 h4 := by
    simp only [look] at h1 h2
    unfold upd at h3 h4
    by_cases e1 : b = next <;> by_cases e2 : b' = next
    · rw [e1, e2]
    · rw [if_pos e1] at h3; rw [if_neg e2] at h4
      injection h3 with h3; subst h3
      have := (h.dom b' _ h4).2; omega
    · rw [if_neg e1] at h3; rw [if_pos e2] at h4
      injection h4 with h4; subst h4
      have := (h.dom b _ h3).2; omega
    · rw [if_neg e1] at h3; rw [if_neg e2] at h4
      rw [if_neg (fun e => e1 e.symm)] at h1; rw [if_neg (fun e => e2 e.symm)] at h2
      exact h.inj b b' k m1 m2 h1 h2 h3 h4
  sbd k hk := by have := h.sbd k hk; simp; omega
  s0 := h.s0
  s1 := h.s1
  mem b m' hm := by
    simp only [look] at hm
    split at hm
    · rename_i hb
      injection hm with hm
      subst hb hm
      refine ⟨w.heap.size, c, e, by simp [upd], h.below.size, fun hs => Nat.lt_irrefl _ (h.sbd _ hs), heap_alloc_new _ _, hl, hz, fun i r j av hi hj => ?_⟩
      obtain ⟨x, hx, hr⟩ := hc i r j av hi hj
      exact ⟨x, hx, hr.mono (fun b k hb => upd_old h hid b k hb _) (fun _ h => h) (h.keeps_alloc _)⟩
    · rename_i hb
      obtain ⟨k, c', e', h1, h2, h3, h4, h5, h6, h7⟩ := h.mem b m' hm
      have hk := (h.dom b k h1).2
      refine ⟨k, c', e', upd_old h hid b k h1 _, h2, h3, by rw [heap_alloc_lt _ _ hk]; exact h4, h5, h6, fun i r j av hi hj => ?_⟩
      obtain ⟨x, hx, hr⟩ := h7 i r j av hi hj
      exact ⟨x, hx, hr.mono (fun b k hb => upd_old h hid b k hb _) (fun _ h => h) (h.keeps_alloc _)⟩

theorem EnvOK.new (he : EnvOK σ S w env a) (h : Fit S0 w0 σ S mem U w) {next : Nat} (hid : ¬ U next) (o : Obj) (k' : Nat) : EnvOK (upd σ next k') S (w.alloc o) env a :=
  he.mono (fun b k hb => upd_old h hid b k hb _) (fun _ h => h) (h.keeps_alloc _)

/-! a store into a private block -/
theorem heap_setRow_ne (w : World) (g : Nat) (c : Array Value) {k : Nat} (h : k ≠ g) : (w.setRow g c).heap[k]? = w.heap[k]? := by
  simp only [World.setRow, Array.getElem?_modify]
  rw [if_neg (fun e => h e.symm)]

theorem below_setRow {B : Nat} {a w : World} (h : Below B a w) {g : Nat} (hg : B ≤ g) (c : Array Value) : Below B a (w.setRow g c) :=
  h.trans ⟨rfl, rfl, rfl, by simp [World.setRow], fun k hk => heap_setRow_ne _ _ _ (by omega)⟩

theorem Fit.keeps_set (h : Fit S0 w0 σ S mem U w) {k : Nat} (hk : ¬ S k) {c c' : Array Value} {e : TypeId} {f : Nat × Nat} (hc : w.heap[k]? = some (.cells c e f)) (hs : c.size = c'.size) : Keeps σ S w (w.setRow k c') where
  old i hi := heap_setRow_ne _ _ _ (fun e => hk (e ▸ hi))
  size b i d e' f' hb hd := by
    by_cases hik : i = k
    · subst hik
      rw [hc] at hd
      injection hd with hd
      injection hd with hd1 hd2 hd3
      subst hd1 hd2 hd3
      exact ⟨c', e, f, setRow_heap w i c c' e f hc, by omega⟩
    · exact ⟨d, e', f', by rw [heap_setRow_ne _ _ _ hik]; exact hd, Nat.le_refl _⟩

theorem Fit.set (h : Fit S0 w0 σ S mem U w) {b k : Nat} {m m' : MB} (hm : look mem b = some m) (hσ : σ b = some k) {c c' : Array Value} {e : TypeId} (hc : w.heap[k]? = some (.cells c e (0, 0))) (hs : c.size = c'.size)
    (hl : ∀ r ∈ m'.rows, r.length = m'.sz) (hz : m'.rows.length * m'.sz ≤ c'.size)
    (hr : ∀ (i : Nat) (r : List AV) (j : Nat) (av : AV), m'.rows[i]? = some r → r[j]? = some av → ∃ x, c'[i * m'.sz + j]? = some x ∧ Rel σ S w x av) :
    Fit S0 w0 σ S ((b, m') :: mem) U (w.setRow k c') ∧ Keeps σ S w (w.setRow k c') := by
  obtain ⟨k0, c0, e0, g1, g2, g3, g4, g5, g6, g7⟩ := h.mem b m hm
  have hkk : k0 = k := by rw [hσ] at g1; injection g1 with g1; exact g1.symm
  subst hkk
  have hke := h.keeps_set g3 hc hs
  have hsz : (w.setRow k0 c').heap.size = w.heap.size := by simp [World.setRow]
  refine ⟨⟨below_setRow h.below g2 c', fun b k hk => by rw [hsz]; exact h.dom b k hk, ?_, fun k hk => by rw [hsz]; exact h.sbd k hk, h.s0, h.s1, ?_⟩, hke⟩
  · intro b1 b2 k m1 m2 h1 h2 h3 h4
    have q1 : ∃ m1', look mem b1 = some m1' := by
      simp only [look] at h1
      split at h1
      · rename_i e1; exact ⟨m, e1 ▸ hm⟩
      · exact ⟨_, h1⟩
    have q2 : ∃ m2', look mem b2 = some m2' := by
      simp only [look] at h2
      split at h2
      · rename_i e1; exact ⟨m, e1 ▸ hm⟩
      · exact ⟨_, h2⟩
    obtain ⟨_, q1⟩ := q1
    obtain ⟨_, q2⟩ := q2
    exact h.inj b1 b2 k _ _ q1 q2 h3 h4
  · intro b1 m1 h1
    simp only [look] at h1
    split at h1
    · rename_i hb
      injection h1 with h1
      subst hb h1
      refine ⟨k0, c', e, hσ, g2, g3, setRow_heap w k0 c c' e (0, 0) hc, hl, hz, fun i r j av hi hj => ?_⟩
      obtain ⟨x, hx, hx2⟩ := hr i r j av hi hj
      exact ⟨x, hx, hx2.mono (fun _ _ h => h) (fun _ h => h) hke⟩
    · rename_i hb
      obtain ⟨k1, c1, e1, f1, f2, f3, f4, f5, f6, f7⟩ := h.mem b1 m1 h1
      have hne : k1 ≠ k0 := fun e => hb (h.inj b b1 k0 m m1 hm h1 hσ (e ▸ f1))
      refine ⟨k1, c1, e1, f1, f2, f3, by rw [heap_setRow_ne _ _ _ hne]; exact f4, f5, f6, fun i r j av hi hj => ?_⟩
      obtain ⟨x, hx, hx2⟩ := f7 i r j av hi hj
      exact ⟨x, hx, hx2.mono (fun _ _ h => h) (fun _ h => h) hke⟩
end
end Go.Ax
