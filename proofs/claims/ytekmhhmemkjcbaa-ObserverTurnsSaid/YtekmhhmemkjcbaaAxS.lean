/- The abstract executor, part 18: append; private blocks that are frozen. -/
import Derived.Test.YtekmhhmemkjcbaaAxF
import Derived.Deep.AppendSrc
set_option linter.unusedSimpArgs false
set_option linter.unusedVariables false
set_option linter.deprecated false
namespace Go.Ax
open Go Go.RowKit

/-- A value that does not speak of private block b. -/
def NO (b : Nat) (a : AV) : Prop := ∀ (σ σ' : Sig) (S : Nat → Prop) (w : World) (x : Value), (∀ c k, c ≠ b → σ c = some k → σ' c = some k) → Rel σ S w x a → Rel σ' S w x a
theorem NO.v {b : Nat} {x : Value} : NO b (.v x) := fun _ _ _ _ _ _ h => by cases h; exact .v _
theorem NO.top {b : Nat} : NO b .top := fun _ _ _ _ x _ _ => .top x
theorem NO.cl {b : Nat} {a : AV} (h : Cl a) : NO b a := fun σ _ S w x _ hx => (h σ S w x hx).mono (fun _ _ hc => by cases hc) (fun _ h => h) ⟨fun _ _ => rfl, fun _ _ _ _ _ hb _ => by cases hb⟩
theorem NO.p {b c sz row j : Nat} (h : c ≠ b) : NO b (.p c sz row j) := fun _ _ _ _ _ hs hx => by
  cases hx with
  | p hσ => exact .p (hs _ _ h hσ)
theorem NO.ps {b c sz row n : Nat} (h : c ≠ b) : NO b (.ps c sz row n) := fun _ _ _ _ _ hs hx => by
  cases hx with
  | ps hσ h1 h2 h3 => exact .ps (hs _ _ h hσ) h1 h2 h3
  | ps0 => exact .ps0
theorem NO.agg {b : Nat} {l : List AV} (h : ∀ a ∈ l, NO b a) : NO b (.agg l) := fun _ _ _ _ _ hs hx => by
  cases hx with
  | agg h1 h2 => exact .agg h1 (fun i x av q1 q2 => h av (List.mem_of_getElem? q2) _ _ _ _ _ hs (h2 i x av q1 q2))
theorem NO.tup {b : Nat} {l : List AV} (h : ∀ a ∈ l, NO b a) : NO b (.tup l) := fun _ _ _ _ _ hs hx => by
  cases hx with
  | tup h1 h2 => exact .tup h1 (fun i x av q1 q2 => h av (List.mem_of_getElem? q2) _ _ _ _ _ hs (h2 i x av q1 q2))
theorem NO.fn {b : Nat} {f : FuncId} {l : List AV} (h : ∀ a ∈ l, NO b a) : NO b (.fn f l) := fun _ _ _ _ _ hs hx => by
  cases hx with
  | fn h1 h2 => exact .fn h1 (fun i x av q1 q2 => h av (List.mem_of_getElem? q2) _ _ _ _ _ hs (h2 i x av q1 q2))

def isB (b : Nat) : AV → Bool
  | .ps c _ _ _ => c == b
  | .p c _ _ _ => c == b
  | _ => false
def killE (b : Nat) : List (Nat × AV) → List (Nat × AV)
  | [] => []
  | (t, a) :: l => bif isB b a then killE b l else (t, a) :: killE b l
/-- What is not struck does not speak of b. -/
def noEnv (b : Nat) : List (Nat × AV) → Prop
  | [] => True
  | (_, a) :: l => (isB b a = true ∨ NO b a) ∧ noEnv b l
def noMem (b : Nat) : List (Nat × MB) → Prop
  | [] => True
  | (_, m) :: l => (∀ r ∈ m.rows, ∀ a ∈ r, NO b a) ∧ noMem b l
def dropM (b : Nat) : List (Nat × MB) → List (Nat × MB)
  | [] => []
  | (k, m) :: l => bif k == b then dropM b l else (k, m) :: dropM b l

theorem noEnv_kill {b : Nat} : ∀ (l : List (Nat × AV)), noEnv b l → ∀ t a, look (killE b l) t = some a → NO b a
  | [], _, t, a, h => by simp [killE, look] at h
  | (t', a') :: l, hl, t, a, h => by
    simp only [killE] at h
    cases hb : isB b a' with
    | true => rw [hb] at h; exact noEnv_kill l hl.2 t a h
    | false =>
      rw [hb] at h
      simp only [cond_false, look] at h
      split at h
      · injection h with h; subst h
        rcases hl.1 with h1 | h1
        · rw [hb] at h1; cases h1
        · exact h1
      · exact noEnv_kill l hl.2 t a h
theorem noMem_look {b : Nat} : ∀ (l : List (Nat × MB)), noMem b l → ∀ k m, look l k = some m → ∀ r ∈ m.rows, ∀ a ∈ r, NO b a
  | [], _, k, m, h => by simp [look] at h
  | (k', m') :: l, hl, k, m, h => by
    simp only [look] at h
    split at h
    · injection h with h; subst h; exact hl.1
    · exact noMem_look l hl.2 k m h
theorem look_dropM {b : Nat} : ∀ (l : List (Nat × MB)) (k : Nat) (m : MB), look (dropM b l) k = some m → k ≠ b ∧ look l k = some m
  | [], k, m, h => by simp [dropM, look] at h
  | (k', m') :: l, k, m, h => by
    simp only [dropM] at h
    by_cases hk : k' = b
    · subst hk
      simp only [beq_self_eq_true, cond_true] at h
      obtain ⟨h1, h2⟩ := look_dropM l k m h
      exact ⟨h1, by simp only [look]; rw [if_neg (fun e => h1 e.symm)]; exact h2⟩
    · simp only [beq_eq_false_iff_ne.2 hk, cond_false, look] at h ⊢
      split at h
      · rename_i he
        injection h with h; subst h he
        exact ⟨hk, by simp⟩
      · rename_i he
        obtain ⟨h1, h2⟩ := look_dropM l k m h
        exact ⟨h1, by rw [if_neg he]; exact h2⟩

/-- In the killed environment stands what stood, where it is the first of its name. -/
def keepsOrder (b : Nat) (l : List (Nat × AV)) : Prop := ∀ t a, look (killE b l) t = some a → look l t = some a ∨ ∃ a', look l t = some a' ∧ isB b a' = true

section
variable {P : Program} {ti : Types} {D : Base} {S0 : Nat → Prop} {w0 : World} {σ : Sig} {S : Nat → Prop} {w : World} {mem : List (Nat × MB)} {U : Nat → Prop}

theorem Fit.sub (hF : Fit D S0 w0 σ S mem U w) {mem' : List (Nat × MB)} (h : ∀ b m, look mem' b = some m → look mem b = some m) : Fit D S0 w0 σ S mem' U w :=
  ⟨hF.below, hF.dom, fun b b' k m m' h1 h2 h3 h4 => hF.inj b b' k m m' (h _ _ h1) (h _ _ h2) h3 h4, hF.sbd, hF.s0, hF.s1, hF.glob, fun b m hb => hF.mem b m (h _ _ hb)⟩

/-! ### what is appended -/
def srcA (mem : List (Nat × MB)) (sz : Nat) : Option AV → Option (Prop × List (List AV))
  | some (.sl sz' rows) => if sz' = sz then some (True, rows) else none
  | some (.ps b sz' row n) => match look mem b with
    | some m => if sz' = sz ∧ m.sz = sz then some (row + n ≤ m.rows.length, (m.rows.drop row).take n) else none
    | none => none
  | some (.v (.slice none 0 0)) => some (True, [])
  | _ => none

/-- Rows of one-cell values. -/
def RowsOK (b sz : Nat) (rows : List (List AV)) : Prop := ∀ r ∈ rows, r.length = sz ∧ ∀ a ∈ r, a.one = true ∧ NO b a

theorem src_cells (hT : TypesOK P ti) {tx : TypeId} (htx : isSlcT (ti tx) = true) {size b k off cap : Nat} (h0 : 0 < size) {rows : List (List AV)} (hrows : RowsOK b size rows)
    (hc : ∀ (i : Nat) (r : List AV) (j : Nat) (av : AV), rows[i]? = some r → r[j]? = some av → ∃ v, w.cell? ⟨k, off + i * size + j, none⟩ = some v ∧ Rel σ S w v av) :
    ∃ news : List Value, Src P size tx (.slice (some ⟨k, off, none⟩) rows.length cap) rows.length news w ∧ ∀ (i : Nat) (r : List AV) (j : Nat) (av : AV), rows[i]? = some r → r[j]? = some av → ∃ v, news[i * size + j]? = some v ∧ Rel σ S w v av := by
  obtain ⟨e', hk⟩ := isSlcT_spec hT htx
  have at_ : ∀ q, q < rows.length * size → ∃ r av, rows[q / size]? = some r ∧ r[q % size]? = some av := fun q hq => by
    have h1 : q / size < rows.length := by rw [Nat.div_lt_iff_lt_mul h0]; exact hq
    have h2 : (rows[q / size]).length = size := (hrows _ (List.getElem_mem h1)).1
    have h3 : q % size < (rows[q / size]).length := by rw [h2]; exact Nat.mod_lt _ h0
    exact ⟨rows[q / size], (rows[q / size])[q % size], List.getElem?_eq_getElem h1, List.getElem?_eq_getElem h3⟩
  obtain ⟨news, hl, hq⟩ := exists_list (Q := fun q v => w.cell? ⟨k, off + q, none⟩ = some v ∧ ∀ r av, rows[q / size]? = some r → r[q % size]? = some av → Rel σ S w v av) (rows.length * size) (fun q hq => by
    obtain ⟨r, av, h1, h2⟩ := at_ q hq
    obtain ⟨v, hv, hr⟩ := hc _ r _ av h1 h2
    refine ⟨v, ?_, fun r' av' h1' h2' => ?_⟩
    · rw [← hv, show off + q = off + q / size * size + q % size by rw [Nat.add_assoc, Nat.mul_comm, Nat.div_add_mod]]
    · rw [h1] at h1'; injection h1' with h1'; subst h1'
      rw [h2] at h2'; injection h2' with h2'; subst h2'
      exact hr)
  refine ⟨news, Src.ofSlice w hk _ _ _ news hl (fun j u hj => by rw [add_addr]; exact (hq j u hj).1) (fun u hu => ?_), fun i r j av hi hj => ?_⟩
  · obtain ⟨j, hj⟩ := List.getElem?_of_mem hu
    have hlt : j < rows.length * size := by rw [← hl]; exact (List.getElem?_eq_some_iff.1 hj).1
    obtain ⟨r, av, h1, h2⟩ := at_ j hlt
    exact rel_one ((hq j u hj).2 r av h1 h2) ((hrows r (List.mem_of_getElem? h1)).2 av (List.mem_of_getElem? h2)).1
  · have hr := (hrows r (List.mem_of_getElem? hi)).1
    have hj' : j < size := by rw [← hr]; exact (List.getElem?_eq_some_iff.1 hj).1
    have hi' : i < rows.length := (List.getElem?_eq_some_iff.1 hi).1
    have hlt : i * size + j < news.length := by
      rw [hl]
      have : (i + 1) * size ≤ rows.length * size := Nat.mul_le_mul_right _ hi'
      rw [Nat.add_mul, Nat.one_mul] at this
      omega
    have e1 : (i * size + j) / size = i := by rw [Nat.mul_comm, Nat.mul_add_div h0, Nat.div_eq_of_lt hj', Nat.add_zero]
    have e2 : (i * size + j) % size = j := by rw [Nat.mul_comm, Nat.mul_add_mod, Nat.mod_eq_of_lt hj']
    exact ⟨news[i * size + j], by simp [hlt], (hq (i * size + j) news[i * size + j] (by simp [hlt])).2 r av (by rw [e1]; exact hi) (by rw [e2]; exact hj)⟩

theorem src_spec (hT : TypesOK P ti) (hF : Fit D S0 w0 σ S mem U w) {tx : TypeId} (htx : isSlcT (ti tx) = true) {size b : Nat} (h0 : 0 < size) {xv : Value} {av : AV} (hr : Rel σ S w xv av) {p : Prop} {rows : List (List AV)}
    (h : srcA mem size (some av) = some (p, rows)) (hp : p) (hrows : RowsOK b size rows) :
    ∃ news : List Value, Src P size tx xv rows.length news w ∧ ∀ (i : Nat) (r : List AV) (j : Nat) (av : AV), rows[i]? = some r → r[j]? = some av → ∃ v, news[i * size + j]? = some v ∧ Rel σ S w v av := by
  obtain ⟨e', hk⟩ := isSlcT_spec hT htx
  have nilc : ∀ cap, ∃ news : List Value, Src P size tx (.slice none 0 cap) 0 news w ∧ ∀ (i : Nat) (r : List AV) (j : Nat) (av : AV), ([] : List (List AV))[i]? = some r → r[j]? = some av → ∃ v, news[i * size + j]? = some v ∧ Rel σ S w v av := fun cap =>
    ⟨[], Src.ofNil w hk cap, fun i r j av hi => by simp at hi⟩
  unfold srcA at h
  split at h
  · rename_i sz' rows' heq
    injection heq with heq; subst heq
    split at h
    · rename_i hsz
      subst hsz
      simp only [Option.some.injEq, Prod.mk.injEq] at h
      obtain ⟨_, rfl⟩ := h
      cases hr with
      | nil => exact nilc 0
      | @e a cap _ =>
        obtain ⟨k, off, spot⟩ := a
        refine ⟨[], ⟨.inl ⟨e', hk⟩, fun _ => rfl, ?_, ?_, by simp, fun u hu => by cases hu⟩, fun i r j av hi => by simp at hi⟩
        · exact run_firstCells_some w _ 0 _ 0 cap [] (by simp) (fun j u hu => by simp at hu)
        · exact run_firstCells_some w.drew _ 0 _ 0 cap [] (by simp) (fun j u hu => by simp at hu)
      | @sl k off cap _ _ c hkS hc hl hcell hrr => exact src_cells hT htx h0 hrows (fun i r j av hi hj => ⟨_, hcell i r j av hi hj, hrr i r j av hi hj⟩)
    · cases h
  · rename_i c sz' row n heq
    injection heq with heq; subst heq
    split at h
    · rename_i m hm
      split at h
      · rename_i hsz
        obtain ⟨rfl, hsz2⟩ := hsz
        simp only [Option.some.injEq, Prod.mk.injEq] at h
        obtain ⟨h1, rfl⟩ := h
        rw [← h1] at hp
        have hlen : ((m.rows.drop row).take n).length = n := by simp; omega
        rcases rel_ps hr with ⟨rfl, rfl⟩ | ⟨k, off, cap, f1, rfl, f2, f3, f4⟩
        · rw [List.take_zero]; exact nilc 0
        · obtain ⟨k', c', e, g1, g2, g3, g4, g5, g6, g7⟩ := (hF.mem c m hm).named f1
          have : k' = k := Option.some.inj (g1.symm.trans f1)
          subst this
          have key := src_cells (P := P) (σ := σ) (S := S) (w := w) (k := k') (off := off) (cap := cap) hT htx h0 hrows (fun i r j av hi hj => by
            rw [List.getElem?_take] at hi
            split at hi
            · rename_i hin
              rw [List.getElem?_drop] at hi
              have hoff : off = row * sz' := by
                rcases f3 with f3 | f3
                · exact f3
                · omega
              obtain ⟨v, hv, hvr⟩ := g7 _ r j av hi hj
              exact ⟨v, by rw [cell_of_cells g4, hoff, ← hv, hsz2, Nat.add_mul], hvr⟩
            · cases hi)
          rw [hlen] at key ⊢
          exact key
      · cases h
    · cases h
  · rename_i heq
    injection heq with heq; subst heq
    simp only [Option.some.injEq, Prod.mk.injEq] at h
    obtain ⟨_, rfl⟩ := h
    cases hr
    exact nilc 0
  · cases h

theorem run_append_in {t tx ty e : TypeId} {i : TypeInfo} (ht : P.underlying t = some (.slice e)) (hi : P.info? e = some i) (k off sLen sCap : Nat) (x : Value) (n : Nat) (news : List Value) (hs : Src P i.size tx x n news w)
    (cur : Array Value) (et : TypeId) (hg : w.heap[k]? = some (.cells cur et (0, 0))) (hroom : sLen + n ≤ sCap) (hfit : off + sLen * i.size + news.length ≤ cur.size) :
    (Builtin.append_ #[t, tx] ty #[.slice (some ⟨k, off, none⟩) sLen sCap, x]).run P w = .ok (.slice (some ⟨k, off, none⟩) (sLen + n) sCap) (w.setRow k (cur.toList.take (off + sLen * i.size) ++ news ++ cur.toList.drop (off + sLen * i.size + news.length)).toArray) := by
  have hst := run_storeCells_at P k (off + sLen * i.size) et news 0 cur w hg (by simpa using hfit) hs.one
  simp only [Nat.add_zero] at hst
  rcases hs.kind with ⟨e', hk⟩ | hk <;> simp [Builtin.append_, run_underlying ht, run_underlying hk, sizeOf, typeInfo, hi, hs.len, hroom, hs.cells, Addr.add_lit, hst]

theorem run_append_stay {t tx ty e : TypeId} {i : TypeInfo} (ht : P.underlying t = some (.slice e)) (hi : P.info? e = some i) (base : Option Addr) (sLen sCap : Nat) (x : Value) (hs : Src P i.size tx x 0 [] w) (hroom : sLen ≤ sCap) :
    (Builtin.append_ #[t, tx] ty #[.slice base sLen sCap, x]).run P w = .ok (.slice base sLen sCap) w := by
  rcases hs.kind with ⟨e', hk⟩ | hk <;> cases base <;> simp [Builtin.append_, run_underlying ht, run_underlying hk, sizeOf, typeInfo, hi, hs.len, hroom, hs.cells, storeCells]

/-- A private slice moves to a new block. -/
theorem Fit.move (hF : Fit D S0 w0 σ S mem U w) {b : Nat} (hb : U b) (w' : World) (hw : Below w.heap.size w w') {k : Nat} {c : Array Value} {e : TypeId} {m' : MB} (hk : w.heap.size ≤ k) (hc : w'.heap[k]? = some (.cells c e (0, 0)))
    (hno : ∀ b' m, b' ≠ b → look mem b' = some m → ∀ r ∈ m.rows, ∀ a ∈ r, NO b a) (hl : ∀ r ∈ m'.rows, r.length = m'.sz) (hz : m'.rows.length * m'.sz ≤ c.size)
    (hr : ∀ (i : Nat) (r : List AV) (j : Nat) (av : AV), m'.rows[i]? = some r → r[j]? = some av → ∃ x, c[i * m'.sz + j]? = some x ∧ Rel σ S w x av ∧ NO b av) :
    Fit D S0 w0 (upd σ b k) S ((b, m') :: mem) U w' := by
  have hke := hF.keeps_below hw
  have hσ : ∀ c k', c ≠ b → σ c = some k' → upd σ b k c = some k' := fun c k' hc hs => by unfold upd; rw [if_neg hc]; exact hs
  have hlt : k < w'.heap.size := lt_of_get hc
  refine ⟨hF.below.then hw, fun b1 k1 h1 => ?_, fun b1 b2 k1 m1 m2 h1 h2 h3 h4 => ?_, fun k hk => Nat.lt_of_lt_of_le (hF.sbd k hk) hw.size, hF.s0, hF.s1, hF.glob, fun b1 m1 h1 => ?_⟩
  · unfold upd at h1
    split at h1
    · rename_i he; injection h1 with h1; subst h1 he; exact ⟨hb, hlt⟩
    · obtain ⟨q1, q2⟩ := hF.dom b1 k1 h1; exact ⟨q1, Nat.lt_of_lt_of_le q2 hw.size⟩
  · unfold upd at h3 h4
    simp only [look] at h1 h2
    by_cases e1 : b1 = b <;> by_cases e2 : b2 = b
    · rw [e1, e2]
    · rw [if_pos e1] at h3; rw [if_neg e2] at h4
      injection h3 with h3; subst h3
      have := (hF.dom b2 _ h4).2; omega
    · rw [if_neg e1] at h3; rw [if_pos e2] at h4
      injection h4 with h4; subst h4
      have := (hF.dom b1 _ h3).2; omega
    · rw [if_neg e1] at h3; rw [if_neg e2] at h4
      rw [if_neg (fun e => e1 e.symm)] at h1; rw [if_neg (fun e => e2 e.symm)] at h2
      exact hF.inj b1 b2 k1 m1 m2 h1 h2 h3 h4
  · simp only [look] at h1
    split at h1
    · rename_i he
      injection h1 with h1
      subst he h1
      refine .inr ⟨k, c, e, by simp [upd], .inl (Nat.le_trans hF.below.size hk), fun hs => by have := hF.sbd _ hs; omega, hc, hl, hz, fun i r j av hi hj => ?_⟩
      obtain ⟨x, hx, hxr, hn⟩ := hr i r j av hi hj
      exact ⟨x, hx, hn _ _ _ _ _ hσ (hxr.mono (fun _ _ h => h) (fun _ h => h) hke)⟩
    · rename_i he
      rcases hF.mem b1 m1 h1 with ⟨n1, n2⟩ | ⟨k1, c1, e1, f1, f2, f3, f4, f5, f6, f7⟩
      · refine .inl ⟨n1, ?_⟩
        unfold upd; rw [if_neg (fun e => he e.symm)]; exact n2
      refine .inr ⟨k1, c1, e1, hσ _ _ (fun e => he e.symm) f1, f2, f3, by rw [hw.block k1 (hF.dom _ _ f1).2]; exact f4, f5, f6, fun i r j av hi hj => ?_⟩
      obtain ⟨x, hx, hxr⟩ := f7 i r j av hi hj
      exact ⟨x, hx, hno b1 m1 (fun e => he e.symm) h1 r (List.mem_of_getElem? hi) av (List.mem_of_getElem? hj) _ _ _ _ _ hσ (hxr.mono (fun _ _ h => h) (fun _ h => h) hke)⟩

theorem drew_alloc_below (w : World) (o : Obj) : Below w.heap.size w (w.drew.alloc o) := ((Below.refl _ w).drew).alloc (Nat.le_refl _) o
end

section
variable {C : Cx} {s : AS} {o : Oper}

theorem look_kill {b : Nat} {S : Nat → Prop} {σ : Sig} {w : World} {a : Act} : ∀ (l full : List (Nat × AV)), (∀ t av, look l t = some av → ∃ x, a.tmps[t]? = some x ∧ Rel σ S w x av) → True := fun _ _ _ => trivial

/-- The names that stand more than once would be trouble: a killed entry must not lay an elder one of its name open. -/
def noElder (b : Nat) : List (Nat × AV) → Bool
  | [] => true
  | (t, a) :: l => (bif isB b a then (look l t).isNone else true) && noElder b l

/-- Struck is every entry of a name of which a later entry is struck. -/
def killT (b : Nat) (dead : List Nat) : List (Nat × AV) → List (Nat × AV)
  | [] => []
  | (t, a) :: l => bif dead.contains t then killT b dead l else bif isB b a then killT b (t :: dead) l else (t, a) :: killT b dead l

theorem look_killT {b : Nat} : ∀ (l : List (Nat × AV)) (dead : List Nat) (t : Nat) (a : AV), look (killT b dead l) t = some a → look l t = some a ∧ isB b a = false ∧ t ∉ dead
  | [], dead, t, a, h => by simp [killT, look] at h
  | (t', a') :: l, dead, t, a, h => by
    simp only [killT] at h
    cases hd : dead.contains t' with
    | true =>
      rw [hd] at h
      simp only [cond_true] at h
      obtain ⟨h1, h2, h3⟩ := look_killT l dead t a h
      have hne : t' ≠ t := fun e => by subst e; exact h3 (by simpa using hd)
      exact ⟨by simp only [look]; rw [if_neg hne]; exact h1, h2, h3⟩
    | false =>
      rw [hd] at h
      simp only [cond_false] at h
      cases hb : isB b a' with
      | true =>
        rw [hb] at h
        simp only [cond_true] at h
        obtain ⟨h1, h2, h3⟩ := look_killT l (t' :: dead) t a h
        have hne : t' ≠ t := fun e => by subst e; exact h3 (by simp)
        exact ⟨by simp only [look]; rw [if_neg hne]; exact h1, h2, fun hm => h3 (by simp [hm])⟩
      | false =>
        rw [hb] at h
        simp only [cond_false, look] at h
        split at h
        · rename_i he
          injection h with h; subst h he
          exact ⟨by simp [look], hb, fun hm => by simp [hm] at hd⟩
        · rename_i he
          obtain ⟨h1, h2, h3⟩ := look_killT l dead t a h
          exact ⟨by simp only [look]; rw [if_neg he]; exact h1, h2, h3⟩
theorem noEnv_look {b : Nat} : ∀ (l : List (Nat × AV)), noEnv b l → ∀ t a, look l t = some a → isB b a = false → NO b a
  | [], _, t, a, h, _ => by simp [look] at h
  | (t', a') :: l, hl, t, a, h, hb => by
    simp only [look] at h
    split at h
    · injection h with h; subst h
      rcases hl.1 with h1 | h1
      · rw [hb] at h1; cases h1
      · exact h1
    · exact noEnv_look l hl.2 t a h hb

theorem exec_append {x y : Operand} {t tx : TypeId} (ho : o.op = .call ⟨.builtin .append, #[x, y], #[t, tx]⟩) {P : Program} {w w' : World} {a : Act} {v : Value} (h : (Builtin.append_ #[t, tx] o.type #[a.eval x, a.eval y]).run P w = .ok v w') :
    (execOp a.eval o).run P w = .ok (.value v) w' := by
  have e : (execOp a.eval o).run P w = (builtin .append #[t, tx] o.type (#[x, y].map fun | .const _ => true | _ => false) (#[x, y].map a.eval)).run P w := by
    simp [execOp, ho, resolve, invoke]; rfl
  rw [e]
  simp [builtin, h]

theorem big_append_own (hT : TypesOK C.P C.ti) {x y : Operand} {t tx e : TypeId} {q1 q2 : Nat} {q3 : List Z} {z : TyI} (ho : o.op = .call ⟨.builtin .append, #[x, y], #[t, tx]⟩) (ht : C.ti t = some ⟨q1, q2, q3, .slc e⟩) (hz : C.ti e = some z) (htx : isSlcT (C.ti tx) = true)
    {b sz k : Nat} {m : MB} {p : Prop} {rows : List (List AV)} (hx : ev s x = some (.ps b sz 0 k)) (hm : look s.mem b = some m) (hy : srcA s.mem sz (ev s y) = some (p, rows))
    (hc : z.size = sz ∧ m.sz = sz ∧ 0 < sz ∧ b < s.next) (hp : p ∧ k ≤ m.rows.length ∧ (k + rows.length) * z.bytes ≤ 140737488355328 ∧ k + rows.length ≤ 9223372036854775807)
    (hrows : RowsOK b sz rows) (he : noEnv b s.env) (hmem : noMem b s.mem) :
    OpG C s o ⟨killT b [] s.env, (b, ⟨sz, m.rows.take k ++ rows⟩) :: s.mem, s.next⟩ (.ps b sz 0 (k + rows.length)) := by
  intro D S0 w0 σ S a w K Q hG hF hE hK
  obtain ⟨c1, c2, c3, c4⟩ := hc
  obtain ⟨p1, p2, p3, p4⟩ := hp
  obtain ⟨i, d, h1, h2, h3, h4, h5, h6⟩ := underlying_of hT ht
  have hd := slc_desc h5
  subst hd
  obtain ⟨i', d', g1, g2, g3, g4, g5, ⟨zv, hz1, hz2, hz3⟩, g7⟩ := underlying_of hT hz
  cases hyv : ev s y with
  | none => rw [hyv] at hy; simp [srcA] at hy
  | some av =>
  rw [hyv] at hy
  have hyr := ev_rel hE hyv
  obtain ⟨news, hs, hn⟩ := src_spec (P := C.P) hT hF htx (size := sz) (b := b) c3 hyr hy p1 hrows
  have hisz : i'.size = sz := by rw [g3, c1]
  have hnl : news.length = rows.length * sz := hs.newsLen
  have wp : ∀ v w', (Builtin.append_ #[t, tx] o.type #[a.eval x, a.eval y]).run C.P w = .ok v w' → K (a.put o.dst v) w' → o.wp C.P a w K Q := fun v w' hr hk => by
    unfold Oper.wp
    rw [exec_append ho hr]
    exact hk
  have env' : ∀ {σ' : Sig} {w' : World}, (∀ c k, c ≠ b → σ c = some k → σ' c = some k) → Keeps σ S w w' → EnvOK σ' S w' (killT b [] s.env) a := fun {σ' w'} hσ hke t' av' hl => by
    obtain ⟨l1, l2, _⟩ := look_killT s.env [] t' av' hl
    obtain ⟨xv, hxv, hxr⟩ := hE t' av' l1
    exact ⟨xv, hxv, noEnv_look s.env he t' av' l1 l2 _ _ _ _ _ hσ (hxr.mono (fun _ _ h => h) (fun _ h => h) hke)⟩
  have mrow := noMem_look s.mem hmem b m hm
  have hxr := ev_rel hE hx
  have hUb : b < s.next := c4
  have newlen : (m.rows.take k ++ rows).length = k + rows.length := by simp; omega
  -- the new block
  have grow : ∀ (base : Option Addr) (cap : Nat) (olds : List Value), a.eval x = .slice base k cap → cap < k + rows.length → olds.length = k * sz →
      (Builtin.firstCells sz k (.slice base k cap)).run C.P w.drew = .ok olds.toArray w.drew →
      (∀ (i : Nat) (r : List AV) (j : Nat) (av : AV), (m.rows.take k)[i]? = some r → r[j]? = some av → ∃ v, olds[i * sz + j]? = some v ∧ Rel σ S w v av) →
      (∀ r ∈ m.rows.take k, r.length = sz) → o.wp C.P a w K Q := fun base cap olds hxe hcap hol hfc hor hlr => by
    have hrun := run_append_grow_src (P := C.P) w t tx o.type e i' zv h2 g1 hz1 base k cap olds (by rw [hisz]; exact hfc) (a.eval y) rows.length news (by rw [hisz]; exact hs) hcap (by omega) (growslice_fits hcap (by rw [g4]; exact p3))
    refine wp _ _ (by rw [hxe]; exact hrun) ?_
    have hw := drew_alloc_below w (.cells ((olds ++ news).toArray ++ Builtin.zeroCells zv.cells (grownCap w (k + rows.length) cap e - (k + rows.length))) e)
    have hcell : (w.drew.alloc (.cells ((olds ++ news).toArray ++ Builtin.zeroCells zv.cells (grownCap w (k + rows.length) cap e - (k + rows.length))) e)).heap[w.heap.size]? = some (.cells ((olds ++ news).toArray ++ Builtin.zeroCells zv.cells (grownCap w (k + rows.length) cap e - (k + rows.length))) e) := heap_alloc_new w.drew _
    have hcs : ((olds ++ news).toArray ++ Builtin.zeroCells zv.cells (grownCap w (k + rows.length) cap e - (k + rows.length))).size = (k + rows.length) * sz + (grownCap w (k + rows.length) cap e - (k + rows.length)) * sz := by
      rw [Array.size_append, size_zeroCells]
      have : zv.cells.size = sz := by rw [hz2]; simp [g7, c1]
      simp [hol, hnl, this, Nat.add_mul]
    have hcap2 : k + rows.length ≤ grownCap w (k + rows.length) cap e := by simp only [grownCap, Question.cut]; omega
    have hFm := hF.move (b := b) hUb _ hw (k := w.heap.size) (m' := ⟨sz, m.rows.take k ++ rows⟩) (Nat.le_refl _) hcell (fun b' m' _ hb' => noMem_look s.mem hmem b' m' hb')
      (fun r hr => by
        rcases List.mem_append.1 hr with hr | hr
        · exact hlr r hr
        · exact (hrows r hr).1)
      (by simp only; rw [newlen, hcs]; omega)
      (fun i r j av hi hj => by
        simp only at hi
        rw [List.getElem?_append] at hi
        have hlen : (m.rows.take k).length = k := by simp; omega
        split at hi
        · rename_i hlt
          rw [hlen] at hlt
          obtain ⟨v, hv, hvr⟩ := hor i r j av hi hj
          have hvlt := (List.getElem?_eq_some_iff.1 hv).1
          refine ⟨v, ?_, hvr, mrow r (List.mem_of_mem_take (List.mem_of_getElem? hi)) av (List.mem_of_getElem? hj)⟩
          rw [Array.getElem?_append_left (by simp; omega)]
          simp only [List.getElem?_toArray]
          rw [List.getElem?_append_left hvlt]; exact hv
        · rename_i hge
          rw [hlen] at hi hge
          obtain ⟨v, hv, hvr⟩ := hn (i - k) r j av hi hj
          have hvlt := (List.getElem?_eq_some_iff.1 hv).1
          refine ⟨v, ?_, hvr, ((hrows r (List.mem_of_getElem? hi)).2 av (List.mem_of_getElem? hj)).2⟩
          have e1 : i * sz + j = olds.length + ((i - k) * sz + j) := by
            rw [hol, Nat.sub_mul]
            have : k * sz ≤ i * sz := Nat.mul_le_mul_right _ (by omega)
            omega
          simp only [e1]
          rw [Array.getElem?_append_left (by simp; omega)]
          simp only [List.getElem?_toArray]
          rw [List.getElem?_append_right (by omega), Nat.add_sub_cancel_left]; exact hv)
    refine hK (upd σ b w.heap.size) S _ _ hFm (env' (fun c k' hc hσ => by unfold upd; rw [if_neg hc]; exact hσ) (hF.keeps_below hw)) ?_
    refine .ps (by simp [upd]) hcap2 (.inl (by simp)) ⟨_, e, (0, 0), hcell, ?_⟩
    rw [hcs, Nat.zero_add, ← Nat.add_mul]
    exact Nat.mul_le_mul_right _ (by omega)
  rcases rel_ps hxr with ⟨hx1, rfl⟩ | ⟨kk, off, cap, f1, f2, f3, f4, f5⟩
  · -- no block yet
    by_cases hr0 : rows = []
    · subst hr0
      have hn0 : news = [] := by simpa using hnl
      subst hn0
      have hrun := run_append_stay (P := C.P) (ty := o.type) h2 g1 none 0 0 (a.eval y) (by rw [hisz]; exact hs) (Nat.le_refl _)
      refine wp _ _ (by rw [hx1]; exact hrun) ?_
      refine hK σ S _ _ ⟨hF.below, hF.dom, fun b1 b2 k m1 m2 q1 q2 q3 q4 => ?_, hF.sbd, hF.s0, hF.s1, hF.glob, fun b1 m1 hb1 => ?_⟩ (env' (fun c k _ h => h) ⟨fun _ _ => rfl, fun b k c e f _ hc => ⟨c, e, f, hc, Nat.le_refl _⟩⟩) .ps0
      · have ex : ∀ b1 m1, look ((b, (⟨sz, m.rows.take 0 ++ []⟩ : MB)) :: s.mem) b1 = some m1 → ∃ m2, look s.mem b1 = some m2 := fun b1 m1 hq => by
          simp only [look] at hq
          split at hq
          · rename_i he; exact ⟨m, he ▸ hm⟩
          · exact ⟨_, hq⟩
        obtain ⟨_, r1⟩ := ex _ _ q1
        obtain ⟨_, r2⟩ := ex _ _ q2
        exact hF.inj b1 b2 k _ _ r1 r2 q3 q4
      · simp only [look] at hb1
        split at hb1
        · rename_i he
          injection hb1 with hb1
          subst hb1 he
          rcases hF.mem b m hm with ⟨n1, n2⟩ | ⟨k, c, e, u1, u2, u3, u4, u5, u6, u7⟩
          · exact .inl ⟨by simp, n2⟩
          · exact .inr ⟨k, c, e, u1, u2, u3, u4, by simp, by simp, by simp⟩
        · exact hF.mem b1 m1 hb1
    · have hlen : 0 < rows.length := by
        rcases Nat.eq_zero_or_pos rows.length with h | h
        · exact (hr0 (List.length_eq_zero_iff.1 h)).elim
        · exact h
      exact grow none 0 [] hx1 (by omega) (by simp) (run_firstCells_none w.drew sz 0 0 0) (fun i r j av hi => by simp at hi) (by simp)
  · obtain ⟨cc, ee, ff, f5, f6⟩ := f5
    obtain ⟨k0, c0, e0, u1, u2, u3, u4, u5, u6, u7⟩ := (hF.mem b m hm).named f1
    have : k0 = kk := Option.some.inj (u1.symm.trans f1)
    subst this
    rw [u4] at f5
    injection f5 with f5
    injection f5 with f5a f5b f5c
    subst f5a f5b f5c
    by_cases hroom : k + rows.length ≤ cap
    · -- in place
      by_cases hr0 : rows = []
      · subst hr0
        have hn0 : news = [] := by simpa using hnl
        subst hn0
        have hrun := run_append_stay (P := C.P) (ty := o.type) h2 g1 (some ⟨k0, off, none⟩) k cap (a.eval y) (by rw [hisz]; exact hs) f3
        refine wp _ _ (by rw [f2]; exact hrun) ?_
        refine hK σ S _ _ ⟨hF.below, hF.dom, fun b1 b2 k' m1 m2 q1 q2 q3 q4 => ?_, hF.sbd, hF.s0, hF.s1, hF.glob, fun b1 m1 hb1 => ?_⟩ (env' (fun c k _ h => h) ⟨fun _ _ => rfl, fun b k c e f _ hc => ⟨c, e, f, hc, Nat.le_refl _⟩⟩) (.ps f1 (by simpa using f3) f4 ⟨c0, e0, (0, 0), u4, f6⟩)
        · have ex : ∀ b1 m1, look ((b, (⟨sz, m.rows.take k ++ []⟩ : MB)) :: s.mem) b1 = some m1 → ∃ m2, look s.mem b1 = some m2 := fun b1 m1 hq => by
            simp only [look] at hq
            split at hq
            · rename_i he; exact ⟨m, he ▸ hm⟩
            · exact ⟨_, hq⟩
          obtain ⟨_, r1⟩ := ex _ _ q1
          obtain ⟨_, r2⟩ := ex _ _ q2
          exact hF.inj b1 b2 k' _ _ r1 r2 q3 q4
        · simp only [look] at hb1
          split at hb1
          · rename_i he
            injection hb1 with hb1
            subst hb1 he
            refine .inr ⟨k0, c0, e0, u1, u2, u3, u4, fun r hr => by rw [← c2]; exact u5 r (List.mem_of_mem_take (by simpa using hr)), ?_, fun i r j av hi hj => ?_⟩
            · simp only [List.append_nil, List.length_take]
              refine Nat.le_trans (Nat.mul_le_mul_right _ (Nat.min_le_right ..)) ?_
              rw [← c2]; exact u6
            · simp only [List.append_nil, List.getElem?_take] at hi
              split at hi
              · simp only; rw [← c2]; exact u7 i r j av hi hj
              · cases hi
          · exact hF.mem b1 m1 hb1
      · have hlen : 0 < rows.length := by
          rcases Nat.eq_zero_or_pos rows.length with h | h
          · exact (hr0 (List.length_eq_zero_iff.1 h)).elim
          · exact h
        have hoff : off = 0 := by
          rcases f4 with f4 | f4
          · simpa using f4
          · omega
        subst hoff
        have hfit : 0 + k * sz + news.length ≤ c0.size := by
          rw [hnl]
          have : (k + rows.length) * sz ≤ cap * sz := Nat.mul_le_mul_right _ hroom
          rw [Nat.add_mul] at this
          omega
        have hrun := run_append_in (P := C.P) (ty := o.type) h2 g1 k0 0 k cap (a.eval y) rows.length news (by rw [hisz]; exact hs) c0 e0 u4 hroom (by rw [hisz]; exact hfit)
        rw [hisz] at hrun
        simp only [Nat.zero_add] at hrun hfit
        refine wp _ _ (by rw [f2]; exact hrun) ?_
        have key := hF.set (b := b) (m := m) (m' := ⟨sz, m.rows.take k ++ rows⟩) hm f1 (c' := (c0.toList.take (k * sz) ++ news ++ c0.toList.drop (k * sz + news.length)).toArray) u4
          (by simp; omega)
          (fun r hr => by
            rcases List.mem_append.1 hr with hr | hr
            · rw [← c2]; exact u5 r (List.mem_of_mem_take hr)
            · exact (hrows r hr).1)
          (by
            simp only [newlen]
            simp
            rw [Nat.add_mul, ← hnl]
            omega)
          (fun i r j av hi hj => by
            simp only at hi
            simp only [List.getElem?_toArray]
            rw [List.getElem?_append] at hi
            have hlen' : (m.rows.take k).length = k := by simp; omega
            have htl : (c0.toList.take (k * sz)).length = k * sz := by simp; omega
            split at hi
            · rename_i hlt
              rw [hlen'] at hlt
              rw [List.getElem?_take, if_pos hlt] at hi
              obtain ⟨v, hv, hvr⟩ := u7 i r j av hi hj
              rw [c2] at hv
              have hj' : j < sz := by rw [← c2, ← u5 r (List.mem_of_getElem? hi)]; exact (List.getElem?_eq_some_iff.1 hj).1
              have hlt2 : i * sz + j < k * sz := by
                have : (i + 1) * sz ≤ k * sz := Nat.mul_le_mul_right _ hlt
                rw [Nat.add_mul, Nat.one_mul] at this
                omega
              refine ⟨v, ?_, hvr⟩
              rw [List.append_assoc, List.getElem?_append_left (by rw [htl]; exact hlt2), List.getElem?_take, if_pos hlt2]
              simpa using hv
            · rename_i hge
              rw [hlen'] at hi hge
              obtain ⟨v, hv, hvr⟩ := hn (i - k) r j av hi hj
              have hvlt := (List.getElem?_eq_some_iff.1 hv).1
              refine ⟨v, ?_, hvr⟩
              have e1 : i * sz + j = k * sz + ((i - k) * sz + j) := by
                rw [Nat.sub_mul]
                have : k * sz ≤ i * sz := Nat.mul_le_mul_right _ (by omega)
                omega
              rw [e1, List.append_assoc, List.getElem?_append_right (by rw [htl]; omega), htl, Nat.add_sub_cancel_left, List.getElem?_append_left hvlt]
              exact hv)
        obtain ⟨hF', hke⟩ := key
        refine hK σ S _ _ hF' (env' (fun c k _ h => h) hke) (.ps f1 hroom (.inl (by simp)) ⟨_, e0, (0, 0), setRow_heap w k0 c0 _ e0 (0, 0) u4, ?_⟩)
        simp
        omega
    · have hol := exists_list (Q := fun q v => c0[q]? = some v) (k * sz) (fun q hq => by
        have : k * sz ≤ m.rows.length * m.sz := by rw [c2]; exact Nat.mul_le_mul_right _ p2
        exact ⟨c0[q]'(by omega), by simp [show q < c0.size by omega]⟩)
      obtain ⟨olds, ol1, ol2⟩ := hol
      have hoff : k = 0 ∨ off = 0 := by
        rcases f4 with f4 | f4
        · right; simpa using f4
        · left; omega
      refine grow (some ⟨k0, off, none⟩) cap olds f2 (by omega) ol1 ?_ ?_ (fun r hr => by rw [← c2]; exact u5 r (List.mem_of_mem_take hr))
      · refine run_firstCells_some w.drew sz k _ k cap olds ol1 (fun j v hj => ?_)
        rw [add_addr]
        have hjl : j < k * sz := by rw [← ol1]; exact (List.getElem?_eq_some_iff.1 hj).1
        have hoff' : off = 0 := by
          rcases hoff with h | h
          · rw [h] at hjl; simp at hjl
          · exact h
        subst hoff'
        have : (w.drew).heap[k0]? = some (.cells c0 e0 (0, 0)) := u4
        rw [cell_of_cells this, Nat.zero_add]
        exact ol2 j v hj
      · intro i r j av hi hj
        rw [List.getElem?_take] at hi
        split at hi
        · rename_i hlt
          obtain ⟨v, hv, hvr⟩ := u7 i r j av hi hj
          rw [c2] at hv
          have hj' : j < sz := by rw [← c2, ← u5 r (List.mem_of_getElem? hi)]; exact (List.getElem?_eq_some_iff.1 hj).1
          have hlt2 : i * sz + j < olds.length := by
            rw [ol1]
            have : (i + 1) * sz ≤ k * sz := Nat.mul_le_mul_right _ hlt
            rw [Nat.add_mul, Nat.one_mul] at this
            omega
          have hq := ol2 (i * sz + j) olds[i * sz + j] (by simp [hlt2])
          rw [hv] at hq
          injection hq with hq
          exact ⟨v, by rw [hq]; simp [hlt2], hvr⟩
        · cases hi
end
end Go.Ax
