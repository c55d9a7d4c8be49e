/- The abstract executor, part 5: the operations on memory. -/
import Derived.Test.YtekmhhmemkjcbaaAx4
set_option linter.unusedSimpArgs false
set_option linter.unusedVariables false
set_option linter.deprecated false
namespace Go.Ax
open Go Go.RowKit

theorem add_addr (g o j : Nat) : (⟨g, o, none⟩ : Addr).add j = ⟨g, o + j, none⟩ := by unfold Addr.add; split <;> simp_all

theorem exists_list {Q : Nat → Value → Prop} : ∀ (n : Nat), (∀ j, j < n → ∃ y, Q j y) → ∃ l : List Value, l.length = n ∧ ∀ j y, l[j]? = some y → Q j y
  | 0, _ => ⟨[], rfl, fun j y h => by simp at h⟩
  | n + 1, h => by
    obtain ⟨l, h1, h2⟩ := exists_list n (fun j hj => h j (by omega))
    obtain ⟨y, hy⟩ := h n (by omega)
    refine ⟨l ++ [y], by simp [h1], fun j z hz => ?_⟩
    rw [List.getElem?_append] at hz
    split at hz
    · exact h2 j z hz
    · have hj : j = n := by
        rcases Nat.lt_or_ge (j - l.length) 1 with h' | h'
        · omega
        · rw [List.getElem?_eq_none (by simpa using h')] at hz; cases hz
      subst hj
      rw [h1, Nat.sub_self] at hz
      simp at hz; subst hz; exact hy

section
variable {P : Program} {ti : Types} {D : Base} {S0 : Nat → Prop} {w0 : World} {σ : Sig} {S : Nat → Prop} {w : World} {s : AS} {a : Act} {o : Oper} {mem : List (Nat × MB)} {U : Nat → Prop}

theorem cell_of_cells {k j : Nat} {c : Array Value} {e : TypeId} {f : Nat × Nat} (h : w.heap[k]? = some (.cells c e f)) : w.cell? ⟨k, j, none⟩ = c[j]? := by
  simp [World.cell?, h]

theorem getD_of_lt {α : Type} {l : List α} {d : α} {i : Nat} (h : i < l.length) : l[i]? = some (l.getD i d) := by
  simp [List.getD, h]

theorem behind_spec (hF : Fit D S0 w0 σ S mem U w) {x : Value} {av : AV} (hr : Rel σ S w x av) {p : Prop} {cs : List AV} (h : behind mem av = some (p, cs)) (hp : p) :
    ∃ k off, x = .pointer (some ⟨k, off, none⟩) ∧ ∀ (j : Nat) (b : AV), cs[j]? = some b → ∃ y, w.cell? ⟨k, off + j, none⟩ = some y ∧ Rel σ S w y b := by
  unfold behind at h
  split at h
  · rename_i b sz row j
    split at h
    · rename_i m hm
      split at h
      · rename_i hsz
        simp only [Option.some.injEq, Prod.mk.injEq] at h
        obtain ⟨h1, h2⟩ := h
        subst h2
        rw [← h1] at hp
        obtain ⟨k, c, e, g1, g2, g3, g4, g5, g6, g7⟩ := (hF.mem b m hm).row hp
        cases hr with
        | p hs =>
          have : _ = k := Option.some.inj (hs.symm.trans g1)
          subst this
          refine ⟨_, _, rfl, fun i b' hi => ?_⟩
          simp only [List.getElem?_drop] at hi
          obtain ⟨y, hy, hy2⟩ := g7 row _ _ b' (getD_of_lt hp) hi
          exact ⟨y, by rw [cell_of_cells g4, Nat.add_assoc, ← hsz]; exact hy, hy2⟩
      · cases h
    · cases h
  · simp only [Option.some.injEq, Prod.mk.injEq] at h
    obtain ⟨h1, h2⟩ := h
    subst h2
    cases hr with
    | rp c hk hcell hr => exact ⟨_, _, rfl, fun j b hb => ⟨_, hcell j b hb, hr j b hb⟩⟩
  · cases h

theorem s_load (hT : TypesOK P ti) (hF : Fit D S0 w0 σ S s.mem U w) (hE : EnvOK σ S w s.env a) {t : TypeId} {x : Operand} (ho : o.op = .load t x) {e : Eff}
    (h : aLoad s.mem (ti t) (ev s x) = some e) (hn : e.need) : e.upd = .keep ∧ Yields P a o σ S w e.val := by
  unfold aLoad at h
  split at h
  · rename_i y av hy hx
    split at h
    · rename_i p cs hb
      obtain ⟨i, d, h1, h2, h3, h4, h5, h6⟩ := underlying_of hT hy
      split at h
      · rename_i hagg
        injection h with h; subst h
        obtain ⟨hp, hlen⟩ := hn
        obtain ⟨k, off, hxe, hc⟩ := behind_spec hF (ev_rel hE hx) hb hp
        obtain ⟨l, hl1, hl2⟩ := exists_list (Q := fun j v => w.cell? ⟨k, off + j, none⟩ = some v ∧ ∃ b, cs[j]? = some b ∧ Rel σ S w v b) y.size (fun j hj => by
          have hj' : j < cs.length := by omega
          obtain ⟨v, hv, hv2⟩ := hc j cs[j] (by simp [hj'])
          exact ⟨v, hv, cs[j], by simp [hj'], hv2⟩)
        refine ⟨rfl, .agg l.toArray, ?_, .agg (by simp [hl1]; omega) (fun i' v b hv hb' => ?_)⟩
        · have hrun := run_loadCells_list (P := P) w ⟨k, off, none⟩ l (fun j v hv => by rw [add_addr]; exact (hl2 j v hv).1)
          rw [hl1] at hrun
          simp [execOp, ho, hxe, Instr.loadAt, Instr.sureAddr, loadVar, run_isAgg_of h2, h5, hagg, run_sizeOf_of h1, h3, hrun]
        · simp at hv
          obtain ⟨_, b'', hb1, hb2⟩ := hl2 i' v hv
          rw [List.getElem?_take] at hb'
          split at hb'
          · rw [hb1] at hb'; injection hb' with hb'; subst hb'; exact hb2
          · cases hb'
      · rename_i hagg
        split at h
        · rename_i c tl
          injection h with h; subst h
          obtain ⟨k, off, hxe, hc⟩ := behind_spec hF (ev_rel hE hx) hb hn
          obtain ⟨v, hv, hv2⟩ := hc 0 c rfl
          refine ⟨rfl, v, ?_, hv2⟩
          have hagg' : y.kd.agg = false := by simpa using hagg
          have hv' : w.cell? ⟨k, off, none⟩ = some v := hv
          simp [execOp, ho, hxe, Instr.loadAt, Instr.sureAddr, loadVar, run_isAgg_of h2, h5, hagg', load, Sem.run, hv']
        · cases h
    · cases h
  · cases h

theorem run_storeVar_priv {t : TypeId} {i : TypeInfo} (hi : P.info? t = some i) {k off : Nat} {c : Array Value} {e : TypeId} (hk : w.heap[k]? = some (.cells c e (0, 0))) {v : Value}
    (hs : v.cells.size = i.size) (h1 : ∀ y ∈ v.cells.toList, y.oneCell' = true) (hfit : off + i.size ≤ c.size) :
    (storeVar t ⟨k, off, none⟩ v).run P w = .ok () (w.setRow k (c.toList.take off ++ v.cells.toList ++ c.toList.drop (off + i.size)).toArray) := by
  have := run_storeCells_at P k off e v.cells.toList 0 c w hk (by simp [hs]; exact hfit) h1
  simp only [Nat.add_zero, Array.length_toList, hs] at this
  simp [storeVar, run_sizeOf_of hi, hs, this]

theorem s_store (hT : TypesOK P ti) (hF : Fit D S0 w0 σ S s.mem U w) (hE : EnvOK σ S w s.env a) {t : TypeId} {x y : Operand} (ho : o.op = .store t x y) {e : Eff}
    (h : aStore s.mem (ti t) (ev s x) (ev s y) = some e) (hn : e.need) :
    ∃ w', (execOp a.eval o).run P w = .ok .skip w' ∧ Fit D S0 w0 σ S (s.upd e.upd).mem U w' ∧ Keeps σ S w w' ∧ e.val = .v undef := by
  unfold aStore at h
  split at h
  · rename_i _ _ _ yt b sz row j av hy hx hv
    split at h
    · rename_i m hm
      split at h
      · rename_i hc
        injection h with h; subst h
        obtain ⟨hsz, hlen, hone⟩ := hc
        obtain ⟨hrow, hj⟩ := hn
        obtain ⟨i, d, h1, h2, h3, h4, h5, h6⟩ := underlying_of hT hy
        obtain ⟨k, c, e, g1, g2, g3, g4, g5, g6, g7⟩ := (hF.mem b m hm).row hrow
        have hptr := ev_rel hE hx
        generalize hpx : a.eval x = px at hptr
        obtain ⟨r1, r2, r3⟩ := rel_cells (ev_rel hE hv) hone
        cases hptr with
        | @p _ k' _ _ _ hs =>
          have : k' = k := Option.some.inj (hs.symm.trans g1)
          subst this
          subst hsz
          have hrl : (m.rows.getD row []).length = m.sz := g5 _ (List.mem_of_getElem? (getD_of_lt hrow))
          have hle : row * m.sz + m.sz ≤ c.size := by
            have : (row + 1) * m.sz ≤ m.rows.length * m.sz := Nat.mul_le_mul_right _ hrow
            rw [Nat.add_mul, Nat.one_mul] at this
            omega
          have hvs : (a.eval y).cells.size = i.size := by rw [r1, hlen, h3]
          have hfit : row * m.sz + j + i.size ≤ c.size := by rw [h3]; omega
          have hrun := run_storeVar_priv (P := P) (t := t) h1 g4 hvs r3 hfit
          refine ⟨w.setRow k' (c.toList.take (row * m.sz + j) ++ (a.eval y).cells.toList ++ c.toList.drop (row * m.sz + j + i.size)).toArray, by simp [execOp, ho, hpx, Instr.storeAt, Instr.sureAddr, hrun], ?_⟩
          have key := hF.set (b := b) (m := m) (m' := ⟨m.sz, m.rows.set row ((m.rows.getD row []).take j ++ av.cells ++ (m.rows.getD row []).drop (j + yt.size))⟩) hm g1
            (c' := (c.toList.take (row * m.sz + j) ++ (a.eval y).cells.toList ++ c.toList.drop (row * m.sz + j + i.size)).toArray) g4
            (by simp [hvs]; omega)
            (fun r hr => by
              rcases List.mem_or_eq_of_mem_set hr with hr | hr
              · exact g5 r hr
              · subst hr; simp only [List.length_append, List.length_take, List.length_drop]; show _ = m.sz; omega)
            (by simp [hvs]; omega)
            (fun i' r j' bv hi' hj' => by
              simp only [List.getElem?_toArray]
              have hc'' : ∀ q, (c.toList.take (row * m.sz + j) ++ (a.eval y).cells.toList ++ c.toList.drop (row * m.sz + j + i.size))[q]? =
                  if q < row * m.sz + j then c[q]? else if q < row * m.sz + j + i.size then (a.eval y).cells[q - (row * m.sz + j)]? else c[q]? := fun q => by
                have hl1 : (c.toList.take (row * m.sz + j)).length = row * m.sz + j := by simp; omega
                rw [List.getElem?_append, List.getElem?_append]
                simp only [List.length_append, hl1, Array.length_toList, hvs]
                by_cases q1 : q < row * m.sz + j
                · rw [if_pos (by omega), if_pos q1, if_pos q1, List.getElem?_take, if_pos q1]; simp
                · by_cases q2 : q < row * m.sz + j + i.size
                  · rw [if_pos q2, if_neg q1, if_neg q1, if_pos q2]; simp
                  · rw [if_neg q2, if_neg q1, if_neg q2, List.getElem?_drop]; simp; congr 1; omega
              rw [hc'']
              show ∃ x, _ ∧ _
              simp only at hi'
              have hrr : r.length = m.sz := by
                have := List.mem_of_getElem? hi'
                rcases List.mem_or_eq_of_mem_set this with hr | hr
                · exact g5 r hr
                · subst hr; simp only [List.length_append, List.length_take, List.length_drop]; omega
              have hj'' : j' < m.sz := by rw [← hrr]; exact (List.getElem?_eq_some_iff.1 hj').1
              rw [List.getElem?_set] at hi'
              split at hi'
              · rename_i hrw
                subst hrw
                injection hi' with hi'
                subst hi'
                have hl1 : ((m.rows.getD row []).take j).length = j := by simp only [List.length_take]; omega
                rw [List.getElem?_append, List.getElem?_append] at hj'
                simp only [List.length_append, hl1, hlen] at hj'
                by_cases q1 : j' < j
                · rw [if_pos (by omega), if_pos q1, List.getElem?_take, if_pos q1] at hj'
                  rw [if_pos (by omega)]
                  exact g7 row _ j' bv (getD_of_lt hrow) hj'
                · by_cases q2 : j' < j + yt.size
                  · rw [if_pos q2, if_neg q1] at hj'
                    rw [if_neg (by omega), if_pos (by omega)]
                    have hlt : j' - j < (a.eval y).cells.size := by omega
                    refine ⟨(a.eval y).cells[j' - j], ?_, r2 (j' - j) _ bv (by simp [hlt]) hj'⟩
                    rw [show row * m.sz + j' - (row * m.sz + j) = j' - j by omega]
                    simp [hlt]
                  · rw [if_neg q2, List.getElem?_drop] at hj'
                    rw [if_neg (by omega), if_neg (by omega)]
                    exact g7 row _ j' bv (getD_of_lt hrow) (by rw [← hj']; congr 1; omega)
              · rename_i hrw
                have hne : ¬ (row * m.sz + j ≤ i' * m.sz + j' ∧ i' * m.sz + j' < row * m.sz + j + i.size) := by
                  intro ⟨q1, q2⟩
                  rcases Nat.lt_or_ge i' row with hlt | hge
                  · have : (i' + 1) * m.sz ≤ row * m.sz := Nat.mul_le_mul_right _ hlt
                    rw [Nat.add_mul, Nat.one_mul] at this
                    omega
                  · have hgt : row < i' := by omega
                    have : (row + 1) * m.sz ≤ i' * m.sz := Nat.mul_le_mul_right _ hgt
                    rw [Nat.add_mul, Nat.one_mul] at this
                    omega
                have hold := g7 i' r j' bv hi' hj'
                by_cases q1 : i' * m.sz + j' < row * m.sz + j
                · rw [if_pos q1]; exact hold
                · rw [if_neg q1, if_neg (fun q2 => hne ⟨by omega, q2⟩)]; exact hold)
          exact ⟨key.1, key.2, rfl⟩
      · cases h
    · cases h
  · cases h

theorem run_newVar (t : TypeId) (v : Value) : (newVar t v).run P w = .ok ⟨w.heap.size, 0, none⟩ (w.alloc (.cells v.cells t)) := by
  rfl

/-- A new private block of one row. -/
theorem new_row (hid : ¬ U s.next) (hF : Fit D S0 w0 σ S s.mem U w) (hE : EnvOK σ S w s.env a) (c : Array Value) (t : TypeId) (l : List AV) (hs : c.size = l.length)
    (hr : ∀ (i : Nat) (x : Value) (av : AV), c[i]? = some x → l[i]? = some av → Rel σ S w x av) :
    Fit D S0 w0 (upd σ s.next w.heap.size) S ((s.next, ⟨l.length, [l]⟩) :: s.mem) (fun b => U b ∨ b = s.next) (w.alloc (.cells c t)) ∧ EnvOK (upd σ s.next w.heap.size) S (w.alloc (.cells c t)) s.env a ∧
      Rel (upd σ s.next w.heap.size) S (w.alloc (.cells c t)) (.pointer (some ⟨w.heap.size, 0, none⟩)) (.p s.next l.length 0 0) := by
  refine ⟨hF.new hid c t ⟨l.length, [l]⟩ (fun r hr => by simp at hr; subst hr; rfl) (by simp [hs]) (fun i r j av hi hj => ?_), hE.new hF hid _ _, ?_⟩
  · cases i with
    | zero =>
      simp at hi; subst hi
      have hlt : j < c.size := by rw [hs]; exact (List.getElem?_eq_some_iff.1 hj).1
      exact ⟨c[j], by simp [hlt], hr j _ av (by simp [hlt]) hj⟩
    | succ i => simp at hi
  · have : (0 : Nat) = 0 * l.length + 0 := by simp
    have h2 := Rel.p (σ := upd σ s.next w.heap.size) (S := S) (w := w.alloc (.cells c t)) (b := s.next) (k := w.heap.size) (sz := l.length) (row := 0) (j := 0) (by simp [upd])
    simpa using h2

theorem s_alloc (hT : TypesOK P ti) (hid : ¬ U s.next) (hF : Fit D S0 w0 σ S s.mem U w) (hE : EnvOK σ S w s.env a) {t : TypeId} (ho : o.op = .alloc t) {e : Eff} (h : aAlloc s.next (ti t) = some e) :
    ∃ x w' σ', (execOp a.eval o).run P w = .ok (.value x) w' ∧ Fit D S0 w0 σ' S (s.upd e.upd).mem (fun b => U b ∨ b = s.next) w' ∧ EnvOK σ' S w' s.env a ∧ Rel σ' S w' x e.val := by
  unfold aAlloc at h
  split at h
  · rename_i y hy
    injection h with h; subst h
    obtain ⟨i, d, h1, h2, h3, h4, h5, ⟨z, hz1, hz2, hz3⟩, h7⟩ := underlying_of hT hy
    obtain ⟨k1, k2, k3⟩ := new_row hid hF hE z.cells t (y.zero.map fun z => .v z.val) (by rw [hz2]; simp) (fun i x av hx hav => by
      rw [hz2] at hx
      simp at hx hav
      obtain ⟨a1, ha1, rfl⟩ := hx
      obtain ⟨a2, ha2, rfl⟩ := hav
      rw [ha1] at ha2; injection ha2 with ha2; subst ha2
      exact .v _)
    simp only [List.length_map, h7] at k1 k2 k3
    refine ⟨_, _, _, ?_, k1, k2, k3⟩
    simp [execOp, ho, Instr.alloc, run_zeroValue_of h1 hz1, run_newVar]
  · cases h

theorem s_box (hid : ¬ U s.next) (hF : Fit D S0 w0 σ S s.mem U w) (hE : EnvOK σ S w s.env a) {t : TypeId} {x : Operand} (ho : o.op = .box t x) {e : Eff} (h : aBox s.next (ev s x) = some e) :
    ∃ x w' σ', (execOp a.eval o).run P w = .ok (.value x) w' ∧ Fit D S0 w0 σ' S (s.upd e.upd).mem (fun b => U b ∨ b = s.next) w' ∧ EnvOK σ' S w' s.env a ∧ Rel σ' S w' x e.val := by
  unfold aBox at h
  split at h
  · rename_i av hx
    split at h
    · rename_i hone
      injection h with h; subst h
      obtain ⟨r1, r2, r3⟩ := rel_cells (ev_rel hE hx) hone
      obtain ⟨k1, k2, k3⟩ := new_row hid hF hE (a.eval x).cells t av.cells r1 r2
      exact ⟨_, _, _, by simp [execOp, ho, Instr.box, run_newVar], k1, k2, k3⟩
    · cases h
  · cases h
end
end Go.Ax
