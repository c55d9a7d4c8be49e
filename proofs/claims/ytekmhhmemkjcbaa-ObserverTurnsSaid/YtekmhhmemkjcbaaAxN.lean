/- The abstract executor, part 7b: slices: make, x[a:b]. -/
import Derived.Test.YtekmhhmemkjcbaaAx7
import Derived.Laws.MakeOwn
import Derived.Laws.Slices
set_option linter.unusedSimpArgs false
set_option linter.unusedVariables false
set_option linter.deprecated false
namespace Go.Ax
open Go Go.RowKit

section
variable {P : Program} {ti : Types} {D : Base} {S0 : Nat → Prop} {w0 : World} {σ : Sig} {S : Nat → Prop} {w : World} {s : AS} {a : Act} {o : Oper} {mem : List (Nat × MB)} {U : Nat → Prop}

theorem s_makeSlice (hT : TypesOK P ti) (hid : ¬ U s.next) (hF : Fit D S0 w0 σ S s.mem U w) (hE : EnvOK σ S w s.env a) {t : TypeId} {x y : Operand} (ho : o.op = .makeSlice t x y) {e : Eff} (h : aMakeSlice ti s.next (ti t) (ev s x) (ev s y) = some e) (hn : e.need) :
    ∃ x w' σ', (execOp a.eval o).run P w = .ok (.value x) w' ∧ Fit D S0 w0 σ' S (s.upd e.upd).mem (fun b => U b ∨ b = s.next) w' ∧ EnvOK σ' S w' s.env a ∧ Rel σ' S w' x e.val := by
  unfold aMakeSlice at h
  split at h
  · rename_i _ _ _ z1 z2 z3 et k1 l k2 c hy hx hc
    split at h
    · rename_i z hz
      split at h
      · cases h
      · rename_i hne
        injection h with h; subst h
        obtain ⟨n1, n2, n3, n4⟩ := hn
        obtain ⟨i, d, h1, h2, h3, h4, h5, h6⟩ := underlying_of hT hy
        have hd := slc_desc h5
        subst hd
        obtain ⟨i', d', g1, g2, g3, g4, g5, ⟨zv, hz1, hz2, hz3⟩, g7⟩ := underlying_of hT hz
        have hrun := run_make (P := P) w t et i' zv h2 g1 hz1 k1 k2 l c n1 n2 (by rw [g4]; exact n3) n4
        have hzs : zv.cells.size = z.size := by rw [hz2]; simp [g7]
        have hcs : (madeCells zv.cells (c.toNat * i'.size)).size = c.toNat * z.size := by rw [size_madeCells, g3]
        have cell : ∀ (i : Nat) (r : List AV) (j : Nat) (av : AV), (List.replicate c.toNat (z.zero.map fun q => AV.v q.val))[i]? = some r → r[j]? = some av → ∃ x, (madeCells zv.cells (c.toNat * i'.size))[i * z.size + j]? = some x ∧ Rel σ S w x av := fun i r j av hi hj => by
          rw [List.getElem?_replicate] at hi
          split at hi
          · rename_i hlt
            injection hi with hi; subst hi
            have hj' : j < z.size := by
              have := (List.getElem?_eq_some_iff.1 hj).1
              simpa [g7] using this
            have hlt2 : i * z.size + j < c.toNat * z.size := by
              have : (i + 1) * z.size ≤ c.toNat * z.size := Nat.mul_le_mul_right _ hlt
              rw [Nat.add_mul, Nat.one_mul] at this
              omega
            have hmod : (i * z.size + j) % z.size = j := by rw [Nat.add_comm, Nat.add_mul_mod_self_right, Nat.mod_eq_of_lt hj']
            simp only [List.getElem?_map] at hj
            obtain ⟨q, hq, rfl⟩ := Option.map_eq_some_iff.1 hj
            refine ⟨q.val, ?_, .v _⟩
            unfold madeCells
            rw [Array.getElem?_map, Array.getElem?_range, g3, if_pos hlt2]
            simp only [Option.map_some, hzs, hmod]
            rw [hz2]
            simp [hq]
          · cases hi
        refine ⟨_, _, _, by simp only [execOp, ho, ev_v hE hx, ev_v hE hc, Sem.run_bind, hrun, Result.andThen_ok]; rfl,
          hF.new hid (madeCells zv.cells (c.toNat * i'.size)) et ⟨z.size, List.replicate c.toNat (z.zero.map fun q => .v q.val)⟩ (fun r hr => by rw [List.eq_of_mem_replicate hr]; simp [g7]) (by rw [hcs]; simp) cell, hE.new hF hid _ _, ?_⟩
        refine .ps (k := w.heap.size) (off := 0) (by simp [upd]) (by omega) (.inl (by simp)) ⟨_, et, (0, 0), heap_alloc_new w _, ?_⟩
        rw [hcs]; omega
    · cases h
  · cases h

theorem bnd_spec (hE : EnvOK σ S w s.env a) {x : Option Operand} {d n : Int} (h : bndOf (x.map (ev s)) d = some n) : (x.map a.eval = none ∧ n = d) ∨ ∃ k, x.map a.eval = some (.int k n) := by
  cases x with
  | none => simp [bndOf] at h; exact .inl ⟨rfl, h.symm⟩
  | some x =>
    simp only [Option.map_some, bndOf] at h
    split at h
    · cases ‹some (ev s x) = none›
    · rename_i k m hx
      injection h with h; subst h
      injection hx with hx
      exact .inr ⟨k, by simp [ev_v hE hx]⟩
    · cases h

theorem run_bounds (isSlice : Bool) (len cap : Nat) (lo hi : Option Value) (l h : Int) (hl : (lo = none ∧ l = 0) ∨ ∃ k, lo = some (.int k l)) (hh : (hi = none ∧ h = len) ∨ ∃ k, hi = some (.int k h)) (h0 : 0 ≤ l) (h1 : l ≤ h) (h2 : h ≤ cap) :
    (Instr.sliceBounds isSlice len cap lo hi none).run P w = .ok (l.toNat, h.toNat, cap) w := by
  have q : ((h.toNat : Nat) : Int) = h := Int.toNat_of_nonneg (by omega)
  rcases hl with ⟨rfl, rfl⟩ | ⟨k, rfl⟩ <;> rcases hh with ⟨rfl, rfl⟩ | ⟨k', rfl⟩
  · simp [Instr.sliceBounds]
  · simp [Instr.sliceBounds, Instr.sliceBound, asIntOf, (show 0 ≤ h ∧ h ≤ (cap : Int) from ⟨by omega, h2⟩)]
  · simp [Instr.sliceBounds, Instr.sliceBound, asIntOf, (show 0 ≤ l ∧ l ≤ (len : Int) from ⟨h0, h1⟩)]
  · simp [Instr.sliceBounds, Instr.sliceBound, asIntOf, q, (show 0 ≤ h ∧ h ≤ (cap : Int) from ⟨by omega, h2⟩), (show 0 ≤ l ∧ l ≤ h from ⟨h0, h1⟩)]

theorem s_slice (hT : TypesOK P ti) (hE : EnvOK σ S w s.env a) {t : TypeId} {x : Operand} {lo hi mx : Option Operand} (ho : o.op = .slice t x lo hi mx) {e : Eff} (h : aSlice ti (ti t) (ev s x) (lo.map (ev s)) (hi.map (ev s)) mx.isSome = some e) (hn : e.need) :
    e.upd = .keep ∧ Yields P a o σ S w e.val := by
  have hm : mx = none := by
    cases mx with
    | none => rfl
    | some m => simp [aSlice] at h
  subst hm
  have slc : ∀ {et : TypeId} {z : TyI} {base : Option Addr} {len cap : Nat} {l hh : Int}, P.underlying t = some (.slice et) → ti et = some z → a.eval x = .slice base len cap →
      ((lo.map a.eval = none ∧ l = 0) ∨ ∃ k, lo.map a.eval = some (.int k l)) → ((hi.map a.eval = none ∧ hh = len) ∨ ∃ k, hi.map a.eval = some (.int k hh)) → 0 ≤ l → l ≤ hh → hh ≤ cap →
      (execOp a.eval o).run P w = .ok (.value (.slice (if cap = l.toNat then base else base.map (·.add (l.toNat * z.size))) (hh.toNat - l.toNat) (cap - l.toNat))) w := fun {et z base len cap l hh} hu hz hx hl hh' h0 h1 h2 => by
    obtain ⟨i', d', g1, g2, g3, g4, g5, ⟨zv, hz1, hz2, hz3⟩, g7⟩ := underlying_of hT hz
    have hb := run_bounds (P := P) (w := w) true len cap (lo.map a.eval) (hi.map a.eval) l hh hl hh' h0 h1 h2
    simp only [execOp, ho, Instr.sliceAt, Instr.slice, Sem.run_bind, run_underlying hu, Result.andThen_ok, hx, Option.map_none, hb, run_sizeOf_of g1, g3, Sem.run_pure]
  unfold aSlice at h
  split at h
  · rename_i _ _ _ z1 z2 z3 et b sz row n hm0 hy hx
    split at h
    · rename_i z l hh hz hl hh2
      split at h
      · rename_i hsz
        injection h with h; subst h
        obtain ⟨h0, h1, h2⟩ := hn
        obtain ⟨ii, d, q1, q2, q3, q4, q5, q6⟩ := underlying_of hT hy
        have hd := slc_desc q5
        subst hd
        rcases rel_ps (ev_rel hE hx) with ⟨e1, rfl⟩ | ⟨k, off, cap, f1, f2, f3, f4, c, e, f, f5, f6⟩
        · have hl0 : l = 0 := by omega
          have hh0 : hh = 0 := by omega
          subst hl0 hh0
          exact ⟨rfl, _, slc q2 hz e1 (bnd_spec hE hl) (bnd_spec hE hh2) h0 h1 (by simp), .ps0⟩
        · refine ⟨rfl, _, slc q2 hz f2 (bnd_spec hE hl) (bnd_spec hE hh2) h0 h1 (by omega), ?_⟩
          by_cases hcl : cap = l.toNat
          · rw [if_pos hcl]
            have e0 : hh.toNat - l.toNat = 0 := by omega
            have e1 : cap - l.toNat = 0 := by omega
            rw [e0, e1]
            exact .ps f1 (Nat.le_refl _) (.inr rfl) ⟨c, e, f, f5, by rw [Nat.zero_mul]; omega⟩
          · rw [if_neg hcl]
            simp only [Option.map_some, add_addr]
            refine .ps f1 (by omega) ?_ ⟨c, e, f, f5, ?_⟩
            · rcases f4 with f4 | f4
              · left; rw [f4, hsz, Nat.add_mul]
              · right; omega
            · rw [hsz]
              have : (cap - l.toNat) * sz = cap * sz - l.toNat * sz := Nat.sub_mul ..
              have : l.toNat * sz ≤ cap * sz := Nat.mul_le_mul_right _ (by omega)
              omega
      · cases h
    · cases h
  · rename_i _ _ _ z1 z2 z3 et sz rows hm0 hy hx
    split at h
    · rename_i z l hh hz hl hh2
      split at h
      · rename_i hsz
        injection h with h; subst h
        obtain ⟨h0, h1, h2⟩ := hn
        obtain ⟨ii, d, q1, q2, q3, q4, q5, q6⟩ := underlying_of hT hy
        have hd := slc_desc q5
        subst hd
        have hr := ev_rel hE hx
        generalize hpx : a.eval x = px at hr
        have nilR : rows.length = 0 → (rows.drop l.toNat).take (hh.toNat - l.toNat) = [] := fun h => by
          have : rows = [] := List.length_eq_zero_iff.1 h
          rw [this]; simp
        cases hr with
        | nil =>
          have hl0 : l = 0 := by simp at h2; omega
          have hh0 : hh = 0 := by simp at h2; omega
          subst hl0 hh0
          exact ⟨rfl, _, slc q2 hz hpx (bnd_spec hE hl) (bnd_spec hE hh2) h0 h1 (by simp), .nil⟩
        | @e ad cap _ =>
          have hl0 : l = 0 := by simp at h2; omega
          have hh0 : hh = 0 := by simp at h2; omega
          subst hl0 hh0
          refine ⟨rfl, _, slc q2 hz hpx (bnd_spec hE hl) (bnd_spec hE hh2) h0 h1 (by simp), ?_⟩
          simp only [Int.toNat_zero, Nat.zero_mul, Nat.sub_zero, List.drop_zero, List.take_zero]
          split
          · exact .e
          · exact .e
        | @sl k off cap _ _ c hk hc hlr hcell hrr =>
          refine ⟨rfl, _, slc q2 hz hpx (bnd_spec hE hl) (bnd_spec hE hh2) h0 h1 (by omega), ?_⟩
          have hlen : ((rows.drop l.toNat).take (hh.toNat - l.toNat)).length = hh.toNat - l.toNat := by simp; omega
          by_cases hcl : cap = l.toNat
          · rw [if_pos hcl]
            have e0 : hh.toNat - l.toNat = 0 := by omega
            rw [e0, List.take_zero]
            exact .e
          · rw [if_neg hcl]
            simp only [Option.map_some, add_addr]
            have get : ∀ (i : Nat) (r : List AV), ((rows.drop l.toNat).take (hh.toNat - l.toNat))[i]? = some r → rows[l.toNat + i]? = some r := fun i r hi => by
              rw [List.getElem?_take] at hi
              split at hi
              · rw [List.getElem?_drop] at hi; exact hi
              · cases hi
            have key := Rel.sl (σ := σ) (S := S) (w := w) (k := k) (off := off + l.toNat * z.size) (cap := cap - l.toNat) (sz := sz) (rows := (rows.drop l.toNat).take (hh.toNat - l.toNat)) (fun i j => c (l.toNat + i) j) hk (by rw [hlen]; omega)
              (fun r hr => hlr r (List.mem_of_mem_drop (List.mem_of_mem_take hr)))
              (fun i r j av hi hj => by
                rw [hsz, show off + l.toNat * sz + i * sz + j = off + (l.toNat + i) * sz + j by rw [Nat.add_mul]; omega]
                exact hcell _ r j av (get i r hi) hj)
              (fun i r j av hi hj => hrr _ r j av (get i r hi) hj)
            rw [hlen] at key
            exact key
      · cases h
    · cases h
  · rename_i _ _ _ z1 z2 z3 et hm0 hy hx
    split at h
    · rename_i z l hh hz hl hh2
      injection h with h; subst h
      obtain ⟨rfl, rfl⟩ := hn
      obtain ⟨ii, d, q1, q2, q3, q4, q5, q6⟩ := underlying_of hT hy
      have hd := slc_desc q5
      subst hd
      exact ⟨rfl, _, slc q2 hz (ev_v hE hx) (bnd_spec hE hl) (bnd_spec hE hh2) (Int.le_refl _) (Int.le_refl _) (by simp), .v _⟩
    · cases h
  · rename_i _ _ _ z1 z2 z3 b hm0 hy hx
    split at h
    · rename_i l hh hl hh2
      injection h with h; subst h
      obtain ⟨h0, h1, h2⟩ := hn
      obtain ⟨ii, d, q1, q2, q3, q4, q5, q6⟩ := underlying_of hT hy
      have hd : d = .string := by cases d <;> simp [TK.ofDesc] at q5; rfl
      subst hd
      have hb := run_bounds (P := P) (w := w) false b.size b.size (lo.map a.eval) (hi.map a.eval) l hh (bnd_spec hE hl) (bnd_spec hE hh2) h0 h1 h2
      refine ⟨rfl, .string (b.extract l.toNat hh.toNat), ?_, .v _⟩
      simp only [execOp, ho, Instr.sliceAt, Instr.slice, Sem.run_bind, run_underlying q2, Result.andThen_ok, ev_v hE hx, Option.map_none, hb, Sem.run_pure, Option.isSome_none, Bool.false_eq_true, if_false]
    · cases h
  · cases h
end
end Go.Ax
