/- The abstract executor, part 7: composite literals, lengths, least and greatest; and every operation that is no call of a Go function. -/
import Derived.Test.YtekmhhmemkjcbaaAx6
set_option linter.unusedSimpArgs false
set_option linter.unusedVariables false
set_option linter.deprecated false
namespace Go.Ax
open Go Go.RowKit

theorem foldl_fill (off : Nat) : ∀ (vs : List Value) (j : Nat) (cs : Array Value), off + j + vs.length ≤ cs.size →
    ((vs.zipIdx j).foldl (fun (cs : Array Value) (p : Value × Nat) => cs.setIfInBounds (off + p.2) p.1) cs).toList = cs.toList.take (off + j) ++ vs ++ cs.toList.drop (off + j + vs.length)
  | [], j, cs, _ => by simp
  | v :: vs, j, cs, h => by
    have hlt : off + j < cs.size := by simp at h; omega
    simp only [List.zipIdx_cons, List.foldl_cons]
    rw [foldl_fill off vs (j + 1) _ (by simp at h ⊢; omega)]
    have e := list_seg_step cs.toList (off + j) v vs (by simp at h ⊢; omega)
    simp only [Array.toList_setIfInBounds]
    simpa [Nat.add_assoc] using e

section
variable {P : Program} {ti : Types} {D : Base} {S0 : Nat → Prop} {w0 : World} {σ : Sig} {S : Nat → Prop} {w : World} {s : AS} {a : Act} {o : Oper} {mem : List (Nat × MB)} {U : Nat → Prop}

theorem fill_spec' (place place' : Nat → Option (Nat × Nat)) (hp : ∀ i q, place i = some q → place' i = some q) : ∀ (parts : List (Nat × Operand)) (l : List (Nat × Nat × AV)) (cs : Array Value) (cells cells' : List AV), (∀ p ∈ parts, ∀ b, ev s p.2 = some b → Rel σ S w (a.eval p.2) b) →
    placed place s parts = some l → fillA cells l = some cells' → cs.size = cells.length → (∀ (i : Nat) (y : Value) (av : AV), cs[i]? = some y → cells[i]? = some av → Rel σ S w y av) →
    ∃ cs' : Array Value, Instr.fill place' cs (parts.map fun (p : Nat × Operand) => (p.1, a.eval p.2)) = some cs' ∧ cs'.size = cells'.length ∧ ∀ (i : Nat) (y : Value) (av : AV), cs'[i]? = some y → cells'[i]? = some av → Rel σ S w y av
  | [], l, cs, cells, cells', _, h1, h2, h3, h4 => by
    simp [placed] at h1; subst h1
    simp [fillA] at h2; subst h2
    exact ⟨cs, by simp [Instr.fill], h3, h4⟩
  | (i, x) :: parts, l, cs, cells, cells', hE, h1, h2, h3, h4 => by
    simp only [placed] at h1
    split at h1
    · rename_i off size v l' hpl hv hl
      injection h1 with h1; subst h1
      simp only [fillA] at h2
      split at h2
      · rename_i hc
        obtain ⟨c1, c2, c3⟩ := hc
        obtain ⟨r1, r2, r3⟩ := rel_cells (hE (i, x) (List.mem_cons_self ..) _ hv) c3
        have hfold := foldl_fill off (a.eval x).cells.toList 0 cs (by simp [r1]; omega)
        simp only [Nat.add_zero, Array.length_toList, r1, c1] at hfold
        have hz : (a.eval x).cells.zipIdx.foldl (fun (cs : Array Value) (p : Value × Nat) => cs.setIfInBounds (off + p.2) p.1) cs =
            (((a.eval x).cells.toList.zipIdx 0).foldl (fun (cs : Array Value) (p : Value × Nat) => cs.setIfInBounds (off + p.2) p.1) cs) := by
          rw [← Array.foldl_toList, Array.toList_zipIdx]
        generalize hcs1 : ((a.eval x).cells.toList.zipIdx 0).foldl (fun (cs : Array Value) (p : Value × Nat) => cs.setIfInBounds (off + p.2) p.1) cs = cs1 at hfold hz
        have hsz1 : cs1.size = cells.length := by
          have : cs1.toList.length = cells.length := by rw [hfold]; simp [r1, c1]; omega
          simpa using this
        obtain ⟨cs', k1, k2, k3⟩ := fill_spec' place place' hp parts l' cs1 _ cells' (fun p hp => hE p (List.mem_cons_of_mem _ hp)) hl h2 (by rw [hsz1]; simp [c1]; omega) (fun i' y av hy hav => by
          rw [← Array.getElem?_toList, hfold] at hy
          have hlt : off + size ≤ cs.size := by omega
          rw [List.getElem?_append, List.getElem?_append] at hy hav
          simp only [List.length_append, List.length_take, Array.length_toList, r1, c1, show min off cs.size = off by omega, show min off cells.length = off by omega] at hy hav
          by_cases q1 : i' < off
          · rw [if_pos (by omega), if_pos q1, List.getElem?_take, if_pos q1] at hy hav
            exact h4 i' y av (by simpa using hy) hav
          · by_cases q2 : i' < off + size
            · rw [if_pos q2, if_neg q1] at hy hav
              exact r2 _ y av (by simpa using hy) hav
            · rw [if_neg q2, List.getElem?_drop] at hy hav
              exact h4 _ y av (by simpa using hy) hav)
        refine ⟨cs', ?_, k2, k3⟩
        simp only [List.map_cons, Instr.fill, hp i _ hpl]
        rw [if_neg (by simp [r1, c1]; omega), hz]
        exact k1
      · cases h2
    · cases h1

theorem fill_spec (hE : EnvOK σ S w s.env a) (place place' : Nat → Option (Nat × Nat)) (hp : ∀ i q, place i = some q → place' i = some q) (parts : List (Nat × Operand)) (l : List (Nat × Nat × AV)) (cs : Array Value) (cells cells' : List AV)
    (h1 : placed place s parts = some l) (h2 : fillA cells l = some cells') (h3 : cs.size = cells.length) (h4 : ∀ (i : Nat) (y : Value) (av : AV), cs[i]? = some y → cells[i]? = some av → Rel σ S w y av) :
    ∃ cs' : Array Value, Instr.fill place' cs (parts.map fun (p : Nat × Operand) => (p.1, a.eval p.2)) = some cs' ∧ cs'.size = cells'.length ∧ ∀ (i : Nat) (y : Value) (av : AV), cs'[i]? = some y → cells'[i]? = some av → Rel σ S w y av :=
  fill_spec' place place' hp parts l cs cells cells' (fun _ _ _ hb => ev_rel hE hb) h1 h2 h3 h4

theorem zero_rel {y : TyI} {z : Value} (hz : z.cells = (y.zero.map Z.val).toArray) : z.cells.size = (y.zero.map fun z => AV.v z.val).length ∧
    ∀ (i : Nat) (x : Value) (av : AV), z.cells[i]? = some x → (y.zero.map fun z => AV.v z.val)[i]? = some av → Rel σ S w x av := by
  refine ⟨by rw [hz]; simp, fun i x av hx hav => ?_⟩
  rw [hz] at hx
  simp at hx hav
  obtain ⟨a1, ha1, rfl⟩ := hx
  obtain ⟨a2, ha2, rfl⟩ := hav
  rw [ha1] at ha2; injection ha2 with ha2; subst ha2
  exact .v _

theorem run_mapM {α β : Type} (g : α → Sem β) (h : α → β) : ∀ (l : List α), (∀ f ∈ l, (g f).run P w = .ok (h f) w) → (l.mapM g).run P w = .ok (l.map h) w
  | [], _ => by simp
  | f :: fs, hg => by
    have ih := run_mapM g h fs (fun x hx => hg x (by simp [hx]))
    simp only [List.mapM_cons, Sem.run_bind, hg f (by simp), Result.andThen_ok, ih, Sem.run_pure, List.map_cons]

theorem run_amapM {α β : Type} (g : α → Sem β) (h : α → β) (l : Array α) (hg : ∀ f ∈ l.toList, (g f).run P w = .ok (h f) w) : (l.mapM g).run P w = .ok (l.toList.map h).toArray w := by
  rw [Array.mapM_eq_mapM_toList]
  have := run_mapM g h l.toList hg
  simp [this]

theorem s_build (hT : TypesOK P ti) (hE : EnvOK σ S w s.env a) {t : TypeId} {parts : Array (Nat × Operand)} (ho : o.op = .build t parts) {e : Eff} (h : aBuild ti s (ti t) parts.toList = some e) :
    e.upd = .keep ∧ Yields P a o σ S w e.val := by
  unfold aBuild at h
  split at h
  · rename_i _ z1 z2 zero fs hy
    split at h
    · rename_i l hl
      split at h
      · rename_i cs hcs
        split at h
        · rename_i hall
          injection h with h; subst h
          obtain ⟨i, d, h1, h2, h3, h4, h5, ⟨z, hz1, hz2, hz3⟩, h7⟩ := underlying_of hT hy
          have hd : ∃ fields, d = .struct fields ∧ fs = fields.toList.map fun f => (f.offset, f.type) := by
            cases d <;> simp [TK.ofDesc] at h5
            exact ⟨_, rfl, by simp [h5]⟩
          obtain ⟨fields, rfl, hfs⟩ := hd
          subst hfs
          obtain ⟨q1, q2⟩ := zero_rel (σ := σ) (S := S) (w := w) hz2
          have hmp := run_amapM (P := P) (w := w) (fun (f : Field) => (do pure (f.offset, ← Go.sizeOf f.type) : Sem (Nat × Nat))) (fun f => (f.offset, ((ti f.type).map (·.size)).getD 0)) fields (fun f hf => by
            have := List.all_eq_true.1 hall (f.offset, f.type) (List.mem_map.2 ⟨f, hf, rfl⟩)
            simp only at this
            cases hq : ti f.type with
            | none => simp [hq] at this
            | some y =>
              obtain ⟨i, d, g1, g2, g3, _⟩ := underlying_of hT hq
              simp only [Sem.run_bind, run_sizeOf_of g1, Result.andThen_ok, Sem.run_pure, g3, Option.map_some, Option.getD_some])
          obtain ⟨cs', k1, k2, k3⟩ := fill_spec hE (stPlace ti (fields.toList.map fun f => (f.offset, f.type))) (fun i => (fields.toList.map fun f => (f.offset, ((ti f.type).map (·.size)).getD 0)).toArray[i]?) (fun i q hq => by
            unfold stPlace at hq
            split at hq
            · rename_i off ft hf
              split at hq
              · rename_i y hyy
                injection hq with hq; subst hq
                simp at hf
                obtain ⟨f, hf, rfl, rfl⟩ := hf
                simp [hf, hyy]
              · cases hq
            · cases hq) _ _ _ _ _ hl hcs q1 q2
          refine ⟨rfl, .agg cs', ?_, .agg k2 k3⟩
          have hpar : (parts.map fun (p : Nat × Operand) => (p.1, a.eval p.2)).toList = parts.toList.map fun (p : Nat × Operand) => (p.1, a.eval p.2) := by simp
          simp only [execOp, ho, Instr.build, Sem.run_bind, run_zeroValue_of h1 hz1, Result.andThen_ok, run_underlying h2, hmp]
          rw [hpar, k1]
          simp
        · cases h
      · cases h
    · cases h
  · rename_i _ z1 z2 zero n et hy
    split at h
    · rename_i z' hz'
      split at h
      · rename_i l hl
        split at h
        · rename_i cs hcs
          injection h with h; subst h
          obtain ⟨i, d, h1, h2, h3, h4, h5, ⟨z, hz1, hz2, hz3⟩, h7⟩ := underlying_of hT hy
          have hd := arr_desc h5
          subst hd
          obtain ⟨i', d', g1, g2, g3, _⟩ := underlying_of hT hz'
          obtain ⟨q1, q2⟩ := zero_rel (σ := σ) (S := S) (w := w) hz2
          obtain ⟨cs', k1, k2, k3⟩ := fill_spec hE _ (fun i => some (i * z'.size, z'.size)) (fun i q hq => hq) _ _ _ _ _ hl hcs q1 q2
          refine ⟨rfl, .agg cs', ?_, .agg k2 k3⟩
          have hpar : (parts.map fun (p : Nat × Operand) => (p.1, a.eval p.2)).toList = parts.toList.map fun (p : Nat × Operand) => (p.1, a.eval p.2) := by simp
          simp only [execOp, ho, Instr.build, Sem.run_bind, run_zeroValue_of h1 hz1, Result.andThen_ok, run_underlying h2, run_sizeOf_of g1, g3]
          rw [hpar, k1]
          simp
        · cases h
      · cases h
    · cases h
  · cases h
end
end Go.Ax
