/- The abstract executor, part 18: slices that are written out. -/
import Derived.Test.YtekmhhmemkjcbaaAxG
set_option linter.unusedSimpArgs false
set_option linter.unusedVariables false
set_option linter.deprecated false
namespace Go.Ax
open Go Go.RowKit

/-- The rows of a literal, each given, in order. -/
def aRows (s : AS) (sz : Nat) : Nat → List (Nat × Operand) → Option (List (List AV))
  | _, [] => some []
  | k, (i, x) :: l => match ev s x, aRows s sz (k + 1) l with
    | some a, some rs => if i = k ∧ a.cells.length = sz ∧ a.cells.all AV.one then some (a.cells :: rs) else none
    | _, _ => none
def aLit (ti : Types) (s : AS) (t : TypeId) (len : Nat) (parts : List (Nat × Operand)) : Option (Nat × List (List AV)) :=
  match ti t with
  | some ⟨_, _, _, .slc e⟩ => match ti e with
    | some z => if 0 < z.size ∧ 0 < len ∧ len * z.size ≤ 16777216 ∧ parts.length = len then (match aRows s z.size 0 parts with | some rs => some (z.size, rs) | none => none) else none
    | none => none
  | _ => none

theorem aRows_len {s : AS} {sz : Nat} : ∀ (k : Nat) (l : List (Nat × Operand)) (rows : List (List AV)), aRows s sz k l = some rows → rows.length = l.length ∧ ∀ r ∈ rows, r.length = sz
  | _, [], rows, h => by simp only [aRows, Option.some.injEq] at h; subst h; exact ⟨rfl, fun r hr => by cases hr⟩
  | k, (i, x) :: l, rows, h => by
    simp only [aRows] at h
    split at h
    · rename_i a rs ha hrs
      split at h
      · rename_i hc
        injection h with h; subst h
        obtain ⟨h1, h2⟩ := aRows_len (k + 1) l rs hrs
        refine ⟨by simp [h1], fun r hr => ?_⟩
        rcases List.mem_cons.1 hr with rfl | hr
        · exact hc.2.1
        · exact h2 r hr
      · cases h
    · cases h

theorem aRows_fill {s : AS} {sz : Nat} : ∀ (k : Nat) (l : List (Nat × Operand)) (rows : List (List AV)), aRows s sz k l = some rows →
    ∃ m, placed (fun i => some (i * sz, sz)) s l = some m ∧ ∀ pre mid : List AV, pre.length = k * sz → mid.length = rows.length * sz → fillA (pre ++ mid) m = some (pre ++ rows.flatten)
  | _, [], rows, h => by
    simp only [aRows, Option.some.injEq] at h; subst h
    refine ⟨[], rfl, fun pre mid _ hm => ?_⟩
    have : mid = [] := List.length_eq_zero_iff.1 (by simpa using hm)
    subst this
    simp [fillA]
  | k, (i, x) :: l, rows, h => by
    simp only [aRows] at h
    split at h
    · rename_i a rs ha hrs
      split at h
      · rename_i hc
        injection h with h; subst h
        obtain ⟨rfl, hlen, hone⟩ := hc
        obtain ⟨m, h1, h2⟩ := aRows_fill (i + 1) l rs hrs
        refine ⟨(i * sz, sz, a) :: m, by simp [placed, ha, h1], fun pre mid hp hm => ?_⟩
        have hm' : sz ≤ mid.length := by rw [hm, List.length_cons, Nat.add_mul, Nat.one_mul]; omega
        have e1 : (pre ++ mid).take (i * sz) = pre := by rw [← hp]; simp
        have e2 : (pre ++ mid).drop (i * sz + sz) = mid.drop sz := by rw [← hp, List.drop_append, List.drop_eq_nil_of_le (by omega)]; simp
        simp only [fillA]
        rw [if_pos ⟨hlen, by simp; omega, hone⟩, e1, e2]
        rw [h2 (pre ++ a.cells) (mid.drop sz) (by simp [hp, hlen, Nat.add_mul]) (by simp [hm, Nat.add_mul])]
        simp
      · cases h
    · cases h

theorem flatten_get {sz : Nat} : ∀ (rows : List (List AV)), (∀ r ∈ rows, r.length = sz) → ∀ (i : Nat) (r : List AV) (j : Nat) (av : AV), rows[i]? = some r → r[j]? = some av → rows.flatten[i * sz + j]? = some av
  | [], _, i, r, j, av, h, _ => by simp at h
  | r0 :: rows, hl, i, r, j, av, hi, hj => by
    have h0 := hl r0 (List.mem_cons_self ..)
    cases i with
    | zero =>
      simp at hi; subst hi
      have hlt : j < r0.length := (List.getElem?_eq_some_iff.1 hj).1
      simp only [List.flatten_cons, Nat.zero_mul, Nat.zero_add]
      rw [List.getElem?_append_left hlt]; exact hj
    | succ i =>
      simp at hi
      simp only [List.flatten_cons]
      rw [List.getElem?_append_right (by rw [h0, Nat.add_mul]; omega), h0, show (i + 1) * sz + j - sz = i * sz + j by rw [Nat.add_mul]; omega]
      exact flatten_get rows (fun r hr => hl r (List.mem_cons_of_mem _ hr)) i r j av hi hj

section
variable {C : Cx} {s : AS} {o : Oper}

theorem sem_lit (hT : TypesOK C.P C.ti) {t : TypeId} {len : Nat} {parts : Array (Nat × Operand)} (ho : o.op = .buildSlice t len parts) {sz : Nat} {rows : List (List AV)} (h : aLit C.ti s t len parts.toList = some (sz, rows)) : SemOK C s o (.sl sz rows) := by
  intro σ S a w hS _ hops
  unfold aLit at h
  split at h
  · rename_i _ _ _ e hy
    split at h
    · rename_i z hz
      split at h
      · rename_i hc
        split at h
        · rename_i rs hrs
          injection h with h; injection h with h1 h2; subst h1 h2
          obtain ⟨hsz, hlen, hmax, hpl⟩ := hc
          obtain ⟨i, d, h1, h2, h3, h4, h5, _⟩ := underlying_of hT hy
          have hd := slc_desc h5
          subst hd
          obtain ⟨i', d', g1, g2, g3, _, _, ⟨zv, hz1, hz2, _⟩, _⟩ := underlying_of hT hz
          obtain ⟨hrl, hrw⟩ := aRows_len 0 parts.toList rs hrs
          obtain ⟨m, m1, m2⟩ := aRows_fill 0 parts.toList rs hrs
          have hn : len * z.size ≠ 0 := Nat.mul_ne_zero (by omega) (by omega)
          generalize hc0 : (Array.range (len * z.size)).map (fun j => zv.cells[j % zv.cells.size]!) = c0
          have hc0s : c0.size = len * z.size := by rw [← hc0]; simp
          have m3 := m2 [] (c0.toList.map AV.v) (by simp) (by simp [hc0s, hrl, hpl])
          obtain ⟨cs', k1, k2, k3⟩ := fill_spec' (σ := σ) (S := S) (w := w) (a := a) _ (fun i => some (i * z.size, z.size)) (fun i q hq => hq) parts.toList m c0 _ _ (fun p hp b hb => hops p.2 (by rw [ho]; simp only [Op.operands]; exact List.mem_map.2 ⟨p, hp, rfl⟩) b hb) m1 m3 (by simp) (fun i y av hy hav => by
            simp only [List.nil_append, List.getElem?_map] at hav
            obtain ⟨x, hx, rfl⟩ := Option.map_eq_some_iff.1 hav
            have : c0[i]? = some x := by simpa using hx
            rw [this] at hy; injection hy with hy; subst hy; exact .v _)
          simp only [List.nil_append] at k2 k3
          have hpar : (parts.map fun (p : Nat × Operand) => (p.1, a.eval p.2)).toList = parts.toList.map fun (p : Nat × Operand) => (p.1, a.eval p.2) := by simp
          have hb : Below w.heap.size w (w.alloc (.cells cs' e)) := (Below.refl _ w).alloc (Nat.le_refl _) _
          refine ⟨.slice (some ⟨w.heap.size, 0, none⟩) len len, w.alloc (.cells cs' e), ?_, hb, ?_⟩
          · have hgt : ¬ (len * z.size > 2 ^ 24) := by omega
            simp only [execOp, ho, Instr.buildSlice, Sem.run_bind, run_underlying h2, Result.andThen_ok, run_sizeOf_of g1, g3, hgt, if_false, hn, run_zeroValue_of g1 hz1, Sem.run_pure, hc0, hpar, k1]
            rfl
          · have hkeep : Keeps σ S w (w.alloc (.cells cs' e)) := ⟨fun k hk => heap_alloc_lt w _ (hS k hk), fun b k c e' f _ hc => ⟨c, e', f, by rw [heap_alloc_lt w _ (Array.getElem?_eq_some_iff.1 hc).1]; exact hc, Nat.le_refl _⟩⟩
            have cell : ∀ (i : Nat) (r : List AV) (j : Nat) (av : AV), rs[i]? = some r → r[j]? = some av → ∃ x, cs'[i * z.size + j]? = some x ∧ Rel σ S w x av := fun i r j av hi hj => by
              have hf := flatten_get rs hrw i r j av hi hj
              have hlt : i * z.size + j < cs'.size := by rw [k2]; exact (List.getElem?_eq_some_iff.1 hf).1
              exact ⟨cs'[i * z.size + j], by simp [hlt], k3 _ _ av (by simp [hlt]) hf⟩
            have key := Rel.sl (σ := σ) (S := Grow S w (w.alloc (.cells cs' e))) (w := w.alloc (.cells cs' e)) (k := w.heap.size) (off := 0) (cap := len) (sz := z.size) (rows := rs) (fun i j => (cs'[i * z.size + j]?).getD undef) (.inr ⟨Nat.le_refl _, by simp⟩) (by omega) hrw
              (fun i r j av hi hj => by
                obtain ⟨x, hx, _⟩ := cell i r j av hi hj
                rw [hx, show (0 + i * z.size + j) = i * z.size + j by omega]
                unfold World.cell?
                simp only [heap_alloc_new]
                simpa using hx)
              (fun i r j av hi hj => by
                obtain ⟨x, hx, hr⟩ := cell i r j av hi hj
                rw [hx]
                exact hr.mono (fun _ _ h => h) (fun _ h => .inl h) hkeep)
            rw [show rs.length = len by omega] at key
            exact key
        · cases h
      · cases h
    · cases h
  · cases h
end

section
variable {C : Cx} {n : Nat} {r : List It} {s : AS} {Q : Lab → AS → Prop} {d : Option Tmp} {all l : List Oper} {fps : List FP} {fp : FP} {t u : TypeId} {len : Nat} {parts : List (Nat × Operand)} {pos : String} {af : Array Edge} {g : Option (Nat × Bool)}
def litThen (C : Cx) (n : Nat) (r : List It) (s : AS) (Q : Lab → AS → Prop) (d : Option Tmp) (e : Option (Nat × List (List AV))) : Prop := match e with
  | some p => ex C n r (s.put d (.sl p.1 p.2)) Q
  | none => False
theorem litThen_some {sz : Nat} {rows : List (List AV)} : litThen C n r s Q d (some (sz, rows)) = ex C n r (s.put d (.sl sz rows)) Q := (rfl)
@[congr] theorem litThen_congr {e e' : Option (Nat × List (List AV))} (h : e = e') : litThen C n r s Q d e = litThen C n r s Q d e' := by rw [h]
theorem after_lit (hT : TypesOK C.P C.ti) (h : litThen C n r s Q d (aLit C.ti s t len parts)) : after C n r s Q ⟨d, .buildSlice t len parts.toArray, u, pos, af, g⟩ none := by
  cases he : aLit C.ti s t len parts with
  | none => rw [he] at h; exact h.elim
  | some p => rw [he] at h; exact after_sem (sem_lit hT rfl he) h
def drawLitThen (C : Cx) (n : Nat) (r : List It) (s : AS) (Q : Lab → AS → Prop) (all : List Oper) (d : Option Tmp) (e : Option (Nat × List (List AV))) (fp : FP) (l : List Oper) (fps : List FP) : Prop := match e with
  | some p => drawRun C n r (bump (s.put d (.sl p.1 p.2)) (s.next + 1)) Q all l (fp :: fps)
  | none => False
theorem drawLitThen_some {sz : Nat} {rows : List (List AV)} : drawLitThen C n r s Q all d (some (sz, rows)) fp l fps = drawRun C n r (bump (s.put d (.sl sz rows)) (s.next + 1)) Q all l (fp :: fps) := (rfl)
@[congr] theorem drawLitThen_congr {e e' : Option (Nat × List (List AV))} {fp' : FP} (h : e = e') (h' : fp = fp') : drawLitThen C n r s Q all d e fp l fps = drawLitThen C n r s Q all d e' fp' l fps := by rw [h, h']
theorem drawAfter_lit (hT : TypesOK C.P C.ti) (h : drawLitThen C n r s Q all d (aLit C.ti s t len parts) fp l fps) : drawAfter C n r s Q all ⟨d, .buildSlice t len parts.toArray, u, pos, af, g⟩ none fp l fps := by
  cases he : aLit C.ti s t len parts with
  | none => rw [he] at h; exact h.elim
  | some p => rw [he] at h; exact drawAfter_sem (sem_lit hT rfl he) h
end
end Go.Ax
