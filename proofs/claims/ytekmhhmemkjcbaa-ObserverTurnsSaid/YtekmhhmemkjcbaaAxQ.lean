/- '==' on structs of numbers and bools. -/
import Derived.Test.YtekmhhmemkjcbaaAx2
import Derived.Laws.StructEq
set_option linter.unusedSimpArgs false
set_option linter.unusedVariables false
set_option linter.deprecated false
namespace Go.Ax
open Go Go.RowKit

def veq : Value → Value → Bool
  | .int _ a, .int _ b => decide (a = b)
  | .bool a, .bool b => decide (a = b)
  | _, _ => false
/-- Two cells of one plain type: integers, or bools. -/
def fitK : Bool → Value → Value → Bool
  | true, .int j _, .int k _ => decide (j = k)
  | false, .bool _, .bool _ => true
  | _, _, _ => false
def veqs : List Value → List Value → Bool
  | [], [] => true
  | x :: xs, y :: ys => veq x y && veqs xs ys
  | _, _ => false
def fitsK : List Bool → List Value → List Value → Bool
  | [], [], [] => true
  | k :: ks, x :: xs, y :: ys => fitK k x y && fitsK ks xs ys
  | _, _, _ => false

def fieldsKinds (f : TypeId → Option (List Bool)) (size : TypeId → Nat) : Nat → List Field → Option (List Bool)
  | _, [] => some []
  | off, fd :: fs => match f fd.type, fieldsKinds f size (off + size fd.type) fs with
    | some a, some b => if (fd.name ≠ "_" ∧ fd.offset = off) ∧ a.length = size fd.type then some (a ++ b) else none
    | _, _ => none

def flatKinds (P : Program) : Nat → TypeId → Option (List Bool)
  | 0, _ => none
  | d + 1, t => match P.underlying t with
    | some (.int _) => if P.cellsOf t = 1 then some [true] else none
    | some .bool => if P.cellsOf t = 1 then some [false] else none
    | some (.struct fs) => if P.stoodInHeld t = false then (match fieldsKinds (flatKinds P d) P.cellsOf 0 fs.toList with | some ks => if ks.length = P.cellsOf t then some ks else none | none => none) else none
    | _ => none

theorem beq_decI (a b : Int) : (a == b) = decide (a = b) := by by_cases hab : a = b <;> simp [hab]
theorem beq_decB (a b : Bool) : (a == b) = decide (a = b) := by cases a <;> cases b <;> rfl

theorem veqs_split : ∀ (a b c d : List Value), a.length = b.length → veqs (a ++ c) (b ++ d) = (veqs a b && veqs c d)
  | [], [], c, d, _ => by simp [veqs]
  | x :: a, y :: b, c, d, h => by simp only [List.cons_append, veqs, veqs_split a b c d (by simpa using h), Bool.and_assoc]
  | [], _ :: _, _, _, h => by simp at h
  | _ :: _, [], _, _, h => by simp at h

theorem fitsK_len : ∀ {ks : List Bool} {a b : List Value}, fitsK ks a b = true → a.length = ks.length ∧ b.length = ks.length
  | [], [], [], _ => ⟨rfl, rfl⟩
  | k :: ks, x :: a, y :: b, h => by
    simp only [fitsK, Bool.and_eq_true] at h
    obtain ⟨h1, h2⟩ := fitsK_len h.2
    exact ⟨by simp [h1], by simp [h2]⟩
  | [], _ :: _, _, h => by simp [fitsK] at h
  | [], [], _ :: _, h => by simp [fitsK] at h
  | _ :: _, [], _, h => by simp [fitsK] at h
  | _ :: _, _ :: _, [], h => by simp [fitsK] at h

theorem fitsK_split : ∀ {ks ls : List Bool} {a b : List Value}, fitsK (ks ++ ls) a b = true → fitsK ks (a.take ks.length) (b.take ks.length) = true ∧ fitsK ls (a.drop ks.length) (b.drop ks.length) = true
  | [], ls, a, b, h => by simpa [fitsK] using h
  | k :: ks, ls, [], b, h => by simp [fitsK] at h
  | k :: ks, ls, _ :: _, [], h => by simp [fitsK] at h
  | k :: ks, ls, x :: a, y :: b, h => by
    simp only [List.cons_append, fitsK, Bool.and_eq_true] at h
    obtain ⟨h1, h2⟩ := fitsK_split h.2
    simp only [List.length_cons, List.take_succ_cons, List.drop_succ_cons, fitsK, Bool.and_eq_true]
    exact ⟨⟨h.1, h1⟩, h2⟩

section
variable {P : Program}

/-- A value of a type, out of its cells. -/
def ofCells (P : Program) (t : TypeId) (cs : List Value) : Value := match P.underlying t with | some (.struct _) => .agg cs.toArray | _ => cs.headD undef

theorem info_of_underlying {t : TypeId} {d : TypeDesc} (h : P.underlying t = some d) : ∃ i, P.info? t = some i := by
  unfold Program.underlying at h
  cases hq : P.info? t with
  | none => simp [hq] at h
  | some i => exact ⟨i, rfl⟩

theorem run_part (d : Nat) (t : TypeId) (ks : List Bool) (hk : flatKinds P d t = some ks) (hlen : ks.length = P.cellsOf t) (cs : List Value) (off : Nat) (w : World) (hle : off + P.cellsOf t ≤ cs.length) :
    (part t cs.toArray off).run P w = .ok (ofCells P t ((cs.drop off).take (P.cellsOf t))) w := by
  cases d with
  | zero => simp [flatKinds] at hk
  | succ d =>
    simp only [flatKinds] at hk
    have one : P.cellsOf t = 1 → (∀ fs, P.underlying t ≠ some (.struct fs)) → (isAgg t).run P w = .ok false w → (part t cs.toArray off).run P w = .ok (ofCells P t ((cs.drop off).take (P.cellsOf t))) w := fun h1 hns hag => by
      have hlt : off < cs.length := by omega
      have e : ofCells P t ((cs.drop off).take 1) = cs[off] := by
        have e0 : (cs.drop off).take 1 = [cs[off]] := by rw [List.drop_eq_getElem_cons hlt, List.take_succ_cons, List.take_zero]
        rw [e0]
        unfold ofCells
        split
        · rename_i fs hq; exact (hns _ hq).elim
        · rfl
      rw [h1, e]
      simp [part, hag, hlt]
    split at hk
    · rename_i k hu
      split at hk
      · rename_i h1; exact one h1 (fun fs h => by rw [hu] at h; cases h) (by simp [isAgg, run_underlying hu])
      · cases hk
    · rename_i hu
      split at hk
      · rename_i h1; exact one h1 (fun fs h => by rw [hu] at h; cases h) (by simp [isAgg, run_underlying hu])
      · cases hk
    · rename_i fs hu
      obtain ⟨i, hi⟩ := info_of_underlying hu
      have hs : P.cellsOf t = i.size := by simp [Program.cellsOf, hi]
      have e : ofCells P t ((cs.drop off).take (P.cellsOf t)) = .agg (cs.toArray.extract off (off + i.size)) := by
        unfold ofCells
        rw [hu]
        simp only
        congr 1
        apply Array.ext'
        simp [hs, List.take_drop]
      rw [e]
      simp [part, isAgg, run_underlying hu, Go.sizeOf, typeInfo, hi]
    · cases hk

theorem flat_eq : ∀ (d : Nat) (t : TypeId) (ks : List Bool), flatKinds P d t = some ks → ks.length = P.cellsOf t ∧ ∀ (xs ys : List Value) (w : World) (e : Nat), d ≤ e → fitsK ks xs ys = true →
    (Op.equalIn (e + 1) t (ofCells P t xs) (ofCells P t ys)).run P w = .ok (veqs xs ys) w
  | 0, t, ks, h => by simp [flatKinds] at h
  | d + 1, t, ks, h => by
    have h' := h
    simp only [flatKinds] at h
    split at h
    · rename_i k hu
      split at h
      · rename_i h1
        injection h with h; subst h
        refine ⟨by simp [h1], fun xs ys w e he hf => ?_⟩
        obtain ⟨l1, l2⟩ := fitsK_len hf
        match xs, ys, l1, l2 with
        | [x], [y], _, _ =>
          simp only [fitsK, Bool.and_true] at hf
          cases x <;> cases y <;> simp [fitK] at hf
          subst hf
          simp [ofCells, hu, run_equalIn_int w e t _ k _ _ hu, veqs, veq, beq_decI]
      · cases h
    · rename_i hu
      split at h
      · rename_i h1
        injection h with h; subst h
        refine ⟨by simp [h1], fun xs ys w e he hf => ?_⟩
        obtain ⟨l1, l2⟩ := fitsK_len hf
        match xs, ys, l1, l2 with
        | [x], [y], _, _ =>
          simp only [fitsK, Bool.and_true] at hf
          cases x <;> cases y <;> simp [fitK] at hf
          simp [ofCells, hu, run_equalIn_bool' w e t _ _ hu, veqs, veq, beq_decB]
      · cases h
    · rename_i fs hu
      split at h
      · rename_i hst
        split at h
        · rename_i ks' hks
          split at h
          · rename_i hlen
            injection h with h; subst h
            refine ⟨hlen, fun xs ys w e he hf => ?_⟩
            obtain ⟨e, rfl⟩ : ∃ e', e = e' + 1 := ⟨e - 1, by omega⟩
            have hof : P.fieldsOf t = fs := by simp [Program.fieldsOf, hu]
            have e0 : ∀ zs, ofCells P t zs = .agg zs.toArray := fun zs => by unfold ofCells; rw [hu]
            rw [e0, e0, run_equalIn_struct w (e + 1) t _ _ (by rw [hof]; exact hu) hst, hof]
            have key : ∀ (l : List Field) (off : Nat) (ks : List Bool), fieldsKinds (flatKinds P d) P.cellsOf off l = some ks → off + ks.length = xs.length → off + ks.length = ys.length → fitsK ks (xs.drop off) (ys.drop off) = true →
                (Op.eqFields (e + 1) xs.toArray ys.toArray l).run P w = .ok (veqs (xs.drop off) (ys.drop off)) w := by
              intro l
              induction l with
              | nil =>
                intro off ks hk h1 h2 hf
                simp only [fieldsKinds, Option.some.injEq] at hk
                subst hk
                have q1 : xs.drop off = [] := by apply List.drop_eq_nil_of_le; simp at h1; omega
                have q2 : ys.drop off = [] := by apply List.drop_eq_nil_of_le; simp at h2; omega
                simp [Op.eqFields, q1, q2, veqs]
              | cons fd l ih =>
                intro off ks hk h1 h2 hf
                simp only [fieldsKinds] at hk
                split at hk
                · rename_i a b ha hb
                  split at hk
                  · rename_i hc
                    obtain ⟨⟨hn, ho⟩, hl⟩ := hc
                    injection hk with hk; subst hk
                    obtain ⟨_, ihe⟩ := flat_eq d fd.type a ha
                    simp only [List.length_append] at h1 h2
                    obtain ⟨f1, f2⟩ := fitsK_split hf
                    rw [List.drop_drop, List.drop_drop] at f2
                    have hx := run_part d fd.type a ha hl xs off w (by omega)
                    have hy := run_part d fd.type a ha hl ys off w (by omega)
                    have hi := ih (off + P.cellsOf fd.type) b hb (by omega) (by omega) (by rw [← hl]; exact f2)
                    have heq := ihe ((xs.drop off).take (P.cellsOf fd.type)) ((ys.drop off).take (P.cellsOf fd.type)) w e (by omega) (by rw [← hl]; exact f1)
                    have hsp : veqs (xs.drop off) (ys.drop off) = (veqs ((xs.drop off).take (P.cellsOf fd.type)) ((ys.drop off).take (P.cellsOf fd.type)) && veqs (xs.drop (off + P.cellsOf fd.type)) (ys.drop (off + P.cellsOf fd.type))) := by
                      rw [← List.drop_drop, ← List.drop_drop, ← veqs_split _ _ _ _ (by simp; omega), List.take_append_drop, List.take_append_drop]
                    simp only [Op.eqFields]
                    rw [if_pos hn, ho]
                    simp only [Sem.run_bind, hx, Result.andThen_ok, hy, heq]
                    rw [hsp]
                    cases veqs ((xs.drop off).take (P.cellsOf fd.type)) ((ys.drop off).take (P.cellsOf fd.type)) with
                    | false => simp
                    | true => simp [hi]
                  · cases hk
                · cases hk
            obtain ⟨l1, l2⟩ := fitsK_len hf
            have := key fs.toList 0 ks' hks (by omega) (by omega) (by simpa using hf)
            simpa using this
          · cases h
        · cases h
      · cases h
    · cases h
end
end Go.Ax
