/- The abstract executor, part 16: '==' on structs; arithmetic that does not wrap. -/
import Derived.Test.YtekmhhmemkjcbaaAxH
import Derived.Test.YtekmhhmemkjcbaaAxQ
set_option linter.unusedSimpArgs false
set_option linter.unusedVariables false
set_option linter.deprecated false
namespace Go.Ax
open Go Go.RowKit

def vals : List AV → List Value
  | [] => []
  | .v x :: l => x :: vals l
  | _ :: l => undef :: vals l
def allV : List AV → Bool
  | [] => true
  | .v _ :: l => allV l
  | _ :: _ => false

structure EqTy (P : Program) (t : TypeId) (ks : List Bool) : Prop where
  st : ∃ fs, P.underlying t = some (.struct fs)
  flat : flatKinds P 8 t = some ks
  guard : P.eqGuardType P.depth t = false

theorem vals_rel {σ : Sig} {S : Nat → Prop} {w : World} : ∀ (l : List AV) (cs : List Value), allV l = true → cs.length = l.length → (∀ (i : Nat) (y : Value) (av : AV), cs[i]? = some y → l[i]? = some av → Rel σ S w y av) → cs = vals l
  | [], [], _, _, _ => rfl
  | [], _ :: _, _, h, _ => by simp at h
  | _ :: _, [], _, h, _ => by simp at h
  | .v x :: l, c :: cs, ha, hl, hr => by
    have h0 := rel_v (hr 0 c (.v x) rfl rfl)
    subst h0
    simp only [vals]
    rw [← vals_rel l cs (by simpa [allV] using ha) (by simpa using hl) (fun i y av hy hav => hr (i + 1) y av (by simpa using hy) (by simpa using hav))]
  | .p .. :: _, _ :: _, ha, _, _ => by simp [allV] at ha
  | .ps .. :: _, _ :: _, ha, _, _ => by simp [allV] at ha
  | .rp .. :: _, _ :: _, ha, _, _ => by simp [allV] at ha
  | .sl .. :: _, _ :: _, ha, _, _ => by simp [allV] at ha
  | .agg .. :: _, _ :: _, ha, _, _ => by simp [allV] at ha
  | .tup .. :: _, _ :: _, ha, _, _ => by simp [allV] at ha
  | .fn .. :: _, _ :: _, ha, _, _ => by simp [allV] at ha

section
variable {C : Cx} {s : AS} {o : Oper}

theorem eq_run {t t' : TypeId} {x y : Operand} {l m : List AV} {ks : List Bool} (op : BinOp) (f : Bool → Bool) (hf : (op = .eql ∧ f = id) ∨ (op = .neq ∧ f = not)) (ho : o.op = .binOp op t x y t') (hx : ev s x = some (.agg l)) (hy : ev s y = some (.agg m)) (ht : EqTy C.P t ks)
    (hl : allV l = true) (hm : allV m = true) (hk : fitsK ks (vals l) (vals m) = true) : SemOK C s o (.v (.bool (f (veqs (vals l) (vals m))))) := by
  intro σ S a w _ _ hops
  obtain ⟨cs, h1, h2, h3⟩ := rel_agg (hops x (by rw [ho]; simp [Op.operands]) _ hx)
  obtain ⟨ds, g1, g2, g3⟩ := rel_agg (hops y (by rw [ho]; simp [Op.operands]) _ hy)
  have e1 := vals_rel l cs.toList hl (by simpa using h2) (fun i y av hy hav => h3 i y av (by simpa using hy) hav)
  have e2 := vals_rel m ds.toList hm (by simpa using g2) (fun i y av hy hav => g3 i y av (by simpa using hy) hav)
  obtain ⟨fs, hfs⟩ := ht.st
  obtain ⟨_, hq⟩ := flat_eq 8 t ks ht.flat
  have hrun := hq (vals l) (vals m) w 9999 (by omega) hk
  have eo : ∀ zs, ofCells C.P t zs = .agg zs.toArray := fun zs => by unfold ofCells; rw [hfs]
  rw [eo, eo, ← e1, ← e2] at hrun
  simp only [Array.toArray_toList] at hrun
  have hrun' : (Op.equal t (.agg cs) (.agg ds)).run C.P w = .ok (veqs cs.toList ds.toList) w := hrun
  refine ⟨.bool (f (veqs cs.toList ds.toList)), w, ?_, Below.refl _ _, by rw [e1, e2]; exact .v _⟩
  have hg := run_eqGuard_agg (P := C.P) w op t x y cs ds ht.guard
  rcases hf with ⟨rfl, rfl⟩ | ⟨rfl, rfl⟩
  · simp [execOp, ho, h1, g1, hg, binOp, hrun']
  · simp [execOp, ho, h1, g1, hg, binOp, hrun']

theorem sem_eql {t t' : TypeId} {x y : Operand} {l m : List AV} {ks : List Bool} (ht : EqTy C.P t ks) (ho : o.op = .binOp .eql t x y t') (hx : ev s x = some (.agg l)) (hy : ev s y = some (.agg m))
    (hl : allV l = true) (hm : allV m = true) (hk : fitsK ks (vals l) (vals m) = true) : SemOK C s o (.v (.bool (veqs (vals l) (vals m)))) := eq_run .eql id (.inl ⟨rfl, rfl⟩) ho hx hy ht hl hm hk
theorem sem_neq {t t' : TypeId} {x y : Operand} {l m : List AV} {ks : List Bool} (ht : EqTy C.P t ks) (ho : o.op = .binOp .neq t x y t') (hx : ev s x = some (.agg l)) (hy : ev s y = some (.agg m))
    (hl : allV l = true) (hm : allV m = true) (hk : fitsK ks (vals l) (vals m) = true) : SemOK C s o (.v (.bool (!veqs (vals l) (vals m)))) := eq_run .neq not (.inr ⟨rfl, rfl⟩) ho hx hy ht hl hm hk
end

/-! ### what does not wrap -/
theorem w64 {x : Int} (h : -9223372036854775808 ≤ x ∧ x ≤ 9223372036854775807) : IntKind.i64.wrap x = x := IntWalk.i64_in x h
theorem w64l {x : Int} (h : (decide (-9223372036854775808 ≤ x) && decide (x ≤ 9223372036854775807)) = true) : IntKind.i64.wrap x = x := w64 (by simpa using h)
theorem wu64 {x : Int} (h : 0 ≤ x ∧ x ≤ 18446744073709551615) : IntKind.u64.wrap x = x := IntWalk.u64_in x h
theorem wu32 {x : Int} (h : 0 ≤ x ∧ x ≤ 4294967295) : IntKind.u32.wrap x = x := IntWalk.u32_in x h
theorem wu8 {x : Int} (h : 0 ≤ x ∧ x ≤ 255) : IntKind.u8.wrap x = x := IntWalk.u8_in x h
theorem wi32 {x : Int} (h : -2147483648 ≤ x ∧ x ≤ 2147483647) : IntKind.i32.wrap x = x := IntWalk.i32_in x h
end Go.Ax
