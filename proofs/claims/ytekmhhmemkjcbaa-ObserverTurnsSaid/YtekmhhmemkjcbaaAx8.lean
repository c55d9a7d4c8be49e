/- The abstract executor, part 8: every operation that is no call of a Go function. -/
import Derived.Test.YtekmhhmemkjcbaaAxN
set_option linter.unusedSimpArgs false
set_option linter.unusedVariables false
set_option linter.deprecated false
namespace Go.Ax
open Go Go.RowKit

section
variable {P : Program} {ti : Types} {D : Base} {S0 : Nat → Prop} {w0 : World} {σ : Sig} {S : Nat → Prop} {w : World} {s : AS} {a : Act} {o : Oper} {mem : List (Nat × MB)} {U : Nat → Prop}

theorem exec_builtin {b : Builtin} {args : Array Operand} {types : Array TypeId} (ho : o.op = .call ⟨.builtin b, args, types⟩) :
    (execOp a.eval o).run P w = (builtin b types o.type (args.map fun | .const _ => true | _ => false) (args.map a.eval)).run P w := by
  simp [execOp, ho, resolve, invoke]; rfl

theorem s_len (hT : TypesOK P ti) (hE : EnvOK σ S w s.env a) {args : Array Operand} {types : Array TypeId} (ho : o.op = .call ⟨.builtin .len, args, types⟩) {x : Operand} (hargs : args.toList = [x]) {e : Eff}
    (h : aLenT ti (headT types.toList) (ev s x) = some e) : e.upd = .keep ∧ Yields P a o σ S w e.val := by
  have ha : args = #[x] := by rw [← Array.toArray_toList (xs := args), hargs]
  subst ha
  unfold aLenT at h
  split at h
  · rename_i t ht
    split at h
    case isFalse =>
      split at h
      · rename_i hs
        split at h
        · rename_i b hx
          injection h with h; subst h
          have hu := isStrT_spec hT hs
          have h0 : types[0]? = some t := by
            rw [headT, List.head?_eq_getElem?] at ht
            simpa using ht
          refine ⟨rfl, _, ?_, .v _⟩
          rw [exec_builtin ho]
          simp [builtin, Builtin.len_, h0, ev_v hE hx, run_underlying hu, goInt]
        · cases h
      · cases h
    · rename_i hs
      obtain ⟨et, hu⟩ := isSlcT_spec hT hs
      have h0 : types[0]? = some t := by
        rw [headT, List.head?_eq_getElem?] at ht
        simpa using ht
      have run : ∀ (b : Option Addr) (n c : Nat), a.eval x = .slice b n c → (execOp a.eval o).run P w = .ok (.value (.int .i64 n)) w := fun b n c hx => by
        rw [exec_builtin ho]
        simp [builtin, Builtin.len_, h0, hx, run_underlying hu, goInt]
      unfold aLen at h
      split at h
      · rename_i hx
        injection h with h; subst h
        rcases rel_ps (ev_rel hE hx) with ⟨q1, q2⟩ | ⟨k, off, cap, _, g2, _⟩
        · subst q2; exact ⟨rfl, _, run _ _ _ q1, .v _⟩
        · exact ⟨rfl, _, run _ _ _ g2, .v _⟩
      · rename_i sz rows hx
        injection h with h; subst h
        have hr := ev_rel hE hx
        generalize hpx : a.eval x = px at hr
        cases hr with
        | nil => exact ⟨rfl, _, run _ _ _ hpx, .v _⟩
        | e => exact ⟨rfl, _, run _ _ _ hpx, .v _⟩
        | sl c _ _ _ _ _ => exact ⟨rfl, _, run _ _ _ hpx, .v _⟩
      · rename_i hx
        injection h with h; subst h
        exact ⟨rfl, _, run _ _ _ (ev_v hE hx), .v _⟩
      · cases h
  · cases h

theorem evL_exact (hE : EnvOK σ S w s.env a) : ∀ (xs : List Operand) (vs : List Value), evL s xs = some (vs.map .v) → xs.map a.eval = vs
  | [], vs, h => by
    simp [evL] at h
    cases vs <;> simp at h ⊢
  | x :: xs, vs, h => by
    simp only [evL] at h
    split at h
    · rename_i v l hv hl
      cases vs with
      | nil => simp at h
      | cons u us =>
        simp at h
        obtain ⟨h1, h2⟩ := h
        subst h1 h2
        simp [ev_v hE hv, evL_exact hE xs us hl]
    · cases h

theorem min_eq (a b : Int) : (if b < a then b else a) = min a b := by omega
theorem max_eq (a b : Int) : (if b > a then b else a) = max a b := by omega

theorem s_min (hE : EnvOK σ S w s.env a) {args : Array Operand} {types : Array TypeId} (ho : o.op = .call ⟨.builtin .min, args, types⟩) {e : Eff}
    (h : aMin (evL s args.toList) = some e) : e.upd = .keep ∧ Yields P a o σ S w e.val := by
  have run : ∀ vs : List Value, args.toList.map a.eval = vs → ∀ v, (Builtin.min_ types o.type vs.toArray).run P w = .ok v w → (execOp a.eval o).run P w = .ok (.value v) w := fun vs hvs v hv => by
    have : args.map a.eval = vs.toArray := Array.ext' (by rw [Array.toList_map, hvs])
    rw [exec_builtin ho, this]
    simp [builtin, hv]
  unfold aMin at h
  split at h
  · rename_i k x k' y hl
    split at h
    · rename_i hk
      subst hk
      injection h with h; subst h
      exact ⟨rfl, _, run [.int k x, .int k y] (evL_exact hE _ _ hl) _ (by simp [Builtin.min_, Builtin.min2, min_eq]), .v _⟩
    · cases h
  · rename_i k x k' y k'' z hl
    split at h
    · rename_i hk
      obtain ⟨rfl, rfl⟩ := hk
      injection h with h; subst h
      exact ⟨rfl, _, run [.int k x, .int k y, .int k z] (evL_exact hE _ _ hl) _ (by simp [Builtin.min_, Builtin.min2, min_eq]), .v _⟩
    · cases h
  · rename_i k x k' y k'' z k3 u hl
    split at h
    · rename_i hk
      obtain ⟨rfl, rfl, rfl⟩ := hk
      injection h with h; subst h
      exact ⟨rfl, _, run [.int k x, .int k y, .int k z, .int k u] (evL_exact hE _ _ hl) _ (by simp [Builtin.min_, Builtin.min2, min_eq]), .v _⟩
    · cases h
  · cases h

theorem s_max (hE : EnvOK σ S w s.env a) {args : Array Operand} {types : Array TypeId} (ho : o.op = .call ⟨.builtin .max, args, types⟩) {e : Eff}
    (h : aMax (evL s args.toList) = some e) : e.upd = .keep ∧ Yields P a o σ S w e.val := by
  have run : ∀ vs : List Value, args.toList.map a.eval = vs → ∀ v, (Builtin.max_ types o.type vs.toArray).run P w = .ok v w → (execOp a.eval o).run P w = .ok (.value v) w := fun vs hvs v hv => by
    have : args.map a.eval = vs.toArray := Array.ext' (by rw [Array.toList_map, hvs])
    rw [exec_builtin ho, this]
    simp [builtin, hv]
  unfold aMax at h
  split at h
  · rename_i k x k' y hl
    split at h
    · rename_i hk
      subst hk
      injection h with h; subst h
      exact ⟨rfl, _, run [.int k x, .int k y] (evL_exact hE _ _ hl) _ (by simp [Builtin.max_, Builtin.max2, max_eq]), .v _⟩
    · cases h
  · rename_i k x k' y k'' z hl
    split at h
    · rename_i hk
      obtain ⟨rfl, rfl⟩ := hk
      injection h with h; subst h
      exact ⟨rfl, _, run [.int k x, .int k y, .int k z] (evL_exact hE _ _ hl) _ (by simp [Builtin.max_, Builtin.max2, max_eq]), .v _⟩
    · cases h
  · rename_i k x k' y k'' z k3 u hl
    split at h
    · rename_i hk
      obtain ⟨rfl, rfl, rfl⟩ := hk
      injection h with h; subst h
      exact ⟨rfl, _, run [.int k x, .int k y, .int k z, .int k u] (evL_exact hE _ _ hl) _ (by simp [Builtin.max_, Builtin.max2, max_eq]), .v _⟩
    · cases h
  · cases h

def grown (U : Nat → Prop) (id : Nat) : Upd → Nat → Prop
  | .new _ => fun b => U b ∨ b = id
  | _ => U

theorem upd_set_or_keep {e : Eff} (h : (∃ b m, e.upd = .set b m) ∨ e.upd = .keep) (U : Nat → Prop) (id : Nat) : grown U id e.upd = U := by
  rcases h with ⟨b, m, h⟩ | h <;> rw [h] <;> rfl

theorem aAlloc_upd {n : Nat} {y : Option TyI} {e : Eff} (h : aAlloc n y = some e) (U : Nat → Prop) (id : Nat) : grown U id e.upd = fun b => U b ∨ b = id := by
  unfold aAlloc at h
  split at h
  · injection h with h; subst h; rfl
  · cases h
theorem aBox_upd {n : Nat} {y : Option AV} {e : Eff} (h : aBox n y = some e) (U : Nat → Prop) (id : Nat) : grown U id e.upd = fun b => U b ∨ b = id := by
  unfold aBox at h
  split at h
  · split at h
    · injection h with h; subst h; rfl
    · cases h
  · cases h
theorem aMakeSlice_upd {ti : Types} {n : Nat} {y : Option TyI} {l c : Option AV} {e : Eff} (h : aMakeSlice ti n y l c = some e) (U : Nat → Prop) (id : Nat) : grown U id e.upd = fun b => U b ∨ b = id := by
  unfold aMakeSlice at h
  split at h
  · split at h
    · split at h
      · cases h
      · injection h with h; subst h; rfl
    · cases h
  · cases h
theorem aStore_upd {mem : List (Nat × MB)} {y : Option TyI} {x z : Option AV} {e : Eff} (h : aStore mem y x z = some e) (U : Nat → Prop) (id : Nat) : grown U id e.upd = U := by
  unfold aStore at h
  split at h
  · split at h
    · split at h
      · injection h with h; subst h; rfl
      · cases h
    · cases h
  · cases h

/-- An operation has run: its value, and the fit behind it. -/
def Ran (P : Program) (D : Base) (S0 : Nat → Prop) (w0 : World) (S : Nat → Prop) (s : AS) (a : Act) (o : Oper) (w : World) (e : Eff) (U : Nat → Prop) : Prop :=
  ∃ x w' σ', ((execOp a.eval o).run P w = .ok (.value x) w' ∨ ((execOp a.eval o).run P w = .ok .skip w' ∧ x = undef)) ∧
    Fit D S0 w0 σ' S (s.upd e.upd).mem (grown U s.next e.upd) w' ∧ EnvOK σ' S w' s.env a ∧ Rel σ' S w' x e.val

theorem ran_of_yields (hF : Fit D S0 w0 σ S s.mem U w) (hE : EnvOK σ S w s.env a) {e : Eff} (h : e.upd = .keep ∧ Yields P a o σ S w e.val) : Ran P D S0 w0 S s a o w e U := by
  obtain ⟨h1, x, h2, h3⟩ := h
  refine ⟨x, w, σ, .inl h2, ?_, hE, h3⟩
  rw [h1]; exact hF

theorem aop_sound (hT : TypesOK P ti) (hid : ¬ U s.next) (hF : Fit D S0 w0 σ S s.mem U w) (hE : EnvOK σ S w s.env a) {e : Eff} (h : aop ti s o.op = some e) (hn : e.need) : Ran P D S0 w0 S s a o w e U := by
  cases ho : o.op with
  | move x =>
    simp only [ho, aop] at h
    split at h
    · rename_i av hv; injection h with h; subst h; exact ran_of_yields hF hE ⟨rfl, s_move hE (.inl ho) hv⟩
    · cases h
  | assign x =>
    simp only [ho, aop] at h
    split at h
    · rename_i av hv; injection h with h; subst h; exact ran_of_yields hF hE ⟨rfl, s_move hE (.inr ho) hv⟩
    · cases h
  | pick c x y => simp only [ho, aop] at h; exact ran_of_yields hF hE (s_pick hE ho h)
  | alloc t =>
    simp only [ho, aop] at h
    obtain ⟨x, w', σ', h1, h2, h3, h4⟩ := s_alloc (P := P) hT hid hF hE ho h
    rw [← aAlloc_upd h U s.next] at h2
    exact ⟨x, w', σ', .inl h1, h2, h3, h4⟩
  | box t x =>
    simp only [ho, aop] at h
    obtain ⟨x, w', σ', h1, h2, h3, h4⟩ := s_box (P := P) hid hF hE ho h
    rw [← aBox_upd h U s.next] at h2
    exact ⟨x, w', σ', .inl h1, h2, h3, h4⟩
  | makeSlice t l c =>
    simp only [ho, aop] at h
    obtain ⟨x, w', σ', h1, h2, h3, h4⟩ := s_makeSlice (P := P) hT hid hF hE ho h hn
    rw [← aMakeSlice_upd h U s.next] at h2
    exact ⟨x, w', σ', .inl h1, h2, h3, h4⟩
  | slice t x lo hi mx => simp only [ho, aop] at h; exact ran_of_yields hF hE (s_slice hT hE ho h hn)
  | build t parts => simp only [ho, aop] at h; exact ran_of_yields hF hE (s_build hT hE ho h)
  | load t x => simp only [ho, aop] at h; exact ran_of_yields hF hE (s_load hT hF hE ho h hn)
  | store t x y =>
    simp only [ho, aop] at h
    obtain ⟨w', h1, h2, h3, h4⟩ := s_store (P := P) hT hF hE ho h hn
    have hg := aStore_upd h U s.next
    generalize hU : grown U s.next e.upd = U' at hg
    subst hg
    rw [← hU] at h2
    exact ⟨undef, w', σ, .inr ⟨h1, rfl⟩, h2, hE.mono (fun _ _ h => h) (fun _ h => h) h3, by rw [h4]; exact .v _⟩
  | nilCheck x => simp only [ho, aop] at h; exact ran_of_yields hF hE (s_nilCheck hE ho h)
  | binOp op t x y t' => simp only [ho, aop] at h; exact ran_of_yields hF hE (s_bin hT hE ho h hn)
  | unOp op t x => simp only [ho, aop] at h; exact ran_of_yields hF hE (s_un hE ho h)
  | convert t u x => simp only [ho, aop] at h; exact ran_of_yields hF hE (s_convert hT hE ho h)
  | makeInterface t x => simp only [ho, aop] at h; exact ran_of_yields hF hE (s_makeInterface hT hE ho h)
  | makeFunc fn first captured => simp only [ho, aop] at h; exact ran_of_yields hF hE (s_makeFunc hE ho h)
  | fieldAddr t x f => simp only [ho, aop] at h; exact ran_of_yields hF hE (s_fieldAddr hT hE ho h)
  | field t x f => simp only [ho, aop] at h; exact ran_of_yields hF hE (s_field hT hE ho h)
  | indexAddr t x i => simp only [ho, aop] at h; exact ran_of_yields hF hE (s_indexAddr hT hE ho h hn)
  | index t x i => simp only [ho, aop] at h; exact ran_of_yields hF hE (s_index hT hE ho h hn)
  | typeAssert x t u c =>
    simp only [ho, aop] at h
    split at h
    · rename_i hc; rw [hc] at ho; exact ran_of_yields hF hE (s_assert hT hE ho h)
    · cases h
  | extract x i => simp only [ho, aop] at h; exact ran_of_yields hF hE (s_extract hE ho h)
  | call c =>
    obtain ⟨cl, args, types⟩ := c
    cases cl with
    | builtin b =>
      simp only [ho, aop] at h
      unfold aBuiltin at h
      split at h
      · rename_i x hargs; exact ran_of_yields hF hE (s_len hT hE ho hargs h)
      · exact ran_of_yields hF hE (s_min hE ho h)
      · exact ran_of_yields hF hE (s_max hE ho h)
      · cases h
    | value f => simp [ho, aop] at h
    | invoke r m => simp [ho, aop] at h
  | _ => simp [ho, aop] at h
end
end Go.Ax
