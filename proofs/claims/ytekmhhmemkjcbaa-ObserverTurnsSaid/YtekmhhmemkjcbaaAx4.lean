/- The abstract executor, part 4: what an operation does is what the abstract operation says. -/
import Derived.Test.YtekmhhmemkjcbaaAx3
import Derived.Laws.StructEq
set_option linter.unusedSimpArgs false
set_option linter.unusedVariables false
set_option linter.deprecated false
namespace Go.Ax
open Go Go.RowKit

section
variable {P : Program} {ti : Types} {D : Base} {S0 : Nat → Prop} {w0 : World} {σ : Sig} {S : Nat → Prop} {w : World} {s : AS} {a : Act}

theorem ev_rel (hE : EnvOK σ S w s.env a) {x : Operand} {av : AV} (h : ev s x = some av) : Rel σ S w (a.eval x) av := by
  cases x with
  | tmp t =>
    obtain ⟨v, h1, h2⟩ := hE t av h
    have : a.eval (.tmp t) = v := by simp [Act.eval, h1]
    rw [this]; exact h2
  | const c => simp [ev] at h; subst h; exact .v _
  | func f => simp [ev] at h; subst h; exact .fn rfl (by intro i x av hx; simp at hx)
  | global g => simp [ev] at h

theorem rel_v {x y : Value} (h : Rel σ S w x (.v y)) : x = y := by cases h; rfl
/-- The value of an operand whose abstract value is exact. -/
theorem ev_v (hE : EnvOK σ S w s.env a) {x : Operand} {v : Value} (h : ev s x = some (.v v)) : a.eval x = v := rel_v (ev_rel hE h)

def Yields (P : Program) (a : Act) (o : Oper) (σ : Sig) (S : Nat → Prop) (w : World) (av : AV) : Prop := ∃ x, (execOp a.eval o).run P w = .ok (.value x) w ∧ Rel σ S w x av

variable {o : Oper}

theorem s_move (hE : EnvOK σ S w s.env a) {x : Operand} (ho : o.op = .move x ∨ o.op = .assign x) {av : AV} (h : ev s x = some av) : Yields P a o σ S w av := by
  refine ⟨a.eval x, ?_, ev_rel hE h⟩
  rcases ho with ho | ho <;> simp [execOp, ho]

theorem s_ibin {op : BinOp} {k : IntKind} {m n : Int} {p : Prop} {v : Value} (h : ibin op k m n = some (p, v)) (hp : p) (hs : isShift op = false) (t : TypeId) :
    (binOp op t (.int k m) (.int k n)).run P w = .ok v w := by
  have e1 : ∀ x y : Int, (x == y) = decide (x = y) := fun x y => by by_cases hxy : x = y <;> simp [hxy]
  have e2 : ∀ x y : Int, (x != y) = !decide (x = y) := fun x y => by by_cases hxy : x = y <;> simp [hxy]
  cases op <;> simp [isShift] at hs <;> simp only [ibin, Option.some.injEq, Prod.mk.injEq, reduceCtorEq] at h <;> obtain ⟨rfl, rfl⟩ := h <;>
    simp [binOp, Op.intArith, Op.intBits, Op.intCmp, Op.intDiv, e1, e2, hp]

theorem s_ishift {op : BinOp} {k k' : IntKind} {m n : Int} {p : Prop} {v : Value} (h : ishift op k m n = some (p, v)) (hp : p) (t : TypeId) :
    (binOp op t (.int k m) (.int k' n)).run P w = .ok v w := by
  cases op <;> simp [ishift] at h <;> obtain ⟨h1, h2⟩ := h <;> subst h2 <;> rw [← h1] at hp <;> simp [binOp, Op.shift, Int.not_lt.2 hp, Int.fdiv_eq_ediv_of_nonneg _ (show (0:Int) ≤ 2 ^ (min n.toNat k.bits) from Int.le_of_lt (Int.pow_pos (by decide)))]

theorem eqGuard_ok (op : BinOp) (t : TypeId) (x y : Operand) (v u : Value) (h : match v, u with | .nilIface, .nilIface => isNilConst y = true | .agg _, .agg _ => False | _, _ => True) :
    (eqGuard op t x y v u).run P w = .ok () w := by
  unfold eqGuard
  cases op <;> simp only [Bool.not_true, Bool.not_false, Bool.false_eq_true, if_false, if_true, Sem.run_pure]
  all_goals
    cases v <;> cases u <;> simp only [Sem.run_pure] at h ⊢
    all_goals first
      | exact h.elim
      | (cases y <;> simp [isNilConst] at h ⊢)

theorem underlying_of (hT : TypesOK P ti) {t : TypeId} {y : TyI} (h : ti t = some y) : ∃ i d, P.info? t = some i ∧ P.underlying t = some d ∧ i.size = y.size ∧ i.bytes = y.bytes ∧ TK.ofDesc d = y.kd ∧
    (∃ z, i.zero = some z ∧ z.cells = (y.zero.map Z.val).toArray ∧ (y.kd.agg = true → z = .agg (y.zero.map Z.val).toArray) ∧ (∀ zz, y.kd.agg = false → y.zero = [zz] → z = zz.val)) ∧ y.zero.length = y.size := (hT t y h).ex

theorem run_typeInfo_of {t : TypeId} {i : TypeInfo} (h : P.info? t = some i) : (typeInfo t).run P w = .ok i w := by
  simp [typeInfo, h]
theorem run_sizeOf_of {t : TypeId} {i : TypeInfo} (h : P.info? t = some i) : (Go.sizeOf t).run P w = .ok i.size w := by
  simp [Go.sizeOf, typeInfo, h]
theorem run_isAgg_of {t : TypeId} {d : TypeDesc} (h : P.underlying t = some d) : (isAgg t).run P w = .ok (TK.ofDesc d).agg w := by
  unfold isAgg
  rw [Sem.run_bind, run_underlying h]
  cases d <;> simp [TK.ofDesc, TK.agg]
theorem run_zeroValue_of {t : TypeId} {i : TypeInfo} {z : Value} (h : P.info? t = some i) (hz : i.zero = some z) : (zeroValue t).run P w = .ok z w := by
  simp [zeroValue, typeInfo, h, hz]

theorem isIfaceT_spec (hT : TypesOK P ti) {t : TypeId} (h : isIfaceT (ti t) = true) : ∃ ms, P.underlying t = some (.interface ms) := by
  cases hy : ti t with
  | none => simp [hy, isIfaceT] at h
  | some y =>
    obtain ⟨i, d, h1, h2, h3, h4, h5, h6⟩ := underlying_of hT hy
    obtain ⟨sz, by_, zz, kd⟩ := y
    cases kd <;> simp [hy, isIfaceT] at h
    cases d <;> simp [TK.ofDesc] at h5
    exact ⟨_, h2⟩
theorem isBoolT_spec (hT : TypesOK P ti) {t : TypeId} (h : isBoolT (ti t) = true) : P.underlying t = some .bool := by
  cases hy : ti t with
  | none => simp [hy, isBoolT] at h
  | some y =>
    obtain ⟨i, d, h1, h2, h3, h4, h5, h6⟩ := underlying_of hT hy
    obtain ⟨sz, by_, zz, kd⟩ := y
    cases kd <;> simp [hy, isBoolT] at h
    cases d <;> simp [TK.ofDesc] at h5
    exact h2
theorem isSlcT_spec (hT : TypesOK P ti) {t : TypeId} (h : isSlcT (ti t) = true) : ∃ e, P.underlying t = some (.slice e) := by
  cases hy : ti t with
  | none => simp [hy, isSlcT] at h
  | some y =>
    obtain ⟨i, d, h1, h2, h3, h4, h5, h6⟩ := underlying_of hT hy
    obtain ⟨sz, by_, zz, kd⟩ := y
    cases kd <;> simp [hy, isSlcT] at h
    cases d <;> simp [TK.ofDesc] at h5
    exact ⟨_, h2⟩

theorem isStrT_spec (hT : TypesOK P ti) {t : TypeId} (h : isStrT (ti t) = true) : P.underlying t = some .string := by
  cases hy : ti t with
  | none => simp [hy, isStrT] at h
  | some y =>
    obtain ⟨i, d, h1, h2, h3, h4, h5, h6⟩ := underlying_of hT hy
    obtain ⟨sz, by_, zz, kd⟩ := y
    cases kd <;> simp [hy, isStrT] at h
    cases d <;> simp [TK.ofDesc] at h5
    exact h2

theorem run_equal_nil_nil1 (d : Nat) {t : TypeId} {ms : Array (String × TypeId)} (h : P.underlying t = some (.interface ms)) : (Op.equalIn (d + 1) t .nilIface .nilIface).run P w = .ok true w := by
  simp [Op.equalIn, run_underlying h]
theorem run_equal_held_nil1 (d : Nat) {t u : TypeId} {x : Value} {ms : Array (String × TypeId)} (h : P.underlying t = some (.interface ms)) : (Op.equalIn (d + 1) t (.iface u x) .nilIface).run P w = .ok false w := by
  simp [Op.equalIn, run_underlying h]
theorem run_equal_bool1 (d : Nat) {t : TypeId} {x y : Bool} (h : P.underlying t = some .bool) : (Op.equalIn (d + 1) t (.bool x) (.bool y)).run P w = .ok (x == y) w := by
  simp [Op.equalIn, run_underlying h]
theorem run_equal_nil_nil' {t : TypeId} {ms : Array (String × TypeId)} (h : P.underlying t = some (.interface ms)) : (Op.equal t .nilIface .nilIface).run P w = .ok true w := run_equal_nil_nil1 9999 h
theorem run_equal_held_nil' {t u : TypeId} {x : Value} {ms : Array (String × TypeId)} (h : P.underlying t = some (.interface ms)) : (Op.equal t (.iface u x) .nilIface).run P w = .ok false w := run_equal_held_nil1 9999 h
theorem run_equal_bool' {t : TypeId} {x y : Bool} (h : P.underlying t = some .bool) : (Op.equal t (.bool x) (.bool y)).run P w = .ok (x == y) w := run_equal_bool1 9999 h

theorem s_bin (hT : TypesOK P ti) (hE : EnvOK σ S w s.env a) {op : BinOp} {t t' : TypeId} {x y : Operand} (ho : o.op = .binOp op t x y t') {e : Eff}
    (h : aBin ti op t y (ev s x) (ev s y) = some e) (hn : e.need) : e.upd = .keep ∧ Yields P a o σ S w e.val := by
  have main : ∀ v u r : Value, a.eval x = v → a.eval y = u → (eqGuard op t x y v u).run P w = .ok () w → (binOp op t v u).run P w = .ok r w →
      Yields P a o σ S w (.v r) := fun v u r hv hu hg hb => by
    refine ⟨r, ?_, .v _⟩
    simp [execOp, ho, hv, hu, hg, hb]
  unfold aBin at h
  split at h
  · rename_i k m k' n hx hy
    have ex := ev_v hE hx
    have ey := ev_v hE hy
    have g := eqGuard_ok (P := P) (w := w) op t x y (.int k m) (.int k' n) trivial
    split at h
    · rename_i hs
      cases hq : ishift op k m n with
      | none => simp [hq, toEff] at h
      | some pv =>
        obtain ⟨p, v⟩ := pv
        simp [hq, toEff] at h; subst h
        exact ⟨rfl, main _ _ _ ex ey g (s_ishift hq hn t)⟩
    · rename_i hs
      split at h
      · rename_i hk
        subst hk
        cases hq : ibin op k m n with
        | none => simp [hq, toEff] at h
        | some pv =>
          obtain ⟨p, v⟩ := pv
          simp [hq, toEff] at h; subst h
          exact ⟨rfl, main _ _ _ ex ey g (s_ibin hq hn (by simpa using hs) t)⟩
      · cases h
  · rename_i m n hx hy
    split at h
    · rename_i hb
      have ub := isBoolT_spec hT hb
      have g := eqGuard_ok (P := P) (w := w) op t x y (.bool m) (.bool n) trivial
      have e1 : ∀ x y : Bool, (x == y) = decide (x = y) := fun x y => by cases x <;> cases y <;> rfl
      cases op <;> simp [eqBool] at h <;> subst h <;> refine ⟨rfl, main _ _ _ (ev_v hE hx) (ev_v hE hy) g ?_⟩ <;> simp [binOp, run_equal_bool' ub, e1]
    · cases h
  · rename_i m n hx hy
    split at h
    · rename_i hb
      have ub := isStrT_spec hT hb
      have g := eqGuard_ok (P := P) (w := w) op t x y (.string m) (.string n) trivial
      have e0 : (m.toList == n.toList) = decide (m = n) := by
        rw [Bool.eq_iff_iff]
        simp only [beq_iff_eq, decide_eq_true_eq]
        constructor
        · intro h
          rw [ByteArray.toList_eq, ByteArray.toList_eq] at h
          exact ByteArray.ext (Array.ext' h)
        · intro h; rw [h]
      cases op <;> simp [strBin] at h <;> subst h <;> refine ⟨rfl, main _ _ _ (ev_v hE hx) (ev_v hE hy) g ?_⟩
      · have hn1 : m.size + n.size ≤ 9223372036854775807 := hn
        have hn' : ¬ (9223372036854775807 : Int) < (m.size : Int) + (n.size : Int) := by omega
        simp [binOp, Op.stringOp, hn']
      · simp [binOp, Op.stringOp, e0]
      · simp [binOp, Op.stringOp, e0]
    · cases h
  · rename_i hx hy
    split at h
    · rename_i hb
      simp only [Bool.and_eq_true] at hb
      obtain ⟨ms, ub⟩ := isIfaceT_spec hT hb.2
      have g := eqGuard_ok (P := P) (w := w) op t x y .nilIface .nilIface hb.1
      cases op <;> simp [eqNil] at h <;> subst h <;> refine ⟨rfl, main _ _ _ (ev_v hE hx) (ev_v hE hy) g ?_⟩ <;> simp [binOp, run_equal_nil_nil' ub]
    · cases h
  · rename_i u v hx hy
    split at h
    · rename_i hb
      obtain ⟨ms, ub⟩ := isIfaceT_spec hT hb
      have g := eqGuard_ok (P := P) (w := w) op t x y (.iface u v) .nilIface trivial
      cases op <;> simp [eqNil] at h <;> subst h <;> refine ⟨rfl, main _ _ _ (ev_v hE hx) (ev_v hE hy) g ?_⟩ <;> simp [binOp, run_equal_held_nil' ub]
    · cases h
  · cases h

theorem s_un (hE : EnvOK σ S w s.env a) {op : UnOp} {t : TypeId} {x : Operand} (ho : o.op = .unOp op t x) {e : Eff} (h : aUn op (ev s x) = some e) : e.upd = .keep ∧ Yields P a o σ S w e.val := by
  unfold aUn at h
  split at h
  · rename_i k n hx; injection h with h; subst h; exact ⟨rfl, _, by simp [execOp, ho, ev_v hE hx, Op.unary, Op.intArith], .v _⟩
  · rename_i b hx; injection h with h; subst h; exact ⟨rfl, _, by simp [execOp, ho, ev_v hE hx, Op.unary], .v _⟩
  · cases h

theorem s_pick (hE : EnvOK σ S w s.env a) {c x y : Operand} (ho : o.op = .pick c x y) {e : Eff} (h : aPick (ev s c) (ev s x) (ev s y) = some e) : e.upd = .keep ∧ Yields P a o σ S w e.val := by
  unfold aPick at h
  split at h
  · rename_i t u v hc hx hy
    injection h with h; subst h
    refine ⟨rfl, (if t = true then a.eval x else a.eval y), by simp [execOp, ho, ev_v hE hc, asBool], ?_⟩
    cases t
    · exact ev_rel hE hy
    · exact ev_rel hE hx
  · cases h

theorem rel_one {x : Value} {av : AV} (h : Rel σ S w x av) (h1 : av.one = true) : x.oneCell' = true := by
  cases h <;> first | exact h1 | rfl | simp [AV.one] at h1

theorem one_cells {x : Value} (h : x.oneCell' = true) : x.cells = #[x] := by cases x <;> first | rfl | simp [Value.oneCell'] at h

theorem rel_cells {x : Value} {av : AV} (h : Rel σ S w x av) (h1 : av.cells.all AV.one = true) :
    x.cells.size = av.cells.length ∧ (∀ (i : Nat) (y : Value) (b : AV), x.cells[i]? = some y → av.cells[i]? = some b → Rel σ S w y b) ∧ (∀ y ∈ x.cells.toList, y.oneCell' = true) := by
  have single : av.cells = [av] → x.cells.size = av.cells.length ∧ (∀ (i : Nat) (y : Value) (b : AV), x.cells[i]? = some y → av.cells[i]? = some b → Rel σ S w y b) ∧ (∀ y ∈ x.cells.toList, y.oneCell' = true) := fun hs => by
    rw [hs] at h1 ⊢
    have ho : av.one = true := by simpa using h1
    have hx := rel_one h ho
    rw [one_cells hx]
    refine ⟨rfl, fun i y b hy hb => ?_, fun y hy => by simp at hy; subst hy; exact hx⟩
    cases i with
    | zero => simp at hy hb; subst hy hb; exact h
    | succ i => simp at hb
  cases h with
  | @agg cs l hs hr =>
    refine ⟨hs, fun i y b hy hb => hr i y b hy hb, fun y hy => ?_⟩
    obtain ⟨i, hi⟩ := List.getElem?_of_mem hy
    have hi' : cs[i]? = some y := by simpa [Value.cells] using hi
    have hlt : i < cs.size := (Array.getElem?_eq_some_iff.1 hi').1
    have hl : i < l.length := by rw [← hs]; exact hlt
    have hb : l[i]? = some l[i] := by simp [hl]
    exact rel_one (hr i y _ hi' hb) (List.all_eq_true.1 h1 _ (List.mem_of_getElem? hb))
  | v x => exact single rfl
  | p h => exact single rfl
  | ps h h' h'' h''' => exact single rfl
  | ps0 => exact single rfl
  | top => exact single rfl
  | nil => exact single rfl
  | e => exact single rfl
  | sl c _ _ _ _ _ => exact single rfl
  | rp c _ _ _ => exact single rfl
  | tup _ _ => exact single rfl
  | fn _ _ => exact single rfl
end
end Go.Ax
