/- The abstract executor, part 6: addresses, parts, conversions, builtins; all operations that are no calls together. -/
import Derived.Test.YtekmhhmemkjcbaaAx5
set_option linter.unusedSimpArgs false
set_option linter.unusedVariables false
set_option linter.deprecated false
namespace Go.Ax
open Go Go.RowKit

section
variable {P : Program} {ti : Types} {D : Base} {S0 : Nat → Prop} {w0 : World} {σ : Sig} {S : Nat → Prop} {w : World} {s : AS} {a : Act} {o : Oper} {mem : List (Nat × MB)} {U : Nat → Prop}

theorem rel_p {x : Value} {b sz row j : Nat} (h : Rel σ S w x (.p b sz row j)) : ∃ k, σ b = some k ∧ x = .pointer (some ⟨k, row * sz + j, none⟩) := by
  cases h with | p h => exact ⟨_, h, rfl⟩
theorem rel_ps {x : Value} {b sz row n : Nat} (h : Rel σ S w x (.ps b sz row n)) : (x = .slice none 0 0 ∧ n = 0) ∨ ∃ (k off cap : Nat), σ b = some k ∧ x = .slice (some ⟨k, off, none⟩) n cap ∧ n ≤ cap ∧ (off = row * sz ∨ cap = 0) ∧
    ∃ c e f, w.heap[k]? = some (.cells c e f) ∧ off + cap * sz ≤ c.size := by
  cases h with
  | ps h h1 h2 h3 => exact .inr ⟨_, _, _, h, rfl, h1, h2, h3⟩
  | ps0 => exact .inl ⟨rfl, rfl⟩
theorem rel_rp {x : Value} {l : List AV} (h : Rel σ S w x (.rp l)) : ∃ (k off : Nat) (c : Nat → Value), x = .pointer (some ⟨k, off, none⟩) ∧ S k ∧ (∀ (j : Nat) (av : AV), l[j]? = some av → w.cell? ⟨k, off + j, none⟩ = some (c j)) ∧
    ∀ (j : Nat) (av : AV), l[j]? = some av → Rel σ S w (c j) av := by
  cases h with | rp c h1 h2 h3 => exact ⟨_, _, c, rfl, h1, h2, h3⟩
theorem rel_agg {x : Value} {l : List AV} (h : Rel σ S w x (.agg l)) : ∃ cs : Array Value, x = .agg cs ∧ cs.size = l.length ∧ ∀ (i : Nat) (y : Value) (av : AV), cs[i]? = some y → l[i]? = some av → Rel σ S w y av := by
  cases h with | agg h1 h2 => exact ⟨_, rfl, h1, h2⟩
theorem rel_tup {x : Value} {l : List AV} (h : Rel σ S w x (.tup l)) : ∃ cs : Array Value, x = .tuple cs ∧ cs.size = l.length ∧ ∀ (i : Nat) (y : Value) (av : AV), cs[i]? = some y → l[i]? = some av → Rel σ S w y av := by
  cases h with | tup h1 h2 => exact ⟨_, rfl, h1, h2⟩

theorem shiftPtr_spec {n : Nat} {av b : AV} {x : Value} (hr : Rel σ S w x av) (h : shiftPtr n av = some b) : ∃ k off, x = .pointer (some ⟨k, off, none⟩) ∧ Rel σ S w (.pointer (some ⟨k, off + n, none⟩)) b := by
  unfold shiftPtr at h
  split at h
  · rename_i b0 sz row j
    injection h with h; subst h
    cases hr with
    | p hs => exact ⟨_, _, rfl, by rw [Nat.add_assoc]; exact .p hs⟩
  · rename_i l
    injection h with h; subst h
    cases hr with
    | @rp k off l c hk hcell hr =>
      refine ⟨k, off, rfl, .rp (fun j => c (n + j)) hk (fun j av hj => ?_) (fun j av hj => ?_)⟩
      · rw [Nat.add_assoc]; exact hcell (n + j) av (by simpa using hj)
      · exact hr (n + j) av (by simpa using hj)
  · cases h

theorem s_nilCheck (hE : EnvOK σ S w s.env a) {x : Operand} (ho : o.op = .nilCheck x) {e : Eff} (h : aNilCheck (ev s x) = some e) : e.upd = .keep ∧ Yields P a o σ S w e.val := by
  unfold aNilCheck at h
  split at h
  · rename_i b sz row j hx
    injection h with h; subst h
    have hr := ev_rel hE hx
    obtain ⟨k, h1, h2⟩ := rel_p hr
    exact ⟨rfl, a.eval x, by simp [execOp, ho, h2], hr⟩
  · rename_i l hx
    injection h with h; subst h
    have hr := ev_rel hE hx
    obtain ⟨k, off, c, h2, _⟩ := rel_rp hr
    exact ⟨rfl, a.eval x, by simp [execOp, ho, h2], hr⟩
  · cases h

theorem st_fields {d : TypeDesc} {fs : List (Nat × Nat)} (h : TK.ofDesc d = .st fs) : ∃ fields, d = .struct fields ∧ ∀ (f off ft : Nat), fs[f]? = some (off, ft) → ∃ g : Field, fields[f]? = some g ∧ g.offset = off ∧ g.type = ft := by
  cases d <;> simp [TK.ofDesc] at h
  rename_i fields
  refine ⟨fields, rfl, fun f off ft hf => ?_⟩
  subst h
  simp at hf
  obtain ⟨g, hg, h1, h2⟩ := hf
  exact ⟨g, hg, h1, h2⟩

theorem s_fieldAddr (hT : TypesOK P ti) (hE : EnvOK σ S w s.env a) {t : TypeId} {x : Operand} {f : Nat} (ho : o.op = .fieldAddr t x f) {e : Eff} (h : aFieldAddr ti (ti t) (ev s x) f = some e) :
    e.upd = .keep ∧ Yields P a o σ S w e.val := by
  unfold aFieldAddr at h
  split at h
  · rename_i _ _ z1 z2 z3 fs av hy hx
    split at h
    · rename_i off ft hf
      split at h
      · rename_i z hz
        split at h
        · cases h
        · rename_i hne
          split at h
          · rename_i p hp
            injection h with h; subst h
            obtain ⟨i, d, h1, h2, h3, h4, h5, h6⟩ := underlying_of hT hy
            obtain ⟨fields, rfl, hfs⟩ := st_fields h5
            obtain ⟨g, hg, hgo, hgt⟩ := hfs f off ft hf
            obtain ⟨i', d', k1, k2, k3, _⟩ := underlying_of hT hz
            obtain ⟨k, o', hxe, hr⟩ := shiftPtr_spec (ev_rel hE hx) hp
            refine ⟨rfl, _, ?_, hr⟩
            subst hgo hgt
            have hne' : ¬ i'.size = 0 := by rw [k3]; exact hne
            simp [execOp, ho, hxe, Instr.fieldAt, Instr.sureAddr, run_underlying h2, hg, fieldPlace, run_sizeOf_of k1, hne', add_addr]
          · cases h
      · cases h
    · cases h
  · cases h

theorem part_spec (hT : TypesOK P ti) {ft : TypeId} {z : TyI} (hz : ti ft = some z) {cs : Array Value} {l : List AV} {off : Nat} {v : AV} (hs : cs.size = l.length)
    (hr : ∀ (i : Nat) (y : Value) (av : AV), cs[i]? = some y → l[i]? = some av → Rel σ S w y av) (h : partOf z l off = some v) :
    ∃ x, (part ft cs off).run P w = .ok x w ∧ Rel σ S w x v := by
  obtain ⟨i, d, h1, h2, h3, h4, h5, h6⟩ := underlying_of hT hz
  unfold partOf at h
  split at h
  · rename_i hagg
    split at h
    · rename_i hle
      injection h with h; subst h
      refine ⟨.agg (cs.extract off (off + z.size)), by simp [part, run_isAgg_of h2, h5, hagg, run_sizeOf_of h1, h3], .agg (by simp; omega) (fun i' y av hy hav => ?_)⟩
      rw [Array.getElem?_extract] at hy
      rw [List.getElem?_take] at hav
      split at hy
      · split at hav
        · exact hr (off + i') y av hy (by simpa using hav)
        · cases hav
      · cases hy
    · cases h
  · rename_i hagg
    have hlt : off < cs.size := by rw [hs]; exact (List.getElem?_eq_some_iff.1 h).1
    have hagg' : z.kd.agg = false := by simpa using hagg
    exact ⟨cs[off], by simp [part, run_isAgg_of h2, h5, hagg', hlt], hr off _ v (by simp [hlt]) h⟩

theorem s_field (hT : TypesOK P ti) (hE : EnvOK σ S w s.env a) {t : TypeId} {x : Operand} {f : Nat} (ho : o.op = .field t x f) {e : Eff} (h : aField ti (ti t) (ev s x) f = some e) :
    e.upd = .keep ∧ Yields P a o σ S w e.val := by
  unfold aField at h
  split at h
  · rename_i _ _ z1 z2 z3 fs l hy hx
    split at h
    · rename_i off ft hf
      split at h
      · rename_i z hz
        split at h
        · rename_i v hp
          injection h with h; subst h
          obtain ⟨i, d, h1, h2, h3, h4, h5, h6⟩ := underlying_of hT hy
          obtain ⟨fields, rfl, hfs⟩ := st_fields h5
          obtain ⟨g, hg, hgo, hgt⟩ := hfs f off ft hf
          obtain ⟨cs, hxe, hs, hr⟩ := rel_agg (ev_rel hE hx)
          obtain ⟨y, hy1, hy2⟩ := part_spec hT hz hs hr hp
          refine ⟨rfl, y, ?_, hy2⟩
          subst hgo hgt
          simp [execOp, ho, hxe, Instr.field, run_underlying h2, hg, asAgg, hy1]
        · cases h
      · cases h
    · cases h
  · cases h

theorem slc_desc {d : TypeDesc} {e : Nat} (h : TK.ofDesc d = .slc e) : d = .slice e := by cases d <;> simp [TK.ofDesc] at h; subst h; rfl
theorem arr_desc {d : TypeDesc} {n e : Nat} (h : TK.ofDesc d = .arr n e) : d = .array n e := by cases d <;> simp [TK.ofDesc] at h; obtain ⟨rfl, rfl⟩ := h; rfl

theorem mul_toNat_lt {k : Int} {n : Nat} (h0 : 0 ≤ k) (h1 : k < n) : k.toNat < n := by omega

theorem s_indexAddr (hT : TypesOK P ti) (hE : EnvOK σ S w s.env a) {t : TypeId} {x i : Operand} (ho : o.op = .indexAddr t x i) {e : Eff} (h : aIndexAddr ti (ti t) (ev s x) (ev s i) = some e) (hn : e.need) :
    e.upd = .keep ∧ Yields P a o σ S w e.val := by
  unfold aIndexAddr at h
  split at h
  · rename_i _ _ _ z1 z2 z3 et b sz row n ik k hy hx hi
    split at h
    · rename_i z hz
      split at h
      · rename_i hsz
        injection h with h; subst h
        obtain ⟨h0, hlt⟩ := hn
        obtain ⟨ii, d, h1, h2, h3, h4, h5, h6⟩ := underlying_of hT hy
        have hd := slc_desc h5
        subst hd
        obtain ⟨i', d', k1, k2, k3, _⟩ := underlying_of hT hz
        obtain ⟨kk, off, cap, g1, g2, g3, g4, g5⟩ := (rel_ps (ev_rel hE hx)).resolve_left (fun q => by omega)
        have hoff : off = row * sz := by
          rcases g4 with g4 | g4
          · exact g4
          · omega
        refine ⟨rfl, .pointer (some ⟨kk, (row + k.toNat) * sz + 0, none⟩), ?_, .p g1⟩
        have hcond : 0 ≤ k ∧ k < (n : Int) := ⟨h0, hlt⟩
        simp [execOp, ho, g2, ev_v hE hi, Instr.indexAt, asIntOf, run_underlying h2, hcond, run_sizeOf_of k1, k3, hsz, add_addr, hoff, Nat.add_mul]
      · cases h
    · cases h
  · rename_i _ _ _ z1 z2 z3 et sz rows ik k hy hx hi
    split at h
    · rename_i z hz
      split at h
      · rename_i hsz
        injection h with h; subst h
        obtain ⟨h0, hlt⟩ := hn
        obtain ⟨ii, d, h1, h2, h3, h4, h5, h6⟩ := underlying_of hT hy
        have hd := slc_desc h5
        subst hd
        obtain ⟨i', d', k1, k2, k3, _⟩ := underlying_of hT hz
        have hrel := ev_rel hE hx
        have hlt' : k.toNat < rows.length := mul_toNat_lt h0 hlt
        generalize hpx : a.eval x = px at hrel
        cases hrel with
        | nil => simp at hlt'
        | e => simp at hlt'
        | @sl kk off cap _ _ c hk hc hl hcell hr =>
          have hrow := getD_of_lt (d := ([] : List AV)) hlt'
          refine ⟨rfl, .pointer (some ⟨kk, off + k.toNat * sz, none⟩), ?_, .rp (fun j => c k.toNat j) hk (fun j av hj => hcell k.toNat _ j av hrow hj) (fun j av hj => hr k.toNat _ j av hrow hj)⟩
          have hcond : 0 ≤ k ∧ k < (rows.length : Int) := ⟨h0, hlt⟩
          simp [execOp, ho, hpx, ev_v hE hi, Instr.indexAt, asIntOf, run_underlying h2, hcond, run_sizeOf_of k1, k3, hsz, add_addr]
      · cases h
    · cases h
  · rename_i _ _ _ z1 z2 z3 n et av ik k hy hx hi
    split at h
    · rename_i z hz
      split at h
      · rename_i p hp
        injection h with h; subst h
        obtain ⟨h0, hlt⟩ := hn
        obtain ⟨ii, d, h1, h2, h3, h4, h5, h6⟩ := underlying_of hT hy
        have hd := arr_desc h5
        subst hd
        obtain ⟨i', d', k1, k2, k3, _⟩ := underlying_of hT hz
        obtain ⟨kk, off, hxe, hr⟩ := shiftPtr_spec (ev_rel hE hx) hp
        refine ⟨rfl, _, ?_, hr⟩
        have hcond : 0 ≤ k ∧ k < (n : Int) := ⟨h0, hlt⟩
        simp [execOp, ho, hxe, ev_v hE hi, Instr.indexAt, Instr.sureAddr, asIntOf, run_underlying h2, hcond, run_sizeOf_of k1, k3, add_addr]
      · cases h
    · cases h
  · cases h

theorem bytes_get (s : ByteArray) (k : Nat) (h : k < s.size) : s[k]? = some (s.data.toList.getD k 0) := by
  have h' : k < s.data.size := h
  simp [h]
  rfl

theorem s_index (hT : TypesOK P ti) (hE : EnvOK σ S w s.env a) {t : TypeId} {x i : Operand} (ho : o.op = .index t x i) {e : Eff} (h : aIndex ti (ti t) (ev s x) (ev s i) = some e) (hn : e.need) :
    e.upd = .keep ∧ Yields P a o σ S w e.val := by
  unfold aIndex at h
  split at h
  · rename_i _ _ _ z1 z2 z3 n et l ik k hy hx hi
    split at h
    · rename_i z hz
      obtain ⟨ii, d, h1, h2, h3, h4, h5, h6⟩ := underlying_of hT hy
      have hd := arr_desc h5
      subst hd
      obtain ⟨i', d', k1, k2, k3, _⟩ := underlying_of hT hz
      obtain ⟨cs, hxe, hs, hr⟩ := rel_agg (ev_rel hE hx)
      split at h
      · rename_i hagg
        injection h with h; subst h
        obtain ⟨hcond, hle⟩ := hn
        obtain ⟨y, hy1, hy2⟩ := part_spec (off := k.toNat * z.size) (v := .agg ((l.drop (k.toNat * z.size)).take z.size)) hT hz hs hr (by simp [partOf, hagg, hle])
        exact ⟨rfl, y, by simp [execOp, ho, hxe, ev_v hE hi, Instr.index, asIntOf, run_underlying h2, hcond, run_sizeOf_of k1, k3, hy1], hy2⟩
      · rename_i hagg
        injection h with h; subst h
        obtain ⟨hcond, hlt⟩ := hn
        obtain ⟨y, hy1, hy2⟩ := part_spec (off := k.toNat * z.size) (v := l.getD (k.toNat * z.size) (.v undef)) hT hz hs hr (by
          have : z.kd.agg = false := by simpa using hagg
          simp only [partOf, this, Bool.false_eq_true, if_false]; exact getD_of_lt hlt)
        exact ⟨rfl, y, by simp [execOp, ho, hxe, ev_v hE hi, Instr.index, asIntOf, run_underlying h2, hcond, run_sizeOf_of k1, k3, hy1], hy2⟩
    · cases h
  · rename_i _ _ _ z1 z2 z3 b ik k hy hx hi
    injection h with h; subst h
    obtain ⟨h0, hlt⟩ := hn
    obtain ⟨ii, d, h1, h2, h3, h4, h5, h6⟩ := underlying_of hT hy
    have hd : d = .string := by cases d <;> simp [TK.ofDesc] at h5; rfl
    subst hd
    have hg := bytes_get b k.toNat (by omega)
    exact ⟨rfl, _, by simp [execOp, ho, ev_v hE hx, ev_v hE hi, Instr.index, asIntOf, run_underlying h2, h0, hg], .v _⟩
  · cases h

theorem s_convert (hT : TypesOK P ti) (hE : EnvOK σ S w s.env a) {t u : TypeId} {x : Operand} (ho : o.op = .convert t u x) {e : Eff} (h : aConvert (ti t) (ti u) (ev s x) = some e) :
    e.upd = .keep ∧ Yields P a o σ S w e.val := by
  unfold aConvert at h
  split at h
  · rename_i _ _ _ z1 z2 z3 k1 y1 y2 y3 k k' n hy hz hx
    injection h with h; subst h
    obtain ⟨ii, d, h1, h2, h3, h4, h5, h6⟩ := underlying_of hT hy
    obtain ⟨ii', d', g1, g2, g3, g4, g5, g6⟩ := underlying_of hT hz
    have hd : d = .int k1 := by cases d <;> simp [TK.ofDesc] at h5; subst h5; rfl
    have hd' : d' = .int k := by cases d' <;> simp [TK.ofDesc] at g5; subst g5; rfl
    subst hd hd'
    exact ⟨rfl, _, by simp [execOp, ho, ev_v hE hx, convert, run_underlying h2, run_underlying g2, Conv.intToInt], .v _⟩
  · cases h

theorem s_makeInterface (hT : TypesOK P ti) (hE : EnvOK σ S w s.env a) {t : TypeId} {x : Operand} (ho : o.op = .makeInterface t x) {e : Eff} (h : aMakeInterface t (ti t) (ev s x) = some e) :
    e.upd = .keep ∧ Yields P a o σ S w e.val := by
  unfold aMakeInterface at h
  split at h
  · rename_i y v hy hx
    split at h
    · cases h
    · rename_i hni
      injection h with h; subst h
      obtain ⟨ii, d, h1, h2, h3, h4, h5, h6⟩ := underlying_of hT hy
      refine ⟨rfl, .iface t (a.eval x), ?_, by rw [ev_v hE hx]; exact .v _⟩
      have hd : ∀ ms, d ≠ .interface ms := fun ms hd => by
        subst hd
        obtain ⟨q1, q2, q3, kd⟩ := y
        simp [TK.ofDesc] at h5
        subst h5
        simp [isIfaceT] at hni
      simp only [execOp, ho, Instr.makeInterface, Sem.run_bind, run_underlying h2, Result.andThen_ok]
      cases d <;> first | exact (hd _ rfl).elim | simp
  · cases h

theorem s_assert (hT : TypesOK P ti) (hE : EnvOK σ S w s.env a) {t u : TypeId} {x : Operand} (ho : o.op = .typeAssert x u t true) {e : Eff} (h : aAssert t (ti t) (ev s x) = some e) :
    e.upd = .keep ∧ Yields P a o σ S w e.val := by
  have desc : ∀ (y : TyI) (d : TypeDesc), (isIfaceT (some y) || y.kd.agg) ≠ true → TK.ofDesc d = y.kd → (∀ ms, d ≠ .interface ms) := fun y d hc h5 ms hd => by
    subst hd
    obtain ⟨q1, q2, q3, kd⟩ := y
    simp [TK.ofDesc] at h5
    subst h5
    simp [isIfaceT] at hc
  have tupR : ∀ (v : Value) (b : Bool), Rel σ S w (.tuple #[v, .bool b]) (.tup [.v v, .v (.bool b)]) := fun v b => .tup rfl (fun i y av hy hav => by
    match i with
    | 0 => simp at hy hav; subst hy hav; exact .v _
    | 1 => simp at hy hav; subst hy hav; exact .v _
    | n + 2 => simp at hav)
  unfold aAssert at h
  split at h
  · rename_i y hy hx
    split at h
    · cases h
    · rename_i hni
      split at h
      · rename_i zz hz1
        injection h with h; subst h
        obtain ⟨ii, d, h1, h2, h3, h4, h5, ⟨z, hz2, hz3, hz4, hz5⟩, h7⟩ := underlying_of hT hy
        have hd := desc y d hni h5
        have hag : y.kd.agg = false := by
          cases hq : y.kd.agg with
          | false => rfl
          | true => simp [hq] at hni
        have hz := hz5 zz hag hz1
        subst hz
        refine ⟨rfl, .tuple #[zz.val, .bool false], ?_, tupR _ _⟩
        simp only [execOp, ho, ev_v hE hx, Instr.typeAssert, Sem.run_bind, run_underlying h2, Result.andThen_ok]
        cases d <;> first | exact (hd _ rfl).elim | simp [run_zeroValue_of h1 hz2]
      · cases h
  · rename_i y t' v hy hx
    split at h
    · cases h
    · rename_i hni
      split at h
      · rename_i zz hz1
        obtain ⟨ii, d, h1, h2, h3, h4, h5, ⟨z, hz2, hz3, hz4, hz5⟩, h7⟩ := underlying_of hT hy
        have hd := desc y d hni h5
        have hag : y.kd.agg = false := by
          cases hq : y.kd.agg with
          | false => rfl
          | true => simp [hq] at hni
        have hz := hz5 zz hag hz1
        subst hz
        have run : ∀ r, (if t' = t then (pure (.tuple #[v, .bool true]) : Sem Value) else do pure (.tuple #[← zeroValue t, .bool false])).run P w = .ok r w → (execOp a.eval o).run P w = .ok (.value r) w := fun r hr => by
          simp only [execOp, ho, ev_v hE hx, Instr.typeAssert, Sem.run_bind, run_underlying h2, Result.andThen_ok]
          by_cases ht : t' = t
          · simp only [ht, if_true, Sem.run_pure, Result.ok.injEq, and_true] at hr
            subst hr
            cases d <;> first | exact (hd _ rfl).elim | simp [ht]
          · simp [ht, run_zeroValue_of h1 hz2] at hr
            subst hr
            cases d <;> first | exact (hd _ rfl).elim | simp [ht, run_zeroValue_of h1 hz2]
        split at h
        · rename_i ht
          injection h with h; subst h
          exact ⟨rfl, _, run _ (by simp [ht]), tupR _ _⟩
        · rename_i ht
          injection h with h; subst h
          exact ⟨rfl, _, run _ (by simp [ht, run_zeroValue_of h1 hz2]), tupR _ _⟩
      · cases h
  · cases h

theorem s_extract (hE : EnvOK σ S w s.env a) {x : Operand} {i : Nat} (ho : o.op = .extract x i) {e : Eff} (h : aExtract (ev s x) i = some e) : e.upd = .keep ∧ Yields P a o σ S w e.val := by
  unfold aExtract at h
  split at h
  · rename_i l hx
    split at h
    · rename_i v hv
      injection h with h; subst h
      obtain ⟨cs, hxe, hs, hr⟩ := rel_tup (ev_rel hE hx)
      have hlt : i < cs.size := by rw [hs]; exact (List.getElem?_eq_some_iff.1 hv).1
      exact ⟨rfl, cs[i], by simp [execOp, ho, hxe, Instr.extract, hlt], hr i _ v (by simp [hlt]) hv⟩
    · cases h
  · cases h

theorem evL_spec (hE : EnvOK σ S w s.env a) : ∀ (xs : List Operand) (l : List AV), evL s xs = some l → xs.length = l.length ∧ ∀ (i : Nat) (y : Value) (av : AV), (xs.map a.eval)[i]? = some y → l[i]? = some av → Rel σ S w y av
  | [], l, h => by simp [evL] at h; subst h; exact ⟨rfl, fun i y av hy => by simp at hy⟩
  | x :: xs, l, h => by
    simp only [evL] at h
    split at h
    · rename_i v l' hv hl
      injection h with h; subst h
      obtain ⟨h1, h2⟩ := evL_spec hE xs l' hl
      refine ⟨by simp [h1], fun i y av hy hav => ?_⟩
      cases i with
      | zero => simp at hy hav; subst hy hav; exact ev_rel hE hv
      | succ i => simp at hav; exact h2 i y av (by simpa using hy) hav
    · cases h

theorem s_makeFunc (hE : EnvOK σ S w s.env a) {fn : Fn} {first captured : Array Operand} (ho : o.op = .makeFunc fn first captured) {e : Eff} (h : aMakeFunc s fn first.toList captured.toList = some e) :
    e.upd = .keep ∧ Yields P a o σ S w e.val := by
  unfold aMakeFunc at h
  split at h
  · rename_i f l hf hl
    split at h
    · cases h
    injection h with h; subst h
    obtain ⟨h1, h2⟩ := evL_spec hE _ _ hl
    have hf' : first = #[] := by simpa using hf
    subst hf'
    refine ⟨rfl, .func (.func f) #[] (captured.map a.eval), by simp [execOp, ho, Instr.makeFunc], .fn (by simpa using h1) (fun i y av hy hav => h2 i y av (by simpa using hy) hav)⟩
  · cases h
end
end Go.Ax
