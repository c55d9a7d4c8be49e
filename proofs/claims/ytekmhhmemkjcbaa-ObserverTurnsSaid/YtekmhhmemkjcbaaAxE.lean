/- The abstract executor, part 14: results; from a body to a contract. -/
import Derived.Test.YtekmhhmemkjcbaaAxD
set_option linter.unusedSimpArgs false
set_option linter.unusedVariables false
set_option linter.deprecated false
namespace Go.Ax
open Go Go.RowKit

/-! ### private slices are handed over -/
inductive PubL (R : AV → AV → Prop) : List AV → List AV → Prop
  | nil : PubL R [] []
  | cons {a b : AV} {l m : List AV} (h : R a b) (t : PubL R l m) : PubL R (a :: l) (b :: m)

inductive Pub1 (mem : List (Nat × MB)) : AV → AV → Prop
  | same {a : AV} : Pub1 mem a a
  | ps {b sz row n : Nat} {m : MB} (hm : look mem b = some m) (hsz : m.sz = sz) (hn : row + n ≤ m.rows.length) : Pub1 mem (.ps b sz row n) (.sl sz ((m.rows.drop row).take n))
  | p {b sz row j : Nat} {m : MB} (hm : look mem b = some m) (hsz : m.sz = sz) (hn : row < m.rows.length) : Pub1 mem (.p b sz row j) (.rp ((m.rows.getD row []).drop j))

inductive Pub2 (mem : List (Nat × MB)) : AV → AV → Prop
  | one {a b : AV} (h : Pub1 mem a b) : Pub2 mem a b
  | agg {l m : List AV} (h : PubL (Pub1 mem) l m) : Pub2 mem (.agg l) (.agg m)

inductive Pub (mem : List (Nat × MB)) : AV → AV → Prop
  | one {a b : AV} (h : Pub2 mem a b) : Pub mem a b
  | tup {l m : List AV} (h : PubL (Pub2 mem) l m) : Pub mem (.tup l) (.tup m)

theorem Pub.same {mem : List (Nat × MB)} {a : AV} : Pub mem a a := .one (.one .same)
theorem PubL.refl {R : AV → AV → Prop} (h : ∀ a, R a a) : ∀ l, PubL R l l
  | [] => .nil
  | a :: l => .cons (h a) (PubL.refl h l)

theorem PubL.spec {R : AV → AV → Prop} {l m : List AV} (h : PubL R l m) : l.length = m.length ∧ ∀ (i : Nat) (b : AV), m[i]? = some b → ∃ a, l[i]? = some a ∧ R a b := by
  induction h with
  | nil => exact ⟨rfl, fun i b hb => by simp at hb⟩
  | cons h t ih =>
    refine ⟨by simp [ih.1], fun i b hb => ?_⟩
    cases i with
    | zero => simp at hb; subst hb; exact ⟨_, rfl, h⟩
    | succ i => simp at hb; simpa using ih.2 i b hb

section
variable {P : Program} {ti : Types} {D : Base} {S0 : Nat → Prop} {w0 : World} {σ : Sig} {S : Nat → Prop} {w : World} {s : AS} {a : Act} {mem : List (Nat × MB)} {U : Nat → Prop}

/-- With the private blocks, too. -/
def With (σ : Sig) (mem : List (Nat × MB)) (S : Nat → Prop) (k : Nat) : Prop := S k ∨ ∃ b m, look mem b = some m ∧ σ b = some k

theorem keeps_refl : Keeps σ S w w := ⟨fun _ _ => rfl, fun b k c e f hs hc => ⟨c, e, f, hc, Nat.le_refl _⟩⟩

theorem Rel.more {x : Value} {av : AV} (h : Rel σ S w x av) : Rel σ (With σ mem S) w x av := h.mono (fun _ _ h => h) (fun _ h => .inl h) keeps_refl

theorem pub1_rel (hF : Fit D S0 w0 σ S mem U w) {x : Value} {av b : AV} (hr : Rel σ S w x av) (h : Pub1 mem av b) : Rel σ (With σ mem S) w x b := by
  cases h with
  | same => exact hr.more
  | @ps b sz row n m hm hsz hn =>
    rcases rel_ps hr with ⟨rfl, rfl⟩ | ⟨k', off, cap, f1, rfl, f2, f3, f4⟩
    · rw [List.take_zero]; exact .nil
    obtain ⟨k, c, e, g1, g2, g3, g4, g5, g6, g7⟩ := (hF.mem b m hm).named f1
    have : k' = k := Option.some.inj (f1.symm.trans g1)
    subst this
    have hlen : ((m.rows.drop row).take n).length = n := by simp; omega
    have hk : With σ mem S k' := .inr ⟨b, m, hm, f1⟩
    have hcell : ∀ (i : Nat) (r : List AV) (j : Nat) (av : AV), ((m.rows.drop row).take n)[i]? = some r → r[j]? = some av → ∃ y, c[(row + i) * m.sz + j]? = some y ∧ Rel σ S w y av := fun i r j av hi hj => by
      rw [List.getElem?_take] at hi
      split at hi
      · rw [List.getElem?_drop] at hi
        exact g7 (row + i) r j av hi hj
      · cases hi
    have key := Rel.sl (σ := σ) (S := With σ mem S) (w := w) (k := k') (off := off) (cap := cap) (sz := sz) (rows := (m.rows.drop row).take n) (fun i j => (c[(row + i) * m.sz + j]?).getD undef) hk (by rw [hlen]; exact f2)
      (fun r hr => by rw [← hsz]; exact g5 r (List.mem_of_mem_drop (List.mem_of_mem_take hr)))
      (fun i r j av hi hj => by
        obtain ⟨y, hy, _⟩ := hcell i r j av hi hj
        have hin : i < n := by
          have := (List.getElem?_eq_some_iff.1 hi).1
          omega
        have hoff : off = row * sz := by
          rcases f3 with f3 | f3
          · exact f3
          · omega
        rw [cell_of_cells g4]
        have e1 : off + i * sz + j = (row + i) * m.sz + j := by rw [hoff, ← hsz, Nat.add_mul]
        rw [e1, hy]; rfl)
      (fun i r j av hi hj => by
        obtain ⟨y, hy, hy2⟩ := hcell i r j av hi hj
        simp only [hy, Option.getD_some]
        exact hy2.more)
    rw [hlen] at key
    exact key
  | @p b sz row j m hm hsz hn =>
    obtain ⟨k, c, e, g1, g2, g3, g4, g5, g6, g7⟩ := (hF.mem b m hm).row hn
    obtain ⟨k', f1, rfl⟩ := rel_p hr
    have : k' = k := Option.some.inj (f1.symm.trans g1)
    subst this
    have hk : With σ mem S k' := .inr ⟨b, m, hm, f1⟩
    refine .rp (fun i => (c[row * m.sz + (j + i)]?).getD undef) hk (fun i av hi => ?_) (fun i av hi => ?_)
    · rw [List.getElem?_drop] at hi
      obtain ⟨y, hy, _⟩ := g7 row _ (j + i) av (getD_of_lt hn) hi
      rw [cell_of_cells g4, Nat.add_assoc, ← hsz, hy]; rfl
    · rw [List.getElem?_drop] at hi
      obtain ⟨y, hy, hy2⟩ := g7 row _ (j + i) av (getD_of_lt hn) hi
      simp only [hy, Option.getD_some]
      exact hy2.more

theorem pub2_rel (hF : Fit D S0 w0 σ S mem U w) {x : Value} {av b : AV} (hr : Rel σ S w x av) (h : Pub2 mem av b) : Rel σ (With σ mem S) w x b := by
  cases h with
  | one h => exact pub1_rel hF hr h
  | agg h =>
    obtain ⟨cs, rfl, hs, hc⟩ := rel_agg hr
    obtain ⟨hl, hp⟩ := h.spec
    exact .agg (by rw [hs, hl]) (fun i y b hy hb => by
      obtain ⟨a, ha, hab⟩ := hp i b hb
      exact pub1_rel hF (hc i y a hy ha) hab)

theorem pub_rel (hF : Fit D S0 w0 σ S mem U w) {x : Value} {av b : AV} (hr : Rel σ S w x av) (h : Pub mem av b) : Rel σ (With σ mem S) w x b := by
  cases h with
  | one h => exact pub2_rel hF hr h
  | tup h =>
    obtain ⟨cs, rfl, hs, hc⟩ := rel_tup hr
    obtain ⟨hl, hp⟩ := h.spec
    exact .tup (by rw [hs, hl]) (fun i y b hy hb => by
      obtain ⟨a, ha, hab⟩ := hp i b hb
      exact pub2_rel hF (hc i y a hy ha) hab)

/-! ### results -/
def resOne (ti : Types) (s : AS) : ResultVar → Option (Prop × AV)
  | .tmp t => match look s.env t with
    | some av => some (True, av)
    | none => none
  | .cell t ty => match aLoad s.mem (ti ty) (look s.env t) with
    | some e => some (e.need, e.val)
    | none => none

def resL (ti : Types) (s : AS) : List ResultVar → Option (Prop × List AV)
  | [] => some (True, [])
  | r :: rs => match resOne ti s r, resL ti s rs with
    | some (p, a), some (q, l) => some (p ∧ q, a :: l)
    | _, _ => none

def one : List AV → AV
  | [a] => a
  | l => .tup l

/-- The results, as they stand in the state, say what is claimed. -/
def Fin (mem : List (Nat × MB)) (r : Option (Prop × List AV)) (res : AV) : Prop := ∃ p l b, r = some (p, l) ∧ p ∧ Pub mem (one l) b ∧ Le b res

theorem resOne_spec (hT : TypesOK P ti) (hF : Fit D S0 w0 σ S s.mem U w) (hE : EnvOK σ S w s.env a) {r : ResultVar} {p : Prop} {av : AV} (h : resOne ti s r = some (p, av)) (hp : p) :
    ∃ x, (match r with | .tmp t => pure (a.tmps.getD t undef) | .cell t ty => do loadVar ty (← asAddr (a.tmps.getD t undef)) : Sem Value).run P w = .ok x w ∧ Rel σ S w x av := by
  cases r with
  | tmp t =>
    simp only [resOne] at h
    split at h
    · rename_i b hb
      simp only [Option.some.injEq, Prod.mk.injEq] at h
      obtain ⟨_, rfl⟩ := h
      obtain ⟨x, hx, hr⟩ := hE t b hb
      exact ⟨x, by simp [hx], hr⟩
    · cases h
  | cell t ty =>
    simp only [resOne] at h
    split at h
    · rename_i e he
      simp only [Option.some.injEq, Prod.mk.injEq] at h
      obtain ⟨rfl, rfl⟩ := h
      have hl : aLoad s.mem (ti ty) (ev s (.tmp t)) = some e := he
      obtain ⟨_, x, hrun, hr⟩ := s_load (P := P) (o := { dst := none, op := .load ty (.tmp t), type := 0, pos := "", after := #[], guard := none }) hT hF hE rfl hl hp
      refine ⟨x, ?_, hr⟩
      have hptr : ∃ ad, a.tmps.getD t undef = .pointer (some ad) := by
        unfold aLoad at he
        split at he
        · rename_i y b _ hb
          split at he
          · rename_i q cs hq
            obtain ⟨x', hx', hr'⟩ := hE t b hb
            have : a.tmps.getD t undef = x' := by simp [hx']
            rw [this]
            unfold behind at hq
            split at hq
            · obtain ⟨k, _, h2⟩ := rel_p hr'; exact ⟨_, h2⟩
            · obtain ⟨k, o', c, h2, _⟩ := rel_rp hr'; exact ⟨_, h2⟩
            · cases hq
          · cases he
        · cases he
      obtain ⟨ad, had⟩ := hptr
      simp only [execOp, Instr.loadAt, Instr.sureAddr, Act.eval, had, Sem.run_bind, Sem.run_pure, Result.andThen_ok] at hrun
      simp only [had, asAddr, Sem.run_bind, Sem.run_pure, Result.andThen_ok]
      cases hq : (loadVar ty ad).run P w with
      | ok y w' => rw [hq] at hrun; simp [Result.andThen] at hrun; obtain ⟨rfl, rfl⟩ := hrun; rfl
      | halt y w' => rw [hq] at hrun; simp [Result.andThen] at hrun
    · cases h

theorem resL_spec (hT : TypesOK P ti) (hF : Fit D S0 w0 σ S s.mem U w) (hE : EnvOK σ S w s.env a) : ∀ (rs : List ResultVar) (p : Prop) (l : List AV), resL ti s rs = some (p, l) → p →
    ∃ xs : List Value, (rs.mapM fun (r : ResultVar) => (match r with | .tmp t => pure (a.tmps.getD t undef) | .cell t ty => do loadVar ty (← asAddr (a.tmps.getD t undef)) : Sem Value)).run P w = .ok xs w ∧ xs.length = l.length ∧
      ∀ (i : Nat) (x : Value) (av : AV), xs[i]? = some x → l[i]? = some av → Rel σ S w x av
  | [], p, l, h, hp => by
    simp only [resL, Option.some.injEq, Prod.mk.injEq] at h
    obtain ⟨_, rfl⟩ := h
    exact ⟨[], by simp, rfl, fun i x av hx => by simp at hx⟩
  | r :: rs, p, l, h, hp => by
    simp only [resL] at h
    split at h
    · rename_i p1 b q1 l1 h1 h2
      simp only [Option.some.injEq, Prod.mk.injEq] at h
      obtain ⟨h3, rfl⟩ := h
      rw [← h3] at hp
      obtain ⟨x, hx, hr⟩ := resOne_spec hT hF hE h1 hp.1
      obtain ⟨xs, hxs, hlen, hrs⟩ := resL_spec hT hF hE rs q1 l1 h2 hp.2
      refine ⟨x :: xs, ?_, by simp [hlen], fun i y av hy hav => ?_⟩
      · simp only [List.mapM_cons, Sem.run_bind, Sem.run_pure]
        rw [hx]
        simp only [Result.andThen_ok]
        rw [hxs]
        simp
      · cases i with
        | zero => simp at hy hav; subst hy hav; exact hr
        | succ i => simp at hy hav; exact hrs i y av hy hav
    · cases h

/-! ### a function's body -/
def entryEnv : Nat → List AV → List (Nat × AV)
  | _, [] => []
  | i, a :: l => (i, a) :: entryEnv (i + 1) l

theorem look_entry : ∀ (l : List AV) (i t : Nat) (av : AV), look (entryEnv i l) t = some av → i ≤ t ∧ l[t - i]? = some av
  | [], i, t, av, h => by simp [entryEnv, look] at h
  | b :: l, i, t, av, h => by
    simp only [entryEnv, look] at h
    split at h
    · rename_i he
      injection h with h; subst he h
      exact ⟨Nat.le_refl _, by simp⟩
    · rename_i he
      obtain ⟨h1, h2⟩ := look_entry l (i + 1) t av h
      refine ⟨by omega, ?_⟩
      rw [show t - i = (t - (i + 1)) + 1 by omega]
      simpa using h2

def entry (args : List AV) : AS := ⟨entryEnv 0 args, [], 0⟩

/-- What a walk through a function's body has to show at its end. -/
def Ends (ti : Types) (rs : List ResultVar) (res : AV) (l : Lab) (s : AS) : Prop := (l = .normal ∨ l = .ret) ∧ Fin s.mem (resL ti s rs) res

theorem call_ok {C : Cx} (hT : TypesOK C.P C.ti) (hmx : C.P.follows .mixedOrders = true) {f : FuncId} {fn : Func} {c : Code} {args : List AV} {res : AV} (n : Nat) (hent : Enters C.P f) (hf : C.P.funcs[f]? = some fn) (hb : fn.body = some c) (hnt : fn.ntmps = C.nt) (hargs : args.length ≤ C.nt)
    (hcl : ∀ x ∈ args, Cl x) (hres : Cl res) (h : ex C n [.code c] (entry args) (Ends C.ti fn.results.toList res)) : CallOK C.P C.G f args res := by
  refine ⟨hent, hcl, hres, fun S w vs hS hgs hsz hr => ?_⟩
  refine calls_of_wp hf hb ?_
  have hlen : (vs ++ Array.replicate (fn.ntmps - vs.size) undef).size = C.nt := by simp [hnt, hsz]; omega
  have hsim : Sim ⟨fun _ => False, C.G⟩ S w C.nt (entry args) { tmps := vs ++ Array.replicate (fn.ntmps - vs.size) undef, defers := [] } w := by
    refine ⟨rfl, hlen, nσ, S, ⟨Bel.refl (fun g l hg => ⟨id, (hgs g l hg).2⟩), (fun b k h => by cases h), (fun b b' k m m' h => by simp [entry, look] at h), hS, (fun _ h => h), (fun _ h => .inl h), (fun g l hg => (hgs g l hg).1), (fun b m h => by simp [entry, look] at h)⟩, fun t av ht => ?_⟩
    obtain ⟨_, h2⟩ := look_entry args 0 t av ht
    simp only [Nat.sub_zero] at h2
    have hlt : t < vs.size := by rw [hsz]; exact (List.getElem?_eq_some_iff.1 h2).1
    exact ⟨vs[t], by simp [Array.getElem?_append, hlt], hr t _ av (by simp [hlt]) h2⟩
  have fin : ∀ (e : Exit) (s : AS) (a : Act) (w' : World), (e = .normal ∨ e = .ret) → Fin s.mem (resL C.ti s fn.results.toList) res → Sim ⟨fun _ => False, C.G⟩ S w C.nt s a w' → bodyPost C.P fn (fun e w' => Below w.heap.size w w' ∧ ∃ x, e = .returned x ∧ Rel nσ (Grow S w w') w' x res) e a w' := fun e s a w' he hq hs => ?_
  · have key := ex_sound (D := ⟨fun _ => False, C.G⟩) (S0 := S) (w0 := w) (R := bodyPost C.P fn fun e w' => Below w.heap.size w w' ∧ ∃ x, e = .returned x ∧ Rel nσ (Grow S w w') w' x res) (M := fun _ _ _ => False) hT rfl hmx n _ _ _ h _ _ hsim
      ⟨fun s a w q hs => fin _ s a w (.inl rfl) q.2 hs, fun s a w q hs => fin _ s a w (.inr rfl) q.2 hs, fun k s a w q hs => by rcases q.1 with q | q <;> cases q⟩
    simp only [Real] at key
    exact wp_mono key fun e a w' q => by cases e <;> exact q
  · obtain ⟨p, l, b, hr1, hp1, hpub, hle⟩ := hq
    obtain ⟨hd, hn, σ, S', hF, hE⟩ := hs
    obtain ⟨xs, hxs, hxl, hxr⟩ := resL_spec (P := C.P) hT hF hE _ _ _ hr1 hp1
    have hv : ∃ v, (results fn a.tmps).run C.P w' = .ok v w' ∧ Rel σ S' w' v (one l) := by
      have hm : (fn.results.mapM fun (r : ResultVar) => (match r with | .tmp t => pure (a.tmps.getD t undef) | .cell t ty => do loadVar ty (← asAddr (a.tmps.getD t undef)) : Sem Value)).run C.P w' = .ok xs.toArray w' := by
        rw [Array.mapM_eq_mapM_toList, map_eq_pure_bind, Sem.run_bind, hxs]
        simp
      refine ⟨if h : xs.toArray.size = 1 then xs.toArray[0] else .tuple xs.toArray, ?_, ?_⟩
      · unfold results
        simp only [Sem.run_bind]
        refine Eq.trans (congrArg (fun r => Result.andThen r _) hm) ?_
        simp
      · cases l with
        | nil =>
          have : xs = [] := by simpa using hxl
          subst this
          exact .tup rfl (fun i x av hx => by simp at hx)
        | cons b0 l0 =>
          cases l0 with
          | nil =>
            cases xs with
            | nil => simp at hxl
            | cons x0 xs0 =>
              have : xs0 = [] := by simpa using hxl
              subst this
              simpa [one] using hxr 0 x0 b0 rfl rfl
          | cons b1 l1 =>
            have h2 : xs.length = l1.length + 2 := by simpa using hxl
            rw [dif_neg (by simp [h2])]
            exact .tup (by simpa using hxl) (fun i x av hx hav => hxr i x av (by simpa using hx) hav)
    obtain ⟨v, hv1, hv2⟩ := hv
    have hfin : Below w.heap.size w w' ∧ ∃ x, Ending.returned v = .returned x ∧ Rel nσ (Grow S w w') w' x res := by
      refine ⟨hF.below.none, v, rfl, ?_⟩
      have h1 := hle _ _ _ _ (pub_rel hF hv2 hpub)
      refine (hres _ _ _ _ h1).mono (fun _ _ h => h) (fun k hk => ?_) keeps_refl
      rcases hk with hk | ⟨b, m, hm, hσ⟩
      · rcases hF.s1 k hk with hk' | hk'
        · exact .inl hk'
        · exact .inr ⟨hk'.resolve_right id, hF.sbd k hk⟩
      · obtain ⟨k', c', e', g1, g2, _⟩ := (hF.mem b m hm).named hσ
        have : k' = k := Option.some.inj (g1.symm.trans hσ)
        subst this
        exact .inr ⟨g2.resolve_right id, (hF.dom b _ hσ).2⟩
    rcases he with rfl | rfl
    · exact ⟨hd, v, hv1, hfin⟩
    · exact ⟨hd, v, hv1, hfin⟩
end
end Go.Ax
