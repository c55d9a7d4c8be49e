/- The abstract executor, part 13: the executor over items, and that what it shows holds. -/
import Derived.Test.YtekmhhmemkjcbaaAxC
set_option linter.unusedSimpArgs false
set_option linter.unusedVariables false
set_option linter.deprecated false
namespace Go.Ax
open Go Go.RowKit

inductive Lab where
  | normal | ret | lp (k : Nat)

/-- A state that says less. -/
def leEnv (env : List (Nat × AV)) : List (Nat × AV) → Prop
  | [] => True
  | (t, av) :: l => (∃ b, look env t = some b ∧ Le b av) ∧ leEnv env l
def leMem (mem : List (Nat × MB)) : List (Nat × MB) → Prop
  | [] => True
  | (b, m) :: l => look mem b = some m ∧ leMem mem l

def cutσ (n : Nat) (σ : Sig) : Sig := fun b => if b < n then σ b else none
/-- A value that speaks of no private name from n on. -/
def NB (n : Nat) (a : AV) : Prop := ∀ σ S w x, Rel σ S w x a → Rel (cutσ n σ) S w x a
theorem NB.cl {n : Nat} {a : AV} (h : Cl a) : NB n a := fun σ S w x hx => (h σ S w x hx).mono (fun b k hb => by cases hb) (fun _ hk => hk) ⟨fun _ _ => rfl, fun b k c e f hb _ => by cases hb⟩
theorem NB.v {n : Nat} {x : Value} : NB n (.v x) := fun _ _ _ _ h => by cases h; exact .v _
theorem NB.p {n b sz row j : Nat} (hb : b < n) : NB n (.p b sz row j) := fun σ _ _ _ h => by
  cases h with
  | p h => exact .p (by simp [cutσ, hb, h])
theorem NB.ps {n b sz row m : Nat} (hb : b < n) : NB n (.ps b sz row m) := fun σ _ _ _ h => by
  cases h with
  | ps h hn ho hs => exact .ps (by simp [cutσ, hb, h]) hn ho hs
  | ps0 => exact .ps0
theorem NB.top {n : Nat} : NB n .top := fun _ _ _ x _ => .top x
theorem NB.agg {n : Nat} {l : List AV} (h : ∀ a ∈ l, NB n a) : NB n (.agg l) := fun _ _ _ _ hx => by
  cases hx with
  | agg hs hr => exact .agg hs (fun i x av h1 h2 => h av (List.mem_of_getElem? h2) _ _ _ _ (hr i x av h1 h2))
theorem NB.tup {n : Nat} {l : List AV} (h : ∀ a ∈ l, NB n a) : NB n (.tup l) := fun _ _ _ _ hx => by
  cases hx with
  | tup hs hr => exact .tup hs (fun i x av h1 h2 => h av (List.mem_of_getElem? h2) _ _ _ _ (hr i x av h1 h2))
def nbEnv (n : Nat) : List (Nat × AV) → Prop
  | [] => True
  | (_, av) :: l => NB n av ∧ nbEnv n l
def nbL (n : Nat) : List AV → Prop
  | [] => True
  | a :: l => NB n a ∧ nbL n l
theorem nbL_mem {n : Nat} : ∀ (l : List AV), nbL n l → ∀ a ∈ l, NB n a
  | [], _, a, h => by cases h
  | b :: l, hl, a, h => by
    rcases List.mem_cons.1 h with rfl | h
    · exact hl.1
    · exact nbL_mem l hl.2 a h
def nbRows (n : Nat) : List (List AV) → Prop
  | [] => True
  | r :: l => nbL n r ∧ nbRows n l
def nbMem (n : Nat) : List (Nat × MB) → Prop
  | [] => True
  | (b, m) :: l => (b < n ∧ nbRows n m.rows) ∧ nbMem n l
theorem nbEnv_look {n : Nat} : ∀ (l : List (Nat × AV)), nbEnv n l → ∀ t av, look l t = some av → NB n av
  | [], _, t, av, h => by simp [look] at h
  | (t', av') :: l, hl, t, av, h => by
    simp only [look] at h
    split at h
    · injection h with h; subst h; exact hl.1
    · exact nbEnv_look l hl.2 t av h
theorem nbRows_mem {n : Nat} : ∀ (l : List (List AV)), nbRows n l → ∀ r ∈ l, ∀ a ∈ r, NB n a
  | [], _, r, h => by cases h
  | r' :: l, hl, r, h => by
    rcases List.mem_cons.1 h with rfl | h
    · exact nbL_mem _ hl.1
    · exact nbRows_mem l hl.2 r h
theorem nbMem_look {n : Nat} : ∀ (l : List (Nat × MB)), nbMem n l → ∀ b m, look l b = some m → b < n ∧ ∀ r ∈ m.rows, ∀ a ∈ r, NB n a
  | [], _, b, m, h => by simp [look] at h
  | (b', m') :: l, hl, b, m, h => by
    simp only [look] at h
    split at h
    · rename_i he
      injection h with h; subst h he; exact ⟨hl.1.1, nbRows_mem _ hl.1.2⟩
    · exact nbMem_look l hl.2 b m h

/-- Whatever fits s fits s'. -/
def Weak (s s' : AS) : Prop := ∀ (D : Base) (S0 : Nat → Prop) (w0 : World) (σ : Sig) (S : Nat → Prop) (w : World), Fit D S0 w0 σ S s.mem (fun b => b < s.next) w →
  ∃ σ' S', Fit D S0 w0 σ' S' s'.mem (fun b => b < s'.next) w ∧ ∀ (a : Act), EnvOK σ S w s.env a → EnvOK σ' S' w s'.env a

structure WeakC (s s' : AS) : Prop where
  env : ∀ t av, look s'.env t = some av → ∃ b, look s.env t = some b ∧ Le b av
  mem : ∀ b m, look s'.mem b = some m → look s.mem b = some m
  next : s.next ≤ s'.next ∨ ((∀ t av, look s'.env t = some av → NB s'.next av) ∧ ∀ b m, look s'.mem b = some m → b < s'.next ∧ ∀ r ∈ m.rows, ∀ a ∈ r, NB s'.next a)

theorem leEnv_look {env : List (Nat × AV)} : ∀ (l : List (Nat × AV)), leEnv env l → ∀ t av, look l t = some av → ∃ b, look env t = some b ∧ Le b av
  | [], _, t, av, h => by simp [look] at h
  | (t', av') :: l, hl, t, av, h => by
    simp only [leEnv] at hl
    simp only [look] at h
    split at h
    · rename_i he; injection h with h; subst he h; exact hl.1
    · exact leEnv_look l hl.2 t av h
theorem leMem_look {mem : List (Nat × MB)} : ∀ (l : List (Nat × MB)), leMem mem l → ∀ b m, look l b = some m → look mem b = some m
  | [], _, b, m, h => by simp [look] at h
  | (b', m') :: l, hl, b, m, h => by
    simp only [leMem] at hl
    simp only [look] at h
    split at h
    · rename_i he; injection h with h; subst he h; exact hl.1
    · exact leMem_look l hl.2 b m h

section
variable {C : Cx} {D : Base} {S0 : Nat → Prop} {w0 : World}

theorem MemOK.cut {σ : Sig} {S F : Nat → Prop} {n b : Nat} {w : World} {m : MB} (h : MemOK σ S F w b m) (hb : b < n) (hr : ∀ r ∈ m.rows, ∀ a ∈ r, NB n a) : MemOK (cutσ n σ) S F w b m := by
  rcases h with ⟨h1, h2⟩ | ⟨k, c, e, h1, h2, h3, h4, h5, h6, h7⟩
  · exact .inl ⟨h1, by simp [cutσ, hb, h2]⟩
  refine .inr ⟨k, c, e, by simp [cutσ, hb, h1], h2, h3, h4, h5, h6, fun i r j av hi hj => ?_⟩
  obtain ⟨x, hx, hrx⟩ := h7 i r j av hi hj
  exact ⟨x, hx, hr r (List.mem_of_getElem? hi) av (List.mem_of_getElem? hj) _ _ _ _ hrx⟩

theorem WeakC.weak {s s' : AS} (hw : WeakC s s') : Weak s s' := by
  intro D S0 w0 σ S w hF
  have env : ∀ (a : Act), EnvOK σ S w s.env a → EnvOK σ S w s'.env a := fun a hE t av ht => by
    obtain ⟨b, hb, hle⟩ := hw.env t av ht
    obtain ⟨x, hx, hr⟩ := hE t b hb
    exact ⟨x, hx, hle _ _ _ _ hr⟩
  rcases hw.next with hnx | ⟨hne, hnm⟩
  · refine ⟨σ, S, ⟨hF.below, fun b k hk => ⟨?_, (hF.dom b k hk).2⟩, fun b b' k m m' h1 h2 h3 h4 => hF.inj b b' k m m' (hw.mem _ _ h1) (hw.mem _ _ h2) h3 h4, hF.sbd, hF.s0, hF.s1, hF.glob, fun b m hm => hF.mem b m (hw.mem _ _ hm)⟩, env⟩
    have := (hF.dom b k hk).1; omega
  · have cut : ∀ b k, cutσ s'.next σ b = some k → b < s'.next ∧ σ b = some k := fun b k hk => by
      unfold cutσ at hk
      split at hk
      · rename_i hb; exact ⟨hb, hk⟩
      · cases hk
    refine ⟨cutσ s'.next σ, S, ⟨hF.below, fun b k hk => ⟨(cut b k hk).1, (hF.dom b k (cut b k hk).2).2⟩, fun b b' k m m' h1 h2 h3 h4 => hF.inj b b' k m m' (hw.mem _ _ h1) (hw.mem _ _ h2) (cut _ _ h3).2 (cut _ _ h4).2, hF.sbd, hF.s0, hF.s1, hF.glob, fun b m hm => ?_⟩, fun a hE t av ht => ?_⟩
    · obtain ⟨q1, q2⟩ := hnm b m hm
      exact (hF.mem b m (hw.mem _ _ hm)).cut q1 q2
    · obtain ⟨x, hx, hr⟩ := env a hE t av ht
      exact ⟨x, hx, hne t av ht _ _ _ _ hr⟩

theorem Weak.of {s s' : AS} (he : leEnv s.env s'.env) (hm : leMem s.mem s'.mem) (hn : s.next ≤ s'.next) : Weak s s' := WeakC.weak ⟨leEnv_look _ he, leMem_look _ hm, .inl hn⟩
theorem Weak.refl (s : AS) : Weak s s := fun _ _ _ σ S _ h => ⟨σ, S, h, fun _ h => h⟩
theorem Weak.trans {s s' s'' : AS} (h : Weak s s') (k : Weak s' s'') : Weak s s'' := fun D S0 w0 σ S w x => by
  obtain ⟨σ', S', h1, h2⟩ := h D S0 w0 σ S w x
  obtain ⟨σ'', S'', h3, h4⟩ := k D S0 w0 σ' S' w h1
  exact ⟨σ'', S'', h3, fun a x => h4 a (h2 a x)⟩
/-- The names from s'.next on are forgotten. -/
theorem Weak.cut {s s' : AS} (he : leEnv s.env s'.env) (hm : leMem s.mem s'.mem) (h1 : nbEnv s'.next s'.env) (h2 : nbMem s'.next s'.mem) : Weak s s' := WeakC.weak ⟨leEnv_look _ he, leMem_look _ hm, .inr ⟨nbEnv_look _ h1, nbMem_look _ h2⟩⟩
theorem sim_weak {nt : Nat} {s s' : AS} {a : Act} {w : World} (h : Sim D S0 w0 nt s a w) (hw : Weak s s') : Sim D S0 w0 nt s' a w := by
  obtain ⟨hd, hn, σ, S, hF, hE⟩ := h
  obtain ⟨σ', S', h1, h2⟩ := hw _ _ _ _ _ _ hF
  exact ⟨hd, hn, σ', S', h1, h2 a hE⟩

/-- An operation of which it is shown apart what it does to the state. -/
def OpG (C : Cx) (s : AS) (o : Oper) (s' : AS) (av : AV) : Prop := ∀ (D : Base) (S0 : Nat → Prop) (w0 : World) (σ : Sig) (S : Nat → Prop) (a : Act) (w : World) (K : Act → World → Prop) (Q : Exit → Act → World → Prop), D.G = C.G →
  Fit D S0 w0 σ S s.mem (fun b => b < s.next) w → EnvOK σ S w s.env a →
  (∀ (σ' : Sig) (S' : Nat → Prop) (x : Value) (w' : World), Fit D S0 w0 σ' S' s'.mem (fun b => b < s'.next) w' → EnvOK σ' S' w' s'.env a → Rel σ' S' w' x av → K (a.put o.dst x) w') → o.wp C.P a w K Q
/-- A call of which it is shown apart what it does to the state. -/
def CallG (C : Cx) (s : AS) (g : FuncId) (as : List AV) (s' : AS) (res : AV) : Prop := ∀ (D : Base) (S0 : Nat → Prop) (w0 : World) (σ : Sig) (S : Nat → Prop) (a : Act) (w : World) (vs : Array Value), D.G = C.G →
  Fit D S0 w0 σ S s.mem (fun b => b < s.next) w → EnvOK σ S w s.env a → vs.size = as.length → (∀ (i : Nat) (x : Value) (av : AV), vs[i]? = some x → as[i]? = some av → Rel σ S w x av) →
  Calls C.P g vs w fun e w' => ∃ x, e = .returned x ∧ ∃ σ' S', Fit D S0 w0 σ' S' s'.mem (fun b => b < s'.next) w' ∧ EnvOK σ' S' w' s'.env a ∧ Rel σ' S' w' x res

inductive BigG (C : Cx) (s : AS) (o : Oper) : AS → AV → Prop
  | call (f : Operand) (args : Array Operand) (ty : Array TypeId) (g : FuncId) (caps as : List AV) (s' : AS) (res : AV) (ho : o.op = .call ⟨.value f, args, ty⟩) (hf : ev s f = some (.fn g caps)) (ha : evL s args.toList = some as)
      (hent : Enters C.P g) (hk : CallG C s g (as ++ caps) s' res) : BigG C s o s' res
  | sem (s' : AS) (av : AV) (hc : isCall o.op = false) (he : aop C.ti s o.op = none) (h : OpG C s o s' av) : BigG C s o s' av

def gOK (s : AS) : Gd → Prop
  | none => True
  | some (some t, want) => look s.env t = some (.v (.bool want))
  | some (none, _) => False

theorem gOK_wanted {σ : Sig} {S : Nat → Prop} {w : World} {s : AS} {a : Act} (hE : EnvOK σ S w s.env a) : ∀ {g : Gd}, gOK s g → gWanted g a.tmps = true
  | none, _ => rfl
  | some (some t, want), h => by
    obtain ⟨v, hv, hvr⟩ := hE t _ h
    have := rel_v hvr
    subst this
    simp [gWanted, hv]
  | some (none, _), h => h.elim

theorem bigG_sound (hG : D.G = C.G) {s s' : AS} {o : Oper} {av : AV} (h : BigG C s o s' av) {σ : Sig} {S : Nat → Prop} {a : Act} {w : World} {K : Act → World → Prop} {Q : Exit → Act → World → Prop} (hF : Fit D S0 w0 σ S s.mem (fun b => b < s.next) w) (hE : EnvOK σ S w s.env a)
    (hK : ∀ (σ' : Sig) (S' : Nat → Prop) (x : Value) (w' : World), Fit D S0 w0 σ' S' s'.mem (fun b => b < s'.next) w' → EnvOK σ' S' w' s'.env a → Rel σ' S' w' x av → K (a.put o.dst x) w') : o.wp C.P a w K Q := by
  cases h with
  | sem _ _ hc he h => exact h _ _ _ _ _ _ _ _ _ hG hF hE hK
  | call f args ty g caps as s' res ho hf ha hent hk =>
    have hfv := ev_rel hE hf
    generalize hfe : a.eval f = fv at hfv
    obtain ⟨e1, e2⟩ := evL_spec hE _ _ ha
    cases hfv with
    | @fn _ cs _ hc1 hc2 =>
      have hrun : (execOp a.eval o).run C.P w = .ok (.enter g (args.map a.eval ++ cs)) w := by
        simp [execOp, ho, resolve, hfe, Deferred.ofValue, invoke, hent _ _]
      unfold Oper.wp
      rw [hrun]
      simp only [Oper.upon]
      have e1' : args.size = as.length := by simpa using e1
      have hlen : (args.map a.eval ++ cs).size = (as ++ caps).length := by simp [hc1, e1']
      refine (hk _ _ _ _ _ _ _ _ hG hF hE hlen (fun i x av hx hav => ?_)).mono fun e w' hw => ?_
      · rw [Array.getElem?_append] at hx
        rw [List.getElem?_append] at hav
        simp only [Array.size_map, e1'] at hx
        split at hx
        · rename_i hi
          rw [if_pos hi] at hav
          exact e2 i x av (by simpa using hx) hav
        · rename_i hi
          rw [if_neg hi] at hav
          exact hc2 _ x av hx hav
      · obtain ⟨x, rfl, σ', S', h1, h2, h3⟩ := hw
        exact hK σ' S' x w' h1 h2 h3

def ex (C : Cx) : Nat → List It → AS → (Lab → AS → Prop) → Prop
  | 0, _, _, _ => False
  | _ + 1, [], s, Q => Q .normal s
  | n + 1, .blk _ :: r, s, Q => ex C n r s Q
  | _ + 1, .lp k :: _, s, Q => Q (.lp k) s
  | n + 1, .op o g :: r, s, Q => dstOK C o.dst ∧ ((∃ rc, RecG C s o g rc ∧ ex C n r (s.did o rc) Q) ∨ (gOK s g ∧ ∃ s' av, BigG C s o s' av ∧ ex C n r (s'.put o.dst av) Q))
  | n + 1, .code c :: r, s, Q =>
    match c with
    | .skip => ex C n r s Q
    | .seq x y => ex C n (.code x :: .code y :: r) s Q
    | .block id x => ex C n (.code x :: .blk id :: r) s Q
    | .ret => Q .ret s
    | .exit id => match popTo id r with
      | some r' => ex C n r' s Q
      | none => False
    | .cond c x y => ∃ b, ev s c = some (.v (.bool b)) ∧ (b = true → ex C n (.code x :: r) s Q) ∧ (b = false → ex C n (.code y :: r) s Q)
    | .region _ ops false => ex C n (items ops.toList ops.toList ++ r) s Q
    | .region _ ops true => ∃ recs s', Tr C ops.toList s ops.toList recs s' ∧ drawCheck ops.toList (recs.map Rc.fp) = true ∧ ex C n r s' Q
    | .loop c => ∃ I : Nat → AS → Prop, (∃ m s', I m s' ∧ Weak s s') ∧ ∀ m s', I m s' → ex C n (.code c :: .lp (fresh r) :: r) s' (fun l s'' => (l = .lp (fresh r) ∧ ∃ m' s3, m' < m ∧ I m' s3 ∧ Weak s'' s3) ∨ (l ≠ .lp (fresh r) ∧ Q l s''))
    | _ => False

theorem sim_did {s : AS} {a : Act} {o : Oper} {rc : Rc} {w' : World} {σ : Sig} {S : Nat → Prop} {nt : Nat} (hd : a.defers = []) (hn : a.tmps.size = nt) (hF : Fit D S0 w0 σ S (s.upd rc.up).mem (grown (fun b => b < s.next) s.next rc.up) w')
    (hE : EnvOK σ S w' s.env a) (ho : match o.dst with | some d => d < nt | none => True) {x : Value} (hr : Rel σ S w' x rc.val) : Sim D S0 w0 nt (s.did o rc) (a.put o.dst x) w' := by
  have hF' : Fit D S0 w0 σ S (s.upd rc.up).mem (fun b => b < (s.upd rc.up).next) w' := hF.congr (fun _ => rfl) (fun b hb => by
    cases hu : rc.up with
    | keep => rw [hu] at hb; exact hb
    | set c m => rw [hu] at hb; exact hb
    | new m => rw [hu] at hb; rcases hb with hb | hb <;> simp [AS.upd] <;> omega)
  refine ⟨by rw [put_defers]; exact hd, by rw [put_size]; exact hn, σ, S, ?_, ?_⟩
  · unfold AS.did; cases o.dst <;> exact hF'
  · unfold AS.did
    cases hdd : o.dst with
    | none => simp only [AS.put, upd_env, Act.put]; exact hE
    | some d => rw [hdd] at ho; simp only [AS.put, upd_env]; exact hE.put (by rw [hn]; exact ho) hr

/-- The items from here on end so. -/
structure Meets (D : Base) (S0 : Nat → Prop) (w0 : World) (nt : Nat) (Q : Lab → AS → Prop) (r : List It) (R : Exit → Act → World → Prop) (M : Nat → Act → World → Prop) : Prop where
  normal : ∀ s a w, Q .normal s → Sim D S0 w0 nt s a w → R .normal a w
  ret : ∀ s a w, Q .ret s → Sim D S0 w0 nt s a w → R .ret a w
  lp : ∀ k s a w, Q (.lp k) s → Sim D S0 w0 nt s a w → M k a w

theorem ex_sound (hT : TypesOK C.P C.ti) (hG : D.G = C.G) (hmx : C.P.follows .mixedOrders = true) : ∀ (n : Nat) (todo : List It) (s : AS) (Q : Lab → AS → Prop) (R : Exit → Act → World → Prop) (M : Nat → Act → World → Prop), ex C n todo s Q → ∀ (a : Act) (w : World), Sim D S0 w0 C.nt s a w →
    Meets D S0 w0 C.nt Q todo R M → Real C.P R M todo .normal a w
  | 0, _, _, _, _, _, h, _, _, _, _ => h.elim
  | n + 1, [], s, Q, R, M, h, a, w, hs, hm => hm.normal _ _ _ h hs
  | n + 1, .blk _ :: r, s, Q, R, M, h, a, w, hs, hm => by
    simp only [ex] at h
    simp only [Real]
    exact ex_sound hT hG hmx n r s Q R M h a w hs ⟨hm.normal, hm.ret, hm.lp⟩
  | n + 1, .lp k :: r, s, Q, R, M, h, a, w, hs, hm => by
    simp only [ex] at h
    simp only [Real]
    exact hm.lp k s a w h hs
  | n + 1, .op o g :: r, s, Q, R, M, h, a, w, hs, hm => by
    simp only [ex] at h
    obtain ⟨hdst, h⟩ := h
    obtain ⟨hd, hn, σ, S, hF, hE⟩ := hs
    have hdst' : match o.dst with | some d => d < C.nt | none => True := by
      unfold dstOK at hdst
      cases hdd : o.dst <;> rw [hdd] at hdst <;> exact hdst
    rcases h with ⟨rc, hg, hk⟩ | ⟨hg, s', av, hb, hk⟩
    case inr =>
      simp only [Real]
      rw [if_pos (gOK_wanted hE hg)]
      refine bigG_sound hG hb hF hE (fun σ' S' x w' hF' hE' hr => ex_sound hT hG hmx n r _ Q R M hk _ w' ⟨by rw [put_defers]; exact hd, by rw [put_size]; exact hn, σ', S', ?_, ?_⟩ ⟨hm.normal, hm.ret, hm.lp⟩)
      · cases o.dst <;> exact hF'
      · cases hdd : o.dst with
        | none => simp only [AS.put, Act.put]; exact hE'
        | some d => rw [hdd] at hdst'; simp only [AS.put]; exact hE'.put (by rw [hn]; exact hdst') hr
    have next : ∀ a' w', Sim D S0 w0 C.nt (s.did o rc) a' w' → Real C.P R M r .normal a' w' := fun a' w' hs' => ex_sound hT hG hmx n r _ Q R M hk a' w' hs' ⟨hm.normal, hm.ret, hm.lp⟩
    simp only [Real]
    have run : RecOK C s o rc → o.wp C.P a w (Real C.P R M r .normal) (Real C.P R M r) := fun h => recOK_sound (U := fun b => b < s.next) hT hG (Nat.lt_irrefl _) hF hE h (fun x w' σ' S' hF' hE' hr => next _ _ (sim_did hd hn hF' hE' hdst' hr))
    cases hg with
    | none h => rw [if_pos (show gWanted none a.tmps = true from rfl)]; exact run h
    | @yes t want rc hl h =>
      obtain ⟨v, hv, hvr⟩ := hE t _ hl
      have := rel_v hvr
      subst this
      rw [if_pos (by simp [gWanted, hv])]
      exact run h
    | @no t want x hl hx =>
      obtain ⟨v, hv, hvr⟩ := hE t _ hl
      have := rel_v hvr
      subst this
      rw [if_neg (by rw [gWanted_no hv hx]; exact Bool.false_ne_true)]
      exact next _ _ (sim_did (rc := ⟨.v undef, .keep, none, none⟩) hd hn hF hE hdst' (.v _))
  | n + 1, .code c :: r, s, Q, R, M, h, a, w, hs, hm => by
    have go : ∀ (todo : List It), ex C n todo s Q → Real C.P R M todo .normal a w := fun todo h => ex_sound hT hG hmx n todo s Q R M h a w hs ⟨hm.normal, hm.ret, hm.lp⟩
    simp only [ex] at h
    split at h
    · exact real_skip (go _ h)
    · exact real_seq (go _ h)
    · exact real_block (go _ h)
    · exact real_ret (real_fin r (hm.ret _ _ _ h hs))
    · split at h
      · rename_i r' hp
        exact real_exit (real_popTo _ _ _ _ _ hp (go _ h))
      · exact h.elim
    · rename_i c x y
      obtain ⟨b, hc, ht, hf⟩ := h
      have hs' := hs
      obtain ⟨hd, hn, σ, S, hF, hE⟩ := hs'
      refine real_cond (ev_v hE hc) ?_
      cases b
      · exact go _ (hf rfl)
      · exact go _ (ht rfl)
    · exact real_region (go _ h)
    · obtain ⟨recs, s', h1, h2, h3⟩ := h
      simp only [Real]
      exact real_draw hT hG hmx h1 h2 hs (fun a' w' hs' => ex_sound hT hG hmx n r s' Q R M h3 a' w' hs' ⟨hm.normal, hm.ret, hm.lp⟩)
    · rename_i c
      obtain ⟨I, ⟨m0, s0, hI0, hw0⟩, hround⟩ := h
      simp only [Real]
      let J : Act → World → Nat → Prop := fun a w m => ∃ s', I m s' ∧ Sim D S0 w0 C.nt s' a w
      have classical : ∀ a w, (∃ m, J a w m) → ∃ m, J a w m ∧ ∀ m', J a w m' → m ≤ m' := fun a w ⟨m, hm⟩ => by
        induction m using Nat.strongRecOn with
        | _ m ih =>
          by_cases h : ∃ m', m' < m ∧ J a w m'
          · obtain ⟨m', hlt, hJ⟩ := h; exact ih m' hlt hJ
          · exact ⟨m, hm, fun m' hm' => Nat.le_of_not_lt fun hlt => h ⟨m', hlt, hm'⟩⟩
      let μ : Act → World → Nat := fun a w => open Classical in if h : ∃ m, J a w m then (classical a w h).choose else 0
      have hμ : ∀ a w (h : ∃ m, J a w m), J a w (μ a w) ∧ ∀ m', J a w m' → μ a w ≤ m' := fun a w h => by
        have e : μ a w = (classical a w h).choose := by simp only [μ]; rw [dif_pos h]
        rw [e]; exact (classical a w h).choose_spec
      refine wp_loop (fun a w => ∃ m, J a w m) μ ⟨m0, s0, hI0, sim_weak hs hw0⟩ (fun a w hI => ?_)
      obtain ⟨⟨s', hI', hs'⟩, _⟩ := hμ a w hI
      have key := ex_sound hT hG hmx n _ s' _ R (fun k a' w' => (k = fresh r ∧ (∃ m, J a' w' m) ∧ μ a' w' < μ a w) ∨ (k ≠ fresh r ∧ M k a' w')) (hround _ s' hI') a w hs'
        ⟨fun s a w hq hs => by
          rcases hq with ⟨hq, _⟩ | ⟨_, hq⟩
          · cases hq
          · exact hm.normal s a w hq hs, fun s a w hq hs => by
          rcases hq with ⟨hq, _⟩ | ⟨_, hq⟩
          · cases hq
          · exact hm.ret s a w hq hs, fun k s a' w' hq hs => by
          rcases hq with ⟨hq, m', s3, hlt, hI3, hw3⟩ | ⟨hne, hq⟩
          · injection hq with hq
            have hJ : J a' w' m' := ⟨s3, hI3, sim_weak hs hw3⟩
            exact .inl ⟨hq, ⟨m', hJ⟩, Nat.lt_of_le_of_lt ((hμ a' w' ⟨m', hJ⟩).2 m' hJ) hlt⟩
          · exact .inr ⟨fun e => hne (by rw [e]), hm.lp k s a' w' hq hs⟩⟩
      simp only [Real] at key
      refine wp_mono key fun e a' w' q => ?_
      have pass : Real C.P R (fun k a' w' => (k = fresh r ∧ (∃ m, J a' w' m) ∧ μ a' w' < μ a w) ∨ (k ≠ fresh r ∧ M k a' w')) r e a' w' → Real C.P R M r e a' w' := real_mono r (fun k a w hk hM => by
        have := fresh_spec r k hk
        rcases hM with ⟨hM, _⟩ | ⟨_, hM⟩
        · omega
        · exact hM) e a' w'
      cases e with
      | normal =>
        simp only [Exit.then]
        simp only [Real] at q
        rcases q with ⟨_, q1, q2⟩ | ⟨q, _⟩
        · exact ⟨q1, q2⟩
        · exact (q rfl).elim
      | exit id => simp only [Real] at q; exact pass q
      | goto l => simp only [Real] at q; exact pass q
      | ret => simp only [Real] at q; exact pass q
      | panic ch => simp only [Real] at q; exact pass q
      | outgrown => simp only [Real] at q; exact pass q
    · exact h.elim
end
end Go.Ax
