/- The abstract executor, part 13: the executor over items, and that what it shows holds. -/
import Derived.Test.YtekmhhmemkjcbaaAxC
set_option linter.unusedSimpArgs false
set_option linter.unusedVariables false
set_option linter.deprecated false
namespace Go.Ax
open Go Go.RowKit

inductive Lab where
  | normal | ret | lp (k : Nat)

/-- A state that says less. -/
def leEnv (env : List (Nat × AV)) : List (Nat × AV) → Prop
  | [] => True
  | (t, av) :: l => (∃ b, look env t = some b ∧ Le b av) ∧ leEnv env l
def leMem (mem : List (Nat × MB)) : List (Nat × MB) → Prop
  | [] => True
  | (b, m) :: l => look mem b = some m ∧ leMem mem l

structure Weak (s s' : AS) : Prop where
  env : ∀ t av, look s'.env t = some av → ∃ b, look s.env t = some b ∧ Le b av
  mem : ∀ b m, look s'.mem b = some m → look s.mem b = some m
  next : s.next ≤ s'.next

theorem leEnv_look {env : List (Nat × AV)} : ∀ (l : List (Nat × AV)), leEnv env l → ∀ t av, look l t = some av → ∃ b, look env t = some b ∧ Le b av
  | [], _, t, av, h => by simp [look] at h
  | (t', av') :: l, hl, t, av, h => by
    simp only [leEnv] at hl
    simp only [look] at h
    split at h
    · rename_i he; injection h with h; subst he h; exact hl.1
    · exact leEnv_look l hl.2 t av h
theorem leMem_look {mem : List (Nat × MB)} : ∀ (l : List (Nat × MB)), leMem mem l → ∀ b m, look l b = some m → look mem b = some m
  | [], _, b, m, h => by simp [look] at h
  | (b', m') :: l, hl, b, m, h => by
    simp only [leMem] at hl
    simp only [look] at h
    split at h
    · rename_i he; injection h with h; subst he h; exact hl.1
    · exact leMem_look l hl.2 b m h

theorem Weak.of {s s' : AS} (he : leEnv s.env s'.env) (hm : leMem s.mem s'.mem) (hn : s.next ≤ s'.next) : Weak s s' := ⟨leEnv_look _ he, leMem_look _ hm, hn⟩
theorem Weak.refl (s : AS) : Weak s s := ⟨fun _ av h => ⟨av, h, .refl _⟩, fun _ _ h => h, Nat.le_refl _⟩

section
variable {C : Cx} {S0 : Nat → Prop} {w0 : World}

theorem sim_weak {nt : Nat} {s s' : AS} {a : Act} {w : World} (h : Sim S0 w0 nt s a w) (hw : Weak s s') : Sim S0 w0 nt s' a w := by
  obtain ⟨hd, hn, σ, S, hF, hE⟩ := h
  refine ⟨hd, hn, σ, S, ⟨hF.below, fun b k hk => ⟨?_, (hF.dom b k hk).2⟩, fun b b' k m m' h1 h2 h3 h4 => hF.inj b b' k m m' (hw.mem _ _ h1) (hw.mem _ _ h2) h3 h4, hF.sbd, hF.s0, hF.s1, fun b m hm => hF.mem b m (hw.mem _ _ hm)⟩, fun t av ht => ?_⟩
  · have := (hF.dom b k hk).1; have := hw.next; omega
  · obtain ⟨b, hb, hle⟩ := hw.env t av ht
    obtain ⟨x, hx, hr⟩ := hE t b hb
    exact ⟨x, hx, hle _ _ _ _ hr⟩

def ex (C : Cx) : Nat → List It → AS → (Lab → AS → Prop) → Prop
  | 0, _, _, _ => False
  | _ + 1, [], s, Q => Q .normal s
  | n + 1, .blk _ :: r, s, Q => ex C n r s Q
  | _ + 1, .lp k :: _, s, Q => Q (.lp k) s
  | n + 1, .op o g :: r, s, Q => dstOK C o.dst ∧ ∃ rc, RecG C s o g rc ∧ ex C n r (s.did o rc) Q
  | n + 1, .code c :: r, s, Q =>
    match c with
    | .skip => ex C n r s Q
    | .seq x y => ex C n (.code x :: .code y :: r) s Q
    | .block id x => ex C n (.code x :: .blk id :: r) s Q
    | .ret => Q .ret s
    | .exit id => match popTo id r with
      | some r' => ex C n r' s Q
      | none => False
    | .cond c x y => ∃ b, ev s c = some (.v (.bool b)) ∧ (b = true → ex C n (.code x :: r) s Q) ∧ (b = false → ex C n (.code y :: r) s Q)
    | .region _ ops false => ex C n (items ops.toList ops.toList ++ r) s Q
    | .region _ ops true => ∃ recs s', Tr C ops.toList s ops.toList recs s' ∧ drawCheck ops.toList (recs.map Rc.fp) = true ∧ ex C n r s' Q
    | .loop c => ∃ I : Nat → AS → Prop, (∃ m s', I m s' ∧ Weak s s') ∧ ∀ m s', I m s' → ex C n (.code c :: .lp (fresh r) :: r) s' (fun l s'' => (l = .lp (fresh r) ∧ ∃ m' s3, m' < m ∧ I m' s3 ∧ Weak s'' s3) ∨ (l ≠ .lp (fresh r) ∧ Q l s''))
    | _ => False

theorem sim_did {s : AS} {a : Act} {o : Oper} {rc : Rc} {w' : World} {σ : Sig} {S : Nat → Prop} {nt : Nat} (hd : a.defers = []) (hn : a.tmps.size = nt) (hF : Fit S0 w0 σ S (s.upd rc.up).mem (grown (fun b => b < s.next) s.next rc.up) w')
    (hE : EnvOK σ S w' s.env a) (ho : match o.dst with | some d => d < nt | none => True) {x : Value} (hr : Rel σ S w' x rc.val) : Sim S0 w0 nt (s.did o rc) (a.put o.dst x) w' := by
  have hF' : Fit S0 w0 σ S (s.upd rc.up).mem (fun b => b < (s.upd rc.up).next) w' := hF.congr (fun _ => rfl) (fun b hb => by
    cases hu : rc.up with
    | keep => rw [hu] at hb; exact hb
    | set c m => rw [hu] at hb; exact hb
    | new m => rw [hu] at hb; rcases hb with hb | hb <;> simp [AS.upd] <;> omega)
  refine ⟨by rw [put_defers]; exact hd, by rw [put_size]; exact hn, σ, S, ?_, ?_⟩
  · unfold AS.did; cases o.dst <;> exact hF'
  · unfold AS.did
    cases hdd : o.dst with
    | none => simp only [AS.put, upd_env, Act.put]; exact hE
    | some d => rw [hdd] at ho; simp only [AS.put, upd_env]; exact hE.put (by rw [hn]; exact ho) hr

/-- The items from here on end so. -/
structure Meets (S0 : Nat → Prop) (w0 : World) (nt : Nat) (Q : Lab → AS → Prop) (r : List It) (R : Exit → Act → World → Prop) (M : Nat → Act → World → Prop) : Prop where
  normal : ∀ s a w, Q .normal s → Sim S0 w0 nt s a w → R .normal a w
  ret : ∀ s a w, Q .ret s → Sim S0 w0 nt s a w → R .ret a w
  lp : ∀ k s a w, Q (.lp k) s → Sim S0 w0 nt s a w → M k a w

theorem ex_sound (hT : TypesOK C.P C.ti) (hmx : C.P.follows .mixedOrders = true) : ∀ (n : Nat) (todo : List It) (s : AS) (Q : Lab → AS → Prop) (R : Exit → Act → World → Prop) (M : Nat → Act → World → Prop), ex C n todo s Q → ∀ (a : Act) (w : World), Sim S0 w0 C.nt s a w →
    Meets S0 w0 C.nt Q todo R M → Real C.P R M todo .normal a w
  | 0, _, _, _, _, _, h, _, _, _, _ => h.elim
  | n + 1, [], s, Q, R, M, h, a, w, hs, hm => hm.normal _ _ _ h hs
  | n + 1, .blk _ :: r, s, Q, R, M, h, a, w, hs, hm => by
    simp only [ex] at h
    simp only [Real]
    exact ex_sound hT hmx n r s Q R M h a w hs ⟨hm.normal, hm.ret, hm.lp⟩
  | n + 1, .lp k :: r, s, Q, R, M, h, a, w, hs, hm => by
    simp only [ex] at h
    simp only [Real]
    exact hm.lp k s a w h hs
  | n + 1, .op o g :: r, s, Q, R, M, h, a, w, hs, hm => by
    simp only [ex] at h
    obtain ⟨hdst, rc, hg, hk⟩ := h
    obtain ⟨hd, hn, σ, S, hF, hE⟩ := hs
    have hdst' : match o.dst with | some d => d < C.nt | none => True := by
      unfold dstOK at hdst
      cases hdd : o.dst <;> rw [hdd] at hdst <;> exact hdst
    have next : ∀ a' w', Sim S0 w0 C.nt (s.did o rc) a' w' → Real C.P R M r .normal a' w' := fun a' w' hs' => ex_sound hT hmx n r _ Q R M hk a' w' hs' ⟨hm.normal, hm.ret, hm.lp⟩
    simp only [Real]
    have run : RecOK C s o rc → o.wp C.P a w (Real C.P R M r .normal) (Real C.P R M r) := fun h => recOK_sound (U := fun b => b < s.next) hT (Nat.lt_irrefl _) hF hE h (fun x w' σ' S' hF' hE' hr => next _ _ (sim_did hd hn hF' hE' hdst' hr))
    cases hg with
    | none h => rw [if_pos (show gWanted none a.tmps = true from rfl)]; exact run h
    | @yes t want rc hl h =>
      obtain ⟨v, hv, hvr⟩ := hE t _ hl
      have := rel_v hvr
      subst this
      rw [if_pos (by simp [gWanted, hv])]
      exact run h
    | @no t want x hl hx =>
      obtain ⟨v, hv, hvr⟩ := hE t _ hl
      have := rel_v hvr
      subst this
      rw [if_neg (by rw [gWanted_no hv hx]; exact Bool.false_ne_true)]
      exact next _ _ (sim_did (rc := ⟨.v undef, .keep, none, none⟩) hd hn hF hE hdst' (.v _))
  | n + 1, .code c :: r, s, Q, R, M, h, a, w, hs, hm => by
    have go : ∀ (todo : List It), ex C n todo s Q → Real C.P R M todo .normal a w := fun todo h => ex_sound hT hmx n todo s Q R M h a w hs ⟨hm.normal, hm.ret, hm.lp⟩
    simp only [ex] at h
    split at h
    · exact real_skip (go _ h)
    · exact real_seq (go _ h)
    · exact real_block (go _ h)
    · exact real_ret (real_fin r (hm.ret _ _ _ h hs))
    · split at h
      · rename_i r' hp
        exact real_exit (real_popTo _ _ _ _ _ hp (go _ h))
      · exact h.elim
    · rename_i c x y
      obtain ⟨b, hc, ht, hf⟩ := h
      have hs' := hs
      obtain ⟨hd, hn, σ, S, hF, hE⟩ := hs'
      refine real_cond (ev_v hE hc) ?_
      cases b
      · exact go _ (hf rfl)
      · exact go _ (ht rfl)
    · exact real_region (go _ h)
    · obtain ⟨recs, s', h1, h2, h3⟩ := h
      simp only [Real]
      exact real_draw hT hmx h1 h2 hs (fun a' w' hs' => ex_sound hT hmx n r s' Q R M h3 a' w' hs' ⟨hm.normal, hm.ret, hm.lp⟩)
    · rename_i c
      obtain ⟨I, ⟨m0, s0, hI0, hw0⟩, hround⟩ := h
      simp only [Real]
      let J : Act → World → Nat → Prop := fun a w m => ∃ s', I m s' ∧ Sim S0 w0 C.nt s' a w
      have classical : ∀ a w, (∃ m, J a w m) → ∃ m, J a w m ∧ ∀ m', J a w m' → m ≤ m' := fun a w ⟨m, hm⟩ => by
        induction m using Nat.strongRecOn with
        | _ m ih =>
          by_cases h : ∃ m', m' < m ∧ J a w m'
          · obtain ⟨m', hlt, hJ⟩ := h; exact ih m' hlt hJ
          · exact ⟨m, hm, fun m' hm' => Nat.le_of_not_lt fun hlt => h ⟨m', hlt, hm'⟩⟩
      let μ : Act → World → Nat := fun a w => open Classical in if h : ∃ m, J a w m then (classical a w h).choose else 0
      have hμ : ∀ a w (h : ∃ m, J a w m), J a w (μ a w) ∧ ∀ m', J a w m' → μ a w ≤ m' := fun a w h => by
        have e : μ a w = (classical a w h).choose := by simp only [μ]; rw [dif_pos h]
        rw [e]; exact (classical a w h).choose_spec
      refine wp_loop (fun a w => ∃ m, J a w m) μ ⟨m0, s0, hI0, sim_weak hs hw0⟩ (fun a w hI => ?_)
      obtain ⟨⟨s', hI', hs'⟩, _⟩ := hμ a w hI
      have key := ex_sound hT hmx n _ s' _ R (fun k a' w' => (k = fresh r ∧ (∃ m, J a' w' m) ∧ μ a' w' < μ a w) ∨ (k ≠ fresh r ∧ M k a' w')) (hround _ s' hI') a w hs'
        ⟨fun s a w hq hs => by
          rcases hq with ⟨hq, _⟩ | ⟨_, hq⟩
          · cases hq
          · exact hm.normal s a w hq hs, fun s a w hq hs => by
          rcases hq with ⟨hq, _⟩ | ⟨_, hq⟩
          · cases hq
          · exact hm.ret s a w hq hs, fun k s a' w' hq hs => by
          rcases hq with ⟨hq, m', s3, hlt, hI3, hw3⟩ | ⟨hne, hq⟩
          · injection hq with hq
            have hJ : J a' w' m' := ⟨s3, hI3, sim_weak hs hw3⟩
            exact .inl ⟨hq, ⟨m', hJ⟩, Nat.lt_of_le_of_lt ((hμ a' w' ⟨m', hJ⟩).2 m' hJ) hlt⟩
          · exact .inr ⟨fun e => hne (by rw [e]), hm.lp k s a' w' hq hs⟩⟩
      simp only [Real] at key
      refine wp_mono key fun e a' w' q => ?_
      have pass : Real C.P R (fun k a' w' => (k = fresh r ∧ (∃ m, J a' w' m) ∧ μ a' w' < μ a w) ∨ (k ≠ fresh r ∧ M k a' w')) r e a' w' → Real C.P R M r e a' w' := real_mono r (fun k a w hk hM => by
        have := fresh_spec r k hk
        rcases hM with ⟨hM, _⟩ | ⟨_, hM⟩
        · omega
        · exact hM) e a' w'
      cases e with
      | normal =>
        simp only [Exit.then]
        simp only [Real] at q
        rcases q with ⟨_, q1, q2⟩ | ⟨q, _⟩
        · exact ⟨q1, q2⟩
        · exact (q rfl).elim
      | exit id => simp only [Real] at q; exact pass q
      | goto l => simp only [Real] at q; exact pass q
      | ret => simp only [Real] at q; exact pass q
      | panic ch => simp only [Real] at q; exact pass q
      | outgrown => simp only [Real] at q; exact pass q
    · exact h.elim
end
end Go.Ax
