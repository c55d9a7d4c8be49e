/- The abstract executor and plain facts, part 4 (of several texts, laid together). -/
import Derived.Test.YtpggiabnhodjpaaGreatDoorU1
import Derived.Test.YtpggiabnhodjpaaGreatDoorU2
import Derived.Test.YtpggiabnhodjpaaGreatDoorU3
import Derived.Laws.BytesArg
set_option linter.unusedSimpArgs false
set_option linter.unusedVariables false
set_option linter.deprecated false
namespace Go.Ax
open Go Go.RowKit
section
variable {C : Cx} {s : AS} {o : Oper}
end
section
variable {C : Cx} {s : AS} {n : Nat} {r : List It} {Q : Lab → AS → Prop}
def thawL : List Nat → AS → AS
  | [], s => s
  | b :: l, s => match look s.mem b with
    | some m => thawL l (thawS b m s)
    | none => s
def thawLOK : List Nat → AS → Prop
  | [], _ => True
  | b :: l, s => match look s.mem b with
    | some m => thawEOK b m s.env ∧ thawLOK l (thawS b m s)
    | none => True
attribute [go_sem] Ax.thawL
theorem thawL_next : ∀ (l : List Nat) (s : AS), (thawL l s).next = s.next
  | [], s => rfl
  | b :: l, s => by
    simp only [thawL]
    split
    · rw [thawL_next l]; rfl
    · rfl
theorem Weak.thaws : ∀ (l : List Nat) (s : AS), thawLOK l s → Weak s (thawL l s)
  | [], s, _ => fun D S0 w0 σ S w hF _ => ⟨σ, S, hF, fun a hE => hE⟩
  | b :: l, s, h => by
    simp only [thawL]
    simp only [thawLOK] at h
    split
    · rename_i m hm
      rw [hm] at h
      exact Weak.trans (Weak.thaw b hm h.1) (Nat.le_refl _) (Weak.thaws l _ h.2)
    · exact fun D S0 w0 σ S w hF _ => ⟨σ, S, hF, fun a hE => hE⟩
theorem after_thaws (hT : TypesOK C.P C.ti) {o : Oper} (l : List Nat) (h : thawLOK l s) (hc : isCall o.op = false) {e : Eff} (he : aop C.ti (thawL l s) o.op = some e) (hn : e.need) (k : ex C n r (((thawL l s).upd e.upd).put o.dst e.val) Q) : after C n r s Q o none :=
  after_weak hT (Weak.thaws l s h) (by rw [thawL_next]; exact Nat.le_refl _) hc he hn k
end
end Go.Ax

namespace Go.Ax
open Go Go.RowKit
def nbOf (m1' : Option MB) : Nat := match m1' with
  | none => 1
  | some _ => 2
theorem nbOf_pos (m1' : Option MB) : 0 < nbOf m1' := by cases m1' <;> simp [nbOf]
structure CallV (P : Program) (G : GL) (f : FuncId) (args : List AV) (m0 m1 : MB) (res : AV) (m0' : MB) (m1' : Option MB) : Prop where
  enters : Enters P f
  nor : NB (nbOf m1') res
  nom0 : ∀ r ∈ m0'.rows, ∀ a ∈ r, NB (nbOf m1') a
  nom1 : ∀ m, m1' = some m → ∀ r ∈ m.rows, ∀ a ∈ r, NB (nbOf m1') a
  runs : ∀ (S : Nat → Prop) (w : World) (vs : Array Value) (k0 : Nat) (σ : Sig), σ 0 = some k0 → (∀ b k, σ b = some k → b < 2 ∧ k < w.heap.size) → (∀ k, σ 1 = some k → k ≠ k0) → (∀ k, S k → k < w.heap.size) → GS G S w → vs.size = args.length →
    MemAt σ S (fun _ => True) w 0 m0 → MemOK σ S (fun _ => True) w 1 m1 → (∀ k, σ 1 = some k → ¬ S k) → (∀ (i : Nat) (x : Value) (av : AV), vs[i]? = some x → args[i]? = some av → Rel σ S w x av) →
    Calls P f vs w fun e w' => Bel ⟨fun k => k = k0 ∨ σ 1 = some k, G, some k0⟩ w w' ∧ ∃ x σ' S', e = .returned x ∧ σ' 0 = some k0 ∧ (∀ b k, σ' b = some k → b < nbOf m1' ∧ k < w'.heap.size) ∧
      (∀ k, σ' 1 = some k → k ≠ k0 ∧ (σ 1 = some k ∨ w.heap.size ≤ k)) ∧ (∀ k, S k → S' k) ∧ (∀ k, S' k → k < w'.heap.size ∧ (S k ∨ w.heap.size ≤ k ∨ σ 1 = some k)) ∧ Rel σ' S' w' x res ∧ MemAt σ' S' (fun _ => True) w' 0 m0' ∧
      ∀ m, m1' = some m → MemOK σ' S' (fun _ => True) w' 1 m
def drop2 (mem : List (Nat × MB)) : List (Nat × MB) := dropM 1 (dropM 0 mem)
def FinV (mem : List (Nat × MB)) (r : Option (Prop × List AV)) (res : AV) (m1' : Option MB) : Prop := ∃ p l b, r = some (p, l) ∧ p ∧ Pub (if m1' = none then dropM 0 mem else drop2 mem) (one l) b ∧ Le b res
def EndsV (ti : Types) (rs : List ResultVar) (res : AV) (m0' : MB) (m1' : Option MB) (l : Lab) (s : AS) : Prop :=
  (l = .normal ∨ l = .ret) ∧ FinV s.mem (resL ti s rs) res m1' ∧ (∃ m, look s.mem 0 = some m ∧ MLe m m0') ∧ ∀ m, m1' = some m → ∃ q, look s.mem 1 = some q ∧ MLe q m
def entryV (args : List AV) (m0 m1 : MB) : AS := ⟨entryEnv 0 args, [(0, m0), (1, m1)], 2⟩
theorem MLe.memOK {σ : Sig} {S F : Nat → Prop} {w : World} {b : Nat} {m m' : MB} (h : MemOK σ S F w b m) (hle : MLe m m') : MemOK σ S F w b m' := by
  obtain ⟨z1, z2, z3⟩ := hle
  rcases h with ⟨h1, h2⟩ | ⟨k, c, e, g1, g2, g3, g4, g5, g6, g7⟩
  · exact .inl ⟨List.length_eq_zero_iff.1 (by rw [z2, h1]; rfl), h2⟩
  · refine .inr ⟨k, c, e, g1, g2, g3, g4, fun r' hr' => ?_, by rw [z1, z2]; exact g6, fun i r' j a' hi hj => ?_⟩
    · obtain ⟨i, hi⟩ := List.getElem?_of_mem hr'
      obtain ⟨r, q1, q2, _⟩ := z3 i r' hi
      rw [q2, z1]; exact g5 r (List.mem_of_getElem? q1)
    · obtain ⟨r, q1, q2, q3⟩ := z3 i r' hi
      obtain ⟨a0, q4, q5⟩ := q3 j a' hj
      obtain ⟨x, hx, hxr⟩ := g7 i r j a0 q1 q4
      exact ⟨x, by rw [z1]; exact hx, q5 _ _ _ _ hxr⟩
theorem MemOK.more {σ : Sig} {S S' F F' : Nat → Prop} {w : World} {b : Nat} {m : MB} (h : MemOK σ S F w b m) (hS : ∀ k, S k → S' k) (hn : ∀ k, σ b = some k → ¬ S' k) (hF : ∀ k, F k → F' k) : MemOK σ S' F' w b m := by
  rcases h with h | ⟨k, c, e, g1, g2, g3, g4, g5, g6, g7⟩
  · exact .inl h
  · refine .inr ⟨k, c, e, g1, hF _ g2, hn k g1, g4, g5, g6, fun i r j av hi hj => ?_⟩
    obtain ⟨x, hx, hr⟩ := g7 i r j av hi hj
    exact ⟨x, hx, hr.mono (fun _ _ h => h) hS keeps_refl⟩
theorem call_v {C : Cx} (hT : TypesOK C.P C.ti) (hmx : C.P.follows .mixedOrders = true) (han : C.an = true) {f : FuncId} {fn : Func} {c : Code} {args : List AV} {res : AV} {m0 m1 m0' : MB} {m1' : Option MB} (n : Nat) (hent : Enters C.P f) (hf : C.P.funcs[f]? = some fn) (hb : fn.body = some c) (hnt : fn.ntmps = C.nt) (hargs : args.length ≤ C.nt)
    (hres : NB (nbOf m1') res) (hcm0 : ∀ r ∈ m0'.rows, ∀ a ∈ r, NB (nbOf m1') a) (hcm1 : ∀ m, m1' = some m → ∀ r ∈ m.rows, ∀ a ∈ r, NB (nbOf m1') a) (h : ex C n [.code c] (entryV args m0 m1) (EndsV C.ti fn.results.toList res m0' m1')) : CallV C.P C.G f args m0 m1 res m0' m1' := by
  refine ⟨hent, hres, hcm0, hcm1, fun S w vs k' σ hσ0 hdom hne hS hgs hsz hm0 hm1 hn1 hr => ?_⟩
  have hk0 : k' < w.heap.size := (hdom 0 k' hσ0).2
  have hn0 : ¬ S k' := by
    obtain ⟨k, c0, e0, q1, _, q3, _⟩ := hm0
    have : k = k' := Option.some.inj (q1.symm.trans hσ0)
    subst this; exact q3
  refine calls_of_wp hf hb ?_
  have hlen : (vs ++ Array.replicate (fn.ntmps - vs.size) undef).size = C.nt := by simp [hnt, hsz]; omega
  let D : Base := ⟨fun k => k = k' ∨ σ 1 = some k, C.G, some k'⟩
  have hnd : ∀ k, D.d k → ¬ S k := fun k hk => by
    rcases hk with rfl | hk
    · exact hn0
    · exact hn1 k hk
  have hsim : Sim D S w C.nt (entryV args m0 m1) { tmps := vs ++ Array.replicate (fn.ntmps - vs.size) undef, defers := [] } w := by
    refine ⟨rfl, hlen, σ, S, ⟨Bel.refl (fun g l hg => ⟨fun he => hnd g he (hgs g l hg).1, (hgs g l hg).2⟩), hdom, (fun b b' k m m' _ _ h1 h2 => ?_), hS, (fun _ h => h), (fun _ h => .inl h), ⟨fun g l hg => (hgs g l hg).1, fun k hk => ?_⟩, (fun b m2 h => ?_)⟩, fun t av ht => ?_⟩
    · have e1 := (hdom b k h1).1
      have e2 := (hdom b' k h2).1
      match b, b', e1, e2, h1, h2 with
      | 0, 0, _, _, _, _ => rfl
      | 1, 1, _, _, _, _ => rfl
      | 0, 1, _, _, h1, h2 => exact absurd (Option.some.inj (h1.symm.trans hσ0)) (hne k h2)
      | 1, 0, _, _, h1, h2 => exact absurd (Option.some.inj (h2.symm.trans hσ0)) (hne k h1)
    · injection hk with hk; subst hk; exact hσ0
    · simp only [entryV, look] at h
      split at h
      · rename_i hb0; injection h with h; subst h hb0
        obtain ⟨k, c0, e0, q1, _, q3⟩ := hm0
        refine .inr ⟨k, c0, e0, q1, .inr (.inl (Option.some.inj (q1.symm.trans hσ0))), q3⟩
      · split at h
        · rename_i hb1; injection h with h; subst h hb1
          rcases hm1 with hm1 | ⟨k, c0, e0, q1, _, q3⟩
          · exact .inl hm1
          · exact .inr ⟨k, c0, e0, q1, .inr (.inr q1), q3⟩
        · cases h
    · obtain ⟨_, h2⟩ := look_entry args 0 t av ht
      simp only [Nat.sub_zero] at h2
      have hlt : t < vs.size := by rw [hsz]; exact (List.getElem?_eq_some_iff.1 h2).1
      exact ⟨vs[t], by simp [Array.getElem?_append, hlt], hr t _ av (by simp [hlt]) h2⟩
  let Post : Ending → World → Prop := fun e w' => Bel D w w' ∧ ∃ x σ' S', e = .returned x ∧ σ' 0 = some k' ∧ (∀ b k, σ' b = some k → b < nbOf m1' ∧ k < w'.heap.size) ∧
      (∀ k, σ' 1 = some k → k ≠ k' ∧ (σ 1 = some k ∨ w.heap.size ≤ k)) ∧ (∀ k, S k → S' k) ∧ (∀ k, S' k → k < w'.heap.size ∧ (S k ∨ w.heap.size ≤ k ∨ σ 1 = some k)) ∧ Rel σ' S' w' x res ∧ MemAt σ' S' (fun _ => True) w' 0 m0' ∧
      ∀ m, m1' = some m → MemOK σ' S' (fun _ => True) w' 1 m
  have fin : ∀ (e : Exit) (s : AS) (a : Act) (w' : World), (e = .normal ∨ e = .ret) → FinV s.mem (resL C.ti s fn.results.toList) res m1' → (∃ m, look s.mem 0 = some m ∧ MLe m m0') → (∀ m, m1' = some m → ∃ q, look s.mem 1 = some q ∧ MLe q m) → Sim D S w C.nt s a w' → bodyPost C.P fn Post e a w' := fun e s a w' he hq hq0 hq1 hs => ?_
  · have key := ex_sound (D := D) (S0 := S) (w0 := w) (R := bodyPost C.P fn Post) (M := fun _ _ _ => False) hT ⟨rfl, fun h => by rw [han] at h; cases h⟩ hmx n _ _ _ h _ _ hsim
      ⟨fun s a w q hs => fin _ s a w (.inl rfl) q.2.1 q.2.2.1 q.2.2.2 hs, fun s a w q hs => fin _ s a w (.inr rfl) q.2.1 q.2.2.1 q.2.2.2 hs, fun k s a w q hs => by rcases q.1 with q | q <;> cases q⟩
    simp only [Real] at key
    exact wp_mono key fun e a w' q => by cases e <;> exact q
  · obtain ⟨p, l, b, hr1, hp1, hpub, hle⟩ := hq
    obtain ⟨q0, hq0, hle0⟩ := hq0
    obtain ⟨hd, hn, σ', S', hF, hE⟩ := hs
    obtain ⟨v, hv1, hv2⟩ := results_run (P := C.P) hT hF hE hr1 hp1
    have hσ : σ' 0 = some k' := hF.glob.2 k' rfl
    let mem' : List (Nat × MB) := if m1' = none then dropM 0 s.mem else drop2 s.mem
    have hmem' : ∀ b m, look mem' b = some m → b ≠ 0 ∧ (m1' ≠ none → b ≠ 1) ∧ look s.mem b = some m := fun b m hm => by
      by_cases h1 : m1' = none
      · have hm : look (dropM 0 s.mem) b = some m := by simpa [mem', h1] using hm
        obtain ⟨g1, g2⟩ := look_dropM _ _ _ hm
        exact ⟨g1, fun h => absurd h1 h, g2⟩
      · have hm : look (drop2 s.mem) b = some m := by simpa [mem', h1] using hm
        obtain ⟨g1, g2⟩ := look_dropM _ _ _ hm
        obtain ⟨g3, g4⟩ := look_dropM _ _ _ g2
        exact ⟨g3, fun _ => g1, g4⟩
    have hsub : Fit D S w σ' S' mem' (fun b => b < s.next) w' := hF.sub fun b m h => (hmem' b m h).2.2
    have hpub : Pub mem' (one l) b := hpub
    have m0OK := (hF.mem 0 q0 hq0)
    have own0 : ∀ b m k, look s.mem b = some m → σ' b = some k → w.heap.size ≤ k ∨ k = k' ∨ σ 1 = some k := fun b m k hm hs => by
      obtain ⟨k3, c3, e3, q1, q2, _⟩ := (hF.mem b m hm).named hs
      have : k3 = k := Option.some.inj (q1.symm.trans hs)
      subst this
      exact q2
    have hn0' : ¬ S' k' := by
      obtain ⟨k2, c2, e2, g1, g2, g3, _⟩ := m0OK.named hσ
      have : k2 = k' := Option.some.inj (g1.symm.trans hσ)
      subst this; exact g3
    have hn0'' : ¬ With σ' mem' S' k' := fun hk => by
      rcases hk with hk | ⟨b, m, hm, hσb⟩
      · exact hn0' hk
      · obtain ⟨h1, _, h3⟩ := hmem' b m hm
        exact h1 (hF.inj b 0 k' m q0 h3 hq0 hσb hσ)
    have hc0 : cutσ (nbOf m1') σ' 0 = some k' := by unfold cutσ; rw [if_pos (nbOf_pos _)]; exact hσ
    have cut : ∀ b k, cutσ (nbOf m1') σ' b = some k → b < nbOf m1' ∧ σ' b = some k := fun b k hk => by
      unfold cutσ at hk
      split at hk
      · rename_i hb; exact ⟨hb, hk⟩
      · cases hk
    have hs' : ∀ k, With σ' mem' S' k → k < w'.heap.size ∧ (S k ∨ w.heap.size ≤ k ∨ σ 1 = some k) := fun k hk => by
      have hne : k ≠ k' := fun e => hn0'' (e ▸ hk)
      rcases hk with hk | ⟨b, m, hm, hσb⟩
      · refine ⟨hF.sbd k hk, ?_⟩
        rcases hF.s1 k hk with h1 | h1 | h1
        · exact .inl h1
        · exact .inr (.inl h1)
        · rcases h1 with h1 | h1
          · exact absurd h1 hne
          · exact .inr (.inr h1)
      · refine ⟨(hF.dom b k hσb).2, .inr ?_⟩
        rcases own0 b m k (hmem' b m hm).2.2 hσb with h1 | h1 | h1
        · exact .inl h1
        · exact absurd h1 hne
        · exact .inr h1
    have one1 : ∀ m, m1' = some m → ∃ q, look s.mem 1 = some q ∧ MLe q m ∧ ∀ k, σ' 1 = some k → k ≠ k' ∧ (σ 1 = some k ∨ w.heap.size ≤ k) ∧ ¬ With σ' mem' S' k := fun m hm => by
      obtain ⟨q, h1, h2⟩ := hq1 m hm
      refine ⟨q, h1, h2, fun k hk => ?_⟩
      have hne : k ≠ k' := fun e => by have := hF.inj 1 0 k q q0 h1 hq0 hk (e ▸ hσ); omega
      refine ⟨hne, ?_, fun hw => ?_⟩
      · rcases own0 1 q k h1 hk with h3 | h3 | h3
        · exact .inr h3
        · exact absurd h3 hne
        · exact .inl h3
      · rcases hw with hw | ⟨b, m2, hm2, hσb⟩
        · obtain ⟨k2, c2, e2, g1, g2, g3, _⟩ := (hF.mem 1 q h1).named hk
          have : k2 = k := Option.some.inj (g1.symm.trans hk)
          subst this; exact g3 hw
        · obtain ⟨_, h4, h5⟩ := hmem' b m2 hm2
          exact h4 (by rw [hm]; exact fun h => by cases h) (hF.inj b 1 k m2 q h5 h1 hσb hk)
    have hfin : Post (.returned v) w' := by
      refine ⟨hF.below, v, cutσ (nbOf m1') σ', With σ' mem' S', rfl, hc0, fun b k hk => ?_, fun k hk => ?_, fun k hk => .inl (hF.s0 k hk), hs', ?_, ?_, fun m hm => ?_⟩
      · obtain ⟨h1, h2⟩ := cut b k hk
        exact ⟨h1, (hF.dom b k h2).2⟩
      · obtain ⟨h1, h2⟩ := cut 1 k hk
        cases hm1' : m1' with
        | none => rw [hm1'] at h1; exact absurd h1 (by decide)
        | some m =>
          obtain ⟨q, _, _, h3⟩ := one1 m hm1'
          exact ⟨(h3 k h2).1, (h3 k h2).2.1⟩
      · exact hres _ _ _ _ (hle _ _ _ _ (pub_rel hsub hv2 hpub))
      · have h1 := ((MLe.memOK m0OK hle0).more (S' := With σ' mem' S') (F' := fun _ => True) (fun _ h => .inl h) (fun k hk => by
          have : k = k' := Option.some.inj (hk.symm.trans hσ)
          subst this; exact hn0'') (fun _ _ => trivial)).cut (nbOf_pos m1') hcm0
        exact h1.named hc0
      · obtain ⟨q, h1, h2, h3⟩ := one1 m hm
        exact ((MLe.memOK (hF.mem 1 q h1) h2).more (S' := With σ' mem' S') (F' := fun _ => True) (fun _ h => .inl h) (fun k hk => (h3 k hk).2.2) (fun _ _ => trivial)).cut (by rw [hm]; exact Nat.lt_succ_self 1) (hcm1 m hm)
    rcases he with rfl | rfl
    · exact ⟨hd, v, hv1, hfin⟩
    · exact ⟨hd, v, hv1, hfin⟩
inductive Rn (b0 b1 : Nat) : AV → AV → Prop
  | p0 (sz row j : Nat) : Rn b0 b1 (.p b0 sz row j) (.p 0 sz row j)
  | ps0 (sz row n : Nat) : Rn b0 b1 (.ps b0 sz row n) (.ps 0 sz row n)
  | p1 (sz row j : Nat) : Rn b0 b1 (.p b1 sz row j) (.p 1 sz row j)
  | ps1 (sz row n : Nat) : Rn b0 b1 (.ps b1 sz row n) (.ps 1 sz row n)
  | cl {a a' : AV} (h : Cl a') (k : Le a a') : Rn b0 b1 a a'
inductive Rb (b0 b1 : Nat) : AV → AV → Prop
  | p0 (sz row j : Nat) : Rb b0 b1 (.p 0 sz row j) (.p b0 sz row j)
  | ps0 (sz row n : Nat) : Rb b0 b1 (.ps 0 sz row n) (.ps b0 sz row n)
  | p1 (sz row j : Nat) : Rb b0 b1 (.p 1 sz row j) (.p b1 sz row j)
  | ps1 (sz row n : Nat) : Rb b0 b1 (.ps 1 sz row n) (.ps b1 sz row n)
  | cl {a : AV} (h : Cl a) : Rb b0 b1 a a
theorem move_rel {σ σ' : Sig} {S : Nat → Prop} {w : World} {x : Value} {a a' : AV} {c c' sz row : Nat} (h : ∀ k, σ c = some k → σ' c' = some k) :
    (∀ j, Rel σ S w x (.p c sz row j) → Rel σ' S w x (.p c' sz row j)) ∧ ∀ n, Rel σ S w x (.ps c sz row n) → Rel σ' S w x (.ps c' sz row n) := by
  refine ⟨fun j hr => ?_, fun n hr => ?_⟩
  · cases hr with
    | p h1 => exact .p (h _ h1)
  · cases hr with
    | ps h1 hn ho hs => exact .ps (h _ h1) hn ho hs
    | ps0 => exact .ps0
theorem Rn.rel {σ σ' : Sig} {S : Nat → Prop} {w : World} {b0 b1 : Nat} (h0 : ∀ k, σ b0 = some k → σ' 0 = some k) (h1 : ∀ k, σ b1 = some k → σ' 1 = some k) {x : Value} {a a' : AV} (h : Rn b0 b1 a a') (hr : Rel σ S w x a) : Rel σ' S w x a' := by
  cases h with
  | p0 sz row j => exact (move_rel (a := .top) (a' := .top) h0).1 _ hr
  | ps0 sz row n => exact (move_rel (a := .top) (a' := .top) h0).2 _ hr
  | p1 sz row j => exact (move_rel (a := .top) (a' := .top) h1).1 _ hr
  | ps1 sz row n => exact (move_rel (a := .top) (a' := .top) h1).2 _ hr
  | cl h k => exact (h _ _ _ _ (k _ _ _ _ hr)).mono (fun _ _ h => by cases h) (fun _ h => h) keeps_refl
theorem Rb.rel {σ σ' : Sig} {S : Nat → Prop} {w : World} {b0 b1 : Nat} (h0 : ∀ k, σ 0 = some k → σ' b0 = some k) (h1 : ∀ k, σ 1 = some k → σ' b1 = some k) {x : Value} {a a' : AV} (h : Rb b0 b1 a a') (hr : Rel σ S w x a) : Rel σ' S w x a' := by
  cases h with
  | p0 sz row j => exact (move_rel (a := .top) (a' := .top) h0).1 _ hr
  | ps0 sz row n => exact (move_rel (a := .top) (a' := .top) h0).2 _ hr
  | p1 sz row j => exact (move_rel (a := .top) (a' := .top) h1).1 _ hr
  | ps1 sz row n => exact (move_rel (a := .top) (a' := .top) h1).2 _ hr
  | cl h => exact (h _ _ _ _ hr).mono (fun _ _ h => by cases h) (fun _ h => h) keeps_refl
def MR (R : AV → AV → Prop) (m m' : MB) : Prop := m'.sz = m.sz ∧ PubL (PubL R) m.rows m'.rows
theorem MR.memAt {R : AV → AV → Prop} {σ σ' : Sig} {S F F' : Nat → Prop} {w : World} {b b' : Nat} {m m' : MB} (h : MR R m m') (hb : ∀ k, σ b = some k → σ' b' = some k ∧ F' k) (hR : ∀ x a a', R a a' → Rel σ S w x a → Rel σ' S w x a') (hm : MemAt σ S F w b m) : MemAt σ' S F' w b' m' := by
  obtain ⟨k, c, e, g1, g2, g3, g4, g5, g6, g7⟩ := hm
  obtain ⟨z1, z2⟩ := h
  obtain ⟨z3, z4⟩ := z2.spec
  refine ⟨k, c, e, (hb k g1).1, (hb k g1).2, g3, g4, fun r' hr' => ?_, by rw [z1, ← z3]; exact g6, fun i r' j a' hi hj => ?_⟩
  · obtain ⟨i, hi⟩ := List.getElem?_of_mem hr'
    obtain ⟨r, q1, q2⟩ := z4 i r' hi
    rw [← q2.spec.1, z1]; exact g5 r (List.mem_of_getElem? q1)
  · obtain ⟨r, q1, q2⟩ := z4 i r' hi
    obtain ⟨a, q3, q4⟩ := q2.spec.2 j a' hj
    obtain ⟨x, hx, hxr⟩ := g7 i r j a q1 q3
    exact ⟨x, by rw [z1]; exact hx, hR x a a' q4 hxr⟩
theorem MR.memOK {R : AV → AV → Prop} {σ σ' : Sig} {S F F' : Nat → Prop} {w : World} {b b' : Nat} {m m' : MB} (h : MR R m m') (hb : ∀ k, σ b = some k → σ' b' = some k ∧ F' k) (hn : σ b = none → σ' b' = none) (hR : ∀ x a a', R a a' → Rel σ S w x a → Rel σ' S w x a') (hm : MemOK σ S F w b m) : MemOK σ' S F' w b' m' := by
  rcases hm with ⟨h1, h2⟩ | hm
  · exact .inl ⟨List.length_eq_zero_iff.1 (by rw [← h.2.spec.1, h1]; rfl), hn h2⟩
  · exact .inr (h.memAt hb hR hm)
def noE (b : Nat) : List (Nat × AV) → Prop
  | [] => True
  | (_, a) :: l => NO b a ∧ noE b l
theorem noE_look {b : Nat} : ∀ (l : List (Nat × AV)), noE b l → ∀ t a, look l t = some a → NO b a
  | [], _, t, a, h => by simp [look] at h
  | (t', a') :: l, hl, t, a, h => by
    simp only [look] at h
    split at h
    · injection h with h; subst h; exact hl.1
    · exact noE_look l hl.2 t a h
def noM (b0 b1 : Nat) : List (Nat × MB) → Prop
  | [] => True
  | (k, m) :: l => (k = b0 ∨ k = b1 ∨ ∀ r ∈ m.rows, ∀ a ∈ r, NO b1 a) ∧ noM b0 b1 l
theorem noM_look {b0 b1 : Nat} : ∀ (l : List (Nat × MB)), noM b0 b1 l → ∀ k m, look l k = some m → k ≠ b0 → k ≠ b1 → ∀ r ∈ m.rows, ∀ a ∈ r, NO b1 a
  | [], _, k, m, h, _, _ => by simp [look] at h
  | (k', m') :: l, hl, k, m, h, h0, h1 => by
    simp only [look] at h
    split at h
    · rename_i he
      injection h with h; subst h he
      rcases hl.1 with h2 | h2 | h2
      · exact absurd h2 h0
      · exact absurd h2 h1
      · exact h2
    · exact noM_look l hl.2 k m h h0 h1
def memV (b0 b1 : Nat) (M0' : MB) (M1' : Option MB) (mem : List (Nat × MB)) : List (Nat × MB) := match M1' with
  | some M => (b0, M0') :: (b1, M) :: mem
  | none => (b0, M0') :: dropM b1 mem
def given (b1 : Nat) (s : AS) (M1 : MB) : Prop := look s.mem b1 = some M1 ∨ (s.next ≤ b1 ∧ look s.mem b1 = none ∧ M1.rows = [])
theorem callG_own2 {C : Cx} {s : AS} {g : FuncId} {as args : List AV} {res res' : AV} {M0 M1 m0 m1 m0' M0' : MB} {m1' M1' : Option MB} (b0 b1 : Nat) (hne : b0 ≠ b1 ∧ (C.an = false ∨ b1 ≠ 0)) (hM0 : look s.mem b0 = some M0) (h0 : 0 < M0.rows.length) (hM1 : given b1 s M1) (hnx : M1' = none ∨ b1 < s.next)
    (hr0 : MR (Rn b0 b1) M0 m0) (hr1 : MR (Rn b0 b1) M1 m1) (has : PubL (Rn b0 b1) as args) (henv : noE b1 s.env) (hmem : noM b0 b1 s.mem) (h : CallV C.P C.G g args m0 m1 res m0' m1')
    (hb0 : MR (Rb b0 b1) m0' M0') (hb1 : (m1' = none ∧ M1' = none) ∨ ∃ m M, m1' = some m ∧ M1' = some M ∧ MR (Rb b0 b1) m M) (hres : Rb b0 b1 res res') :
    CallG C s g as ⟨s.env, memV b0 b1 M0' M1' s.mem, s.next⟩ res' := by
  obtain ⟨hne, hb10⟩ := hne
  intro D S0 w0 σ S a w vs hG hF hE hsz hr
  have hm0 := (hF.mem b0 M0 hM0).row h0
  obtain ⟨k0, c0, e0, g1, g2, g3, g4, _⟩ := id hm0
  have hm1 : MemOK σ S (Own D w0) w b1 M1 := by
    rcases hM1 with hM1 | ⟨h1, _, h2⟩
    · exact hF.mem b1 M1 hM1
    · refine .inl ⟨h2, ?_⟩
      cases hs : σ b1 with
      | none => rfl
      | some k => have := (hF.dom b1 k hs).1; omega
  have b1ne : ∀ k, σ b1 = some k → k ≠ k0 ∧ ¬ S k ∧ Own D w0 k := fun k hk => by
    obtain ⟨k', c', e', q1, q2, q3, _⟩ := hm1.named hk
    have : k' = k := Option.some.inj (q1.symm.trans hk)
    subst this
    refine ⟨fun he => ?_, q3, q2⟩
    rcases hM1 with hM1 | ⟨h1, _, _⟩
    · exact hne (hF.inj b0 b1 k' M0 M1 hM0 hM1 (he ▸ g1) hk)
    · have := (hF.dom b1 k' hk).1; omega
  let σc : Sig := fun c => if c = 0 then σ b0 else if c = 1 then σ b1 else none
  have c0e : σc 0 = σ b0 := rfl
  have c1e : σc 1 = σ b1 := rfl
  have hsub : ∀ (vs : List AV) (as : List AV), True := fun _ _ => trivial
  have down : ∀ x a a', Rn b0 b1 a a' → Rel σ S w x a → Rel σc S w x a' := fun x a a' h hr => h.rel (fun k hk => c0e ▸ hk) (fun k hk => c1e ▸ hk) hr
  refine (h.runs S w vs k0 σc (c0e ▸ g1) (fun b k hk => ?_) (fun k hk => (b1ne k (c1e ▸ hk)).1) hF.sbd (by rw [← hG.1]; exact hF.gs) (by rw [hsz, has.spec.1]) (hr0.memAt (fun k hk => ⟨c0e ▸ hk, trivial⟩) down hm0) (hr1.memOK (fun k hk => ⟨c1e ▸ hk, trivial⟩) (fun hk => c1e ▸ hk) down hm1) (fun k hk => (b1ne k (c1e ▸ hk)).2.1)
    (fun i x av hx hav => by obtain ⟨a0, ha, hra⟩ := has.spec.2 i av hav; exact down x a0 av hra (hr i x a0 hx ha))).mono fun e' w' hw => ?_
  · match b, hk with
    | 0, hk => exact ⟨by decide, (hF.dom b0 k hk).2⟩
    | 1, hk => exact ⟨by decide, (hF.dom b1 k hk).2⟩
    | n + 2, hk => simp [σc] at hk
  obtain ⟨hb, x, σ', S', rfl, q0, qd, q1, qs, qs', qr, qm0, qm1⟩ := hw
  rw [c1e] at hb q1 qs'
  let σn : Sig := fun c => if c = b1 then σ' 1 else σ c
  have n1 : σn b1 = σ' 1 := by simp [σn]
  have nne : ∀ c, c ≠ b1 → σn c = σ c := fun c hc => by simp [σn, hc]
  have n0 : σn b0 = some k0 := (nne b0 hne).trans g1
  have same : ∀ k, k < w.heap.size → k ≠ k0 → σ b1 ≠ some k → w'.heap[k]? = w.heap[k]? := fun k hk h1 h2 => hb.block k hk (fun h => by rcases h with h | h; exact h1 h; exact h2 h)
  have hke : Keeps σ S w w' := ⟨fun k hk => same k (hF.sbd k hk) (fun he => g3 (he ▸ hk)) (fun he => (b1ne k he).2.1 hk), fun c k c2 e2 f2 hs hc => by
    by_cases hk : k = k0 ∨ σ b1 = some k
    · exact hb.kept k c2 e2 f2 hk hc
    · exact ⟨c2, e2, f2, by rw [same k (lt_of_get hc) (fun h => hk (.inl h)) (fun h => hk (.inr h))]; exact hc, Nat.le_refl _⟩⟩
  have up : ∀ {x : Value} {av : AV}, NO b1 av → Rel σ S w x av → Rel σn S' w' x av := fun hno hr => hno σ σn S' w' _ (fun c k hc hk => (nne c hc).trans hk) (hr.mono (fun _ _ h => h) qs hke)
  have back : ∀ x a a', Rb b0 b1 a a' → Rel σ' S' w' x a → Rel σn S' w' x a' := fun x a a' h hr => h.rel (fun k hk => by rw [n0, ← q0]; exact hk) (fun k hk => n1.trans hk) hr
  have own1 : ∀ k, σ' 1 = some k → Own D w0 k := fun k hk => by
    rcases (q1 k hk).2 with h | h
    · exact (b1ne k h).2.2
    · exact .inl (Nat.le_trans hF.below.size h)
  have ns1 : ∀ c mc k, c ≠ b1 → look s.mem c = some mc → σ c = some k → σ' 1 ≠ some k := fun c mc k hc hl hs he => by
    rcases (q1 k he).2 with h | h
    · rcases hM1 with hM1 | ⟨h1, _, _⟩
      · exact hc (hF.inj c b1 k mc M1 hl hM1 hs h)
      · have := (hF.dom b1 k h).1; omega
    · have := (hF.dom c k hs).2; omega
  have names : ∀ c mc, look (memV b0 b1 M0' M1' s.mem) c = some mc → (c = b0 ∧ mc = M0') ∨ (c = b1 ∧ M1' = some mc) ∨ (c ≠ b0 ∧ c ≠ b1 ∧ look s.mem c = some mc) := fun c mc hl => by
    cases hM : M1' with
    | none =>
      rw [hM] at hl
      simp only [memV, look] at hl
      split at hl
      · rename_i he; injection hl with hl; exact .inl ⟨he.symm, hl.symm⟩
      · rename_i he
        obtain ⟨h1, h2⟩ := look_dropM _ _ _ hl
        exact .inr (.inr ⟨fun e => he e.symm, h1, h2⟩)
    | some M =>
      rw [hM] at hl
      simp only [memV, look] at hl
      split at hl
      · rename_i he; injection hl with hl; exact .inl ⟨he.symm, hl.symm⟩
      · rename_i he
        split at hl
        · rename_i he1; injection hl with hl; exact .inr (.inl ⟨he1.symm, by rw [hl]⟩)
        · rename_i he1; exact .inr (.inr ⟨fun e => he e.symm, fun e => he1 e.symm, hl⟩)
  have h2 : ∀ c mc k, look (memV b0 b1 M0' M1' s.mem) c = some mc → σn c = some k → (c = b1 ∧ σ' 1 = some k) ∨ (c ≠ b1 ∧ σ c = some k ∧ ∃ mo, look s.mem c = some mo) := fun c mc k hl hs => by
    rcases names c mc hl with ⟨rfl, _⟩ | ⟨rfl, _⟩ | ⟨_, hc, hl⟩
    · exact .inr ⟨hne, by rw [← nne c hne]; exact hs, M0, hM0⟩
    · exact .inl ⟨rfl, by rw [← n1]; exact hs⟩
    · exact .inr ⟨hc, by rw [← nne c hc]; exact hs, mc, hl⟩
  have hlt1 : ∀ k, σ' 1 = some k → b1 < s.next := fun k hk => by
    rcases hnx with h | h
    · rcases hb1 with ⟨h3, _⟩ | ⟨m, M, _, h4, _⟩
      · have := (qd 1 k hk).1; rw [h3] at this; exact absurd this (by decide)
      · rw [h] at h4; cases h4
    · exact h
  refine ⟨x, rfl, σn, S', ⟨⟨hb.os.trans hF.below.os, hb.tape.trans hF.below.tape, hb.output.trans hF.below.output, Nat.le_trans hF.below.size hb.size, fun k hk hd => ?_, fun k c2 e2 f2 hd hc => ?_, hF.below.glob⟩, fun c k hs => ?_,
      fun c1 c2 k m1 m2 l1 l2 s1 s2 => ?_, fun k hk => (qs' k hk).1, fun k hk => qs k (hF.s0 k hk), fun k hk => ?_, ⟨fun g l hg => qs g (hF.glob.1 g l hg), fun k hk => ?_⟩, fun c mc hl => ?_⟩, fun t av ht => ?_, back x _ _ hres qr⟩
  · have h1 : k ≠ k0 := fun he => by
      subst he
      obtain ⟨k', c', e', p1, p2, _⟩ := hm0
      have : k' = k := Option.some.inj (p1.symm.trans g1)
      subst this
      rcases p2 with p2 | p2
      · omega
      · exact hd p2
    have h3 : σ b1 ≠ some k := fun he => by
      rcases (b1ne k he).2.2 with p2 | p2
      · omega
      · exact hd p2
    rw [same k (Nat.lt_of_lt_of_le hk hF.below.size) h1 h3]
    exact hF.below.block k hk hd
  · obtain ⟨c3, e3, f3, r1, r2⟩ := hF.below.kept k c2 e2 f2 hd hc
    by_cases hk : k = k0 ∨ σ b1 = some k
    · obtain ⟨c4, e4, f4, r3, r4⟩ := hb.kept k c3 e3 f3 hk r1
      exact ⟨c4, e4, f4, r3, Nat.le_trans r2 r4⟩
    · exact ⟨c3, e3, f3, by rw [same k (lt_of_get r1) (fun h => hk (.inl h)) (fun h => hk (.inr h))]; exact r1, r2⟩
  · by_cases hc : c = b1
    · subst hc
      rw [n1] at hs
      exact ⟨hlt1 k hs, (qd 1 k hs).2⟩
    · rw [nne c hc] at hs
      exact ⟨(hF.dom c k hs).1, Nat.lt_of_lt_of_le (hF.dom c k hs).2 hb.size⟩
  · rcases h2 c1 m1 k l1 s1 with ⟨rfl, p1⟩ | ⟨p1, p2, mo1, p3⟩
    · rcases h2 c2 m2 k l2 s2 with ⟨rfl, _⟩ | ⟨p4, p5, mo2, p6⟩
      · rfl
      · exact absurd p1 (ns1 c2 mo2 k p4 p6 p5)
    · rcases h2 c2 m2 k l2 s2 with ⟨rfl, p4⟩ | ⟨p4, p5, mo2, p6⟩
      · exact absurd p4 (ns1 c1 mo1 k p1 p3 p2)
      · exact hF.inj c1 c2 k mo1 mo2 p3 p6 p2 p5
  · rcases (qs' k hk).2 with p | p | p
    · exact hF.s1 k p
    · exact .inr (.inl (Nat.le_trans hF.below.size p))
    · exact .inr (b1ne k p).2.2
  · have h1 := hF.glob.2 k hk
    by_cases hc : 0 = b1
    · rcases hb10 with h3 | h3
      · rw [hG.2 h3] at hk; cases hk
      · exact absurd hc.symm h3
    · exact (nne 0 hc).trans h1
  · rcases names c mc hl with ⟨rfl, rfl⟩ | ⟨rfl, hM⟩ | ⟨hc0, hc1, hl⟩
    · exact .inr (hb0.memAt (fun k hk => ⟨by rw [n0, ← q0]; exact hk, by
        have : k = k0 := Option.some.inj (hk.symm.trans q0)
        subst this
        obtain ⟨k', c', e', p1, p2, _⟩ := hm0
        have : k' = k := Option.some.inj (p1.symm.trans g1)
        subst this
        exact p2⟩) back qm0)
    · rcases hb1 with ⟨_, h3⟩ | ⟨m, M, h3, h4, h5⟩
      · rw [h3] at hM; cases hM
      · have : M = mc := Option.some.inj (h4.symm.trans hM)
        subst this
        exact h5.memOK (fun k hk => ⟨n1.trans hk, own1 k hk⟩) (fun hk => n1.trans hk) back (qm1 m h3)
    · have hno := noM_look _ hmem c mc hl hc0 hc1
      rcases hF.mem c mc hl with ⟨p1, p2⟩ | ⟨k, c', e', p1, p2, p3, p4, p5, p6, p7⟩
      · exact .inl ⟨p1, (nne c hc1).trans p2⟩
      · have hk0 : k ≠ k0 := fun he => hc0 (hF.inj c b0 k mc M0 hl hM0 p1 (he ▸ g1))
        have hk1 : σ b1 ≠ some k := fun he => by
          rcases hM1 with hM1 | ⟨h1, _, _⟩
          · exact hc1 (hF.inj c b1 k mc M1 hl hM1 p1 he)
          · have := (hF.dom b1 k he).1; omega
        refine .inr ⟨k, c', e', (nne c hc1).trans p1, p2, fun hk => ?_, by rw [same k (lt_of_get p4) hk0 hk1]; exact p4, p5, p6, fun i r j av hi hj => ?_⟩
        · rcases (qs' k hk).2 with p | p | p
          · exact p3 p
          · have := lt_of_get p4; omega
          · exact hk1 p
        · obtain ⟨y, hy, hyr⟩ := p7 i r j av hi hj
          exact ⟨y, hy, up (hno r (List.mem_of_getElem? hi) av (List.mem_of_getElem? hj)) hyr⟩
  · obtain ⟨y, hy, hyr⟩ := hE t av ht
    exact ⟨y, hy, up (noE_look _ henv t av ht) hyr⟩
section
variable {C : Cx} {n : Nat} {r : List It} {s : AS} {Q : Lab → AS → Prop} {d : Option Tmp}
theorem endsV_ret {ti : Types} {rs : List ResultVar} {res : AV} {m0' : MB} {m1' : Option MB} : EndsV ti rs res m0' m1' .ret s = (FinV s.mem (resL ti s rs) res m1' ∧ (∃ m, look s.mem 0 = some m ∧ MLe m m0') ∧ ∀ m, m1' = some m → ∃ q, look s.mem 1 = some q ∧ MLe q m) := by simp [EndsV]
theorem endsV_normal {ti : Types} {rs : List ResultVar} {res : AV} {m0' : MB} {m1' : Option MB} : EndsV ti rs res m0' m1' .normal s = (FinV s.mem (resL ti s rs) res m1' ∧ (∃ m, look s.mem 0 = some m ∧ MLe m m0') ∧ ∀ m, m1' = some m → ∃ q, look s.mem 1 = some q ∧ MLe q m) := by simp [EndsV]
end
end Go.Ax

namespace Go.Ax
open Go Go.RowKit
section
variable {C : Cx} {s : AS} {n : Nat} {r : List It} {Q : Lab → AS → Prop} {d : Option Tmp}
theorem callG_peek {g : FuncId} {as as' args' : List AV} {v0 : Value} (b : Nat) {m : MB} (hm : look s.mem b = some m) (has : PubL (Pub [(b, m)]) as as') (hle : LeL as' args') (h : CallOK C.P C.G g args' (.v v0)) : CallG C s g as s (.v v0) := by
  intro D S0 w0 σ S a w vs hG hF hE hsz hr
  obtain ⟨hl, hp⟩ := has.spec
  have hF' := hF.frz hm
  refine (h.runs (With σ [(b, m)] S) w vs hF'.sbd (by rw [← hG.1]; exact hF'.gs) (by rw [hsz, hl, hle.length]) (fun i x av hx hav => ?_)).mono fun e w' hw => ?_
  · obtain ⟨c, hc, hle'⟩ := hle.get i av hav
    obtain ⟨a0, ha, hpub⟩ := hp i c hc
    exact h.cla av (List.mem_of_getElem? hav) _ _ _ _ (hle' _ _ _ _ (frz_rel hF hm (hr i x a0 hx ha) hpub))
  · obtain ⟨hb, x, rfl, hx⟩ := hw
    exact ⟨x, rfl, σ, _, hF.grow hb, hE.grow hF hb, by cases hx; exact .v _⟩
theorem callF_peek {f : FuncId} {as as' args' : List AV} {v0 : Value} (b : Nat) {m : MB} (hm : look s.mem b = some m) (has : PubL (Pub [(b, m)]) as as') (hle : LeL as' args') (h : CallOK C.P C.G f args' (.v v0))
    (k : ex C n r (s.put d (.v v0)) Q) : callF C n r s Q f as d := callF_big h.enters (callG_peek b hm has hle h) k
end
end Go.Ax

namespace Go.Ax
open Go Go.RowKit
attribute [go_sem] Ax.endsV_ret Ax.endsV_normal Ax.entryV
theorem MR.cl {R : AV → AV → Prop} {m : MB} (h : ∀ r ∈ m.rows, ∀ a ∈ r, R a a) : MR R m m := by
  refine ⟨rfl, ?_⟩
  have hl : ∀ l : List AV, (∀ a ∈ l, R a a) → PubL R l l := fun l => by
    induction l with
    | nil => intro _; exact .nil
    | cons a l ih => intro h; exact .cons (h a (List.mem_cons_self ..)) (ih fun b hb => h b (List.mem_cons_of_mem _ hb))
  have : ∀ rows : List (List AV), (∀ r ∈ rows, ∀ a ∈ r, R a a) → PubL (PubL R) rows rows := fun rows => by
    induction rows with
    | nil => intro _; exact .nil
    | cons r l ih => intro h; exact .cons (hl r (h r (List.mem_cons_self ..))) (ih fun b hb => h b (List.mem_cons_of_mem _ hb))
  exact this m.rows h
section
variable {C : Cx} {s : AS} {n : Nat} {r : List It} {Q : Lab → AS → Prop} {d : Option Tmp}
theorem callF_part {g : FuncId} {as args : List AV} {res res' : AV} {m m' : MB} (b : Nat) (hM : look s.mem b = some m) (hne : b ≠ s.next ∧ (C.an = false ∨ s.next ≠ 0)) (h0 : 0 < m.rows.length) (hcm : ∀ r ∈ m.rows, ∀ a ∈ r, Cl a) (hcm' : ∀ r ∈ m'.rows, ∀ a ∈ r, Cl a) (hnone : look s.mem s.next = none)
    (has : PubL (Rn b s.next) as args) (hres : Rb b s.next res res') (henv : noE s.next s.env) (hmem : noM b s.next s.mem) (h : CallV C.P C.G g args m ⟨1, []⟩ res m' none)
    (k : ex C n r ((⟨s.env, (b, m') :: dropM s.next s.mem, s.next⟩ : AS).put d res') Q) : callF C n r s Q g as d := by
  refine callF_big h.enters ?_ k
  exact callG_own2 (M0' := m') (M1' := none) (M1 := ⟨1, []⟩) b s.next hne hM h0 (.inr ⟨Nat.le_refl _, hnone, rfl⟩) (.inl rfl) (MR.cl fun r hr a ha => .cl (hcm r hr a ha) (.refl _)) (MR.cl fun r hr => by cases hr) has henv hmem h (MR.cl fun r hr a ha => .cl (hcm' r hr a ha)) (.inl ⟨rfl, rfl⟩) hres
end
end Go.Ax

namespace Go.Ax
open Go Go.RowKit
structure Iv where
  lo : Dy
  hi : Dy
  h : lo.v ≤ hi.v
theorem Iv.eq {a b : Iv} (h1 : a.lo = b.lo) (h2 : a.hi = b.hi) : a = b := by
  cases a; cases b; simp_all
theorem Iv.same {a b : Iv} : (a.lo = b.lo ∧ a.hi = b.hi) ↔ a = b := ⟨fun h => Iv.eq h.1 h.2, fun h => by subst h; exact ⟨rfl, rfl⟩⟩
def Iv.Mg (k : Nat) (a : Iv) : Prop := Ax.Mg k a.lo ∧ Ax.Mg k a.hi
theorem Iv.Mg.mono {k k' : Nat} {a : Iv} (h : a.Mg k) (hk : k ≤ k') : a.Mg k' := ⟨h.1.mono hk, h.2.mono hk⟩
theorem min_le_l (x y : Dy) : (x.min y).v ≤ x.v := by rw [Dy.v_min]; split <;> grind
theorem min_le_r (x y : Dy) : (x.min y).v ≤ y.v := by rw [Dy.v_min]; split <;> grind
theorem le_max_l (x y : Dy) : x.v ≤ (x.max y).v := by rw [Dy.v_max]; split <;> grind
theorem le_max_r (x y : Dy) : y.v ≤ (x.max y).v := by rw [Dy.v_max]; split <;> grind
theorem le_min {x y z : Dy} (h1 : z.v ≤ x.v) (h2 : z.v ≤ y.v) : z.v ≤ (x.min y).v := by rw [Dy.v_min]; split <;> grind
theorem max_le {x y z : Dy} (h1 : x.v ≤ z.v) (h2 : y.v ≤ z.v) : (x.max y).v ≤ z.v := by rw [Dy.v_max]; split <;> grind
def Iv.zero : Iv := ⟨Dy.zero, Dy.zero, by grind⟩
def Iv.sp2 (x y : Dy) : Iv := ⟨x.min y, x.max y, min_le_max x y⟩
def Iv.sp4 (x y z w : Dy) : Iv := ⟨((x.min y).min z).min w, ((x.max y).max z).max w, by
  have := min_le_r ((x.min y).min z) w; have := le_max_r ((x.max y).max z) w; grind⟩
def Iv.neg (a : Iv) : Iv := ⟨a.hi.neg, a.lo.neg, by rw [Dy.v_neg, Dy.v_neg]; have := a.h; grind⟩
theorem abs_nn (x : Dy) : 0 ≤ x.abs.v := by rw [Dy.v_abs]; split <;> grind
def Iv.abs (a : Iv) : Iv := if a.lo.v < 0 ∧ 0 < a.hi.v then ⟨Dy.zero, a.lo.abs.max a.hi.abs, by rw [Dy.v_zero]; have := abs_nn a.lo; have := le_max_l a.lo.abs a.hi.abs; grind⟩ else Iv.sp2 a.lo.abs a.hi.abs
def Iv.add (a b : Iv) : Iv := ⟨a.lo.add b.lo, a.hi.add b.hi, by rw [Dy.v_add, Dy.v_add]; have := a.h; have := b.h; grind⟩
def Iv.sub (a b : Iv) : Iv := a.add b.neg
def Iv.mul (a b : Iv) : Iv := Iv.sp4 (a.lo.mul b.lo) (a.lo.mul b.hi) (a.hi.mul b.lo) (a.hi.mul b.hi)
def Iv.min (a b : Iv) : Iv := ⟨a.lo.min b.lo, a.hi.min b.hi, le_min (by have := min_le_l a.lo b.lo; have := a.h; grind) (by have := min_le_r a.lo b.lo; have := b.h; grind)⟩
def Iv.max (a b : Iv) : Iv := ⟨a.lo.max b.lo, a.hi.max b.hi, max_le (by have := le_max_l a.hi b.hi; have := a.h; grind) (by have := le_max_r a.hi b.hi; have := b.h; grind)⟩
def Iv.wide (a : Iv) (x : Dy) : Iv := Iv.add a (Iv.sp2 x x.neg)
def Iv.ins (a b : Iv) : Bool := decide (b.lo.v ≤ a.lo.v ∧ a.hi.v ≤ b.hi.v)
def Iv.has (a : Iv) (x : Dy) : Bool := decide (a.lo.v ≤ x.v ∧ x.v ≤ a.hi.v)
theorem Iv.Mg.sp2 {k : Nat} {x y : Dy} (h : Ax.Mg k x) (g : Ax.Mg k y) : (Iv.sp2 x y).Mg k := ⟨h.min g, h.max g⟩
theorem Iv.Mg.sp4 {k : Nat} {x y z w : Dy} (h : Ax.Mg k x) (g : Ax.Mg k y) (i : Ax.Mg k z) (j : Ax.Mg k w) : (Iv.sp4 x y z w).Mg k := ⟨((h.min g).min i).min j, ((h.max g).max i).max j⟩
theorem Iv.Mg.zero (k : Nat) : Iv.zero.Mg k := ⟨Ax.Mg.zero k, Ax.Mg.zero k⟩
theorem Iv.Mg.neg {k : Nat} {a : Iv} (h : a.Mg k) : a.neg.Mg k := ⟨h.2.neg, h.1.neg⟩
theorem Iv.Mg.abs {k : Nat} {a : Iv} (h : a.Mg k) : a.abs.Mg k := by
  unfold Iv.abs; split
  · exact ⟨Ax.Mg.zero k, h.1.abs.max h.2.abs⟩
  · exact .sp2 h.1.abs h.2.abs
theorem Iv.Mg.add {k : Nat} {a b : Iv} (h : a.Mg k) (g : b.Mg k) : (a.add b).Mg (k + 1) := ⟨h.1.add g.1, h.2.add g.2⟩
theorem Iv.Mg.sub {k : Nat} {a b : Iv} (h : a.Mg k) (g : b.Mg k) : (a.sub b).Mg (k + 1) := h.add g.neg
theorem Iv.Mg.mul {k l : Nat} {a b : Iv} (h : a.Mg k) (g : b.Mg l) : (a.mul b).Mg (k + l) := .sp4 (h.1.mul g.1) (h.1.mul g.2) (h.2.mul g.1) (h.2.mul g.2)
theorem Iv.Mg.min {k : Nat} {a b : Iv} (h : a.Mg k) (g : b.Mg k) : (a.min b).Mg k := ⟨h.1.min g.1, h.2.min g.2⟩
theorem Iv.Mg.max {k : Nat} {a b : Iv} (h : a.Mg k) (g : b.Mg k) : (a.max b).Mg k := ⟨h.1.max g.1, h.2.max g.2⟩
def okI (s : Bool) (ws : List Nat) (d : Int) (s' : Bool) (ws' : List Nat) (d' : Int) (x y : Dy) : Prop := (validR s ws d = true ∧ validR s' ws' d' = true) ∧ x.v ≤ y.v
instance (s : Bool) (ws : List Nat) (d : Int) (s' : Bool) (ws' : List Nat) (d' : Int) (x y : Dy) : Decidable (okI s ws d s' ws' d' x y) := inferInstanceAs (Decidable (_ ∧ _))
structure IArg (s : Bool) (ws : List Nat) (d : Int) (s' : Bool) (ws' : List Nat) (d' : Int) (x y : Dy) (a : Iv) : Prop where
  px : Arg s ws d x
  py : Arg s' ws' d' y
  is : (okI s ws d s' ws' d' x y ∧ a.lo = x ∧ a.hi = y) ∨ (¬ okI s ws d s' ws' d' x y ∧ a = Iv.zero)
theorem IArg.get {s : Bool} {ws : List Nat} {d : Int} {s' : Bool} {ws' : List Nat} {d' : Int} {x y : Dy} (h : Arg s ws d x) (g : Arg s' ws' d' y) : ∃ a, IArg s ws d s' ws' d' x y a := by
  by_cases ho : okI s ws d s' ws' d' x y
  · exact ⟨⟨x, y, ho.2⟩, h, g, .inl ⟨ho, rfl, rfl⟩⟩
  · exact ⟨Iv.zero, h, g, .inr ⟨ho, rfl⟩⟩
theorem IArg.of {a : Iv} {k : Nat} (h : a.Mg k) (hk : k ≤ 1099511627776 := by omega) : IArg (sg a.lo) (ms a.lo) (dn a.lo) (sg a.hi) (ms a.hi) (dn a.hi) a.lo a.hi a :=
  ⟨Arg.of h.1 hk, Arg.of h.2 hk, .inl ⟨⟨⟨valid_of _, valid_of _⟩, a.h⟩, rfl, rfl⟩⟩
section
variable {s : Bool} {ws : List Nat} {d : Int} {s' : Bool} {ws' : List Nat} {d' : Int} {x y : Dy} {a : Iv}
theorem IArg.lo (h : IArg s ws d s' ws' d' x y a) : Arg (sg a.lo) (ms a.lo) (dn a.lo) a.lo := by
  rcases h.is with ⟨_, h1, _⟩ | ⟨_, h1⟩
  · rw [h1]; exact ⟨ms_wd x, h.px.mlen, .inl ⟨valid_of x, rfl, rfl, rfl⟩⟩
  · rw [h1]; exact Arg.of (Ax.Mg.zero 1) (by omega)
theorem IArg.hi (h : IArg s ws d s' ws' d' x y a) : Arg (sg a.hi) (ms a.hi) (dn a.hi) a.hi := by
  rcases h.is with ⟨_, _, h1⟩ | ⟨_, h1⟩
  · rw [h1]; exact ⟨ms_wd y, h.py.mlen, .inl ⟨valid_of y, rfl, rfl, rfl⟩⟩
  · rw [h1]; exact Arg.of (Ax.Mg.zero 1) (by omega)
theorem IArg.mg {k : Nat} (h : IArg s ws d s' ws' d' x y a) (gx : Ax.Mg k x) (gy : Ax.Mg k y) : a.Mg k := by
  rcases h.is with ⟨_, h1, h2⟩ | ⟨_, h1⟩
  · unfold Iv.Mg; rw [h1, h2]; exact ⟨gx, gy⟩
  · rw [h1]; exact .zero k
theorem IArg.den {k : Nat} (h : IArg s ws d s' ws' d' x y a) (gx : x.d ≤ k) (gy : y.d ≤ k) : a.lo.d ≤ k ∧ a.hi.d ≤ k := by
  rcases h.is with ⟨_, h1, h2⟩ | ⟨_, h1⟩
  · rw [h1, h2]; exact ⟨gx, gy⟩
  · rw [h1]; exact ⟨Nat.zero_le _, Nat.zero_le _⟩
end
theorem ok_of (a : Iv) : okI (sg a.lo) (ms a.lo) (dn a.lo) (sg a.hi) (ms a.hi) (dn a.hi) a.lo a.hi := ⟨⟨valid_of _, valid_of _⟩, a.h⟩
abbrev ilit : AV := .agg [.v (.bool false), .v (.slice none 0 0), .v (.int .i64 0), .v (.bool false), .v (.slice none 0 0), .v (.int .i64 0)]
theorem Cl.ilit : Cl ilit := Cl.agg (fun a ha => by
  simp only [List.mem_cons, List.not_mem_nil, or_false] at ha
  rcases ha with rfl | rfl | rfl | rfl | rfl | rfl <;> exact Cl.v _)
theorem Arg.can {s : Bool} {ws : List Nat} {d : Int} {x : Dy} (h : Arg s ws d x) : Arg (sg x) (ms x) (dn x) x := ⟨ms_wd x, h.mlen, .inl ⟨valid_of x, rfl, rfl, rfl⟩⟩
theorem IArg.mk' {a : Iv} (h : Arg (sg a.lo) (ms a.lo) (dn a.lo) a.lo) (g : Arg (sg a.hi) (ms a.hi) (dn a.hi) a.hi) : IArg (sg a.lo) (ms a.lo) (dn a.lo) (sg a.hi) (ms a.hi) (dn a.hi) a.lo a.hi a :=
  ⟨h, g, .inl ⟨ok_of a, rfl, rfl⟩⟩
section
variable {s : Bool} {ws : List Nat} {d : Int} {s' : Bool} {ws' : List Nat} {d' : Int} {x y : Dy} {a : Iv}
theorem IArg.can (h : IArg s ws d s' ws' d' x y a) : IArg (sg a.lo) (ms a.lo) (dn a.lo) (sg a.hi) (ms a.hi) (dn a.hi) a.lo a.hi a := .mk' h.lo h.hi
variable {s2 : Bool} {ws2 : List Nat} {d2 : Int} {s2' : Bool} {ws2' : List Nat} {d2' : Int} {x2 y2 : Dy} {b : Iv}
end
theorem sign_lt0 (x : Dy) : x.sign < 0 ↔ x.v < 0 := by rw [Dy.sign_v]; split <;> (try split) <;> grind
end Go.Ax

namespace Go.Ax
open Go Go.RowKit
def Iv.On (a : Iv) (x : Dy) : Prop := a.lo.v ≤ x.v ∧ x.v ≤ a.hi.v
theorem Iv.On.has {a : Iv} {x : Dy} (h : a.On x) : a.has x = true := decide_eq_true h
end Go.Ax

namespace Go.Ax
open Go Go.RowKit
section
variable {C : Cx} {n : Nat} {r : List It} {s s' : AS} {Q : Lab → AS → Prop}
theorem loop_weak {c : Code} (hw : Weak s s') (hle : s.next ≤ s'.next) (h : loopThen C n r s' Q c) : loopThen C n r s Q c := by
  obtain ⟨I, ⟨m0, s0, hI, hw0, ha⟩, hstep⟩ := h
  exact ⟨I, ⟨m0, s0, hI, Weak.trans hw hle hw0, fun h1 h2 => ha h1 (Nat.lt_of_lt_of_le h2 hle)⟩, hstep⟩
theorem Weak.trans0 {s s1 s2 : AS} (h : Weak s s1) (h1 : 0 < s1.next) (k : Weak s1 s2) : Weak s s2 := by
  intro D S0 w0 σ S w hF h0
  obtain ⟨σ', S', g1, g2⟩ := h D S0 w0 σ S w hF (fun _ => h1)
  obtain ⟨σ2, S2, k1, k2⟩ := k D S0 w0 σ' S' w g1 h0
  exact ⟨σ2, S2, k1, fun a ha => k2 a (g2 a ha)⟩
theorem loop_weak0 {c : Code} (hw : Weak s s') (h0 : 0 < s'.next) (h : loopThen C n r s' Q c) : loopThen C n r s Q c := by
  obtain ⟨I, ⟨m0, s0, hI, hw0, ha⟩, hstep⟩ := h
  exact ⟨I, ⟨m0, s0, hI, Weak.trans0 hw h0 hw0, fun h1 _ => ha h1 h0⟩, hstep⟩
end
end Go.Ax

namespace Go.Ax
open Go Go.RowKit
structure BS where
  ln : Int
  ld : Int
  hn : Int
  hd : Int
  hl : Bool
  hh : Bool
  no : Bool
def BS.zero : BS := ⟨0, 0, 0, 0, false, false, false⟩
def BS.add (b : BS) (k c : Int) : BS :=
  if k = 0 then ⟨b.ln, b.ld, b.hn, b.hd, b.hl, b.hh, b.no || decide (c < 0)⟩
  else if 0 < k then (if b.hh = false ∨ c * b.hd < b.hn * k then ⟨b.ln, b.ld, c, k, b.hl, true, b.no⟩ else b)
  else (if b.hl = false ∨ b.ln * -k < -c * b.ld then ⟨-c, -k, b.hn, b.hd, true, b.hh, b.no⟩ else b)
def BS.of (C : List (Int × Int)) : BS := C.foldl (fun b p => b.add p.1 p.2) BS.zero
def BS.Sm (m : Nat) (b : BS) : Prop := b.ln.natAbs < 2 ^ m ∧ b.ld.natAbs < 2 ^ m ∧ b.hn.natAbs < 2 ^ m ∧ b.hd.natAbs < 2 ^ m
theorem BS.Sm.add {m : Nat} {b : BS} {k c : Int} (h : b.Sm m) (hk : k.natAbs < 2 ^ m) (hc : c.natAbs < 2 ^ m) : (b.add k c).Sm m := by
  obtain ⟨h1, h2, h3, h4⟩ := h
  unfold BS.add
  split
  · exact ⟨h1, h2, h3, h4⟩
  · split
    · split
      · exact ⟨h1, h2, hc, hk⟩
      · exact ⟨h1, h2, h3, h4⟩
    · split
      · exact ⟨by show (-c).natAbs < _; rw [Int.natAbs_neg]; exact hc, by show (-k).natAbs < _; rw [Int.natAbs_neg]; exact hk, h3, h4⟩
      · exact ⟨h1, h2, h3, h4⟩
theorem BS.Sm.zero (m : Nat) : BS.zero.Sm m := by have : 0 < 2 ^ m := Nat.pow_pos (by omega); exact ⟨this, this, this, this⟩
theorem BS.Sm.of {m : Nat} {C : List (Int × Int)} (h : ∀ p ∈ C, p.1.natAbs < 2 ^ m ∧ p.2.natAbs < 2 ^ m) : (BS.of C).Sm m := by
  have : ∀ (C : List (Int × Int)) (b : BS), b.Sm m → (∀ p ∈ C, p.1.natAbs < 2 ^ m ∧ p.2.natAbs < 2 ^ m) → (C.foldl (fun b p => b.add p.1 p.2) b).Sm m := by
    intro C
    induction C with
    | nil => intro b hb _; exact hb
    | cons p C ih => intro b hb hC; exact ih _ (hb.add (hC p (List.mem_cons_self ..)).1 (hC p (List.mem_cons_self ..)).2) (fun q hq => hC q (List.mem_cons_of_mem _ hq))
  exact this C _ (.zero m) h
structure BInv (C : List (Int × Int)) (b : BS) : Prop where
  no : b.no = true ↔ ∃ c, (0, c) ∈ C ∧ c < 0
  hh : b.hh = true ↔ ∃ k c, (k, c) ∈ C ∧ 0 < k
  hl : b.hl = true ↔ ∃ k c, (k, c) ∈ C ∧ k < 0
  hi : b.hh = true → 0 < b.hd ∧ (b.hd, b.hn) ∈ C ∧ ∀ k c, (k, c) ∈ C → 0 < k → b.hn * k ≤ c * b.hd
  lo : b.hl = true → 0 < b.ld ∧ (-b.ld, -b.ln) ∈ C ∧ ∀ k c, (k, c) ∈ C → k < 0 → -c * b.ld ≤ b.ln * -k
theorem BInv.zero : BInv [] BS.zero := ⟨by simp [BS.zero], by simp [BS.zero], by simp [BS.zero], by simp [BS.zero], by simp [BS.zero]⟩
theorem cross_trans {a b c d e f : Int} (hb : 0 < b) (hd : 0 < d) (hf : 0 < f) (h1 : a * d ≤ c * b) (h2 : c * f ≤ e * d) : a * f ≤ e * b := by
  have q1 : a * d * f ≤ c * b * f := Int.mul_le_mul_of_nonneg_right h1 (by omega)
  have q2 : c * f * b ≤ e * d * b := Int.mul_le_mul_of_nonneg_right h2 (by omega)
  have e1 : a * d * f = a * f * d := by rw [Int.mul_right_comm]
  have e2 : c * b * f = c * f * b := by rw [Int.mul_right_comm]
  have e3 : e * d * b = e * b * d := by rw [Int.mul_right_comm]
  rw [e1, e2] at q1
  rw [e3] at q2
  exact Int.le_of_mul_le_mul_right (Int.le_trans q1 q2) hd
theorem BInv.add {C : List (Int × Int)} {b : BS} (h : BInv C b) (k c : Int) : BInv (C ++ [(k, c)]) (b.add k c) := by
  obtain ⟨i1, i2, i3, i4, i5⟩ := h
  have mem : ∀ p, p ∈ C ++ [(k, c)] ↔ p ∈ C ∨ p = (k, c) := fun p => by simp
  unfold BS.add
  rcases Int.lt_trichotomy k 0 with hk | hk | hk
  · rw [if_neg (by omega), if_neg (by omega)]
    have j1 : (∃ c', (0, c') ∈ C ++ [(k, c)] ∧ c' < 0) ↔ ∃ c', (0, c') ∈ C ∧ c' < 0 := by
      constructor
      · rintro ⟨c', h1, h2⟩
        rcases (mem _).1 h1 with h1 | h1
        · exact ⟨c', h1, h2⟩
        · injection h1 with h1; omega
      · rintro ⟨c', h1, h2⟩; exact ⟨c', (mem _).2 (.inl h1), h2⟩
    have j2 : (∃ k' c', (k', c') ∈ C ++ [(k, c)] ∧ 0 < k') ↔ ∃ k' c', (k', c') ∈ C ∧ 0 < k' := by
      constructor
      · rintro ⟨k', c', h1, h2⟩
        rcases (mem _).1 h1 with h1 | h1
        · exact ⟨k', c', h1, h2⟩
        · injection h1 with h1; omega
      · rintro ⟨k', c', h1, h2⟩; exact ⟨k', c', (mem _).2 (.inl h1), h2⟩
    have j3 : ∃ k' c', (k', c') ∈ C ++ [(k, c)] ∧ k' < 0 := ⟨k, c, (mem _).2 (.inr rfl), hk⟩
    have j4 : b.hh = true → 0 < b.hd ∧ (b.hd, b.hn) ∈ C ++ [(k, c)] ∧ ∀ k' c', (k', c') ∈ C ++ [(k, c)] → 0 < k' → b.hn * k' ≤ c' * b.hd := fun h => by
      obtain ⟨q1, q2, q3⟩ := i4 h
      refine ⟨q1, (mem _).2 (.inl q2), fun k' c' h1 h2 => ?_⟩
      rcases (mem _).1 h1 with h1 | h1
      · exact q3 k' c' h1 h2
      · injection h1 with h1; omega
    split
    · rename_i hc
      refine ⟨i1.trans j1.symm, i2.trans j2.symm, ⟨fun _ => j3, fun _ => rfl⟩, j4, fun _ => ⟨by show 0 < -k; omega, ?_, fun k' c' h1 h2 => ?_⟩⟩
      · show (- -k, - -c) ∈ _
        rw [Int.neg_neg, Int.neg_neg]; exact (mem _).2 (.inr rfl)
      · show -c' * -k ≤ -c * -k'
        rcases (mem _).1 h1 with h1 | h1
        · have hb : b.hl = true := i3.2 ⟨k', c', h1, h2⟩
          obtain ⟨q1, q2, q3⟩ := i5 hb
          have q4 := q3 k' c' h1 h2
          rcases hc with hc | hc
          · rw [hb] at hc; cases hc
          · exact cross_trans (b := -k') (d := b.ld) (f := -k) (c := b.ln) (e := -c) (by omega) q1 (by omega) q4 (by omega)
        · injection h1 with h1 h3; subst h1 h3; exact Int.le_refl _
    · rename_i hc
      have hb : b.hl = true := by
        cases hb : b.hl
        · exact absurd (.inl hb) hc
        · rfl
      have hc2 : ¬ b.ln * -k < -c * b.ld := fun h => hc (.inr h)
      refine ⟨i1.trans j1.symm, i2.trans j2.symm, ⟨fun _ => j3, fun _ => hb⟩, j4, fun _ => ?_⟩
      obtain ⟨q1, q2, q3⟩ := i5 hb
      refine ⟨q1, (mem _).2 (.inl q2), fun k' c' h1 h2 => ?_⟩
      rcases (mem _).1 h1 with h1 | h1
      · exact q3 k' c' h1 h2
      · injection h1 with h1 h3; subst h1 h3; omega
  · subst hk
    rw [if_pos rfl]
    have j1 : (∃ c', (0, c') ∈ C ++ [(0, c)] ∧ c' < 0) ↔ (∃ c', (0, c') ∈ C ∧ c' < 0) ∨ c < 0 := by
      constructor
      · rintro ⟨c', h1, h2⟩
        rcases (mem _).1 h1 with h1 | h1
        · exact .inl ⟨c', h1, h2⟩
        · injection h1 with h1 h3; subst h3; exact .inr h2
      · rintro (⟨c', h1, h2⟩ | h)
        · exact ⟨c', (mem _).2 (.inl h1), h2⟩
        · exact ⟨c, (mem _).2 (.inr rfl), h⟩
    have j2 : (∃ k' c', (k', c') ∈ C ++ [(0, c)] ∧ 0 < k') ↔ ∃ k' c', (k', c') ∈ C ∧ 0 < k' := by
      constructor
      · rintro ⟨k', c', h1, h2⟩
        rcases (mem _).1 h1 with h1 | h1
        · exact ⟨k', c', h1, h2⟩
        · injection h1 with h1; omega
      · rintro ⟨k', c', h1, h2⟩; exact ⟨k', c', (mem _).2 (.inl h1), h2⟩
    have j3 : (∃ k' c', (k', c') ∈ C ++ [(0, c)] ∧ k' < 0) ↔ ∃ k' c', (k', c') ∈ C ∧ k' < 0 := by
      constructor
      · rintro ⟨k', c', h1, h2⟩
        rcases (mem _).1 h1 with h1 | h1
        · exact ⟨k', c', h1, h2⟩
        · injection h1 with h1; omega
      · rintro ⟨k', c', h1, h2⟩; exact ⟨k', c', (mem _).2 (.inl h1), h2⟩
    refine ⟨?_, i2.trans j2.symm, i3.trans j3.symm, fun h => ?_, fun h => ?_⟩
    · show (b.no || decide (c < 0)) = true ↔ _
      rw [Bool.or_eq_true, decide_eq_true_eq, j1, i1]
    · obtain ⟨q1, q2, q3⟩ := i4 h
      refine ⟨q1, (mem _).2 (.inl q2), fun k' c' h1 h2 => ?_⟩
      rcases (mem _).1 h1 with h1 | h1
      · exact q3 k' c' h1 h2
      · injection h1 with h1; omega
    · obtain ⟨q1, q2, q3⟩ := i5 h
      refine ⟨q1, (mem _).2 (.inl q2), fun k' c' h1 h2 => ?_⟩
      rcases (mem _).1 h1 with h1 | h1
      · exact q3 k' c' h1 h2
      · injection h1 with h1; omega
  · rw [if_neg (by omega), if_pos hk]
    have j1 : (∃ c', (0, c') ∈ C ++ [(k, c)] ∧ c' < 0) ↔ ∃ c', (0, c') ∈ C ∧ c' < 0 := by
      constructor
      · rintro ⟨c', h1, h2⟩
        rcases (mem _).1 h1 with h1 | h1
        · exact ⟨c', h1, h2⟩
        · injection h1 with h1; omega
      · rintro ⟨c', h1, h2⟩; exact ⟨c', (mem _).2 (.inl h1), h2⟩
    have j2 : ∃ k' c', (k', c') ∈ C ++ [(k, c)] ∧ 0 < k' := ⟨k, c, (mem _).2 (.inr rfl), hk⟩
    have j3 : (∃ k' c', (k', c') ∈ C ++ [(k, c)] ∧ k' < 0) ↔ ∃ k' c', (k', c') ∈ C ∧ k' < 0 := by
      constructor
      · rintro ⟨k', c', h1, h2⟩
        rcases (mem _).1 h1 with h1 | h1
        · exact ⟨k', c', h1, h2⟩
        · injection h1 with h1; omega
      · rintro ⟨k', c', h1, h2⟩; exact ⟨k', c', (mem _).2 (.inl h1), h2⟩
    have j5 : b.hl = true → 0 < b.ld ∧ (-b.ld, -b.ln) ∈ C ++ [(k, c)] ∧ ∀ k' c', (k', c') ∈ C ++ [(k, c)] → k' < 0 → -c' * b.ld ≤ b.ln * -k' := fun h => by
      obtain ⟨q1, q2, q3⟩ := i5 h
      refine ⟨q1, (mem _).2 (.inl q2), fun k' c' h1 h2 => ?_⟩
      rcases (mem _).1 h1 with h1 | h1
      · exact q3 k' c' h1 h2
      · injection h1 with h1; omega
    split
    · rename_i hc
      refine ⟨i1.trans j1.symm, ⟨fun _ => j2, fun _ => rfl⟩, i3.trans j3.symm, fun _ => ⟨hk, (mem _).2 (.inr rfl), fun k' c' h1 h2 => ?_⟩, j5⟩
      show c * k' ≤ c' * k
      rcases (mem _).1 h1 with h1 | h1
      · have hb : b.hh = true := i2.2 ⟨k', c', h1, h2⟩
        obtain ⟨q1, q2, q3⟩ := i4 hb
        have q4 := q3 k' c' h1 h2
        rcases hc with hc | hc
        · rw [hb] at hc; cases hc
        · exact cross_trans (b := k) (d := b.hd) (f := k') (c := b.hn) (e := c') hk q1 h2 (by omega) q4
      · injection h1 with h1 h3; subst h1 h3; exact Int.le_refl _
    · rename_i hc
      have hb : b.hh = true := by
        cases hb : b.hh
        · exact absurd (.inl hb) hc
        · rfl
      have hc2 : ¬ c * b.hd < b.hn * k := fun h => hc (.inr h)
      refine ⟨i1.trans j1.symm, ⟨fun _ => j2, fun _ => hb⟩, i3.trans j3.symm, fun _ => ?_, j5⟩
      obtain ⟨q1, q2, q3⟩ := i4 hb
      refine ⟨q1, (mem _).2 (.inl q2), fun k' c' h1 h2 => ?_⟩
      rcases (mem _).1 h1 with h1 | h1
      · exact q3 k' c' h1 h2
      · injection h1 with h1 h3; subst h1 h3; omega
theorem BInv.of (C : List (Int × Int)) : BInv C (BS.of C) := by
  have : ∀ (l C0 : List (Int × Int)) (b : BS), BInv C0 b → BInv (C0 ++ l) (l.foldl (fun b p => b.add p.1 p.2) b) := by
    intro l
    induction l with
    | nil => intro C0 b h; simpa using h
    | cons p l ih =>
      intro C0 b h
      have := ih (C0 ++ [p]) _ (h.add p.1 p.2)
      rwa [List.append_assoc] at this
  have h := this C [] _ .zero
  rwa [List.nil_append] at h
def Fit1 (C : List (Int × Int)) (u : Rat) : Prop := ∀ k c, (k, c) ∈ C → (k : Rat) * u ≤ c
inductive Out where
  | bad
  | wide
  | iv (ln ld hn hd : Int)
inductive OutOK (F : Rat → Prop) : Out → Prop
  | bad (h : ∀ u, ¬ F u) : OutOK F .bad
  | wide (h : ∃ u, F u) (g : ∀ lo hi : Rat, ∃ u, F u ∧ (u < lo ∨ hi < u)) : OutOK F .wide
  | iv {ln ld hn hd : Int} (h1 : 0 < ld) (h2 : 0 < hd) (h3 : ln * hd ≤ hn * ld) (h : ∀ u, F u ↔ (ln : Rat) ≤ u * ld ∧ u * hd ≤ (hn : Rat)) : OutOK F (.iv ln ld hn hd)
theorem icast_lt {a b : Int} : ((a : Int) : Rat) < (b : Rat) ↔ a < b := Rat.intCast_lt_intCast
theorem icast_pos {a : Int} (h : 0 < a) : (0 : Rat) < (a : Rat) := by have := icast_lt.2 h; simpa using this
theorem mul_le_pos {a b c : Rat} (hc : 0 < c) (h : a ≤ b) : a * c ≤ b * c := Rat.mul_le_mul_of_nonneg_right h (Rat.le_of_lt hc)
def qd (n d : Int) : Dy := (Dy.int n).quo (Dy.int d) 16
def Out.err : Out → Int
  | .bad => 23
  | .wide => 22
  | .iv _ _ _ _ => 0
def Out.lo : Out → Dy
  | .iv ln ld _ _ => qd ln ld
  | _ => Dy.zero
def Out.hi : Out → Dy
  | .iv _ _ hn hd => (qd (-hn) hd).neg
  | _ => Dy.zero
theorem OutOK.congr {F G : Rat → Prop} {o : Out} (h : OutOK F o) (hfg : ∀ u, F u ↔ G u) : OutOK G o := by
  have : F = G := funext fun u => propext (hfg u)
  rw [← this]; exact h
end Go.Ax

namespace Go.Ax
open Go Go.RowKit
end Go.Ax

namespace Go.Ax
open Go Go.RowKit
section
variable {P : Program} {w : World}
theorem run_copy {t tx ty e : TypeId} {i : TypeInfo} (ht : P.underlying t = some (.slice e)) (hi : P.info? e = some i) (k sLen sCap : Nat) (x : Value) (n : Nat) (news : List Value) (hs : Src P i.size tx x n news w)
    (cur : Array Value) (et : TypeId) (hg : w.heap[k]? = some (.cells cur et (0, 0))) (hle : n ≤ sLen) (hfit : news.length ≤ cur.size) :
    (Builtin.copy_ #[t, tx] ty #[.slice (some ⟨k, 0, none⟩) sLen sCap, x]).run P w = .ok (goInt n) (w.setRow k (news ++ cur.toList.drop news.length).toArray) := by
  have hst := run_storeCells_at P k 0 et news 0 cur w hg (by simpa using hfit) hs.one
  simp only [Nat.add_zero, Nat.zero_add, List.take_zero, List.nil_append] at hst
  have hmin : Nat.min n sLen = n := Nat.min_eq_left hle
  simp [Builtin.copy_, run_underlying ht, sizeOf, typeInfo, hi, hs.len, hs.cells, hst, hmin]
end
section
variable {C : Cx} {s : AS} {o : Oper}
theorem exec_copy {x y : Operand} {t tx : TypeId} (ho : o.op = .call ⟨.builtin .copy, #[x, y], #[t, tx]⟩) {P : Program} {w w' : World} {a : Act} {v : Value} (h : (Builtin.copy_ #[t, tx] o.type #[a.eval x, a.eval y]).run P w = .ok v w') :
    (execOp a.eval o).run P w = .ok (.value v) w' := by
  have e : (execOp a.eval o).run P w = (builtin .copy #[t, tx] o.type (#[x, y].map fun | .const _ => true | _ => false) (#[x, y].map a.eval)).run P w := by
    simp [execOp, ho, resolve, invoke]; rfl
  rw [e]
  simp [builtin, h]
theorem big_copy (hT : TypesOK C.P C.ti) {x y : Operand} {t tx e : TypeId} {q1 q2 : Nat} {q3 : List Z} {z : TyI} (ho : o.op = .call ⟨.builtin .copy, #[x, y], #[t, tx]⟩) (ht : C.ti t = some ⟨q1, q2, q3, .slc e⟩) (hz : C.ti e = some z) (htx : isSlcT (C.ti tx) = true)
    {b sz k : Nat} {m : MB} {rows : List (List AV)} (hx : ev s x = some (.ps b sz 0 k)) (hm : look s.mem b = some m) (hy : srcA s.mem sz (ev s y) = some (True, rows))
    (hc : z.size = sz ∧ m.sz = sz ∧ 0 < sz) (hk : 0 < k ∧ rows.length ≤ k ∧ k ≤ m.rows.length) (hrows : RowsOK b sz rows) :
    OpG C s o ⟨s.env, (b, ⟨sz, rows ++ m.rows.drop rows.length⟩) :: s.mem, s.next⟩ (.v (.int .i64 rows.length)) := by
  intro D S0 w0 σ S a w K Q hG hF hE hK
  obtain ⟨c1, c2, c3⟩ := hc
  obtain ⟨p1, p2, p3⟩ := hk
  obtain ⟨i, d, h1, h2, h3, h4, h5, h6⟩ := underlying_of hT ht
  have hd := slc_desc h5
  subst hd
  obtain ⟨i', d', g1, g2, g3, g4, g5, ⟨zv, hz1, hz2, hz3⟩, g7⟩ := underlying_of hT hz
  cases hyv : ev s y with
  | none => rw [hyv] at hy; simp [srcA] at hy
  | some av =>
  rw [hyv] at hy
  have hyr := ev_rel hE hyv
  obtain ⟨news, hs, hn⟩ := src_spec (P := C.P) hT hF htx (size := sz) (b := b) c3 hyr hy trivial hrows
  have hisz : i'.size = sz := by rw [g3, c1]
  have hnl : news.length = rows.length * sz := hs.newsLen
  have hxr := ev_rel hE hx
  rcases rel_ps hxr with ⟨hx1, h0⟩ | ⟨kk, off, cap, f1, f2, f3, f4, f5⟩
  · omega
  · obtain ⟨cc, ee, ff, f5, f6⟩ := f5
    obtain ⟨k0, c0, e0, u1, u2, u3, u4, u5, u6, u7⟩ := (hF.mem b m hm).named f1
    have : k0 = kk := Option.some.inj (u1.symm.trans f1)
    subst this
    have hoff : off = 0 := by
      rcases f4 with f4 | f4
      · simpa using f4
      · omega
    subst hoff
    have hle : rows.length * sz ≤ m.rows.length * sz := Nat.mul_le_mul_right _ (by omega)
    rw [c2] at u6
    have hrun := run_copy (P := C.P) (ty := o.type) h2 g1 k0 k cap (a.eval y) rows.length news (by rw [hisz]; exact hs) c0 e0 u4 p2 (by omega)
    unfold Oper.wp
    rw [exec_copy ho (by rw [f2]; exact hrun)]
    have key := hF.set (b := b) (m := m) (m' := ⟨sz, rows ++ m.rows.drop rows.length⟩) hm f1 (c' := (news ++ c0.toList.drop news.length).toArray) u4
      (by simp; omega)
      (fun r hr => by
        rcases List.mem_append.1 hr with hr | hr
        · exact (hrows r hr).1
        · rw [← c2]; exact u5 r (List.mem_of_mem_drop hr))
      (by
        simp only [List.length_append, List.length_drop, List.size_toArray, Array.length_toList]
        rw [show rows.length + (m.rows.length - rows.length) = m.rows.length by omega]
        omega)
      (fun i r j av hi hj => by
        simp only at hi
        simp only [List.getElem?_toArray]
        rw [List.getElem?_append] at hi
        split at hi
        · obtain ⟨v, hv, hvr⟩ := hn i r j av hi hj
          have hvlt := (List.getElem?_eq_some_iff.1 hv).1
          exact ⟨v, by rw [List.getElem?_append_left hvlt]; exact hv, hvr⟩
        · rename_i hge
          rw [List.getElem?_drop] at hi
          obtain ⟨v, hv, hvr⟩ := u7 _ r j av hi hj
          rw [c2] at hv
          have hge2 : rows.length * sz ≤ i * sz := Nat.mul_le_mul_right _ (by omega)
          refine ⟨v, ?_, hvr⟩
          rw [List.getElem?_append_right (by omega), List.getElem?_drop, ← hv, show rows.length + (i - rows.length) = i by omega, show news.length + (i * sz + j - news.length) = i * sz + j by omega]
          simp)
    obtain ⟨hF', hke⟩ := key
    exact hK σ S _ _ hF' (hE.mono (fun _ _ h => h) (fun _ h => h) hke) (.v _)
end
section
variable {C : Cx} {s : AS} {n : Nat} {r : List It} {Q : Lab → AS → Prop}
theorem after_copy {d : Option Tmp} {u : TypeId} {pos : String} {af : Array Edge} {g : Option (Nat × Bool)} (hT : TypesOK C.P C.ti) {x y : Operand} {t tx e : TypeId} {q1 q2 : Nat} {q3 : List Z} {z : TyI} (ht : C.ti t = some ⟨q1, q2, q3, .slc e⟩) (hz : C.ti e = some z) (htx : isSlcT (C.ti tx) = true)
    {b sz k : Nat} {m : MB} {rows : List (List AV)} (hx : ev s x = some (.ps b sz 0 k)) (hm : look s.mem b = some m) (hy : srcA s.mem sz (ev s y) = some (True, rows))
    (hc : z.size = sz ∧ m.sz = sz ∧ 0 < sz) (hk : 0 < k ∧ rows.length ≤ k ∧ k ≤ m.rows.length) (hrows : RowsOK b sz rows)
    (kk : ex C n r ((⟨s.env, (b, ⟨sz, rows ++ m.rows.drop rows.length⟩) :: s.mem, s.next⟩ : AS).put d (.v (.int .i64 rows.length))) Q) : after C n r s Q ⟨d, .call ⟨.builtin .copy, #[x, y], #[t, tx]⟩, u, pos, af, g⟩ none :=
  after_big (big_copy hT rfl ht hz htx hx hm hy hc hk hrows) kk
end
end Go.Ax

namespace Go.Ax
open Go Go.RowKit
theorem MemAt.mle {σ : Sig} {S F : Nat → Prop} {w : World} {b : Nat} {m m' : MB} (h : MemAt σ S F w b m) (hm : MLe m m') : MemAt σ S F w b m' := by
  obtain ⟨k, c, e, h1, h2, h3, h4, h5, h6, h7⟩ := h
  obtain ⟨q1, q2, q3⟩ := hm
  refine ⟨k, c, e, h1, h2, h3, h4, fun r hr => ?_, by rw [q1, q2]; exact h6, fun i r j av hi hj => ?_⟩
  · obtain ⟨i, hi⟩ := List.getElem?_of_mem hr
    obtain ⟨r0, g1, g2, _⟩ := q3 i r hi
    rw [q1, g2]; exact h5 r0 (List.mem_of_getElem? g1)
  · obtain ⟨r0, g1, g2, g3⟩ := q3 i r hi
    obtain ⟨a0, g4, g5⟩ := g3 j av hj
    obtain ⟨x, hx, hr⟩ := h7 i r0 j a0 g1 g4
    exact ⟨x, by rw [q1]; exact hx, g5 _ _ _ _ hr⟩
theorem Weak.mle {s : AS} (b : Nat) {m : MB} (m' : MB) (hb : look s.mem b = some m) (hm : MLe m m') : Weak s ⟨s.env, (b, m') :: s.mem, s.next⟩ := by
  intro D S0 w0 σ S w hF _
  have names : ∀ c mc, look ((b, m') :: s.mem) c = some mc → (c = b ∧ mc = m') ∨ (c ≠ b ∧ look s.mem c = some mc) := fun c mc hl => by
    simp only [look] at hl
    split at hl
    · rename_i he; injection hl with hl; exact .inl ⟨he.symm, hl.symm⟩
    · rename_i he; exact .inr ⟨fun e => he e.symm, hl⟩
  have old : ∀ c mc, look ((b, m') :: s.mem) c = some mc → ∃ mc0, look s.mem c = some mc0 := fun c mc hl => by
    rcases names c mc hl with ⟨rfl, _⟩ | ⟨_, h⟩
    · exact ⟨m, hb⟩
    · exact ⟨mc, h⟩
  refine ⟨σ, S, ⟨hF.below, hF.dom, fun b1 b2 k m1 m2 h1 h2 h3 h4 => ?_, hF.sbd, hF.s0, hF.s1, hF.glob, fun c mc hl => ?_⟩, fun a hE => hE⟩
  · obtain ⟨n1, g1⟩ := old _ _ h1
    obtain ⟨n2, g2⟩ := old _ _ h2
    exact hF.inj b1 b2 k n1 n2 g1 g2 h3 h4
  · rcases names c mc hl with ⟨rfl, rfl⟩ | ⟨hne, hl⟩
    · rcases hF.mem c m hb with ⟨h1, h2⟩ | h
      · refine .inl ⟨?_, h2⟩
        have := hm.2.1
        rw [h1] at this
        exact List.length_eq_zero_iff.1 this
      · exact .inr (h.mle hm)
    · exact hF.mem c mc hl
theorem MLe.one {sz : Nat} {l l' : List AV} (h : LeL l l') : MLe ⟨sz, [l]⟩ ⟨sz, [l']⟩ := ⟨rfl, rfl, fun i r' hi => by
  cases i with
  | zero =>
    simp at hi; subst hi
    refine ⟨l, rfl, h.length.symm, fun j a' hj => h.get j a' hj⟩
  | succ i => simp at hi⟩
end Go.Ax
namespace Go.Ax
open Go Go.RowKit
theorem byRenL {b : Nat} {l l' : List AV} (h : RenL b l l' := by (repeat' (first | exact RenL.nil | refine RenL.cons ?_ ?_ | exact Ren.p _ _ _ _ | exact Ren.ps _ _ _ _ | exact Ren.cl byCl))) : RenL b l l' := h
abbrev Hf := Int × Int × Int
def E0 (l : List Hf) (k : Nat) : List (Int × Int) := ((l.take k).filter fun p => decide (p.2.1 = 0)).map fun p => (p.1, p.2.2)
def joinC (x y : Hf) : List (Int × Int) := if 0 < x.2.1 ∧ y.2.1 < 0 then [(y.1 * x.2.1 - x.1 * y.2.1, y.2.2 * x.2.1 - x.2.2 * y.2.1)] else []
def E2 (x : Hf) (l : List Hf) (j : Nat) : List (Int × Int) := (l.take j).flatMap (joinC x)
def E1 (l : List Hf) (i : Nat) : List (Int × Int) := (l.take i).flatMap fun x => E2 x l l.length
def elimC (l : List Hf) : List (Int × Int) := E0 l l.length ++ E1 l l.length
end Go.Ax
namespace Go.Ax
open Go Go.RowKit
def hv2 (f g : Int × Int → Int) (n : Int) (s : Int × Int) : List Hf := [(f s, g s, s.2 + n), (0 - f s, 0 - g s, n - s.2)]
def hv (f g : Int × Int → Int) (n : Int) (l : List (Int × Int)) : List Hf := l.flatMap (hv2 f g n)
end Go.Ax
namespace Go.Ax
open Go Go.RowKit
end Go.Ax
namespace Go.Ax
open Go Go.RowKit
end Go.Ax

namespace Go.Ax
open Go Go.RowKit
theorem mem_elimC {l : List Hf} {k c : Int} : (k, c) ∈ elimC l ↔ (∃ h ∈ l, h.2.1 = 0 ∧ k = h.1 ∧ c = h.2.2) ∨ (∃ x ∈ l, ∃ y ∈ l, (0 < x.2.1 ∧ y.2.1 < 0) ∧ k = y.1 * x.2.1 - x.1 * y.2.1 ∧ c = y.2.2 * x.2.1 - x.2.2 * y.2.1) := by
  unfold elimC E0 E1 E2
  rw [List.take_length, List.mem_append, List.mem_map, List.mem_flatMap]
  constructor
  · rintro (⟨h, h1, h2⟩ | ⟨x, hx, h⟩)
    · rw [List.mem_filter] at h1
      injection h2 with h2 h3
      exact .inl ⟨h, h1.1, by simpa using h1.2, h2.symm, h3.symm⟩
    · rw [List.mem_flatMap] at h
      obtain ⟨y, hy, h⟩ := h
      unfold joinC at h
      split at h
      · rename_i hc
        simp only [List.mem_cons, List.not_mem_nil, or_false] at h
        injection h with h1 h2
        exact .inr ⟨x, hx, y, hy, hc, h1, h2⟩
      · cases h
  · rintro (⟨h, h1, h2, rfl, rfl⟩ | ⟨x, hx, y, hy, hc, rfl, rfl⟩)
    · exact .inl ⟨h, by rw [List.mem_filter]; exact ⟨h1, by simpa using h2⟩, rfl⟩
    · refine .inr ⟨x, hx, ?_⟩
      rw [List.mem_flatMap]
      refine ⟨y, hy, ?_⟩
      unfold joinC
      rw [if_pos hc]
      simp
theorem fit_halves {l : List Hf} {u v : Rat} (h : ∀ p ∈ l, (p.1 : Rat) * u + (p.2.1 : Rat) * v ≤ (p.2.2 : Rat)) : Fit1 (elimC l) u := by
  intro k c hm
  rcases mem_elimC.1 hm with ⟨p, hp, h0, rfl, rfl⟩ | ⟨x, hx, y, hy, ⟨h1, h2⟩, rfl, rfl⟩
  · have := h p hp
    rw [h0] at this
    simp only [Rat.intCast_zero, Rat.zero_mul] at this
    grind
  · have q1 := h x hx
    have q2 := h y hy
    have p1 := icast_pos h1
    have p2 : (0 : Rat) < -(y.2.1 : Rat) := by have := icast_pos (show 0 < -y.2.1 by omega); rwa [Rat.intCast_neg] at this
    have q3 := mul_le_pos p1 q2
    have q4 := mul_le_pos p2 q1
    rw [Rat.intCast_sub, Rat.intCast_sub, Rat.intCast_mul, Rat.intCast_mul, Rat.intCast_mul, Rat.intCast_mul]
    grind
end Go.Ax

namespace Go.Ax
open Go Go.RowKit
def fitD (p q : Dy) (n : Int) (s : Int × Int) : Prop := (((Dy.int s.2).sub (p.mul (Dy.int s.1))).sub q).abs.cmp (Dy.int n) ≤ 0
instance (p q : Dy) (n : Int) (s : Int × Int) : Decidable (fitD p q n s) := inferInstanceAs (Decidable (_ ≤ _))
def fitAll (p q : Dy) (n : Int) (l : List (Int × Int)) : Prop := ∀ i, i < l.length → fitD p q n (l.getD i (0, 0))
instance (p q : Dy) (n : Int) (l : List (Int × Int)) : Decidable (fitAll p q n l) := inferInstanceAs (Decidable (∀ i, i < l.length → fitD p q n (l.getD i (0, 0))))
end Go.Ax

namespace Go.Ax
open Go Go.RowKit
theorem bit_step (a i : Nat) : a / 2 ^ i = 2 * (a / 2 ^ (i + 1)) + a / 2 ^ i % 2 := by
  rw [Nat.pow_succ, ← Nat.div_div_eq_div_mul]; omega
theorem div_bit {A b r t : Nat} (hb : 0 < b) (hr : r = A % b) : (2 * A + t) % b = (2 * r + t) % b ∧ (2 * A + t) / b = 2 * (A / b) + (2 * r + t) / b := by
  have h := Nat.div_add_mod A b
  rw [← hr] at h
  have e : 2 * A + t = (2 * r + t) + b * (2 * (A / b)) := by
    rw [← h]
    have : b * (A / b) = b * (A / b) := rfl
    have h2 : (b * (A / b) + r) / b = A / b := by rw [h]
    rw [h2, Nat.mul_add, show b * (2 * (A / b)) = 2 * (b * (A / b)) by ac_rfl]; omega
  constructor
  · rw [e, Nat.add_mul_mod_self_left]
  · rw [e, Nat.add_mul_div_left _ _ hb]; omega
theorem small_mod {b v : Nat} (h1 : b ≤ v) (h2 : v < 2 * b) : v % b = v - b ∧ v / b = 1 := by
  have : v = (v - b) + b * 1 := by omega
  constructor
  · rw [this, Nat.add_mul_mod_self_left, Nat.mod_eq_of_lt (by omega)]; omega
  · rw [this, Nat.add_mul_div_left _ _ (by omega), Nat.div_eq_of_lt (by omega)]
theorem tp32 : (4294967296 : Nat) = 2 ^ 32 := by decide
theorem val_put : ∀ {ws : List Nat} {k : Nat} {x y : Nat}, k < ws.length → ws.getD k 0 = x → val (ws.set k (x + y)) = val ws + y * 4294967296 ^ k
  | [], k, x, y, h, _ => by simp at h
  | w :: ws, 0, x, y, _, hx => by
    have : w = x := by simpa [List.getD] using hx
    subst this
    simp [val]; omega
  | w :: ws, k + 1, x, y, h, hx => by
    have ih := val_put (ws := ws) (k := k) (x := x) (y := y) (by simpa using h) (by simpa [List.getD] using hx)
    show w + 4294967296 * val (ws.set k (x + y)) = w + 4294967296 * val ws + y * 4294967296 ^ (k + 1)
    rw [ih, Nat.mul_add, Nat.pow_succ, show 4294967296 * (y * 4294967296 ^ k) = y * (4294967296 ^ k * 4294967296) by ac_rfl]
    omega
end Go.Ax
namespace Go.Ax
open Go Go.RowKit
theorem or_even {x c : Nat} (hx : x < 4294967296) (hc : c ≤ 1) : bOr .u32 ((2 * x % 4294967296 : Nat) : Int) (c : Int) = ((2 * x % 4294967296 + c : Nat) : Int) := by
  rw [or32 (Nat.mod_lt _ (by omega)) (by omega)]
  congr 1
  have e : 2 * x % 4294967296 = 2 ^ 1 * (x % 2147483648) := by omega
  rw [e]
  exact or_add (k := 1) (by omega)
theorem or_put {w t : Nat} (hw : w < 4294967296) (ht : t < 32) (h : w % 2 ^ (t + 1) = 0) : bOr .u32 (w : Int) ((2 ^ t : Nat) : Int) = ((w + 2 ^ t : Nat) : Int) ∧ w + 2 ^ t < 4294967296 := by
  have hp : 2 ^ t < 2 ^ (t + 1) := by rw [Nat.pow_succ]; have := Nat.pow_pos (n := t) (show 0 < 2 by omega); omega
  have h32 : 2 ^ (t + 1) ≤ 4294967296 := by rw [tp32]; exact Nat.pow_le_pow_right (by omega) (by omega)
  have e : w = 2 ^ (t + 1) * (w / 2 ^ (t + 1)) := by have := Nat.div_add_mod w (2 ^ (t + 1)); omega
  constructor
  · rw [or32 hw (by omega)]
    congr 1
    rw [e]
    exact or_add (k := t + 1) hp
  · obtain ⟨m, hm⟩ : ∃ m, 4294967296 = 2 ^ (t + 1) * m := ⟨2 ^ (32 - (t + 1)), by rw [← Nat.pow_add, Nat.add_sub_cancel' (by omega)]⟩
    have h1 : w / 2 ^ (t + 1) < m := by
      refine Nat.lt_of_mul_lt_mul_left (a := 2 ^ (t + 1)) ?_
      rw [← e, ← hm]; exact hw
    have h2 : 2 ^ (t + 1) * (w / 2 ^ (t + 1) + 1) ≤ 2 ^ (t + 1) * m := Nat.mul_le_mul_left _ h1
    rw [Nat.mul_add, ← e, ← hm] at h2
    omega
theorem word_zeros {ws : List Nat} (h : Wd ws) {i : Nat} (hz : val ws % 2 ^ (i + 1) = 0) : ws.getD (i / 32) 0 % 2 ^ (i % 32 + 1) = 0 := by
  rw [getD_val h]
  have hk : i % 32 < 32 := Nat.mod_lt _ (by omega)
  have e1 : (4294967296 : Nat) = 2 ^ (i % 32 + 1) * 2 ^ (31 - i % 32) := by rw [← Nat.pow_add, show i % 32 + 1 + (31 - i % 32) = 32 by omega]
  obtain ⟨q, hq⟩ := Nat.dvd_of_mod_eq_zero hz
  have e2 : 2 ^ (i + 1) = 4294967296 ^ (i / 32) * 2 ^ (i % 32 + 1) := by
    rw [tp32, ← Nat.pow_mul, ← Nat.pow_add]; congr 1; omega
  rw [hq, e2, Nat.mul_assoc, Nat.mul_div_cancel_left _ (Nat.pow_pos (by omega)), e1, Nat.mod_mul_right_mod, Nat.mul_mod_right]
theorem pow_split (i : Nat) : 2 ^ (i % 32) * 4294967296 ^ (i / 32) = 2 ^ i := by
  rw [tp32, ← Nat.pow_mul, ← Nat.pow_add]; congr 1; omega
end Go.Ax

namespace Go.Ax
open Go Go.RowKit
section
variable {C : Cx} {s : AS} {o : Oper}
end
section
variable {C : Cx} {s : AS} {o : Oper}
end
section
variable {C : Cx} {n : Nat} {r : List It} {s : AS} {Q : Lab → AS → Prop} {d : Option Tmp} {t u : TypeId} {len : Nat} {parts : List (Nat × Operand)} {pos : String} {af : Array Edge} {g : Option (Nat × Bool)}
end
end Go.Ax

namespace Go.Ax
open Go Go.RowKit
theorem MemAt.cut {σ : Sig} {S F : Nat → Prop} {w : World} {b : Nat} {m : MB} (k : Nat) (h : MemAt σ S F w b m) : MemAt σ S F w b ⟨m.sz, m.rows.take k⟩ := by
  obtain ⟨k0, c, e, h1, h2, h3, h4, h5, h6, h7⟩ := h
  refine ⟨k0, c, e, h1, h2, h3, h4, fun r hr => h5 r (List.mem_of_mem_take hr), ?_, fun i r j av hi hj => ?_⟩
  · exact Nat.le_trans (Nat.mul_le_mul_right _ (by show (m.rows.take k).length ≤ _; rw [List.length_take]; omega)) h6
  · change (m.rows.take k)[i]? = some r at hi
    rw [List.getElem?_take] at hi
    split at hi
    · exact h7 i r j av hi hj
    · cases hi
def brow (n : Int) : List AV := [.v (.int .u8 n)]
theorem clrow_b : ClRow brow := fun x a ha => by
  simp only [brow, List.mem_cons, List.not_mem_nil, or_false] at ha
  subst ha; exact Cl.v _
end Go.Ax

namespace Go.Ax
open Go Go.RowKit
def genA (ρ : Nat → Option Nat) (a c : AV) : Prop :=
  (∃ b' b sz row n, a = .ps b' sz row n ∧ c = .ps b sz row n ∧ ρ b = some b') ∨ (∃ b sz row, a = .v (.slice none 0 0) ∧ c = .ps b sz row 0) ∨ (Le a c ∧ Cl c)
def genR (ρ : Nat → Option Nat) (rows rows' : List (List AV)) : Prop :=
  rows'.length = rows.length ∧ ∀ (i : Nat) (r' : List AV), rows'[i]? = some r' → ∃ r, rows[i]? = some r ∧ r'.length = r.length ∧ ∀ (j : Nat) (c : AV), r'[j]? = some c → ∃ a, r[j]? = some a ∧ genA ρ a c
def genσ (ρ : Nat → Option Nat) (σ : Sig) : Sig := fun b => (ρ b).bind σ
theorem genA_rel {ρ : Nat → Option Nat} {σ : Sig} {S : Nat → Prop} {w : World} {x : Value} {a c : AV} (h : genA ρ a c) (hr : Rel σ S w x a) : Rel (genσ ρ σ) S w x c := by
  rcases h with ⟨b', b, sz, row, n, rfl, rfl, h⟩ | ⟨b, sz, row, rfl, rfl⟩ | ⟨h, hc⟩
  · cases hr with
    | ps hσ q1 q2 q3 => exact .ps (by simp [genσ, h, hσ]) q1 q2 q3
    | ps0 => exact .ps0
  · cases hr; exact .ps0
  · exact (hc _ _ _ _ (h _ _ _ _ hr)).mono (fun _ _ h => by cases h) (fun _ h => h) keeps_refl
theorem Weak.gen {s s' : AS} (ρ : Nat → Option Nat) (h0 : ρ 0 = some 0) (hd : ∀ b k, ρ b = some k → b < s'.next)
    (hi : ∀ b b' m m' k, look s'.mem b = some m → look s'.mem b' = some m' → ρ b = some k → ρ b' = some k → b = b')
    (he : ∀ t c, look s'.env t = some c → ∃ a, look s.env t = some a ∧ genA ρ a c)
    (hm : ∀ k m', look s'.mem k = some m' → (m'.rows = [] ∧ ρ k = none) ∨ ∃ k0 m0, ρ k = some k0 ∧ look s.mem k0 = some m0 ∧ m'.sz = m0.sz ∧ genR ρ m0.rows m'.rows) : Weak s s' := by
  intro D S0 w0 σ S w hF _
  have un : ∀ b k, genσ ρ σ b = some k → ∃ b0, ρ b = some b0 ∧ σ b0 = some k := fun b k h => by
    unfold genσ at h
    cases hb : ρ b with
    | none => rw [hb] at h; cases h
    | some b0 => rw [hb] at h; exact ⟨b0, rfl, h⟩
  refine ⟨genσ ρ σ, S, ⟨hF.below, fun b k hk => ?_, fun b b' k m m' h1 h2 h3 h4 => ?_, hF.sbd, hF.s0, hF.s1, ⟨hF.glob.1, fun k hk => by simp [genσ, h0, hF.glob.2 k hk]⟩, fun b m' h => ?_⟩, fun a hE t c ht => ?_⟩
  · obtain ⟨b0, q1, q2⟩ := un b k hk
    exact ⟨hd b b0 q1, (hF.dom b0 k q2).2⟩
  · obtain ⟨b0, q1, q2⟩ := un b k h3
    obtain ⟨b1, q3, q4⟩ := un b' k h4
    rcases hm b m h1 with ⟨_, g⟩ | ⟨k0, m0, g1, g2, _⟩
    · rw [g] at q1; cases q1
    rcases hm b' m' h2 with ⟨_, g⟩ | ⟨k1, m1, g3, g4, _⟩
    · rw [g] at q3; cases q3
    have e0 : k0 = b0 := Option.some.inj (g1.symm.trans q1)
    have e1 : k1 = b1 := Option.some.inj (g3.symm.trans q3)
    subst e0 e1
    have := hF.inj k0 k1 k m0 m1 g2 g4 q2 q4
    subst this
    exact hi b b' m m' k0 h1 h2 q1 q3
  · rcases hm b m' h with ⟨g1, g2⟩ | ⟨k0, m0, g1, g2, g3, g4, g5⟩
    · exact .inl ⟨g1, by simp [genσ, g2]⟩
    · rcases hF.mem k0 m0 g2 with ⟨f1, f2⟩ | ⟨k, c0, e, f1, f2, f3, f4, f5, f6, f7⟩
      · refine .inl ⟨?_, by simp [genσ, g1, f2]⟩
        rw [f1] at g4; exact List.length_eq_zero_iff.1 g4
      · refine .inr ⟨k, c0, e, by simp [genσ, g1, f1], f2, f3, f4, fun r' hr' => ?_, by rw [g3, g4]; exact f6, fun i r' j c hi' hj => ?_⟩
        · obtain ⟨i, hi'⟩ := List.getElem?_of_mem hr'
          obtain ⟨r, q1, q2, _⟩ := g5 i r' hi'
          rw [q2, g3]; exact f5 r (List.mem_of_getElem? q1)
        · obtain ⟨r, q1, q2, q3⟩ := g5 i r' hi'
          obtain ⟨a0, q4, q5⟩ := q3 j c hj
          obtain ⟨x, hx, hr⟩ := f7 i r j a0 q1 q4
          exact ⟨x, by rw [g3]; exact hx, genA_rel q5 hr⟩
  · obtain ⟨a0, h1, h2⟩ := he t c ht
    obtain ⟨x, hx, hr⟩ := hE t a0 h1
    exact ⟨x, hx, genA_rel h2 hr⟩
theorem Weak.frzL {s s' : AS} (b : Nat) (m : MB) (hm : look s.mem b = some m) (he : ∀ t av, look s'.env t = some av → ∃ a c, look s.env t = some a ∧ Pub [(b, m)] a c ∧ Le c av)
    (hmem : ∀ k m', look s'.mem k = some m' → k ≠ b ∧ ∃ m0, look s.mem k = some m0 ∧ MBle b m m0 m') (hn : s.next ≤ s'.next) : Weak s s' := by
  intro D S0 w0 σ S w hF _
  have hF' := hF.frz hm
  refine ⟨σ, With σ [(b, m)] S, ⟨hF'.below, fun b1 k h1 => ⟨by have := (hF.dom b1 k h1).1; omega, (hF.dom b1 k h1).2⟩, fun b1 b2 k m1 m2 h1 h2 h3 h4 => ?_, hF'.sbd, hF'.s0, hF'.s1, hF'.glob, fun b1 m1 h1 => ?_⟩, fun a hE t av ht => ?_⟩
  · obtain ⟨_, n1, q1, _⟩ := hmem b1 m1 h1
    obtain ⟨_, n2, q2, _⟩ := hmem b2 m2 h2
    exact hF.inj b1 b2 k n1 n2 q1 q2 h3 h4
  · obtain ⟨hne, m0, q1, q2, q3, q4⟩ := hmem b1 m1 h1
    rcases hF.mem b1 m0 q1 with ⟨e1, e2⟩ | ⟨k, c, e, f1, f2, f3, f4, f5, f6, f7⟩
    · exact .inl ⟨List.length_eq_zero_iff.1 (by rw [q3, e1]; rfl), e2⟩
    · refine .inr ⟨k, c, e, f1, f2, fun hk => ?_, f4, fun r hr => ?_, by rw [q2, q3]; exact f6, fun i r j av hi hj => ?_⟩
      · rcases hk with hk | ⟨b', m', g1, g2⟩
        · exact f3 hk
        · simp only [look] at g1
          split at g1
          · rename_i he'; subst he'; exact hne (hF.inj b1 _ k m0 m q1 hm f1 g2)
          · cases g1
      · obtain ⟨i, hi⟩ := List.getElem?_of_mem hr
        obtain ⟨r0, h1, h2, _⟩ := q4 i r hi
        rw [h2, q2]; exact f5 r0 (List.mem_of_getElem? h1)
      · obtain ⟨r0, h1, h2, h3⟩ := q4 i r hi
        obtain ⟨a0, c0, g1, g2, g3⟩ := h3 j av hj
        obtain ⟨x, hx, hxr⟩ := f7 i r0 j a0 h1 g1
        exact ⟨x, by rw [q2]; exact hx, g3 _ _ _ _ (frz_rel hF hm hxr g2)⟩
  · obtain ⟨a0, c0, g1, g2, g3⟩ := he t av ht
    obtain ⟨x, hx, hxr⟩ := hE t a0 g1
    exact ⟨x, hx, g3 _ _ _ _ (frz_rel hF hm hxr g2)⟩
theorem getD_mid {α : Type} {D R : List α} {x d : α} {i : Nat} (h : D.length = i) : (D ++ x :: R).getD i d = x := by
  subst h; simp [List.getD]
theorem set_mid {α : Type} {D R : List α} {x y : α} {i : Nat} (h : D.length = i) : (D ++ x :: R).set i y = D ++ y :: R := by
  subst h; simp [List.set_append]
theorem genR.refl {ρ : Nat → Option Nat} {rows : List (List AV)} (h : ∀ r ∈ rows, ∀ a ∈ r, genA ρ a a) : genR ρ rows rows :=
  ⟨rfl, fun i r hr => ⟨r, hr, rfl, fun j c hc => ⟨c, hc, h r (List.mem_of_getElem? hr) c (List.mem_of_getElem? hc)⟩⟩⟩
theorem genR.append {ρ : Nat → Option Nat} {a b c d : List (List AV)} (h : genR ρ a b) (k : genR ρ c d) : genR ρ (a ++ c) (b ++ d) := by
  obtain ⟨h1, h2⟩ := h
  obtain ⟨k1, k2⟩ := k
  refine ⟨by simp [h1, k1], fun i r hr => ?_⟩
  by_cases hi : i < b.length
  · rw [List.getElem?_append_left hi] at hr
    obtain ⟨r0, q1, q2⟩ := h2 i r hr
    exact ⟨r0, by rw [List.getElem?_append_left (by omega)]; exact q1, q2⟩
  · rw [List.getElem?_append_right (by omega)] at hr
    obtain ⟨r0, q1, q2⟩ := k2 _ r hr
    exact ⟨r0, by rw [List.getElem?_append_right (by omega), ← h1]; exact q1, q2⟩
theorem genR.one {ρ : Nat → Option Nat} {a c : AV} {R R' : List (List AV)} (h : genA ρ a c) (k : genR ρ R R') : genR ρ ([a] :: R) ([c] :: R') :=
  genR.append (a := [[a]]) (b := [[c]]) ⟨rfl, fun i r hr => by
    match i with
    | 0 =>
      simp at hr; subst hr
      exact ⟨[a], rfl, rfl, fun j c' hc => by
        match j with
        | 0 => simp at hc; subst hc; exact ⟨a, rfl, h⟩
        | j + 1 => simp at hc⟩
    | i + 1 => simp at hr⟩ k
theorem genR.rows {ρ : Nat → Option Nat} {rows : List (List AV)} (h : ∀ r ∈ rows, ∀ a ∈ r, Cl a) : genR ρ rows rows := .refl fun r hr a ha => .inr (.inr ⟨.refl _, h r hr a ha⟩)
def slots (b : Nat) : Nat → Nat → List (List AV)
  | 0, _ => []
  | k + 1, m => [.ps b 3 0 m] :: slots (b + 1) k m
def nest (b : Nat) : Nat → List (List AV) → List (Nat × MB)
  | 0, _ => []
  | k + 1, z => (b, ⟨3, z⟩) :: nest (b + 1) k z
theorem slots_len : ∀ {b k m : Nat}, (slots b k m).length = k
  | _, 0, _ => rfl
  | b, k + 1, m => by simp only [slots, List.length_cons, slots_len]
theorem slots_mem : ∀ {b k m : Nat} {r : List AV}, r ∈ slots b k m → ∃ c, b ≤ c ∧ c < b + k ∧ r = [.ps c 3 0 m]
  | _, 0, _, r, h => by cases h
  | b, k + 1, m, r, h => by
    rcases List.mem_cons.1 h with rfl | h
    · exact ⟨b, Nat.le_refl _, by omega, rfl⟩
    · obtain ⟨c, h1, h2, h3⟩ := slots_mem h; exact ⟨c, by omega, by omega, h3⟩
theorem slots_app : ∀ {b k m : Nat}, slots b k m ++ [[.ps (b + k) 3 0 m]] = slots b (k + 1) m
  | b, 0, m => rfl
  | b, k + 1, m => by
    show [.ps b 3 0 m] :: (slots (b + 1) k m ++ [[.ps (b + (k + 1)) 3 0 m]]) = [.ps b 3 0 m] :: slots (b + 1) (k + 1) m
    rw [← slots_app (b := b + 1), show b + (k + 1) = b + 1 + k by omega]
theorem nest_look : ∀ {b k : Nat} {z : List (List AV)} {c : Nat} {M : MB}, look (nest b k z) c = some M → b ≤ c ∧ c < b + k ∧ M = ⟨3, z⟩
  | _, 0, _, c, M, h => by cases h
  | b, k + 1, z, c, M, h => by
    simp only [nest, look] at h
    split at h
    · injection h with h; exact ⟨by omega, by omega, h.symm⟩
    · have := nest_look h; exact ⟨by omega, by omega, this.2.2⟩
theorem nest_has : ∀ {b k : Nat} {z : List (List AV)} {c : Nat}, b ≤ c → c < b + k → look (nest b k z) c = some ⟨3, z⟩
  | b, 0, z, c, h1, h2 => by omega
  | b, k + 1, z, c, h1, h2 => by
    simp only [nest, look]
    by_cases h : b = c
    · rw [if_pos h]
    · rw [if_neg h]; exact nest_has (by omega) (by omega)
def envOK (env : List (Nat × AV)) : List (Nat × AV) → Prop
  | [] => True
  | (t, c) :: l => ((∃ a, look env t = some a ∧ Le a c ∧ Cl c) ∨ ∃ sz row n, c = .ps 0 sz row n ∧ look env t = some (.ps 0 sz row n)) ∧ envOK env l
theorem envOK_look {ρ : Nat → Option Nat} (h0 : ρ 0 = some 0) {env : List (Nat × AV)} : ∀ (l : List (Nat × AV)), envOK env l → ∀ t c, look l t = some c → ∃ a, look env t = some a ∧ genA ρ a c
  | [], _, t, c, h => by cases h
  | (t', c') :: l, hl, t, c, h => by
    simp only [look] at h
    split at h
    · rename_i he; injection h with h; subst he h
      rcases hl.1 with ⟨a, h1, h2, h3⟩ | ⟨sz, row, n, rfl, h1⟩
      · exact ⟨a, h1, .inr (.inr ⟨h2, h3⟩)⟩
      · exact ⟨_, h1, .inl ⟨0, 0, sz, row, n, rfl, rfl, h0⟩⟩
    · exact envOK_look h0 l hl.2 t c h
def ρ2 (c : Nat) : Nat → Option Nat := fun b => if b = 0 then some 0 else if b = 1 then some c else none
theorem genA_ps {ρ : Nat → Option Nat} {b' b sz row n : Nat} (h : ρ b = some b') : genA ρ (.ps b' sz row n) (.ps b sz row n) := .inl ⟨_, _, _, _, _, rfl, rfl, h⟩
theorem Weak.rowNew {s : AS} {E : List (Nat × AV)} {D R : List (List AV)} (hE : envOK s.env E) (h0 : look s.mem 0 = some ⟨1, D ++ [.v (.slice none 0 0)] :: R⟩) (hD : ∀ r ∈ D, ∀ a ∈ r, Cl a) (hR : ∀ r ∈ R, ∀ a ∈ r, Cl a) :
    Weak s ⟨E, [(1, ⟨3, []⟩), (0, ⟨1, D ++ [.ps 1 3 0 0] :: R⟩)], 2⟩ := by
  let ρ : Nat → Option Nat := fun b => if b = 0 then some 0 else none
  refine Weak.gen ρ rfl (fun b k h => ?_) (fun b b' m m' k h1 h2 h3 h4 => ?_) (envOK_look (ρ := ρ) rfl E hE) (fun k m' h => ?_)
  · simp only [ρ] at h; split at h
    · show b < 2; omega
    · cases h
  · simp only [ρ] at h3 h4
    split at h3 <;> split at h4 <;> first | omega | (cases h3; done) | (cases h4; done)
  · simp only [look] at h
    split at h
    · rename_i hk; injection h with h; subst hk h; exact .inl ⟨rfl, rfl⟩
    · split at h
      · rename_i hk; injection h with h; subst hk h
        exact .inr ⟨0, _, rfl, h0, rfl, (genR.rows hD).append (.one (.inr (.inl ⟨1, 3, 0, rfl, rfl⟩)) (genR.rows hR))⟩
      · cases h
theorem Weak.rowGrown {s : AS} (c : Nat) {E : List (Nat × AV)} {D R : List (List AV)} {L : List (List AV)} {k : Nat} (hc : c ≠ 0) (hE : envOK s.env E) (h0 : look s.mem 0 = some ⟨1, D ++ [.ps c 3 0 k] :: R⟩) (h1 : look s.mem c = some ⟨3, L⟩) (hD : ∀ r ∈ D, ∀ a ∈ r, Cl a) (hR : ∀ r ∈ R, ∀ a ∈ r, Cl a) (hL : ∀ r ∈ L, ∀ a ∈ r, Cl a) :
    Weak s ⟨E, [(1, ⟨3, L⟩), (0, ⟨1, D ++ [.ps 1 3 0 k] :: R⟩)], 2⟩ := by
  refine Weak.gen (ρ2 c) rfl (fun b k h => ?_) (fun b b' m m' k h1 h2 h3 h4 => ?_) (envOK_look (ρ := ρ2 c) rfl E hE) (fun k m' h => ?_)
  · simp only [ρ2] at h; show b < 2
    split at h
    · omega
    · split at h
      · omega
      · cases h
  · simp only [ρ2] at h3 h4
    split at h3 <;> split at h4 <;> (try split at h3) <;> (try split at h4) <;> simp_all <;> omega
  · simp only [look] at h
    split at h
    · rename_i hk; injection h with h; subst hk h
      exact .inr ⟨c, _, rfl, h1, rfl, genR.rows hL⟩
    · split at h
      · rename_i hk; injection h with h; subst hk h
        exact .inr ⟨0, _, rfl, h0, rfl, (genR.rows hD).append (.one (genA_ps rfl) (genR.rows hR))⟩
      · cases h
theorem MBle_row {m : MB} {D R : List (List AV)} {k : Nat} (hD : ∀ r ∈ D, ∀ a ∈ r, NO 1 a) (hk : k = m.rows.length) (hs : m.sz = 3) : MBle 1 m ⟨1, D ++ [.ps 1 3 0 k] :: R⟩ ⟨1, (D ++ [[.sl 3 m.rows]]) ++ R⟩ := by
  refine ⟨rfl, by simp, fun i r' hr => ?_⟩
  have e : (D ++ [[AV.sl 3 m.rows]]) ++ R = D ++ [AV.sl 3 m.rows] :: R := by simp
  rw [e] at hr
  by_cases h1 : i < D.length
  · rw [List.getElem?_append_left h1] at hr
    exact ⟨r', by rw [List.getElem?_append_left h1]; exact hr, rfl, fun j av hj => ⟨av, av, hj, .same, .refl _⟩⟩
  · rw [List.getElem?_append_right (by omega)] at hr
    by_cases h2 : i - D.length = 0
    · rw [h2] at hr
      simp at hr; subst hr
      refine ⟨[.ps 1 3 0 k], by rw [List.getElem?_append_right (by omega), h2]; rfl, rfl, fun j av hj => ?_⟩
      match j with
      | 0 =>
        simp at hj; subst hj
        refine ⟨_, _, rfl, frz_ps (b := 1) (m := m) (sz := 3) (row := 0) (n := k) hs (by omega), ?_⟩
        simp only [List.drop_zero, hk, List.take_length]
        exact .refl _
      | j + 1 => simp at hj
    · obtain ⟨q, hq⟩ : ∃ q, i - D.length = q + 1 := ⟨i - D.length - 1, by omega⟩
      rw [hq] at hr
      simp only [List.getElem?_cons_succ] at hr
      refine ⟨r', ?_, rfl, fun j av hj => ⟨av, av, hj, .same, .refl _⟩⟩
      rw [List.getElem?_append_right (by omega), hq]
      exact hr
def envKeep (env : List (Nat × AV)) : List (Nat × AV) → Prop
  | [] => True
  | (t, c) :: l => (∃ a, look env t = some a ∧ Le a c) ∧ envKeep env l
theorem envKeep_look {env : List (Nat × AV)} : ∀ (l : List (Nat × AV)), envKeep env l → ∀ t c, look l t = some c → ∃ a, look env t = some a ∧ Le a c
  | [], _, t, c, h => by cases h
  | (t', c') :: l, hl, t, c, h => by
    simp only [look] at h
    split at h
    · rename_i he; injection h with h; subst he h; exact hl.1
    · exact envKeep_look l hl.2 t c h
theorem Weak.rowDone {s : AS} {E : List (Nat × AV)} {D R : List (List AV)} {L : List (List AV)} {k : Nat} {T : List (Nat × MB)} (hE : envKeep s.env E) (h0 : look s.mem 0 = some ⟨1, D ++ [.ps 1 3 0 k] :: R⟩) (h1 : look s.mem 1 = some ⟨3, L⟩) (hk : k = L.length)
    (hT : ∀ b M, look T b = some M → b ≠ 0 ∧ b ≠ 1 ∧ look s.mem b = some M) (hD : ∀ r ∈ D, ∀ a ∈ r, NO 1 a) {nx : Nat} (hn : s.next ≤ nx) :
    Weak s ⟨E, (0, ⟨1, (D ++ [[.sl 3 L]]) ++ R⟩) :: T, nx⟩ := by
  refine Weak.frzL 1 ⟨3, L⟩ h1 (fun t av ht => ?_) (fun b m' h => ?_) hn
  · obtain ⟨a, q1, q2⟩ := envKeep_look E hE t av ht
    exact ⟨a, a, q1, .same, q2⟩
  · simp only [look] at h
    split at h
    · rename_i hb; injection h with h; subst hb h
      exact ⟨by decide, _, h0, MBle_row hD hk rfl⟩
    · obtain ⟨q1, q2, q3⟩ := hT b m' h
      exact ⟨q2, m', q3, .refl _ _ _⟩
def envN (env : List (Nat × AV)) : List (Nat × AV) → Prop
  | [] => True
  | (t, c) :: l => ((∃ a, look env t = some a ∧ Le a c ∧ Cl c) ∨ ∃ b sz row, c = .ps b sz row 0 ∧ look env t = some (.v (.slice none 0 0))) ∧ envN env l
theorem envN_look {ρ : Nat → Option Nat} {env : List (Nat × AV)} : ∀ (l : List (Nat × AV)), envN env l → ∀ t c, look l t = some c → ∃ a, look env t = some a ∧ genA ρ a c
  | [], _, t, c, h => by cases h
  | (t', c') :: l, hl, t, c, h => by
    simp only [look] at h
    split at h
    · rename_i he; injection h with h; subst he h
      rcases hl.1 with ⟨a, h1, h2, h3⟩ | ⟨b, sz, row, rfl, h1⟩
      · exact ⟨a, h1, .inr (.inr ⟨h2, h3⟩)⟩
      · exact ⟨_, h1, .inr (.inl ⟨b, sz, row, rfl, rfl⟩)⟩
    · exact envN_look l hl.2 t c h
theorem Weak.nilStart {s : AS} {E : List (Nat × AV)} (b sz : Nat) (hb : b ≠ 0) (hE : envN s.env E) : Weak s ⟨E, [(b, ⟨sz, []⟩)], b + 1⟩ := by
  let ρ : Nat → Option Nat := fun x => if x = 0 then some 0 else none
  refine Weak.gen ρ rfl (fun x k h => ?_) (fun x x' m m' k h1 h2 h3 h4 => ?_) (envN_look (ρ := ρ) E hE) (fun k m' h => ?_)
  · simp only [ρ] at h; split at h
    · show x < b + 1; omega
    · cases h
  · simp only [ρ] at h3 h4
    split at h3 <;> split at h4 <;> first | omega | (cases h3; done) | (cases h4; done)
  · simp only [look] at h
    split at h
    · rename_i hk; injection h with h; subst hk h; exact .inl ⟨rfl, by simp only [ρ]; rw [if_neg hb]⟩
    · cases h
end Go.Ax

namespace Go.Ax
def sumD : Nat → (Nat → Dy) → Dy
  | 0, _ => Dy.zero
  | n + 1, f => (sumD n f).add (f n)
def maxD : Nat → (Nat → Dy) → Dy
  | 0, _ => Dy.zero
  | n + 1, f => (maxD n f).max (f n)
def sumQ : Nat → (Nat → Rat) → Rat
  | 0, _ => 0
  | n + 1, f => sumQ n f + f n
theorem sumD_congr {f g : Nat → Dy} : ∀ {n : Nat}, (∀ i, i < n → f i = g i) → sumD n f = sumD n g
  | 0, _ => rfl
  | n + 1, h => by simp only [sumD]; rw [sumD_congr (fun i hi => h i (by omega)), h n (by omega)]
theorem maxD_congr {f g : Nat → Dy} : ∀ {n : Nat}, (∀ i, i < n → f i = g i) → maxD n f = maxD n g
  | 0, _ => rfl
  | n + 1, h => by simp only [maxD]; rw [maxD_congr (fun i hi => h i (by omega)), h n (by omega)]
theorem sumQ_congr {f g : Nat → Rat} : ∀ {n : Nat}, (∀ i, i < n → f i = g i) → sumQ n f = sumQ n g
  | 0, _ => rfl
  | n + 1, h => by simp only [sumQ]; rw [sumQ_congr (fun i hi => h i (by omega)), h n (by omega)]
theorem v_sumD (f : Nat → Dy) : ∀ n, (sumD n f).v = sumQ n fun i => (f i).v
  | 0 => Dy.v_zero
  | n + 1 => by simp only [sumD, sumQ]; rw [Dy.v_add, v_sumD f n]
theorem sumQ_add (f g : Nat → Rat) : ∀ n, sumQ n (fun i => f i + g i) = sumQ n f + sumQ n g
  | 0 => by simp only [sumQ]; grind
  | n + 1 => by simp only [sumQ]; rw [sumQ_add f g n]; grind
theorem sumQ_mul (c : Rat) (f : Nat → Rat) : ∀ n, sumQ n (fun i => f i * c) = sumQ n f * c
  | 0 => by simp only [sumQ]; grind
  | n + 1 => by simp only [sumQ]; rw [sumQ_mul c f n]; grind
theorem sumQ_mul' (c : Rat) (f : Nat → Rat) : ∀ n, sumQ n (fun i => c * f i) = c * sumQ n f
  | 0 => by simp only [sumQ]; grind
  | n + 1 => by simp only [sumQ]; rw [sumQ_mul' c f n]; grind
theorem sumQ_zero : ∀ n, sumQ n (fun _ => 0) = 0
  | 0 => rfl
  | n + 1 => by simp only [sumQ]; rw [sumQ_zero n]; grind
theorem sumQ_comm (f : Nat → Nat → Rat) (m : Nat) : ∀ n, sumQ n (fun i => sumQ m fun j => f i j) = sumQ m fun j => sumQ n fun i => f i j
  | 0 => by simp only [sumQ]; rw [sumQ_zero]
  | n + 1 => by simp only [sumQ]; rw [sumQ_comm f m n, ← sumQ_add]
theorem sumQ_le {f g : Nat → Rat} : ∀ {n : Nat}, (∀ i, i < n → f i ≤ g i) → sumQ n f ≤ sumQ n g
  | 0, _ => Rat.le_refl
  | n + 1, h => by
    simp only [sumQ]
    have h1 := sumQ_le (n := n) (fun i hi => h i (by omega))
    have h2 := h n (by omega)
    grind
theorem sumQ_nonneg {f : Nat → Rat} {n : Nat} (h : ∀ i, i < n → 0 ≤ f i) : 0 ≤ sumQ n f := by
  have := sumQ_le (f := fun _ => 0) (g := f) (n := n) h
  rwa [sumQ_zero] at this
def absQ (x : Rat) : Rat := if x < 0 then -x else x
theorem absQ_nn (x : Rat) : 0 ≤ absQ x := by unfold absQ; split <;> grind
theorem absQ_le {x y : Rat} : absQ x ≤ y ↔ x ≤ y ∧ -x ≤ y := by unfold absQ; split <;> constructor <;> intro h <;> grind
theorem le_absQ (x : Rat) : x ≤ absQ x ∧ -x ≤ absQ x := absQ_le.1 Rat.le_refl
theorem absQ_mul (x y : Rat) : absQ (x * y) = absQ x * absQ y := by
  unfold absQ
  by_cases hx : x < 0 <;> by_cases hy : y < 0
  · rw [if_pos hx, if_pos hy, if_neg (by have := Rat.mul_pos (show (0 : Rat) < -x by grind) (show 0 < -y by grind); grind)]; grind
  · rw [if_pos hx, if_neg hy]
    have h1 := Rat.mul_nonneg (show (0 : Rat) ≤ -x by grind) (show 0 ≤ y by grind)
    split <;> grind
  · rw [if_neg hx, if_pos hy]
    have h1 := Rat.mul_nonneg (show (0 : Rat) ≤ x by grind) (show 0 ≤ -y by grind)
    split <;> grind
  · rw [if_neg hx, if_neg hy]
    have h1 := Rat.mul_nonneg (show (0 : Rat) ≤ x by grind) (show 0 ≤ y by grind)
    split <;> grind
theorem absQ_sum (f : Nat → Rat) : ∀ n, absQ (sumQ n f) ≤ sumQ n fun i => absQ (f i)
  | 0 => by simp only [sumQ]; unfold absQ; split <;> grind
  | n + 1 => by
    simp only [sumQ]
    have h1 := absQ_sum f n
    rw [absQ_le] at h1 ⊢
    have h2 := le_absQ (f n)
    constructor <;> grind
def el (a : List (List Dy)) (i j : Nat) : Dy := (a.getD i []).getD j Dy.zero
def tabV (m : Nat) (f : Nat → Dy) : List Dy := (List.range m).map f
def tabD (n m : Nat) (f : Nat → Nat → Dy) : List (List Dy) := (List.range n).map fun i => tabV m (f i)
def rect (n m : Nat) (a : List (List Dy)) : Prop := a.length = n ∧ ∀ i, i < n → (a.getD i []).length = m
theorem tabV_len {m : Nat} {f : Nat → Dy} : (tabV m f).length = m := by simp [tabV]
theorem tabV_get {m : Nat} {f : Nat → Dy} {j : Nat} (h : j < m) : (tabV m f).getD j Dy.zero = f j := by simp [tabV, List.getD, h]
theorem tabV_succ {m : Nat} {f : Nat → Dy} : tabV (m + 1) f = tabV m f ++ [f m] := by simp [tabV, List.range_succ]
theorem tabD_succ {n m : Nat} {f : Nat → Nat → Dy} : tabD (n + 1) m f = tabD n m f ++ [tabV m (f n)] := by simp [tabD, List.range_succ]
theorem tabD_len {n m : Nat} {f : Nat → Nat → Dy} : (tabD n m f).length = n := by simp [tabD]
theorem tabD_row {n m : Nat} {f : Nat → Nat → Dy} {i : Nat} (h : i < n) : (tabD n m f).getD i [] = tabV m (f i) := by simp [tabD, List.getD, h]
theorem tabD_rect {n m : Nat} {f : Nat → Nat → Dy} : rect n m (tabD n m f) := ⟨tabD_len, fun i h => by rw [tabD_row h, tabV_len]⟩
theorem tabD_el {n m : Nat} {f : Nat → Nat → Dy} {i j : Nat} (h : i < n) (k : j < m) : el (tabD n m f) i j = f i j := by unfold el; rw [tabD_row h, tabV_get k]
theorem tabV_congr {m : Nat} {f g : Nat → Dy} (h : ∀ j, j < m → f j = g j) : tabV m f = tabV m g := List.map_congr_left fun j hj => h j (by simpa using hj)
theorem tabD_congr {n m : Nat} {f g : Nat → Nat → Dy} (h : ∀ i j, i < n → j < m → f i j = g i j) : tabD n m f = tabD n m g := List.map_congr_left fun i hi => tabV_congr fun j hj => h i j (by simpa using hi) hj
theorem list_ext {α : Type} {a b : List α} {d : α} (h : a.length = b.length) (k : ∀ i, i < a.length → a.getD i d = b.getD i d) : a = b :=
  List.ext_getElem h fun i h1 h2 => by
    have := k i h1
    simpa [List.getD, h1, h2] using this
def dotD (x : List Dy) (f : Nat → Dy) : Dy := sumD x.length fun k => (x.getD k Dy.zero).mul (f k)
def unitD (n : Nat) : List (List Dy) := tabD n n fun i j => if i = j then Dy.int 1 else Dy.zero
def mulD (a b : List (List Dy)) : List (List Dy) := tabD a.length (b.getD 0 []).length fun i j => dotD (a.getD i []) fun k => el b k j
def powD (a : List (List Dy)) : Nat → List (List Dy)
  | 0 => unitD a.length
  | k + 1 => mulD (powD a k) a
def absD (a : List (List Dy)) : List (List Dy) := tabD a.length (a.getD 0 []).length fun i j => (el a i j).abs
def appD (a : List (List Dy)) (x : List Dy) : List Dy := tabV a.length fun i => dotD (a.getD i []) fun k => x.getD k Dy.zero
def rowN (x : List Dy) : Dy := sumD x.length fun k => (x.getD k Dy.zero).abs
def normD (a : List (List Dy)) : Dy := maxD a.length fun i => rowN (a.getD i [])
def fine (k : Nat) (a : List (List Dy)) : Prop := ∀ i j, (el a i j).d ≤ k
theorem el_out {n m : Nat} {a : List (List Dy)} (h : rect n m a) {i j : Nat} (k : ¬ (i < n ∧ j < m)) : el a i j = Dy.zero := by
  unfold el
  by_cases hi : i < n
  · have hl := h.2 i hi
    rw [List.getD, List.getElem?_eq_none (by omega)]; rfl
  · have : a.getD i [] = [] := by rw [List.getD, List.getElem?_eq_none (by have := h.1; omega)]; rfl
    rw [this]; rfl
theorem fine_of {n m k : Nat} {a : List (List Dy)} (h : rect n m a) (f : ∀ i j, i < n → j < m → (el a i j).d ≤ k) : fine k a := fun i j => by
  by_cases hij : i < n ∧ j < m
  · exact f i j hij.1 hij.2
  · rw [el_out h hij]; exact Nat.zero_le _
theorem d_sumD {f : Nat → Dy} {k : Nat} : ∀ {n : Nat}, (∀ i, i < n → (f i).d ≤ k) → (sumD n f).d ≤ k
  | 0, _ => Nat.zero_le _
  | n + 1, h => by
    have h1 := d_sumD (n := n) (fun i hi => h i (by omega))
    have h2 := h n (by omega)
    have := Dy.d_add (sumD n f) (f n)
    simp only [sumD]; omega
theorem Dy.d_mul_le (a b : Dy) (h : a.d + b.d ≤ 65536) : (a.mul b).d ≤ a.d + b.d := Dy.d_nrm h
theorem rect_mul {n m l : Nat} {a b : List (List Dy)} (ha : rect n m a) (hb : rect m l b) (hm : 0 < m) : rect n l (mulD a b) := by
  unfold mulD
  rw [ha.1, hb.2 0 hm]; exact tabD_rect
theorem el_mul {n m l : Nat} {a b : List (List Dy)} (ha : rect n m a) (hb : rect m l b) (hm : 0 < m) {i j : Nat} (hi : i < n) (hj : j < l) : el (mulD a b) i j = sumD m fun k => (el a i k).mul (el b k j) := by
  unfold mulD
  rw [ha.1, hb.2 0 hm, tabD_el hi hj]
  unfold dotD
  rw [ha.2 i hi]; rfl
theorem v_mul_el {n m l p q : Nat} {a b : List (List Dy)} (ha : rect n m a) (hb : rect m l b) (hm : 0 < m) (fa : fine p a) (fb : fine q b) (h : p + q ≤ 65536) {i j : Nat} (hi : i < n) (hj : j < l) :
    (el (mulD a b) i j).v = sumQ m fun k => (el a i k).v * (el b k j).v := by
  rw [el_mul ha hb hm hi hj, v_sumD]
  exact sumQ_congr fun k _ => Dy.v_mul_of _ _ (by have := fa i k; have := fb k j; omega)
theorem fine_mul {n m l p q : Nat} {a b : List (List Dy)} (ha : rect n m a) (hb : rect m l b) (hm : 0 < m) (fa : fine p a) (fb : fine q b) (h : p + q ≤ 65536) : fine (p + q) (mulD a b) :=
  fine_of (rect_mul ha hb hm) fun i j hi hj => by
    rw [el_mul ha hb hm hi hj]
    exact d_sumD fun k _ => by
      have h1 := fa i k; have h2 := fb k j
      have := Dy.d_mul_le (el a i k) (el b k j) (by omega)
      omega
theorem unit_rect (n : Nat) : rect n n (unitD n) := tabD_rect
theorem unit_fine (n : Nat) : fine 0 (unitD n) := fine_of (unit_rect n) fun i j hi hj => by
  unfold unitD; rw [tabD_el hi hj]; split
  · exact Nat.le_refl _
  · exact Nat.le_refl _
theorem sumQ_delta {f : Nat → Rat} {j : Nat} : ∀ {n : Nat}, sumQ n (fun k => f k * (if k = j then 1 else 0)) = if j < n then f j else 0
  | 0 => rfl
  | n + 1 => by
    simp only [sumQ]
    rw [sumQ_delta]
    by_cases h : n = j
    · subst h; rw [if_neg (Nat.lt_irrefl _), if_pos rfl, if_pos (by omega)]; grind
    · by_cases h2 : j < n
      · rw [if_pos h2, if_neg h, if_pos (by omega)]; grind
      · rw [if_neg h2, if_neg h, if_neg (by omega)]; grind
theorem v_int1 : (Dy.int 1).v = 1 := by rw [Dy.v_int]; rfl
theorem pow_rect {n : Nat} {a : List (List Dy)} (ha : rect n n a) (hn : 0 < n) : ∀ k, rect n n (powD a k)
  | 0 => by simp only [powD]; rw [ha.1]; exact unit_rect n
  | k + 1 => rect_mul (pow_rect ha hn k) ha hn
theorem pow_fine {n p : Nat} {a : List (List Dy)} (ha : rect n n a) (hn : 0 < n) (fa : fine p a) : ∀ k, p * k ≤ 65536 → fine (p * k) (powD a k)
  | 0, _ => by simp only [powD]; rw [ha.1]; exact unit_fine n
  | k + 1, h => by rw [Nat.mul_succ] at h ⊢; exact fine_mul (pow_rect ha hn k) ha hn (pow_fine ha hn fa k (by omega)) fa (by omega)
def fineV (k : Nat) (x : List Dy) : Prop := ∀ i, (x.getD i Dy.zero).d ≤ k
theorem fineV_of {n k : Nat} {x : List Dy} (h : x.length = n) (f : ∀ i, i < n → (x.getD i Dy.zero).d ≤ k) : fineV k x := fun i => by
  by_cases hi : i < n
  · exact f i hi
  · rw [List.getD, List.getElem?_eq_none (by omega)]; exact Nat.zero_le _
theorem app_len {a : List (List Dy)} {x : List Dy} : (appD a x).length = a.length := tabV_len
theorem el_app {n m : Nat} {a : List (List Dy)} {x : List Dy} (ha : rect n m a) {i : Nat} (hi : i < n) : (appD a x).getD i Dy.zero = sumD m fun k => (el a i k).mul (x.getD k Dy.zero) := by
  unfold appD
  rw [ha.1, tabV_get hi]; unfold dotD; rw [ha.2 i hi]; rfl
theorem v_app {n m p q : Nat} {a : List (List Dy)} {x : List Dy} (ha : rect n m a) (fa : fine p a) (fx : fineV q x) (h : p + q ≤ 65536) {i : Nat} (hi : i < n) : ((appD a x).getD i Dy.zero).v = sumQ m fun k => (el a i k).v * (x.getD k Dy.zero).v := by
  rw [el_app ha hi, v_sumD]
  exact sumQ_congr fun k _ => Dy.v_mul_of _ _ (by have := fa i k; have := fx k; omega)
theorem fine_app {n m p q : Nat} {a : List (List Dy)} {x : List Dy} (ha : rect n m a) (fa : fine p a) (fx : fineV q x) (h : p + q ≤ 65536) : fineV (p + q) (appD a x) :=
  fineV_of (by rw [app_len, ha.1]) fun i hi => by
    rw [el_app ha hi]
    exact d_sumD fun k _ => by
      have h1 := fa i k; have h2 := fx k
      have := Dy.d_mul_le (el a i k) (x.getD k Dy.zero) (by omega)
      omega
end Go.Ax

namespace Go.Ax
open Go Go.RowKit
def crM (a : List (List Dy)) : List (List RD) := a.map fun r => r.map can
theorem crM_len (a : List (List Dy)) : (crM a).length = a.length := by simp [crM]
def bRows (n m : Nat) (g : Nat → Nat → Dy) (i : Nat) : List (List AV) := mrows (crM (tabD i m g)) ++ List.replicate (n - i) [.v (.slice none 0 0)]
theorem bRows_cons {n m : Nat} {g : Nat → Nat → Dy} {i : Nat} (h : i < n) : bRows n m g i = mrows (crM (tabD i m g)) ++ [.v (.slice none 0 0)] :: List.replicate (n - i - 1) [.v (.slice none 0 0)] := by
  unfold bRows
  obtain ⟨k, hk⟩ : ∃ k, n - i = k + 1 := ⟨n - i - 1, by omega⟩
  rw [hk]; rfl
theorem bRows_succ {n m : Nat} {g : Nat → Nat → Dy} {i : Nat} : bRows n m g (i + 1) = (mrows (crM (tabD i m g)) ++ [[.sl 3 (vrows ((tabV m (g i)).map can))]]) ++ List.replicate (n - i - 1) [.v (.slice none 0 0)] := by
  unfold bRows
  rw [tabD_succ, crM, List.map_append, mrows_append]
  rfl
theorem bRows_all {n m : Nat} {g : Nat → Nat → Dy} : bRows n m g n = mrows (crM (tabD n m g)) := by
  unfold bRows; rw [Nat.sub_self]; simp
theorem bRows_len {n m : Nat} {g : Nat → Nat → Dy} {i : Nat} (h : i ≤ n) : (bRows n m g i).length = n := by
  unfold bRows; rw [List.length_append, mrows_length, crM_len, tabD_len, List.length_replicate]; omega
theorem done_len {i m : Nat} {g : Nat → Nat → Dy} : (mrows (crM (tabD i m g))).length = i := by rw [mrows_length, crM_len, tabD_len]
theorem mid_len {D R : List (List AV)} {x : List AV} {i n : Nat} (h1 : D.length = i) (h2 : R.length = n - i - 1) (h : i < n) : (D ++ x :: R).length = n := by
  rw [List.length_append, List.length_cons, h1, h2]; omega
theorem vtab_len {m : Nat} {f : Nat → Dy} : (vrows ((tabV m f).map can)).length = m := by rw [crows_length, tabV_len]
theorem vtab_step {k : Nat} {f : Nat → Dy} : (vrows ((tabV k f).map can)).take k ++ [crow (f k)] = vrows ((tabV (k + 1) f).map can) := by
  rw [List.take_of_length_le (by rw [vtab_len]; exact Nat.le_refl _), tabV_succ, List.map_append, vrows_append]; rfl
theorem nil_cl {n : Nat} : ∀ r ∈ List.replicate n [AV.v (.slice none 0 0)], ∀ a ∈ r, Cl a := fun r hr a ha => by
  rw [(List.mem_replicate.1 hr).2] at ha
  simp only [List.mem_cons, List.not_mem_nil, or_false] at ha
  subst ha; exact Cl.v _
theorem no_cl {b : Nat} {rows : List (List AV)} (h : ∀ r ∈ rows, ∀ a ∈ r, Cl a) : ∀ r ∈ rows, ∀ a ∈ r, NO b a := fun r hr a ha => .cl (h r hr a ha)
theorem MLe.dy0 : MLe ⟨3, [[.v (.bool false), .v (.slice none 0 0), .v (.int .i64 0)]]⟩ ⟨3, [crow Dy.zero]⟩ := ⟨rfl, rfl, fun i r' h => by
  match i with
  | 0 =>
    simp at h; subst h
    exact ⟨_, rfl, rfl, fun j a hj => LeL.dy0.get j a (by rw [← can_zero]; exact hj)⟩
  | i + 1 => simp at h⟩
theorem mg_sumD {k : Nat} {f : Nat → Dy} : ∀ {n : Nat}, (∀ i, i < n → Mg k (f i)) → Mg (k + n) (sumD n f)
  | 0, _ => Mg.zero _
  | n + 1, h => (Mg.add (mg_sumD (n := n) fun i hi => h i (by omega)) ((h n (by omega)).mono (by omega))).mono (by omega)
def okR (k : Nat) (x : RD) : Prop := x.ok ∧ Mg k x.dy
def okV (k : Nat) (l : List RD) : Prop := ∀ i, okR k (l.getD i RD.zero)
def okM (k : Nat) (a : List (List RD)) : Prop := ∀ i, okV k (a.getD i [])
def dyV (l : List RD) : List Dy := l.map RD.dy
def dyM (a : List (List RD)) : List (List Dy) := a.map dyV
theorem RD.dy_zero : RD.zero.dy = Dy.zero := by rw [← can_zero, can_dy]
theorem dyV_len (l : List RD) : (dyV l).length = l.length := by simp [dyV]
theorem dyM_len (a : List (List RD)) : (dyM a).length = a.length := by simp [dyM]
theorem dyV_get (l : List RD) (i : Nat) : (dyV l).getD i Dy.zero = (l.getD i RD.zero).dy := by
  unfold dyV
  rw [List.getD, List.getD, List.getElem?_map]
  cases l[i]? with
  | none => exact RD.dy_zero.symm
  | some x => rfl
theorem dyM_get (a : List (List RD)) (i : Nat) : (dyM a).getD i [] = dyV (a.getD i []) := by
  unfold dyM
  rw [List.getD, List.getD, List.getElem?_map]
  cases a[i]? <;> rfl
theorem dyM_el (a : List (List RD)) (i j : Nat) : el (dyM a) i j = ((a.getD i []).getD j RD.zero).dy := by unfold el; rw [dyM_get, dyV_get]
theorem dyV_can (l : List Dy) : dyV (l.map can) = l := by unfold dyV; rw [List.map_map]; simp [Function.comp_def, can_dy]
theorem dyM_cr (a : List (List Dy)) : dyM (crM a) = a := by unfold dyM crM; rw [List.map_map]; simp [Function.comp_def, dyV_can]
theorem crM_get (a : List (List Dy)) (i : Nat) : (crM a).getD i [] = (a.getD i []).map can := by
  unfold crM
  rw [List.getD, List.getD, List.getElem?_map]
  cases a[i]? <;> rfl
theorem canV_get (l : List Dy) (i : Nat) : (l.map can).getD i RD.zero = can (l.getD i Dy.zero) := by
  rw [List.getD, List.getD, List.getElem?_map]
  cases l[i]? with
  | none => exact can_zero.symm
  | some x => rfl
theorem okR_can {k : Nat} {x : Dy} (h : Mg k x) (hk : k ≤ 1099511627776) : okR k (can x) := ⟨h.ok hk, by rw [can_dy]; exact h⟩
theorem okV_can {k : Nat} {l : List Dy} (h : ∀ i, Mg k (l.getD i Dy.zero)) (hk : k ≤ 1099511627776) : okV k (l.map can) := fun i => by rw [canV_get]; exact okR_can (h i) hk
theorem okM_cr {k : Nat} {a : List (List Dy)} (h : ∀ i j, Mg k (el a i j)) (hk : k ≤ 1099511627776) : okM k (crM a) := fun i => by rw [crM_get]; exact okV_can (h i) hk
theorem okR.mono {k m : Nat} {x : RD} (h : okR k x) (hk : k ≤ m) : okR m x := ⟨h.1, h.2.mono hk⟩
theorem okM.mono {k m : Nat} {a : List (List RD)} (h : okM k a) (hk : k ≤ m) : okM m a := fun i j => (h i j).mono hk
theorem mg_el_tab {n m k : Nat} {f : Nat → Nat → Dy} (h : ∀ i j, i < n → j < m → Mg k (f i j)) (i j : Nat) : Mg k (el (tabD n m f) i j) := by
  by_cases hij : i < n ∧ j < m
  · rw [tabD_el hij.1 hij.2]; exact h i j hij.1 hij.2
  · rw [el_out tabD_rect hij]; exact Mg.zero _
end Go.Ax

namespace Go.Ax
open Go Go.RowKit
theorem NO.sl {b sz : Nat} {rows : List (List AV)} (h : ∀ r ∈ rows, ∀ a ∈ r, NO b a) : NO b (.sl sz rows) := fun _ _ _ _ _ hs hx => by
  cases hx with
  | nil => exact .nil
  | e => exact .e
  | sl c hk hc hl hcell hr => exact .sl c hk hc hl hcell (fun i r j av h1 h2 => h r (List.mem_of_getElem? h1) av (List.mem_of_getElem? h2) _ _ _ _ _ hs (hr i r j av h1 h2))
section
variable {C : Cx} {n : Nat} {r : List It} {s : AS} {Q : Lab → AS → Prop}
theorem opG_box {o : Oper} {t : TypeId} {x : Operand} {av : AV} (ho : o.op = .box t x) (hx : ev s x = some av) (h1 : av.cells.all AV.one = true) : OpG C s o ⟨s.env, (s.next, ⟨av.cells.length, [av.cells]⟩) :: s.mem, s.next + 1⟩ (.p s.next av.cells.length 0 0) := by
  intro D S0 w0 σ S a w K R hG hF hE hK
  obtain ⟨y, w', σ', g1, g2, g3, g4⟩ := s_box0 (P := C.P) (U := fun b => b < s.next) (Nat.lt_irrefl _) hF hE ho (e := ⟨True, .p s.next av.cells.length 0 0, .new ⟨av.cells.length, [av.cells]⟩⟩) (by unfold aBox0; rw [hx]; simp only [h1, if_true])
  unfold Oper.wp
  rw [g1]
  refine hK σ' S y w' (g2.congr (fun _ => rfl) (fun b hb => ?_)) g3 g4
  show b < s.next + 1
  rcases hb with hb | hb <;> omega
theorem opG_boxF {o : Oper} {t : TypeId} {x : Operand} {av : AV} (ho : o.op = .box t x) (hx : ev s x = some av) (h1 : av.cells.all AV.one = true) : OpG C s o ⟨s.env, dropM s.next s.mem, s.next + 1⟩ (.rp av.cells) := by
  intro D S0 w0 σ S a w K R hG hF hE hK
  refine opG_box ho hx h1 D S0 w0 σ S a w K R hG hF hE fun σ' S' y w' g1 g2 g3 => ?_
  have hm : look ((s.next, (⟨av.cells.length, [av.cells]⟩ : MB)) :: s.mem) s.next = some ⟨av.cells.length, [av.cells]⟩ := by simp [look]
  have hF2 := g1.frz hm
  refine hK σ' _ y w' ((hF2.sub fun c mc h => ?_).congr (fun _ => rfl) (fun b hb => hb)) (fun t' a' ht' => ?_) (frz_rel g1 hm g3 (frz_p (j := 0) rfl (by simp)))
  · obtain ⟨h2, h3⟩ := look_dropM _ _ _ h
    have : dropM s.next ((s.next, (⟨av.cells.length, [av.cells]⟩ : MB)) :: s.mem) = dropM s.next s.mem := by simp [dropM]
    show look (dropM s.next ((s.next, (⟨av.cells.length, [av.cells]⟩ : MB)) :: s.mem)) c = some mc
    rw [this]; exact h
  · obtain ⟨z, q1, q2⟩ := g2 t' a' ht'
    exact ⟨z, q1, q2.more⟩
theorem after_boxF {t : TypeId} {x : Operand} {d : Option Tmp} {u : TypeId} {pos : String} {af : Array Edge} {g : Option (Nat × Bool)} {av : AV} (hx : ev s x = some av) (h1 : av.cells.all AV.one = true)
    (k : ex C n r ((⟨s.env, dropM s.next s.mem, s.next + 1⟩ : AS).put d (.rp av.cells)) Q) : after C n r s Q ⟨d, .box t x, u, pos, af, g⟩ none := after_big (opG_boxF rfl hx h1) k
end
end Go.Ax

namespace Go.Ax
theorem getD_mem {α : Type} {l : List α} {i : Nat} {d : α} (h : i < l.length) : l.getD i d ∈ l := by
  rw [List.getD, List.getElem?_eq_getElem h]; exact List.getElem_mem _
theorem sumQ_delta' {f : Nat → Rat} {j n : Nat} : sumQ n (fun k => (if j = k then 1 else 0) * f k) = if j < n then f j else 0 := by
  rw [← sumQ_delta (f := f) (j := j) (n := n)]
  exact sumQ_congr fun k _ => by
    by_cases h : k = j
    · rw [if_pos h, if_pos h.symm]; grind
    · rw [if_neg h, if_neg (fun e => h e.symm)]; grind
theorem v_abs (x : Dy) : x.abs.v = absQ x.v := by
  unfold absQ
  exact Dy.v_abs x
theorem rect_abs {n m : Nat} {a : List (List Dy)} (ha : rect n m a) (hn : 0 < n) : rect n m (absD a) := by unfold absD; rw [ha.1, ha.2 0 hn]; exact tabD_rect
theorem el_abs {n m : Nat} {a : List (List Dy)} (ha : rect n m a) (hn : 0 < n) {i j : Nat} (hi : i < n) (hj : j < m) : el (absD a) i j = (el a i j).abs := by unfold absD; rw [ha.1, ha.2 0 hn, tabD_el hi hj]
theorem fine_abs {n m p : Nat} {a : List (List Dy)} (ha : rect n m a) (hn : 0 < n) (fa : fine p a) : fine p (absD a) :=
  fine_of (rect_abs ha hn) fun i j hi hj => by rw [el_abs ha hn hi hj]; exact fa i j
theorem v_maxD (f : Nat → Dy) : ∀ n, 0 ≤ (maxD n f).v ∧ (∀ i, i < n → (f i).v ≤ (maxD n f).v) ∧ ∀ c : Rat, 0 ≤ c → (∀ i, i < n → (f i).v ≤ c) → (maxD n f).v ≤ c
  | 0 => by
    simp only [maxD]; rw [Dy.v_zero]
    exact ⟨Rat.le_refl, fun i h => by omega, fun c h _ => h⟩
  | n + 1 => by
    obtain ⟨h1, h2, h3⟩ := v_maxD f n
    simp only [maxD]
    have e := Dy.v_max (maxD n f) (f n)
    refine ⟨?_, fun i hi => ?_, fun c hc hf => ?_⟩
    · rw [e]; split <;> grind
    · by_cases hin : i = n
      · subst hin; rw [e]; split <;> grind
      · have := h2 i (by omega); rw [e]; split <;> grind
    · have k1 := h3 c hc (fun i hi => hf i (by omega))
      have k2 := hf n (by omega)
      rw [e]; split <;> grind
theorem norm_nn (a : List (List Dy)) : 0 ≤ (normD a).v := (v_maxD (fun i => rowN (a.getD i [])) a.length).1
end Go.Ax

namespace Go.Ax
open Go Go.RowKit
structure CallN (P : Program) (G : GL) (f : FuncId) (args : List AV) (res : AV) (mem : List (Nat × MB)) (nx : Nat) : Prop where
  enters : Enters P f
  cla : ∀ x ∈ args, Cl x
  runs : ∀ (S : Nat → Prop) (w : World) (vs : Array Value), (∀ k, S k → k < w.heap.size) → GS G S w → vs.size = args.length →
    (∀ (i : Nat) (x : Value) (av : AV), vs[i]? = some x → args[i]? = some av → Rel nσ S w x av) →
    Calls P f vs w fun e w' => ∃ x σ S', e = .returned x ∧ Fit ⟨fun _ => False, G, none⟩ S w σ S' mem (fun b => b < nx) w' ∧ Rel σ S' w' x res
def EndsN (ti : Types) (rs : List ResultVar) (res : AV) (mem : List (Nat × MB)) (nx : Nat) (l : Lab) (s : AS) : Prop :=
  (l = .normal ∨ l = .ret) ∧ (∃ p q, resL ti s rs = some (p, q) ∧ p ∧ one q = res) ∧ (∀ b m, look mem b = some m → look s.mem b = some m) ∧ s.next ≤ nx
theorem call_n {C : Cx} (hT : TypesOK C.P C.ti) (hmx : C.P.follows .mixedOrders = true) {f : FuncId} {fn : Func} {c : Code} {args : List AV} {res : AV} {mem : List (Nat × MB)} {nx : Nat} (n : Nat) (hent : Enters C.P f) (hf : C.P.funcs[f]? = some fn) (hb : fn.body = some c) (hnt : fn.ntmps = C.nt) (hargs : args.length ≤ C.nt)
    (hcl : ∀ x ∈ args, Cl x) (h : ex C n [.code c] (entry args) (EndsN C.ti fn.results.toList res mem nx)) : CallN C.P C.G f args res mem nx := by
  refine ⟨hent, hcl, fun S w vs hS hgs hsz hr => ?_⟩
  refine calls_of_wp hf hb ?_
  have hlen : (vs ++ Array.replicate (fn.ntmps - vs.size) undef).size = C.nt := by simp [hnt, hsz]; omega
  have hsim : Sim ⟨fun _ => False, C.G, none⟩ S w C.nt (entry args) { tmps := vs ++ Array.replicate (fn.ntmps - vs.size) undef, defers := [] } w := by
    refine ⟨rfl, hlen, nσ, S, ⟨Bel.refl (fun g l hg => ⟨id, (hgs g l hg).2⟩), (fun b k h => by cases h), (fun b b' k m m' h => by simp [entry, look] at h), hS, (fun _ h => h), (fun _ h => .inl h), ⟨fun g l hg => (hgs g l hg).1, fun k hk => by cases hk⟩, (fun b m h => by simp [entry, look] at h)⟩, fun t av ht => ?_⟩
    obtain ⟨_, h2⟩ := look_entry args 0 t av ht
    simp only [Nat.sub_zero] at h2
    have hlt : t < vs.size := by rw [hsz]; exact (List.getElem?_eq_some_iff.1 h2).1
    exact ⟨vs[t], by simp [Array.getElem?_append, hlt], hr t _ av (by simp [hlt]) h2⟩
  let Post : Ending → World → Prop := fun e w' => ∃ x σ S', e = .returned x ∧ Fit ⟨fun _ => False, C.G, none⟩ S w σ S' mem (fun b => b < nx) w' ∧ Rel σ S' w' x res
  have fin : ∀ (e : Exit) (s : AS) (a : Act) (w' : World), (e = .normal ∨ e = .ret) → (∃ p q, resL C.ti s fn.results.toList = some (p, q) ∧ p ∧ one q = res) → (∀ b m, look mem b = some m → look s.mem b = some m) → s.next ≤ nx → Sim ⟨fun _ => False, C.G, none⟩ S w C.nt s a w' → bodyPost C.P fn Post e a w' := fun e s a w' he hq hm hn hs => ?_
  · have key := ex_sound (D := ⟨fun _ => False, C.G, none⟩) (S0 := S) (w0 := w) (R := bodyPost C.P fn Post) (M := fun _ _ _ => False) hT ⟨rfl, fun _ => rfl⟩ hmx n _ _ _ h _ _ hsim
      ⟨fun s a w q hs => fin _ s a w (.inl rfl) q.2.1 q.2.2.1 q.2.2.2 hs, fun s a w q hs => fin _ s a w (.inr rfl) q.2.1 q.2.2.1 q.2.2.2 hs, fun k s a w q hs => by rcases q.1 with q | q <;> cases q⟩
    simp only [Real] at key
    exact wp_mono key fun e a w' q => by cases e <;> exact q
  · obtain ⟨p, l, hr1, hp1, hone⟩ := hq
    obtain ⟨hd, hn', σ, S', hF, hE⟩ := hs
    obtain ⟨v, hv1, hv2⟩ := results_run (P := C.P) hT hF hE hr1 hp1
    rw [hone] at hv2
    have hF1 : Fit ⟨fun _ => False, C.G, none⟩ S w σ S' mem (fun b => b < nx) w' := by
      have h1 := hF.sub hm
      exact ⟨h1.below, fun b k hk => ⟨Nat.lt_of_lt_of_le (h1.dom b k hk).1 hn, (h1.dom b k hk).2⟩, h1.inj, h1.sbd, h1.s0, h1.s1, h1.glob, h1.mem⟩
    have hfin : Post (.returned v) w' := ⟨v, σ, S', rfl, hF1, hv2⟩
    rcases he with rfl | rfl
    · exact ⟨hd, v, hv1, hfin⟩
    · exact ⟨hd, v, hv1, hfin⟩
theorem LeL.relN {l m : List AV} (h : LeL l m) {σ : Sig} {S : Nat → Prop} {w : World} {vs : Array Value} (hcl : ∀ x ∈ m, Cl x) (hr : ∀ (i : Nat) (x : Value) (av : AV), vs[i]? = some x → l[i]? = some av → Rel σ S w x av) :
    ∀ (i : Nat) (x : Value) (av : AV), vs[i]? = some x → m[i]? = some av → Rel nσ S w x av := fun i x av hx ha => by
  obtain ⟨a, h1, h2⟩ := h.get i av ha
  exact hcl av (List.mem_of_getElem? ha) _ _ _ _ (h2 _ _ _ _ (hr i x a hx h1))
theorem callG_n {C : Cx} {s : AS} {g : FuncId} {as args : List AV} {n m : Nat} {z : List (List AV)} (nx : Nat) (hCa : C.an = false) (hnx : n + 1 ≤ nx) (hm0 : s.mem = []) (hE0 : ∀ t a, look s.env t = some a → Cl a) (hz : ∀ r ∈ z, ∀ a ∈ r, Cl a) (hle : LeL as args)
    (h : CallN C.P C.G g args (.ps 0 1 0 n) ((0, ⟨1, slots 1 n m⟩) :: nest 1 n z) (n + 1)) :
    CallG C s g as ⟨s.env, (0, ⟨1, slots 1 n m⟩) :: nest 1 n z, nx⟩ (.ps 0 1 0 n) := by
  intro D S0 w0 σ S a w vs hG hF hE hsz hr
  have han : D.an = none := hG.2 hCa
  · refine (h.runs S w vs hF.sbd (by rw [← hG.1]; exact hF.gs) (by rw [hsz, hle.length]) (hle.relN h.cla hr)).mono fun e w' hw => ?_
    obtain ⟨x, σ1, S1, rfl, hF1, hx⟩ := hw
    have hb : Below w.heap.size w w' := hF1.below.none
    have up : ∀ k, k < w.heap.size → S1 k → S k := fun k hk h1 => by
      rcases hF1.s1 k h1 with h2 | h2
      · exact h2
      · rcases h2 with h2 | h2
        · omega
        · exact h2.elim
    refine ⟨x, rfl, σ1, S1, ⟨hF.below.then hb, fun b k hk => ⟨Nat.lt_of_lt_of_le (hF1.dom b k hk).1 hnx, (hF1.dom b k hk).2⟩, hF1.inj, hF1.sbd, fun k hk => hF1.s0 k (hF.s0 k hk), fun k hk => ?_, ⟨fun g l hg => hF1.s0 g (hF.glob.1 g l hg), fun k hk => by rw [han] at hk; cases hk⟩, fun b mm hb' => ?_⟩, fun t av ht => ?_, hx⟩
    · rcases hF1.s1 k hk with h2 | h2
      · exact hF.s1 k h2
      · rcases h2 with h2 | h2
        · exact .inr (.inl (Nat.le_trans hF.below.size h2))
        · exact h2.elim
    · rcases hF1.mem b mm hb' with h2 | ⟨k, c, e, g1, g2, g3⟩
      · exact .inl h2
      · refine .inr ⟨k, c, e, g1, ?_, g3⟩
        rcases g2 with g2 | g2
        · exact .inl (Nat.le_trans hF.below.size g2)
        · exact g2.elim
    · obtain ⟨y, hy, hyr⟩ := hE t av ht
      refine ⟨y, hy, ?_⟩
      have h1 := hE0 t av ht _ _ _ _ hyr
      exact h1.mono (fun _ _ h => by cases h) (fun k hk => hF1.s0 k hk) ⟨fun k hk => hb.block k (hF.sbd k hk), fun b k c e f hs => by cases hs⟩
end Go.Ax

namespace Go.Ax
open Go Go.RowKit
theorem Weak.rowKeep {s : AS} {E : List (Nat × AV)} {D : List (List AV)} {c k m nx : Nat} {z L : List (List AV)} (hc : 1 ≤ c) (hck : c + k < nx) (hE : envOK s.env E) (h1 : look s.mem 1 = some ⟨3, L⟩) (h0 : look s.mem 0 = some ⟨1, D ++ [.ps 1 3 0 m] :: slots (c + 1) k m⟩)
    (hN : ∀ b, c + 1 ≤ b → b < c + 1 + k → look s.mem b = some ⟨3, z⟩) (hD : ∀ r ∈ D, ∀ a ∈ r, Cl a) (hz : ∀ r ∈ z, ∀ a ∈ r, Cl a) (hL : ∀ r ∈ L, ∀ a ∈ r, Cl a) :
    Weak s ⟨E, (1, ⟨3, L⟩) :: (0, ⟨1, D ++ [.ps 1 3 0 m] :: slots (c + 1) k m⟩) :: nest (c + 1) k z, nx⟩ := by
  let ρ : Nat → Option Nat := fun b => if b < nx then some b else none
  have hρ : ∀ b, b < nx → ρ b = some b := fun b h => by simp only [ρ]; rw [if_pos h]
  refine Weak.gen ρ (hρ 0 (by omega)) (fun b q h => ?_) (fun b b' m m' q h1 h2 h3 h4 => ?_) (envOK_look (ρ := ρ) (hρ 0 (by omega)) E hE) (fun b m' h => ?_)
  · simp only [ρ] at h; show b < nx
    split at h
    · assumption
    · cases h
  · simp only [ρ] at h3 h4
    split at h3 <;> split at h4 <;> first | (cases h3; done) | (cases h4; done) | (injection h3 with h3; injection h4 with h4; omega)
  · simp only [look] at h
    split at h
    · rename_i hb; injection h with h; subst hb h
      exact .inr ⟨1, _, hρ 1 (by omega), h1, rfl, genR.rows hL⟩
    · split at h
      · rename_i hb; injection h with h; subst hb h
        refine .inr ⟨0, _, hρ 0 (by omega), h0, rfl, (genR.rows hD).append (.one (genA_ps (hρ 1 (by omega))) (.refl fun r hr a ha => ?_))⟩
        obtain ⟨q, g1, g2, rfl⟩ := slots_mem hr
        simp only [List.mem_cons, List.not_mem_nil, or_false] at ha
        subst ha
        exact genA_ps (hρ q (by omega))
      · obtain ⟨g1, g2, rfl⟩ := nest_look h
        exact .inr ⟨b, ⟨3, z⟩, hρ b (by omega), hN b (by omega) (by omega), rfl, genR.rows hz⟩
theorem Weak.rowsKeep {s : AS} {E : List (Nat × AV)} {D : List (List AV)} {c k m nx : Nat} {z : List (List AV)} (hc : 1 ≤ c) (hck : c + k ≤ nx) (hnx : 0 < nx) (hE : envOK s.env E) (h0 : look s.mem 0 = some ⟨1, D ++ slots c k m⟩)
    (hN : ∀ b, c ≤ b → b < c + k → look s.mem b = some ⟨3, z⟩) (hD : ∀ r ∈ D, ∀ a ∈ r, Cl a) (hz : ∀ r ∈ z, ∀ a ∈ r, Cl a) :
    Weak s ⟨E, (0, ⟨1, D ++ slots c k m⟩) :: nest c k z, nx⟩ := by
  let ρ : Nat → Option Nat := fun b => if b < nx then some b else none
  have hρ : ∀ b, b < nx → ρ b = some b := fun b h => by simp only [ρ]; rw [if_pos h]
  refine Weak.gen ρ (hρ 0 (by omega)) (fun b q h => ?_) (fun b b' m m' q h1 h2 h3 h4 => ?_) (envOK_look (ρ := ρ) (hρ 0 (by omega)) E hE) (fun b m' h => ?_)
  · simp only [ρ] at h; show b < nx
    split at h
    · assumption
    · cases h
  · simp only [ρ] at h3 h4
    split at h3 <;> split at h4 <;> first | (cases h3; done) | (cases h4; done) | (injection h3 with h3; injection h4 with h4; omega)
  · simp only [look] at h
    split at h
    · rename_i hb; injection h with h; subst hb h
      refine .inr ⟨0, _, hρ 0 (by omega), h0, rfl, (genR.rows hD).append (.refl fun r hr a ha => ?_)⟩
      obtain ⟨q, g1, g2, rfl⟩ := slots_mem hr
      simp only [List.mem_cons, List.not_mem_nil, or_false] at ha
      subst ha
      exact genA_ps (hρ q (by omega))
    · obtain ⟨g1, g2, rfl⟩ := nest_look h
      exact .inr ⟨b, ⟨3, z⟩, hρ b (by omega), hN b (by omega) (by omega), rfl, genR.rows hz⟩
theorem Weak.rowMade {s : AS} {E : List (Nat × AV)} {i m r : Nat} {z : List (List AV)} (hE : envOK s.env E) (h0 : look s.mem 0 = some ⟨1, slots 1 (i + 1) m ++ List.replicate r [.v (.slice none 0 0)]⟩)
    (hN : ∀ b, 1 ≤ b → b < 1 + (i + 1) → look s.mem b = some ⟨3, z⟩) (hz : ∀ r ∈ z, ∀ a ∈ r, Cl a) :
    Weak s ⟨E, (0, ⟨1, slots 1 (i + 1) m ++ List.replicate r [.v (.slice none 0 0)]⟩) :: nest 1 (i + 1) z, i + 1 + 1⟩ := by
  let ρ : Nat → Option Nat := fun b => if b < i + 1 + 1 then some b else none
  have hρ : ∀ b, b < i + 1 + 1 → ρ b = some b := fun b h => by simp only [ρ]; rw [if_pos h]
  refine Weak.gen ρ (hρ 0 (by omega)) (fun b q h => ?_) (fun b b' m m' q h1 h2 h3 h4 => ?_) (envOK_look (ρ := ρ) (hρ 0 (by omega)) E hE) (fun b m' h => ?_)
  · simp only [ρ] at h; show b < i + 1 + 1
    split at h
    · assumption
    · cases h
  · simp only [ρ] at h3 h4
    split at h3 <;> split at h4 <;> first | (cases h3; done) | (cases h4; done) | (injection h3 with h3; injection h4 with h4; omega)
  · simp only [look] at h
    split at h
    · rename_i hb; injection h with h; subst hb h
      refine .inr ⟨0, _, hρ 0 (by omega), h0, rfl, genR.append (.refl fun r hr a ha => ?_) (genR.rows nil_cl)⟩
      obtain ⟨q, g1, g2, rfl⟩ := slots_mem hr
      simp only [List.mem_cons, List.not_mem_nil, or_false] at ha
      subst ha
      exact genA_ps (hρ q (by omega))
    · obtain ⟨g1, g2, rfl⟩ := nest_look h
      exact .inr ⟨b, ⟨3, z⟩, hρ b (by omega), hN b (by omega) (by omega), rfl, genR.rows hz⟩
theorem genR.mle {ρ : Nat → Option Nat} {z L : List (List AV)} (h : MLe ⟨3, z⟩ ⟨3, L⟩) (hL : ∀ r ∈ L, ∀ a ∈ r, Cl a) : genR ρ z L :=
  ⟨h.2.1, fun i r' hr => by
    obtain ⟨r, q1, q2, q3⟩ := h.2.2 i r' hr
    exact ⟨r, q1, q2, fun j c hc => by
      obtain ⟨a, g1, g2⟩ := q3 j c hc
      exact ⟨a, g1, .inr (.inr ⟨g2, hL r' (List.mem_of_getElem? hr) c (List.mem_of_getElem? hc)⟩)⟩⟩⟩
theorem Weak.rowTakeL {s : AS} {E : List (Nat × AV)} {D : List (List AV)} {c k m nx : Nat} {z L : List (List AV)} (hc : 1 ≤ c) (hck : c + k < nx) (hE : envOK s.env E) (h0 : look s.mem 0 = some ⟨1, D ++ slots c (k + 1) m⟩) (hM : ∀ b, c ≤ b → b < c + (k + 1) → look s.mem b = some ⟨3, z⟩)
    (hD : ∀ r ∈ D, ∀ a ∈ r, Cl a) (hz : ∀ r ∈ z, ∀ a ∈ r, Cl a) (hle : MLe ⟨3, z⟩ ⟨3, L⟩) (hL : ∀ r ∈ L, ∀ a ∈ r, Cl a) :
    Weak s ⟨E, (1, ⟨3, L⟩) :: (0, ⟨1, D ++ [.ps 1 3 0 m] :: slots (c + 1) k m⟩) :: nest (c + 1) k z, nx⟩ := by
  let ρ : Nat → Option Nat := fun b => if b = 0 then some 0 else if b = 1 then some c else if c < b ∧ b < c + (k + 1) then some b else none
  refine Weak.gen ρ rfl (fun b q h => ?_) (fun b b' m m' q h1 h2 h3 h4 => ?_) (envOK_look (ρ := ρ) rfl E hE) (fun b m' h => ?_)
  · simp only [ρ] at h; show b < nx
    split at h
    · omega
    · split at h
      · omega
      · split at h
        · omega
        · cases h
  · simp only [ρ] at h3 h4
    (repeat' split at h3) <;> (repeat' split at h4) <;> first | (cases h3; done) | (cases h4; done) | (injection h3 with h3; injection h4 with h4; omega)
  · simp only [look] at h
    split at h
    · rename_i hb; injection h with h; subst hb h
      exact .inr ⟨c, _, rfl, hM c (by omega) (by omega), rfl, genR.mle hle hL⟩
    · split at h
      · rename_i hb; injection h with h; subst hb h
        refine .inr ⟨0, _, rfl, h0, rfl, (genR.rows hD).append (.one (genA_ps rfl) (.refl fun r hr a ha => ?_))⟩
        obtain ⟨q, g1, g2, rfl⟩ := slots_mem hr
        simp only [List.mem_cons, List.not_mem_nil, or_false] at ha
        subst ha
        refine genA_ps ?_
        simp only [ρ]
        rw [if_neg (by omega), if_neg (by omega), if_pos (by omega)]
      · obtain ⟨g1, g2, rfl⟩ := nest_look h
        refine .inr ⟨b, ⟨3, z⟩, ?_, hM b (by omega) (by omega), rfl, genR.rows hz⟩
        simp only [ρ]
        rw [if_neg (by omega), if_neg (by omega), if_pos (by omega)]
theorem tabD_done {i m : Nat} {g : Nat → Nat → Dy} {R : List (List AV)} : mrows (crM (tabD (i + 1) m g)) ++ R = (mrows (crM (tabD i m g)) ++ [[.sl 3 (vrows ((tabV m (g i)).map can))]]) ++ R := by
  rw [tabD_succ, crM, List.map_append, mrows_append]; rfl
def clE : List (Nat × AV) → Prop
  | [] => True
  | (_, a) :: l => Cl a ∧ clE l
theorem clE_look : ∀ {l : List (Nat × AV)}, clE l → ∀ t a, look l t = some a → Cl a
  | [], _, t, a, h => by cases h
  | (t', a') :: l, hl, t, a, h => by
    simp only [look] at h
    split at h
    · injection h with h; subst h; exact hl.1
    · exact clE_look hl.2 t a h
section
variable {C : Cx} {n' : Nat} {r : List It} {s : AS} {Q : Lab → AS → Prop} {d : Option Tmp}
theorem callF_n {g : FuncId} {as args : List AV} {n m : Nat} {z : List (List AV)} (nx : Nat) (hCa : C.an = false) (hnx : n + 1 ≤ nx) (hm0 : s.mem = []) (hE0 : clE s.env) (hz : ∀ r ∈ z, ∀ a ∈ r, Cl a) (hle : LeL as args)
    (h : CallN C.P C.G g args (.ps 0 1 0 n) ((0, ⟨1, slots 1 n m⟩) :: nest 1 n z) (n + 1))
    (k : ex C n' r ((⟨s.env, (0, ⟨1, slots 1 n m⟩) :: nest 1 n z, nx⟩ : AS).put d (.ps 0 1 0 n)) Q) : callF C n' r s Q g as d :=
  callF_big h.enters (callG_n nx hCa hnx hm0 (clE_look hE0) hz hle h) k
end
def zr (m : Nat) : List (List AV) := List.replicate m [.v (.bool false), .v (.slice none 0 0), .v (.int .i64 0)]
theorem zr_cl {m : Nat} : ∀ r ∈ zr m, ∀ a ∈ r, Cl a := fun r hr a ha => by
  rw [(List.mem_replicate.1 hr).2] at ha
  simp only [List.mem_cons, List.not_mem_nil, or_false] at ha
  rcases ha with rfl | rfl | rfl <;> exact Cl.v _
def mixV (m k : Nat) (f : Nat → Dy) : List Dy := tabV k f ++ List.replicate (m - k) Dy.zero
theorem mixV_len {m k : Nat} {f : Nat → Dy} (h : k ≤ m) : (mixV m k f).length = m := by simp [mixV, tabV_len]; omega
theorem mixV_all {m : Nat} {f : Nat → Dy} : mixV m m f = tabV m f := by simp [mixV]
theorem mixV_get {m k : Nat} {f : Nat → Dy} (h : k < m) : (mixV m k f).getD k Dy.zero = Dy.zero := by
  unfold mixV
  rw [List.getD, List.getElem?_append_right (by rw [tabV_len]; exact Nat.le_refl _), tabV_len, Nat.sub_self]
  obtain ⟨q, hq⟩ : ∃ q, m - k = q + 1 := ⟨m - k - 1, by omega⟩
  rw [hq]; rfl
theorem mixV_set {m k : Nat} {f : Nat → Dy} {x : Dy} (h : k < m) : (mixV m k f).set k x = tabV k f ++ x :: List.replicate (m - k - 1) Dy.zero := by
  unfold mixV
  obtain ⟨q, hq⟩ : ∃ q, m - k = q + 1 := ⟨m - k - 1, by omega⟩
  rw [hq, List.replicate_succ, set_mid tabV_len]; rfl
theorem mixV_step {m k : Nat} {f : Nat → Dy} (h : k < m) : (mixV m k f).set k (f k) = mixV m (k + 1) f := by
  rw [mixV_set h]
  unfold mixV
  rw [tabV_succ, show m - (k + 1) = m - k - 1 by omega]
  simp
theorem crows_set {l : List Dy} {k : Nat} {x : Dy} : (vrows (l.map can)).set k (crow x) = vrows ((l.set k x).map can) := by
  rw [← vrow_can, vrows_set, List.map_set]
theorem MLe.zr (m : Nat) : MLe ⟨3, Ax.zr m⟩ ⟨3, vrows ((List.replicate m Dy.zero).map can)⟩ := by
  refine ⟨rfl, by simp [Ax.zr, vrows], fun i r' h => ?_⟩
  have hr : r' = crow Dy.zero ∧ i < m := by
    simp only [vrows, List.map_replicate] at h
    have hm := List.mem_of_getElem? h
    have hi := (List.getElem?_eq_some_iff.1 h).1
    exact ⟨(List.mem_replicate.1 hm).2, by simpa using hi⟩
  obtain ⟨rfl, hi⟩ := hr
  refine ⟨[.v (.bool false), .v (.slice none 0 0), .v (.int .i64 0)], by simp [Ax.zr, hi], rfl, fun j a hj => ?_⟩
  exact LeL.dy0.get j a (by rw [← can_zero]; exact hj)
theorem mix_zero {m : Nat} {f : Nat → Dy} : mixV m 0 f = List.replicate m Dy.zero := by simp [mixV, tabV]
end Go.Ax

namespace Go.Ax
open Go Go.RowKit
def envG (c : Nat) (env : List (Nat × AV)) : List (Nat × AV) → Prop
  | [] => True
  | (t, x) :: l => ((∃ a, look env t = some a ∧ Le a x ∧ Cl x) ∨ ∃ sz row n, x = .ps 1 sz row n ∧ look env t = some (.ps c sz row n)) ∧ envG c env l
theorem envG_look {c : Nat} {ρ : Nat → Option Nat} (h1 : ρ 1 = some c) {env : List (Nat × AV)} : ∀ (l : List (Nat × AV)), envG c env l → ∀ t x, look l t = some x → ∃ a, look env t = some a ∧ genA ρ a x
  | [], _, t, x, h => by cases h
  | (t', x') :: l, hl, t, x, h => by
    simp only [look] at h
    split at h
    · rename_i he; injection h with h; subst he h
      rcases hl.1 with ⟨a, h1, h2, h3⟩ | ⟨sz, row, n, rfl, h2⟩
      · exact ⟨a, h1, .inr (.inr ⟨h2, h3⟩)⟩
      · exact ⟨_, h2, .inl ⟨_, _, _, _, _, rfl, rfl, h1⟩⟩
    · exact envG_look h1 l hl.2 t x h
theorem Weak.grown1 {s : AS} {E : List (Nat × AV)} {c sz : Nat} {L : List (List AV)} (hE : envG c s.env E) (h1 : look s.mem c = some ⟨sz, L⟩) (hL : ∀ r ∈ L, ∀ a ∈ r, Cl a) : Weak s ⟨E, [(1, ⟨sz, L⟩)], 2⟩ := by
  refine Weak.gen (ρ2 c) rfl (fun b k h => ?_) (fun b b' m m' k h1 h2 h3 h4 => ?_) (envG_look (ρ := ρ2 c) rfl E hE) (fun k m' h => ?_)
  · simp only [ρ2] at h; show b < 2
    split at h
    · omega
    · split at h
      · omega
      · cases h
  · simp only [look] at h1 h2
    split at h1
    · split at h2
      · omega
      · cases h2
    · cases h1
  · simp only [look] at h
    split at h
    · rename_i hk; injection h with h; subst hk h
      exact .inr ⟨c, _, rfl, h1, rfl, genR.rows hL⟩
    · cases h
def sumV (x y : List Dy) : List Dy := tabV x.length fun i => (x.getD i Dy.zero).add (y.getD i Dy.zero)
theorem sumV_len (x y : List Dy) : (sumV x y).length = x.length := tabV_len
theorem sumV_get {x y : List Dy} {i : Nat} (h : i < x.length) : (sumV x y).getD i Dy.zero = (x.getD i Dy.zero).add (y.getD i Dy.zero) := tabV_get h
def zeroV (n : Nat) : List Dy := List.replicate n Dy.zero
def pushD (dv : List (List Dy)) (w outer : List Dy) : List Dy := sumV (appD dv outer) w
def driftD (a : List (List Dy)) (push : List Dy) : Nat → List Dy
  | 0 => zeroV a.length
  | j + 1 => sumV (driftD a push j) (appD (absD (powD a j)) push)
def reachD (a dv : List (List Dy)) (w inner outer : List Dy) (j : Nat) : List Dy := sumV (appD (absD (powD a j)) inner) (driftD a (pushD dv w outer) j)
def withinD (x box : List Dy) : Bool := decide (∀ i, i < x.length → (x.getD i Dy.zero).abs.cmp (box.getD i Dy.zero) ≤ 0)
end Go.Ax

namespace Go.Ax
open Go Go.RowKit
def genP (ρ : Nat → Option Nat) (a c : AV) : Prop := genA ρ a c ∨ ∃ b' b sz row j, a = .p b' sz row j ∧ c = .p b sz row j ∧ ρ b = some b'
theorem genP_rel {ρ : Nat → Option Nat} {σ : Sig} {S : Nat → Prop} {w : World} {x : Value} {a c : AV} (h : genP ρ a c) (hr : Rel σ S w x a) : Rel (genσ ρ σ) S w x c := by
  rcases h with h | ⟨b', b, sz, row, j, rfl, rfl, h⟩
  · exact genA_rel h hr
  · cases hr with
    | p hσ => exact .p (by simp [genσ, h, hσ])
theorem Weak.genE {s s' : AS} (ρ : Nat → Option Nat) (h0 : ρ 0 = some 0) (hd : ∀ b k, ρ b = some k → b < s'.next)
    (hi : ∀ b b' m m' k, look s'.mem b = some m → look s'.mem b' = some m' → ρ b = some k → ρ b' = some k → b = b')
    (he : ∀ t c, look s'.env t = some c → ∃ a, look s.env t = some a ∧ genP ρ a c)
    (hm : ∀ k m', look s'.mem k = some m' → (m'.rows = [] ∧ ρ k = none) ∨ ∃ k0 m0, ρ k = some k0 ∧ look s.mem k0 = some m0 ∧ m'.sz = m0.sz ∧ genR ρ m0.rows m'.rows) : Weak s s' := by
  intro D S0 w0 σ S w hF hn
  obtain ⟨σ', S', g1, g2⟩ := Weak.gen (s := ⟨[], s.mem, s.next⟩) (s' := ⟨[], s'.mem, s'.next⟩) ρ h0 hd hi (fun t c h => by cases h) hm D S0 w0 σ S w hF hn
  have un : ∀ b k, genσ ρ σ b = some k → ∃ b0, ρ b = some b0 ∧ σ b0 = some k := fun b k h => by
    unfold genσ at h
    cases hb : ρ b with
    | none => rw [hb] at h; cases h
    | some b0 => rw [hb] at h; exact ⟨b0, rfl, h⟩
  refine ⟨genσ ρ σ, S, ⟨hF.below, fun b k hk => ?_, fun b b' k m m' h1 h2 h3 h4 => ?_, hF.sbd, hF.s0, hF.s1, ⟨hF.glob.1, fun k hk => by simp [genσ, h0, hF.glob.2 k hk]⟩, fun b m' h => ?_⟩, fun a hE t c ht => ?_⟩
  · obtain ⟨b0, q1, q2⟩ := un b k hk
    exact ⟨hd b b0 q1, (hF.dom b0 k q2).2⟩
  · obtain ⟨b0, q1, q2⟩ := un b k h3
    obtain ⟨b1, q3, q4⟩ := un b' k h4
    rcases hm b m h1 with ⟨_, g⟩ | ⟨k0, m0, g1, g2, _⟩
    · rw [g] at q1; cases q1
    rcases hm b' m' h2 with ⟨_, g⟩ | ⟨k1, m1, g3, g4, _⟩
    · rw [g] at q3; cases q3
    have e0 : k0 = b0 := Option.some.inj (g1.symm.trans q1)
    have e1 : k1 = b1 := Option.some.inj (g3.symm.trans q3)
    subst e0 e1
    have := hF.inj k0 k1 k m0 m1 g2 g4 q2 q4
    subst this
    exact hi b b' m m' k0 h1 h2 q1 q3
  · rcases hm b m' h with ⟨g1, g2⟩ | ⟨k0, m0, g1, g2, g3, g4, g5⟩
    · exact .inl ⟨g1, by simp [genσ, g2]⟩
    · rcases hF.mem k0 m0 g2 with ⟨f1, f2⟩ | ⟨k, c0, e, f1, f2, f3, f4, f5, f6, f7⟩
      · refine .inl ⟨?_, by simp [genσ, g1, f2]⟩
        rw [f1] at g4; exact List.length_eq_zero_iff.1 g4
      · refine .inr ⟨k, c0, e, by simp [genσ, g1, f1], f2, f3, f4, fun r' hr' => ?_, by rw [g3, g4]; exact f6, fun i r' j c hi' hj => ?_⟩
        · obtain ⟨i, hi'⟩ := List.getElem?_of_mem hr'
          obtain ⟨r, q1, q2, _⟩ := g5 i r' hi'
          rw [q2, g3]; exact f5 r (List.mem_of_getElem? q1)
        · obtain ⟨r, q1, q2, q3⟩ := g5 i r' hi'
          obtain ⟨a0, q4, q5⟩ := q3 j c hj
          obtain ⟨x, hx, hr⟩ := f7 i r j a0 q1 q4
          exact ⟨x, by rw [g3]; exact hx, genA_rel q5 hr⟩
  · obtain ⟨a0, h1, h2⟩ := he t c ht
    obtain ⟨x, hx, hr⟩ := hE t a0 h1
    exact ⟨x, hx, genP_rel h2 hr⟩
def gEnv (ρ : Nat → Option Nat) (env : List (Nat × AV)) : List (Nat × AV) → Prop
  | [] => True
  | (t, x) :: l => (∃ a, look env t = some a ∧ genP ρ a x) ∧ gEnv ρ env l
theorem gEnv_look {ρ : Nat → Option Nat} {env : List (Nat × AV)} : ∀ (l : List (Nat × AV)), gEnv ρ env l → ∀ t x, look l t = some x → ∃ a, look env t = some a ∧ genP ρ a x
  | [], _, t, x, h => by cases h
  | (t', x') :: l, hl, t, x, h => by
    simp only [look] at h
    split at h
    · rename_i he; injection h with h; subst he h; exact hl.1
    · exact gEnv_look l hl.2 t x h
def gMem (ρ : Nat → Option Nat) (mem : List (Nat × MB)) : List (Nat × MB) → Prop
  | [] => True
  | (k, m') :: l => ((m'.rows = [] ∧ ρ k = none) ∨ ∃ k0 m0, ρ k = some k0 ∧ look mem k0 = some m0 ∧ m'.sz = m0.sz ∧ genR ρ m0.rows m'.rows) ∧ gMem ρ mem l
theorem gMem_look {ρ : Nat → Option Nat} {mem : List (Nat × MB)} : ∀ (l : List (Nat × MB)), gMem ρ mem l → ∀ k m', look l k = some m' → (m'.rows = [] ∧ ρ k = none) ∨ ∃ k0 m0, ρ k = some k0 ∧ look mem k0 = some m0 ∧ m'.sz = m0.sz ∧ genR ρ m0.rows m'.rows
  | [], _, k, m', h => by cases h
  | (k', m1) :: l, hl, k, m', h => by
    simp only [look] at h
    split at h
    · rename_i he; injection h with h; subst he h; exact hl.1
    · exact gMem_look l hl.2 k m' h
theorem look_mem {α : Type} : ∀ {l : List (Nat × α)} {k : Nat} {x : α}, look l k = some x → (k, x) ∈ l
  | (k', x') :: l, k, x, h => by
    simp only [look] at h
    split at h
    · rename_i he; injection h with h; subst he h; exact List.Mem.head _
    · exact List.Mem.tail _ (look_mem h)
theorem Weak.map {s : AS} (l : List (Nat × Nat)) {E : List (Nat × AV)} {M : List (Nat × MB)} {nx : Nat} (h0 : look l 0 = some 0) (hd : ∀ p ∈ l, p.1 < nx) (hi : ∀ p ∈ l, ∀ q ∈ l, p.2 = q.2 → p.1 = q.1)
    (he : gEnv (look l) s.env E) (hm : gMem (look l) s.mem M) : Weak s ⟨E, M, nx⟩ :=
  Weak.genE (look l) h0 (fun b k h => hd _ (look_mem h)) (fun b b' _ _ k _ _ h1 h2 => hi _ (look_mem h1) _ (look_mem h2) rfl) (gEnv_look E he) (gMem_look M hm)
def genL (ρ : Nat → Option Nat) : List AV → List AV → Prop
  | [], [] => True
  | a :: l, c :: m => genA ρ a c ∧ genL ρ l m
  | _, _ => False
theorem genL_get {ρ : Nat → Option Nat} : ∀ {l m : List AV}, genL ρ l m → m.length = l.length ∧ ∀ (j : Nat) (c : AV), m[j]? = some c → ∃ a, l[j]? = some a ∧ genA ρ a c
  | [], [], _ => ⟨rfl, fun j c h => by simp at h⟩
  | a :: l, c :: m, h => by
    obtain ⟨h1, h2⟩ := genL_get (l := l) (m := m) h.2
    refine ⟨by simp [h1], fun j c' hj => ?_⟩
    match j with
    | 0 => simp at hj; subst hj; exact ⟨a, rfl, h.1⟩
    | j + 1 => simp at hj; obtain ⟨x, q1, q2⟩ := h2 j c' hj; exact ⟨x, by simpa using q1, q2⟩
theorem genR_row {ρ : Nat → Option Nat} {r r' : List AV} (h : genL ρ r r') : genR ρ [r] [r'] := by
  obtain ⟨h1, h2⟩ := genL_get h
  refine ⟨rfl, fun i x hx => ?_⟩
  match i with
  | 0 => simp at hx; subst hx; exact ⟨r, rfl, h1, h2⟩
  | i + 1 => simp at hx
def frzR (b : Nat) (m : MB) : List AV → List AV → Prop
  | [], [] => True
  | a :: l, c :: l' => (∃ x, Pub [(b, m)] a x ∧ Le x c) ∧ frzR b m l l'
  | _, _ => False
theorem frzR_get {b : Nat} {m : MB} : ∀ {l l' : List AV}, frzR b m l l' → l'.length = l.length ∧ ∀ (j : Nat) (c : AV), l'[j]? = some c → ∃ a x, l[j]? = some a ∧ Pub [(b, m)] a x ∧ Le x c
  | [], [], _ => ⟨rfl, fun j c h => by simp at h⟩
  | a :: l, c :: l', h => by
    obtain ⟨h1, h2⟩ := frzR_get (l := l) (l' := l') h.2
    refine ⟨by simp [h1], fun j c' hj => ?_⟩
    match j with
    | 0 => simp at hj; subst hj; obtain ⟨x, q1, q2⟩ := h.1; exact ⟨a, x, rfl, q1, q2⟩
    | j + 1 => simp at hj; obtain ⟨a', x, q1, q2⟩ := h2 j c' hj; exact ⟨a', x, by simpa using q1, q2⟩
theorem MBle.row {b sz : Nat} {m : MB} {r r' : List AV} (h : frzR b m r r') : MBle b m ⟨sz, [r]⟩ ⟨sz, [r']⟩ := by
  obtain ⟨h1, h2⟩ := frzR_get h
  refine ⟨rfl, rfl, fun i x hx => ?_⟩
  match i with
  | 0 => simp at hx; subst hx; exact ⟨r, rfl, h1, fun j av hj => h2 j av hj⟩
  | i + 1 => simp at hx
theorem byGE {ρ : Nat → Option Nat} {env E : List (Nat × AV)} (h : gEnv ρ env E := by (repeat' (first | exact trivial | exact ⟨_, rfl, .inr ⟨_, _, _, _, _, rfl, rfl, rfl⟩⟩ | exact ⟨_, rfl, .inl (.inr (.inr ⟨.refl _, Cl.v _⟩))⟩ | exact ⟨_, rfl, .inl (.inr (.inr ⟨.refl _, Cl.vec⟩))⟩ | exact ⟨_, rfl, .inl (.inr (.inr ⟨.refl _, Cl.mat⟩))⟩ | exact ⟨_, rfl, .inl (.inr (.inr ⟨.refl _, Cl.u32s⟩))⟩ | exact ⟨_, rfl, .inl (.inl ⟨_, _, _, _, _, rfl, rfl, rfl⟩)⟩ | exact ⟨_, rfl, .inl (.inr (.inl ⟨_, _, _, rfl, rfl⟩))⟩ | exact ⟨_, rfl, .inl (.inr (.inr ⟨.refl _, byCl⟩))⟩ | refine And.intro ?_ ?_))) : gEnv ρ env E := h
end Go.Ax

namespace Go.Ax
def upD (x y : Dy) (den : Nat) : Dy := (x.neg.quo y den).neg
def normsM (a : List (List Dy)) (k : Nat) : Dy := maxD k fun i => normD (powD a i)
def normsS (a : List (List Dy)) (k : Nat) : Dy := sumD k fun i => normD (powD a i)
def mkL (q : Dy) : Dy := (Dy.int 1).sub q
def mkH (s d : Dy) : Dy := (Dy.int 1).sub (s.mul d)
def mkG (q c s d : Dy) : Dy := ((mkL q).mul (mkH s d)).sub ((s.mul d).mul c)
def mkT (q c s d w : Dy) : Dy := upD ((s.mul w).shift 1) (mkG q c s d) 16
def mkU (q c s d w : Dy) : Dy := upD ((c.mul (mkT q c s d w)).add (s.mul w)) (mkH s d) 32
def mkBad (q c s d : Dy) : Prop := (mkL q).sign ≤ 0 ∨ (mkH s d).sign ≤ 0 ∨ (mkG q c s d).sign ≤ 0
instance (q c s d : Dy) : Decidable (mkBad q c s d) := inferInstanceAs (Decidable (_ ∨ _ ∨ _))
def acceptsD (K : Nat) (a dv : List (List Dy)) (w inner outer : List Dy) : Bool := decide (∀ j, j < K + 1 → withinD (reachD a dv w inner outer j) (if j = K then inner else outer) = true)
def maxV (w : List Dy) : Dy := maxD w.length fun i => w.getD i Dy.zero
def boxD (n : Nat) (x : Dy) : List Dy := List.replicate n x
def makeN (k : Nat) (a dv : List (List Dy)) (w : List Dy) (q c s d w0 : Dy) : Option (Dy × Dy) :=
  if mkBad q c s d then none else if acceptsD k a dv w (boxD a.length (mkT q c s d w0)) (boxD a.length (mkU q c s d w0)) then some (mkT q c s d w0, mkU q c s d w0) else none
def makeD (k : Nat) (a dv : List (List Dy)) (w : List Dy) : Option (Dy × Dy) := makeN k a dv w (normD (powD a k)) (normsM a k) (normsS a k) (normD dv) (maxV w)
theorem nrm_nn {z : Int} {d : Nat} (h : 0 ≤ z) : 0 ≤ (nrm z d).n := by
  unfold nrm sgn
  simp only [show decide (z < 0) = false from decide_eq_false (by omega)]
  exact Int.natCast_nonneg _
theorem v_nn (a : Dy) : 0 ≤ a.v ↔ 0 ≤ a.n := by
  have := Dy.v_neg_iff a
  constructor
  · intro h; exact Int.not_lt.1 fun hn => absurd (this.2 hn) (Rat.not_lt.2 h)
  · intro h; exact Rat.not_lt.1 fun hn => absurd (this.1 hn) (Int.not_lt.2 h)
theorem mul_nn {a b : Dy} (ha : 0 ≤ a.v) (hb : 0 ≤ b.v) : 0 ≤ (a.mul b).v := by
  rw [v_nn] at ha hb ⊢
  exact nrm_nn (Int.mul_nonneg ha hb)
theorem sumD_nn {f : Nat → Dy} {n : Nat} (h : ∀ i, i < n → 0 ≤ (f i).v) : 0 ≤ (sumD n f).v := by
  rw [v_sumD]
  have : sumQ n (fun _ => (0 : Rat)) ≤ sumQ n fun i => (f i).v := sumQ_le h
  have e : ∀ n, sumQ n (fun _ => (0 : Rat)) = 0 := fun n => by
    induction n with
    | zero => rfl
    | succ n ih => simp only [sumQ]; rw [ih]; grind
  rwa [e] at this
theorem normsM_nn (a : List (List Dy)) (k : Nat) : 0 ≤ (normsM a k).v := (v_maxD _ _).1
theorem normsS_nn (a : List (List Dy)) (k : Nat) : 0 ≤ (normsS a k).v := sumD_nn fun i _ => norm_nn _
theorem maxV_nn (w : List Dy) : 0 ≤ (maxV w).v := (v_maxD _ _).1
theorem sign_le0 (x : Dy) : x.sign ≤ 0 ↔ x.v ≤ 0 := by
  rw [Dy.sign_v]; split <;> (try split) <;> constructor <;> intro h <;> first | omega | grind
theorem sign_pos (x : Dy) : ¬ x.sign ≤ 0 ↔ 0 < x.v := by rw [sign_le0]; exact Rat.not_le
theorem upD_v {x y : Dy} {den : Nat} (hd : den ≤ 65536) : (upD x y den).v * 2 ^ den = -(((-x.v / y.v * 2 ^ den).floor : Int) : Rat) := by
  unfold upD Dy.quo
  rw [Dy.v_neg, Rat.neg_mul, v_nrm_mul hd, Dy.v_neg]
theorem upD_ge {x y : Dy} {den : Nat} (hd : den ≤ 65536) (hy : 0 < y.v) : x.v ≤ (upD x y den).v * y.v := by
  have h1 := upD_v (x := x) (y := y) hd
  have h2 := Rat.floor_le (-x.v / y.v * 2 ^ den)
  have hp := p2pos den
  have h3 : -x.v / y.v * y.v = -x.v := Rat.div_mul_cancel (by grind)
  have h4 : (upD x y den).v * 2 ^ den ≥ -(-x.v / y.v * 2 ^ den) := by rw [h1]; grind
  have h5 : -(-x.v / y.v) ≤ (upD x y den).v := Rat.le_of_mul_le_mul_right (by rw [Rat.neg_mul]; exact h4) hp
  have h6 := Rat.mul_le_mul_of_nonneg_right h5 (Rat.le_of_lt hy)
  rw [Rat.neg_mul, h3] at h6
  grind
theorem upD_nn {x y : Dy} {den : Nat} (hd : den ≤ 65536) (hx : 0 ≤ x.v) (hy : 0 < y.v) : 0 ≤ (upD x y den).v := by
  have h := upD_ge (x := x) (y := y) hd hy
  refine Rat.not_lt.1 fun hn => ?_
  have : (upD x y den).v * y.v < 0 := by
    have := Rat.mul_lt_mul_of_pos_right hn hy
    rwa [Rat.zero_mul] at this
  grind
theorem d_upD {x y : Dy} {den : Nat} (hd : den ≤ 65536) : (upD x y den).d ≤ den := Dy.d_nrm hd
theorem mkBad_not {q c s d : Dy} : ¬ mkBad q c s d ↔ 0 < (mkL q).v ∧ 0 < (mkH s d).v ∧ 0 < (mkG q c s d).v := by
  unfold mkBad
  rw [← sign_pos, ← sign_pos, ← sign_pos]
  constructor
  · intro h; exact ⟨fun k => h (.inl k), fun k => h (.inr (.inl k)), fun k => h (.inr (.inr k))⟩
  · rintro ⟨h1, h2, h3⟩ (k | k | k)
    · exact h1 k
    · exact h2 k
    · exact h3 k
theorem shift1_v (x : Dy) : (x.shift 1).v = x.v * 2 := by
  have := v_shift_pos (x := x) (j := 1) (by omega)
  rw [show ((1 : Nat) : Int) = 1 from rfl] at this
  rw [this]; grind
theorem mkT_nn {q c s d w : Dy} (hs : 0 ≤ s.v) (hw : 0 ≤ w.v) (h : ¬ mkBad q c s d) : 0 ≤ (mkT q c s d w).v := by
  refine upD_nn (by omega) ?_ (mkBad_not.1 h).2.2
  rw [shift1_v]
  exact Rat.mul_nonneg (mul_nn hs hw) (by decide)
theorem mkU_nn {q c s d w : Dy} (hc : 0 ≤ c.v) (hs : 0 ≤ s.v) (hw : 0 ≤ w.v) (h : ¬ mkBad q c s d) : 0 ≤ (mkU q c s d w).v := by
  refine upD_nn (by omega) ?_ (mkBad_not.1 h).2.1
  rw [Dy.v_add]
  have h1 := mul_nn hc (mkT_nn hs hw h)
  have h2 := mul_nn hs hw
  grind
end Go.Ax

namespace Go.Ax
def powQ (n : Nat) (A : Nat → Nat → Rat) : Nat → Nat → Nat → Rat
  | 0, i, k => if i = k then 1 else 0
  | j + 1, i, k => sumQ n fun m => powQ n A j i m * A m k
def pushQ (n : Nat) (D : Nat → Nat → Rat) (w y : Nat → Rat) (i : Nat) : Rat := sumQ n (fun k => D i k * y k) + w i
def driftQ (n : Nat) (A : Nat → Nat → Rat) (p : Nat → Rat) (j i : Nat) : Rat := sumQ j fun l => sumQ n fun k => absQ (powQ n A l i k) * p k
def reachQ (n : Nat) (A D : Nat → Nat → Rat) (w x y : Nat → Rat) (j i : Nat) : Rat :=
  sumQ n (fun k => absQ (powQ n A j i k) * x k) + driftQ n A (pushQ n D w y) j i
theorem pushQ_nn {n : Nat} {D : Nat → Nat → Rat} {w y : Nat → Rat} (hD : ∀ i k, i < n → k < n → 0 ≤ D i k) (hw : ∀ i, i < n → 0 ≤ w i) (hy : ∀ i, i < n → 0 ≤ y i) {i : Nat} (hi : i < n) : 0 ≤ pushQ n D w y i := by
  have h1 : 0 ≤ sumQ n fun k => D i k * y k := sumQ_nonneg fun k hk => Rat.mul_nonneg (hD i k hi hk) (hy k hk)
  have h2 := hw i hi
  unfold pushQ; grind
theorem driftQ_nn {n : Nat} {A : Nat → Nat → Rat} {p : Nat → Rat} (hp : ∀ i, i < n → 0 ≤ p i) (j i : Nat) : 0 ≤ driftQ n A p j i :=
  sumQ_nonneg fun l _ => sumQ_nonneg fun k hk => Rat.mul_nonneg (absQ_nn _) (hp k hk)
theorem reachQ_nn {n : Nat} {A D : Nat → Nat → Rat} {w x y : Nat → Rat} (hD : ∀ i k, i < n → k < n → 0 ≤ D i k) (hw : ∀ i, i < n → 0 ≤ w i) (hx : ∀ i, i < n → 0 ≤ x i) (hy : ∀ i, i < n → 0 ≤ y i) (j i : Nat) : 0 ≤ reachQ n A D w x y j i := by
  have h1 : 0 ≤ sumQ n fun k => absQ (powQ n A j i k) * x k := sumQ_nonneg fun k hk => Rat.mul_nonneg (absQ_nn _) (hx k hk)
  have h2 := driftQ_nn (A := A) (fun i hi => pushQ_nn hD hw hy hi) j i
  unfold reachQ; grind
theorem driftQ_mul {n : Nat} {A : Nat → Nat → Rat} {p p' : Nat → Rat} {c : Rat} (h : ∀ i, i < n → p' i = c * p i) (j i : Nat) : driftQ n A p' j i = c * driftQ n A p j i := by
  unfold driftQ
  rw [← sumQ_mul']
  refine sumQ_congr fun l _ => ?_
  rw [← sumQ_mul']
  refine sumQ_congr fun k hk => ?_
  rw [h k hk]; grind
def elQ (a : List (List Dy)) (i k : Nat) : Rat := (el a i k).v
def vQ (x : List Dy) (k : Nat) : Rat := (x.getD k Dy.zero).v
theorem v_pow {n p : Nat} {a : List (List Dy)} (ha : rect n n a) (hn : 0 < n) (fa : fine p a) : ∀ j, p * j ≤ 65536 → ∀ i k, i < n → k < n → (el (powD a j) i k).v = powQ n (elQ a) j i k
  | 0, _, i, k, hi, hk => by
    simp only [powD, powQ]
    rw [ha.1]; unfold unitD
    rw [tabD_el hi hk]
    split
    · exact v_int1
    · exact Dy.v_zero
  | j + 1, h, i, k, hi, hk => by
    rw [Nat.mul_succ] at h
    simp only [powD, powQ]
    rw [v_mul_el (pow_rect ha hn j) ha hn (pow_fine ha hn fa j (by omega)) fa (by omega) hi hk]
    exact sumQ_congr fun m hm => by rw [v_pow ha hn fa j (by omega) i m hi hm]; rfl
theorem v_push {n p q : Nat} {dv : List (List Dy)} {w y : List Dy} (hd : rect n n dv) (fd : fine p dv) (fy : fineV q y) (h : p + q ≤ 65536) {i : Nat} (hi : i < n) : vQ (pushD dv w y) i = pushQ n (elQ dv) (vQ w) (vQ y) i := by
  unfold vQ pushD pushQ
  rw [sumV_get (by rw [app_len, hd.1]; exact hi), Dy.v_add, v_app hd fd fy h hi]; rfl
theorem fine_sumV {k : Nat} {x y : List Dy} (hx : fineV k x) (hy : fineV k y) : fineV k (sumV x y) :=
  fineV_of (n := x.length) (sumV_len x y) fun i hi => by
    rw [sumV_get hi]
    have h1 := hx i
    have h2 := hy i
    have := Dy.d_add (x.getD i Dy.zero) (y.getD i Dy.zero)
    omega
theorem fineV.mono {k m : Nat} {x : List Dy} (h : fineV k x) (hk : k ≤ m) : fineV m x := fun i => Nat.le_trans (h i) hk
theorem fine_push {n p q : Nat} {dv : List (List Dy)} {w y : List Dy} (hd : rect n n dv) (fd : fine p dv) (fy : fineV q y) (fw : fineV q w) (h : p + q ≤ 65536) : fineV (p + q) (pushD dv w y) :=
  fine_sumV (fine_app hd fd fy h) (fw.mono (by omega))
theorem v_absP {n p : Nat} {a : List (List Dy)} (ha : rect n n a) (hn : 0 < n) (fa : fine p a) {j : Nat} (hj : p * j ≤ 65536) {i k : Nat} (hi : i < n) (hk : k < n) : (el (absD (powD a j)) i k).v = absQ (powQ n (elQ a) j i k) := by
  rw [el_abs (pow_rect ha hn j) hn hi hk, v_abs, v_pow ha hn fa j hj i k hi hk]
theorem v_appP {n p q : Nat} {a : List (List Dy)} {x : List Dy} (ha : rect n n a) (hn : 0 < n) (fa : fine p a) (fx : fineV q x) {j : Nat} (hj : p * j + q ≤ 65536) {i : Nat} (hi : i < n) : vQ (appD (absD (powD a j)) x) i = sumQ n fun k => absQ (powQ n (elQ a) j i k) * vQ x k := by
  unfold vQ
  rw [v_app (rect_abs (pow_rect ha hn j) hn) (fine_abs (pow_rect ha hn j) hn (pow_fine ha hn fa j (by omega))) fx hj hi]
  exact sumQ_congr fun k hk => by rw [v_absP ha hn fa (by omega) hi hk]
theorem drift_lenD {n : Nat} {a : List (List Dy)} {x : List Dy} (ha : rect n n a) : ∀ j, (driftD a x j).length = n
  | 0 => by simp [driftD, zeroV, ha.1]
  | j + 1 => by simp only [driftD]; rw [sumV_len]; exact drift_lenD ha j
theorem v_drift {n p q : Nat} {a : List (List Dy)} {x : List Dy} (ha : rect n n a) (hn : 0 < n) (fa : fine p a) (fx : fineV q x) {i : Nat} (hi : i < n) : ∀ j, p * j + q ≤ 65536 → vQ (driftD a x j) i = driftQ n (elQ a) (vQ x) j i
  | 0, _ => by
    unfold vQ driftQ
    simp only [driftD, zeroV, sumQ]
    rw [List.getD, List.getElem?_replicate]
    split <;> exact Dy.v_zero
  | j + 1, h => by
    rw [Nat.mul_succ] at h
    have h1 := v_drift ha hn fa fx hi j (by omega)
    have h2 := v_appP ha hn fa fx (j := j) (by omega) hi
    unfold vQ at h1 h2 ⊢
    simp only [driftD]
    rw [sumV_get (by rw [drift_lenD ha]; exact hi), Dy.v_add, h1, h2]; rfl
theorem v_reach {n p q : Nat} {a dv : List (List Dy)} {w x y : List Dy} (ha : rect n n a) (hn : 0 < n) (hd : rect n n dv) (fa : fine p a) (fd : fine p dv) (fw : fineV q w) (fx : fineV q x) (fy : fineV q y) {j : Nat} (hj : p * j + (p + q) ≤ 65536) {i : Nat} (hi : i < n) :
    vQ (reachD a dv w x y j) i = reachQ n (elQ a) (elQ dv) (vQ w) (vQ x) (vQ y) j i := by
  have h1 := v_appP ha hn fa fx (j := j) (by omega) hi
  have h2 := v_drift ha hn fa (fine_push hd fd fy fw (by omega)) hi j (by omega)
  unfold vQ at h1 h2
  unfold vQ reachD reachQ
  rw [sumV_get (by rw [app_len, (rect_abs (pow_rect ha hn j) hn).1]; exact hi), Dy.v_add, h1, h2]
  refine congrArg _ ?_
  have := driftQ_mul (A := elQ a) (p' := fun k => ((pushD dv w y).getD k Dy.zero).v) (p := pushQ n (elQ dv) (vQ w) (vQ y)) (c := 1) (fun k hk => by
    have := v_push (w := w) hd fd fy (by omega) hk
    unfold vQ at this
    show _ = (1 : Rat) * pushQ n (elQ dv) (vQ w) (vQ y) k
    unfold vQ
    rw [this]; grind) j i
  rw [this]; unfold vQ; grind
theorem reach_lenD {n : Nat} {a dv : List (List Dy)} {w x y : List Dy} (ha : rect n n a) (hn : 0 < n) (j : Nat) : (reachD a dv w x y j).length = n := by
  unfold reachD; rw [sumV_len, app_len, (rect_abs (pow_rect ha hn j) hn).1]
structure TubeD (n p q : Nat) (a dv : List (List Dy)) (w x y : List Dy) : Prop where
  ha : rect n n a
  hn : 0 < n
  hd : rect n n dv
  fa : fine p a
  fd : fine p dv
  fw : fineV q w
  fx : fineV q x
  fy : fineV q y
  nd : ∀ i k, i < n → k < n → 0 ≤ elQ dv i k
  nw : ∀ i, i < n → 0 ≤ vQ w i
  nx : ∀ i, i < n → 0 ≤ vQ x i
  ny : ∀ i, i < n → 0 ≤ vQ y i
section
variable {n p q : Nat} {a dv : List (List Dy)} {w x y : List Dy}
theorem TubeD.reach (T : TubeD n p q a dv w x y) {j : Nat} (hj : p * j + (p + q) ≤ 65536) {i : Nat} (hi : i < n) : vQ (reachD a dv w x y j) i = reachQ n (elQ a) (elQ dv) (vQ w) (vQ x) (vQ y) j i := v_reach T.ha T.hn T.hd T.fa T.fd T.fw T.fx T.fy hj hi
theorem TubeD.nn (T : TubeD n p q a dv w x y) {j : Nat} (hj : p * j + (p + q) ≤ 65536) {i : Nat} (hi : i < n) : 0 ≤ vQ (reachD a dv w x y j) i := by
  rw [T.reach hj hi]; exact reachQ_nn T.nd T.nw T.nx T.ny j i
theorem vQ_mk (x : List Dy) (i : Nat) : (x.getD i Dy.zero).v = vQ x i := rfl
theorem absQ_of_nn {x : Rat} (h : 0 ≤ x) : absQ x = x := by unfold absQ; rw [if_neg (Rat.not_lt.2 h)]
theorem TubeD.within (T : TubeD n p q a dv w x y) {j : Nat} (hj : p * j + (p + q) ≤ 65536) (b : List Dy) : withinD (reachD a dv w x y j) b = true ↔ ∀ i, i < n → vQ (reachD a dv w x y j) i ≤ vQ b i := by
  unfold withinD
  rw [decide_eq_true_iff, reach_lenD T.ha T.hn]
  constructor
  · intro h i hi
    have := (cmp_le _ _).1 (h i hi)
    rw [v_abs, vQ_mk, absQ_of_nn (T.nn hj hi)] at this
    exact this
  · intro h i hi
    refine (cmp_le _ _).2 ?_
    rw [v_abs, vQ_mk, absQ_of_nn (T.nn hj hi)]
    exact h i hi
theorem TubeD.accepts (T : TubeD n p q a dv w x y) {K : Nat} (hK : p * K + (p + q) ≤ 65536) : acceptsD K a dv w x y = true ↔ ∀ j, j ≤ K → ∀ i, i < n → reachQ n (elQ a) (elQ dv) (vQ w) (vQ x) (vQ y) j i ≤ if j = K then vQ x i else vQ y i := by
  have hj : ∀ j, j ≤ K → p * j + (p + q) ≤ 65536 := fun j h => by
    have := Nat.mul_le_mul_left p h
    omega
  unfold acceptsD
  rw [decide_eq_true_iff]
  constructor
  · intro h j hjK i hi
    have h1 := (T.within (hj j hjK) _).1 (h j (by omega)) i hi
    rw [T.reach (hj j hjK) hi] at h1
    by_cases e : j = K
    · rw [if_pos e] at h1 ⊢; exact h1
    · rw [if_neg e] at h1 ⊢; exact h1
  · intro h j hjK
    refine (T.within (hj j (by omega)) _).2 fun i hi => ?_
    have h1 := h j (by omega) i hi
    rw [T.reach (hj j (by omega)) hi]
    by_cases e : j = K
    · rw [if_pos e] at h1 ⊢; exact h1
    · rw [if_neg e] at h1 ⊢; exact h1
end
theorem sumQ_first (f : Nat → Rat) : ∀ n, sumQ (n + 1) f = f 0 + sumQ n fun i => f (i + 1)
  | 0 => by simp only [sumQ]; grind
  | n + 1 => by
    have := sumQ_first f n
    simp only [sumQ] at this ⊢
    rw [this]; grind
def repQ (n : Nat) (A D : Nat → Nat → Rat) (w x y : Nat → Rat) (j : Nat) (s : Nat → Rat) : Prop :=
  ∀ l i, i < n → absQ (sumQ n fun k => powQ n A l i k * s k) ≤ sumQ n (fun k => absQ (powQ n A (l + j) i k) * x k) + sumQ j fun m => sumQ n fun k => absQ (powQ n A (l + m) i k) * pushQ n D w y k
theorem absQ_add (x y : Rat) : absQ (x + y) ≤ absQ x + absQ y := by
  rw [absQ_le]; have := le_absQ x; have := le_absQ y; constructor <;> grind
theorem rep_zero {n : Nat} {A D : Nat → Nat → Rat} {w x y s : Nat → Rat} (h : ∀ i, i < n → absQ (s i) ≤ x i) : repQ n A D w x y 0 s := fun l i hi => by
  have h1 : absQ (sumQ n fun k => powQ n A l i k * s k) ≤ sumQ n fun k => absQ (powQ n A l i k) * x k := by
    refine Rat.le_trans (absQ_sum _ _) (sumQ_le fun k hk => ?_)
    rw [absQ_mul]
    exact Rat.mul_le_mul_of_nonneg_left (h k hk) (absQ_nn _)
  simp only [sumQ, Nat.add_zero]
  grind
theorem pow_back (n : Nat) (A : Nat → Nat → Rat) (s : Nat → Rat) (l i : Nat) : sumQ n (fun k => powQ n A l i k * sumQ n fun m => A k m * s m) = sumQ n fun m => powQ n A (l + 1) i m * s m := by
  have h1 : sumQ n (fun k => powQ n A l i k * sumQ n fun m => A k m * s m) = sumQ n fun k => sumQ n fun m => powQ n A l i k * A k m * s m := sumQ_congr fun k _ => by
    rw [← sumQ_mul']; exact sumQ_congr fun m _ => by grind
  rw [h1, sumQ_comm]
  refine sumQ_congr fun m _ => ?_
  rw [show powQ n A (l + 1) i m = sumQ n fun k => powQ n A l i k * A k m from rfl, ← sumQ_mul]
theorem rep_step {n : Nat} {A D : Nat → Nat → Rat} {w x y s p s' : Nat → Rat} {j : Nat} (h : repQ n A D w x y j s) (hp : ∀ i, i < n → absQ (p i) ≤ pushQ n D w y i) (hs : ∀ i, i < n → s' i = sumQ n (fun k => A i k * s k) + p i) : repQ n A D w x y (j + 1) s' := fun l i hi => by
  have e1 : sumQ n (fun k => powQ n A l i k * s' k) = sumQ n (fun m => powQ n A (l + 1) i m * s m) + sumQ n fun k => powQ n A l i k * p k := by
    rw [← pow_back, ← sumQ_add]
    exact sumQ_congr fun k hk => by rw [hs k hk]; grind
  have h1 := h (l + 1) i hi
  have h2 : absQ (sumQ n fun k => powQ n A l i k * p k) ≤ sumQ n fun k => absQ (powQ n A l i k) * pushQ n D w y k := by
    refine Rat.le_trans (absQ_sum _ _) (sumQ_le fun k hk => ?_)
    rw [absQ_mul]
    exact Rat.mul_le_mul_of_nonneg_left (hp k hk) (absQ_nn _)
  have h3 := absQ_add (sumQ n (fun m => powQ n A (l + 1) i m * s m)) (sumQ n fun k => powQ n A l i k * p k)
  have e2 := sumQ_first (fun m => sumQ n fun k => absQ (powQ n A (l + m) i k) * pushQ n D w y k) j
  have e3 : sumQ j (fun m => sumQ n fun k => absQ (powQ n A (l + (m + 1)) i k) * pushQ n D w y k) = sumQ j fun m => sumQ n fun k => absQ (powQ n A (l + 1 + m) i k) * pushQ n D w y k := sumQ_congr fun m _ => by rw [show l + (m + 1) = l + 1 + m by omega]
  have e4 : sumQ n (fun k => absQ (powQ n A (l + (j + 1)) i k) * x k) = sumQ n fun k => absQ (powQ n A (l + 1 + j) i k) * x k := by rw [show l + (j + 1) = l + 1 + j by omega]
  rw [e1, e2, e3, e4, Nat.add_zero]
  grind
theorem rep_reach {n : Nat} {A D : Nat → Nat → Rat} {w x y s : Nat → Rat} {j : Nat} (h : repQ n A D w x y j s) {i : Nat} (hi : i < n) : absQ (s i) ≤ reachQ n A D w x y j i := by
  have h1 := h 0 i hi
  have e : sumQ n (fun k => powQ n A 0 i k * s k) = s i := by
    have := sumQ_delta' (f := s) (j := i) (n := n)
    rw [if_pos hi] at this
    exact this
  rw [e] at h1
  unfold reachQ driftQ
  simp only [Nat.zero_add] at h1
  exact h1
def refR (a : List (List Dy)) (d x0 : List Dy) : Nat → List Dy
  | 0 => x0
  | i + 1 => sumV (refR a d x0 i) (appD (absD (powD a i)) d)
theorem sumV_assoc {x y z : List Dy} (h : x.length = y.length) : sumV (sumV x y) z = sumV x (sumV y z) :=
  list_ext (d := Dy.zero) (by rw [sumV_len, sumV_len, sumV_len]) fun i hi => by
    rw [sumV_len, sumV_len] at hi
    rw [sumV_get (by rw [sumV_len]; exact hi), sumV_get hi, sumV_get hi, sumV_get (by omega), Dy.add_assoc]
theorem sumV_zero (x : List Dy) : sumV x (zeroV x.length) = x :=
  list_ext (d := Dy.zero) (sumV_len _ _) fun i hi => by
    rw [sumV_len] at hi
    rw [sumV_get hi]
    refine Dy.ext_v ?_
    rw [Dy.v_add]
    have : (zeroV x.length).getD i Dy.zero = Dy.zero := by
      unfold zeroV; rw [List.getD, List.getElem?_replicate]; split <;> rfl
    rw [this, Dy.v_zero]; grind
theorem refR_eq {n : Nat} {a : List (List Dy)} {d x0 : List Dy} (ha : rect n n a) (hx : x0.length = n) : ∀ i, refR a d x0 i = sumV x0 (driftD a d i)
  | 0 => by
    simp only [refR, driftD]
    rw [ha.1, ← hx, sumV_zero]
  | i + 1 => by
    simp only [refR, driftD]
    rw [refR_eq ha hx i, sumV_assoc (by rw [hx, drift_lenD ha])]
theorem refR_reach {n : Nat} {a dv : List (List Dy)} {w x y : List Dy} (ha : rect n n a) (hn : 0 < n) (j : Nat) : refR a (pushD dv w y) (appD (absD (powD a j)) x) j = reachD a dv w x y j := by
  rw [refR_eq ha (by rw [app_len, (rect_abs (pow_rect ha hn j) hn).1])]; rfl
def leVD (x y : List Dy) : Bool := decide (∀ j, j < x.length → (x.getD j Dy.zero).cmp (y.getD j Dy.zero) ≤ 0)
def acceptsR (K : Nat) (a dv : List (List Dy)) (w x y : List Dy) : Bool := decide (∀ j, j < K → leVD (reachD a dv w x y j) y = true) && leVD (reachD a dv w x y K) x
theorem TubeD.le {n p q : Nat} {a dv : List (List Dy)} {w x y : List Dy} (T : TubeD n p q a dv w x y) {j : Nat} (hj : p * j + (p + q) ≤ 65536) (b : List Dy) : leVD (reachD a dv w x y j) b = withinD (reachD a dv w x y j) b := by
  rw [Bool.eq_iff_iff, T.within hj]
  unfold leVD
  rw [decide_eq_true_iff, reach_lenD T.ha T.hn]
  exact ⟨fun h i hi => (cmp_le _ _).1 (h i hi), fun h i hi => (cmp_le _ _).2 (h i hi)⟩
theorem TubeD.acceptsR {n p q : Nat} {a dv : List (List Dy)} {w x y : List Dy} (T : TubeD n p q a dv w x y) {K : Nat} (hK : p * K + (p + q) ≤ 65536) : Go.Ax.acceptsR K a dv w x y = acceptsD K a dv w x y := by
  have hj : ∀ j, j ≤ K → p * j + (p + q) ≤ 65536 := fun j h => by
    have := Nat.mul_le_mul_left p h
    omega
  rw [Bool.eq_iff_iff]
  unfold Go.Ax.acceptsR acceptsD
  rw [Bool.and_eq_true, decide_eq_true_iff, decide_eq_true_iff]
  constructor
  · rintro ⟨h1, h2⟩ j hjK
    by_cases e : j = K
    · rw [if_pos e, e, ← T.le hK]; exact h2
    · rw [if_neg e, ← T.le (hj j (by omega))]; exact h1 j (by omega)
  · intro h
    refine ⟨fun j hjK => ?_, ?_⟩
    · have := h j (by omega)
      rw [if_neg (by omega)] at this
      rw [T.le (hj j (by omega))]; exact this
    · have := h K (by omega)
      rw [if_pos rfl] at this
      rw [T.le hK]; exact this
end Go.Ax

namespace Go.Ax
theorem vQ_box {n : Nat} {x : Dy} {i : Nat} (h : i < n) : vQ (boxD n x) i = x.v := by
  unfold vQ boxD; rw [List.getD, List.getElem?_replicate, if_pos h]; rfl
theorem fine_box {n k : Nat} {x : Dy} (h : x.d ≤ k) : fineV k (boxD n x) := fun i => by
  unfold boxD; rw [List.getD, List.getElem?_replicate]
  split
  · exact h
  · exact Nat.zero_le _
end Go.Ax

namespace Go.Ax
open Go Go.RowKit
theorem Le.takeN {sz k : Nat} {rows : List (List AV)} (h : rows.length ≤ k) : Le (.sl sz ((rows.drop 0).take k)) (.sl sz rows) := by
  rw [List.drop_zero, List.take_of_length_le h]; exact .refl _
theorem Weak.frzA {s s' : AS} (b : Nat) (m : MB) (n : Nat) (hl : m.rows.length = n) (hm : look s.mem b = some m := by rfl)
    (he : frzEnv b m s.env s'.env := by (repeat' (first | exact trivial | exact ⟨_, _, rfl, .same, .refl _⟩ | exact ⟨_, _, rfl, frz_ps rfl (by rw [Nat.zero_add]; exact Nat.le_of_eq (Eq.symm (by assumption))), Le.takeN (Nat.le_of_eq (by assumption))⟩ | refine And.intro ?_ ?_)))
    (hmem : frzMem b m s.mem s'.mem := by (repeat' (first | exact trivial | exact ⟨by decide, _, rfl, .refl _ _ _⟩ | refine ⟨by decide, _, rfl, .row ?_⟩ | exact ⟨_, .same, .refl _⟩ | exact ⟨_, frz_ps rfl (by rw [Nat.zero_add]; exact Nat.le_of_eq (Eq.symm (by assumption))), Le.takeN (Nat.le_of_eq (by assumption))⟩ | refine And.intro ?_ ?_)))
    (hn : s.next ≤ s'.next := by exact Nat.le_refl _) : Weak s s' := Weak.frz b m hm he hmem hn
theorem byGN {ρ : Nat → Option Nat} {mem M : List (Nat × MB)} (h : gMem ρ mem M := by (repeat' (first | exact trivial | exact .inl ⟨rfl, rfl⟩ | exact .inr ⟨_, _, rfl, rfl, rfl, .rows (vrows_cl _)⟩ | exact .inr ⟨_, _, rfl, rfl, rfl, .rows (mrows_cl _)⟩ | (refine .inr ⟨_, _, rfl, rfl, rfl, genR_row ?_⟩; (repeat' (first | exact trivial | exact .inr (.inr ⟨.refl _, Cl.v _⟩) | exact .inr (.inr ⟨.refl _, Cl.vec⟩) | exact .inr (.inr ⟨.refl _, Cl.mat⟩) | exact .inr (.inr ⟨.refl _, Cl.u32s⟩) | exact .inl ⟨_, _, _, _, _, rfl, rfl, rfl⟩ | exact .inr (.inl ⟨_, _, _, rfl, rfl⟩) | exact .inr (.inr ⟨.refl _, byCl⟩) | refine And.intro ?_ ?_))) | refine And.intro ?_ ?_))) : gMem ρ mem M := h
end Go.Ax

set_option maxRecDepth 100000
namespace Go.Ax
structure QInv (n K : Nat) (A D : Nat → Nat → Rat) (w x y : Nat → Rat) (k : Nat) (s : Nat → Rat) : Prop where
  rep : repQ n A D w x y (k % K) s
  low : k % K = 0 → ∀ i, i < n → absQ (s i) ≤ x i
def QAcc (n K : Nat) (A D : Nat → Nat → Rat) (w x y : Nat → Rat) : Prop := ∀ j, j ≤ K → ∀ i, i < n → reachQ n A D w x y j i ≤ if j = K then x i else y i
section
variable {n K k : Nat} {A D : Nat → Nat → Rat} {w x y s : Nat → Rat}
theorem QInv.high (h1 : 1 ≤ K) (acc : QAcc n K A D w x y) (H : QInv n K A D w x y k s) {i : Nat} (hi : i < n) : absQ (s i) ≤ y i := by
  have hm : k % K < K := Nat.mod_lt _ (by omega)
  have h := acc (k % K) (by omega) i hi
  rw [if_neg (by omega)] at h
  exact Rat.le_trans (rep_reach H.rep hi) h
theorem QInv.start (h : ∀ i, i < n → absQ (s i) ≤ x i) : QInv n K A D w x y 0 s :=
  ⟨by rw [Nat.zero_mod]; exact rep_zero h, fun _ => h⟩
theorem QInv.next {s' p : Nat → Rat} (h1 : 1 ≤ K) (acc : QAcc n K A D w x y) (H : QInv n K A D w x y k s) (hp : ∀ i, i < n → absQ (p i) ≤ pushQ n D w y i) (hs : ∀ i, i < n → s' i = sumQ n (fun j => A i j * s j) + p i) : QInv n K A D w x y (k + 1) s' := by
  have hm : k % K < K := Nat.mod_lt _ (by omega)
  have hrep := rep_step H.rep hp hs
  refine ⟨?_, ?_⟩
  · by_cases e : k % K + 1 = K
    · have e2 : (k + 1) % K = 0 := by
        by_cases hK1 : K = 1
        · subst hK1; exact Nat.mod_one _
        · rw [Nat.add_mod, Nat.mod_eq_of_lt (show 1 < K by omega), e, Nat.mod_self]
      rw [e2]
      rw [e] at hrep
      refine rep_zero fun i hi => ?_
      have h := acc K (Nat.le_refl _) i hi
      rw [if_pos rfl] at h
      exact Rat.le_trans (rep_reach hrep hi) h
    · have e2 : (k + 1) % K = k % K + 1 := by
        have hK1 : 1 < K := by omega
        rw [Nat.add_mod, Nat.mod_eq_of_lt hK1, Nat.mod_eq_of_lt (by omega)]
      rw [e2]; exact hrep
  · intro h0 i hi
    have e : k % K + 1 = K := by
      apply Decidable.byContradiction
      intro hne
      have hK1 : 1 < K := by omega
      rw [Nat.add_mod, Nat.mod_eq_of_lt hK1, Nat.mod_eq_of_lt (by omega)] at h0
      omega
    rw [e] at hrep
    have h := acc K (Nat.le_refl _) i hi
    rw [if_pos rfl] at h
    exact Rat.le_trans (rep_reach hrep hi) h
end
theorem TubeD.qacc {n p q K : Nat} {a dv : List (List Dy)} {w x y : List Dy} (T : TubeD n p q a dv w x y) (hK : p * K + (p + q) ≤ 65536) (h : acceptsD K a dv w x y = true) : QAcc n K (elQ a) (elQ dv) (vQ w) (vQ x) (vQ y) := (T.accepts hK).1 h
def st2 (a v : Int) (i : Nat) : Rat := if i = 0 then (a : Rat) else (v : Rat)
theorem sum2 (f : Nat → Rat) : sumQ 2 f = f 0 + f 1 := by simp only [sumQ]; grind
theorem abs_int {a N : Int} : absQ (a : Rat) ≤ (N : Rat) ↔ -N ≤ a ∧ a ≤ N := by
  rw [absQ_le]
  constructor
  · rintro ⟨h1, h2⟩
    have h3 : a ≤ N := by exact_mod_cast h1
    have h4 : -a ≤ N := by exact_mod_cast h2
    omega
  · rintro ⟨h1, h2⟩
    exact ⟨by exact_mod_cast h2, by exact_mod_cast (show -a ≤ N by omega)⟩
theorem int_of_le {a : Int} {u : Rat} {N : Int} (h : absQ (a : Rat) ≤ u) (hu : u ≤ (N : Rat)) : -N ≤ a ∧ a ≤ N := abs_int.1 (Rat.le_trans h hu)
theorem lock_next {K k : Nat} {A D : Nat → Nat → Rat} {w x y : Nat → Rat} {kp ki nz ac a v e c : Int} (h1 : 1 ≤ K) (acc : QAcc 2 K A D w x y)
    (hA : A 0 0 * 65536 = 65536 - ((kp : Rat) + (ki : Rat)) ∧ A 0 1 = 1 ∧ A 1 0 * 65536 = -(ki : Rat) ∧ A 1 1 = 1) (hD : ∀ i j, i < 2 → j < 2 → D i j = 0) (hw : w 0 = (ac : Rat) + ((kp : Rat) + (ki : Rat)) * ((nz : Rat) + 1) ∧ w 1 = (ac : Rat) + (ki : Rat) * ((nz : Rat) + 1))
    (hk : 0 ≤ kp ∧ 0 ≤ ki) (H : QInv 2 K A D w x y k (st2 a v)) (he : -(65536 * (nz + 1)) ≤ 65536 * e - a ∧ 65536 * e - a ≤ 65536 * (nz + 1)) (hc : -ac ≤ c ∧ c ≤ ac) :
    QInv 2 K A D w x y (k + 1) (st2 (a + v + c - (kp + ki) * e) (v + c - ki * e)) := by
  obtain ⟨a00, a01, a10, a11⟩ := hA
  obtain ⟨w0, w1⟩ := hw
  have key1 : ∀ M N B C : Int, -(M * (N + 1)) ≤ M * B - C → -((M : Rat) * ((N : Rat) + 1)) ≤ (M : Rat) * (B : Rat) - (C : Rat) := fun M N B C h => by exact_mod_cast h
  have key2 : ∀ M N B C : Int, M * B - C ≤ M * (N + 1) → (M : Rat) * (B : Rat) - (C : Rat) ≤ (M : Rat) * ((N : Rat) + 1) := fun M N B C h => by exact_mod_cast h
  have hM : ((65536 : Int) : Rat) = 65536 := rfl
  have he1 := key1 65536 nz e a he.1
  have he2 := key2 65536 nz e a he.2
  rw [hM] at he1 he2
  have hc1 : -(ac : Rat) ≤ (c : Rat) := by exact_mod_cast hc.1
  have hc2 : (c : Rat) ≤ (ac : Rat) := by exact_mod_cast hc.2
  have hkp : (0 : Rat) ≤ (kp : Rat) := by exact_mod_cast hk.1
  have hki : (0 : Rat) ≤ (ki : Rat) := by exact_mod_cast hk.2
  have hr : absQ ((e : Rat) - (a : Rat) / 65536) ≤ (nz : Rat) + 1 := by
    rw [absQ_le]; constructor <;> grind
  have push : ∀ g : Rat, 0 ≤ g → absQ ((c : Rat) - g * ((e : Rat) - (a : Rat) / 65536)) ≤ (ac : Rat) + g * ((nz : Rat) + 1) := fun g hg => by
    have e1 : (c : Rat) - g * ((e : Rat) - (a : Rat) / 65536) = (c : Rat) + (-g) * ((e : Rat) - (a : Rat) / 65536) := by grind
    rw [e1]
    refine Rat.le_trans (absQ_add _ _) ?_
    rw [absQ_mul]
    have h2 : absQ (-g) = g := by
      have := absQ_of_nn hg
      unfold absQ at *
      split <;> grind
    have h3 : absQ (c : Rat) ≤ (ac : Rat) := by rw [absQ_le]; constructor <;> grind
    rw [h2]
    have h4 := Rat.mul_le_mul_of_nonneg_left hr hg
    grind
  refine QInv.next (p := fun i => if i = 0 then (c : Rat) - ((kp : Rat) + (ki : Rat)) * ((e : Rat) - (a : Rat) / 65536) else (c : Rat) - (ki : Rat) * ((e : Rat) - (a : Rat) / 65536)) h1 acc H (fun i hi => ?_) (fun i hi => ?_)
  · unfold pushQ
    have hz : sumQ 2 (fun j => D i j * y j) = 0 := by
      rw [sum2, hD i 0 hi (by omega), hD i 1 hi (by omega)]; grind
    rw [hz]
    match i, hi with
    | 0, _ =>
      rw [if_pos rfl, w0]
      have := push ((kp : Rat) + (ki : Rat)) (by grind)
      grind
    | 1, _ =>
      rw [if_neg (by omega), w1]
      have := push (ki : Rat) hki
      grind
  · rw [sum2]
    match i, hi with
    | 0, _ =>
      show ((a + v + c - (kp + ki) * e : Int) : Rat) = A 0 0 * (a : Rat) + A 0 1 * (v : Rat) + ((c : Rat) - ((kp : Rat) + (ki : Rat)) * ((e : Rat) - (a : Rat) / 65536))
      rw [a01]
      have : A 0 0 = (65536 - ((kp : Rat) + (ki : Rat))) / 65536 := by grind
      rw [this, Rat.intCast_sub, Rat.intCast_add, Rat.intCast_add, Rat.intCast_mul, Rat.intCast_add]
      grind
    | 1, _ =>
      show ((v + c - ki * e : Int) : Rat) = A 1 0 * (a : Rat) + A 1 1 * (v : Rat) + ((c : Rat) - (ki : Rat) * ((e : Rat) - (a : Rat) / 65536))
      rw [a11]
      have : A 1 0 = -(ki : Rat) / 65536 := by grind
      rw [this, Rat.intCast_sub, Rat.intCast_add, Rat.intCast_mul]
      grind
end Go.Ax

