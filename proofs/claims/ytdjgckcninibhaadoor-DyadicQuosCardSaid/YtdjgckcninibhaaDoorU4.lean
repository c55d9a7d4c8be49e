/- The abstract executor and plain facts, part 4 (of several texts, laid together). -/
import Derived.Test.YtdjgckcninibhaaDoorU1
import Derived.Test.YtdjgckcninibhaaDoorU2
import Derived.Test.YtdjgckcninibhaaDoorU3

set_option linter.unusedSimpArgs false
set_option linter.unusedVariables false
set_option linter.deprecated false
namespace Go.Ax
open Go Go.RowKit
def nbOf (m1' : Option MB) : Nat := match m1' with
  | none => 1
  | some _ => 2
theorem nbOf_pos (m1' : Option MB) : 0 < nbOf m1' := by cases m1' <;> simp [nbOf]
structure CallV (P : Program) (G : GL) (f : FuncId) (args : List AV) (m0 m1 : MB) (res : AV) (m0' : MB) (m1' : Option MB) : Prop where
  enters : Enters P f
  nor : NB (nbOf m1') res
  nom0 : ∀ r ∈ m0'.rows, ∀ a ∈ r, NB (nbOf m1') a
  nom1 : ∀ m, m1' = some m → ∀ r ∈ m.rows, ∀ a ∈ r, NB (nbOf m1') a
  runs : ∀ (S : Nat → Prop) (w : World) (vs : Array Value) (k0 : Nat) (σ : Sig), σ 0 = some k0 → (∀ b k, σ b = some k → b < 2 ∧ k < w.heap.size) → (∀ k, σ 1 = some k → k ≠ k0) → (∀ k, S k → k < w.heap.size) → GS G S w → vs.size = args.length →
    MemAt σ S (fun _ => True) w 0 m0 → MemOK σ S (fun _ => True) w 1 m1 → (∀ k, σ 1 = some k → ¬ S k) → (∀ (i : Nat) (x : Value) (av : AV), vs[i]? = some x → args[i]? = some av → Rel σ S w x av) →
    Calls P f vs w fun e w' => Bel ⟨fun k => k = k0 ∨ σ 1 = some k, G, some k0⟩ w w' ∧ ∃ x σ' S', e = .returned x ∧ σ' 0 = some k0 ∧ (∀ b k, σ' b = some k → b < nbOf m1' ∧ k < w'.heap.size) ∧
      (∀ k, σ' 1 = some k → k ≠ k0 ∧ (σ 1 = some k ∨ w.heap.size ≤ k)) ∧ (∀ k, S k → S' k) ∧ (∀ k, S' k → k < w'.heap.size ∧ (S k ∨ w.heap.size ≤ k ∨ σ 1 = some k)) ∧ Rel σ' S' w' x res ∧ MemAt σ' S' (fun _ => True) w' 0 m0' ∧
      ∀ m, m1' = some m → MemOK σ' S' (fun _ => True) w' 1 m
def drop2 (mem : List (Nat × MB)) : List (Nat × MB) := dropM 1 (dropM 0 mem)
def FinV (mem : List (Nat × MB)) (r : Option (Prop × List AV)) (res : AV) (m1' : Option MB) : Prop := ∃ p l b, r = some (p, l) ∧ p ∧ Pub (if m1' = none then dropM 0 mem else drop2 mem) (one l) b ∧ Le b res
def EndsV (ti : Types) (rs : List ResultVar) (res : AV) (m0' : MB) (m1' : Option MB) (l : Lab) (s : AS) : Prop :=
  (l = .normal ∨ l = .ret) ∧ FinV s.mem (resL ti s rs) res m1' ∧ (∃ m, look s.mem 0 = some m ∧ MLe m m0') ∧ ∀ m, m1' = some m → ∃ q, look s.mem 1 = some q ∧ MLe q m
def entryV (args : List AV) (m0 m1 : MB) : AS := ⟨entryEnv 0 args, [(0, m0), (1, m1)], 2⟩
theorem MLe.memOK {σ : Sig} {S F : Nat → Prop} {w : World} {b : Nat} {m m' : MB} (h : MemOK σ S F w b m) (hle : MLe m m') : MemOK σ S F w b m' := by
  obtain ⟨z1, z2, z3⟩ := hle
  rcases h with ⟨h1, h2⟩ | ⟨k, c, e, g1, g2, g3, g4, g5, g6, g7⟩
  · exact .inl ⟨List.length_eq_zero_iff.1 (by rw [z2, h1]; rfl), h2⟩
  · refine .inr ⟨k, c, e, g1, g2, g3, g4, fun r' hr' => ?_, by rw [z1, z2]; exact g6, fun i r' j a' hi hj => ?_⟩
    · obtain ⟨i, hi⟩ := List.getElem?_of_mem hr'
      obtain ⟨r, q1, q2, _⟩ := z3 i r' hi
      rw [q2, z1]; exact g5 r (List.mem_of_getElem? q1)
    · obtain ⟨r, q1, q2, q3⟩ := z3 i r' hi
      obtain ⟨a0, q4, q5⟩ := q3 j a' hj
      obtain ⟨x, hx, hxr⟩ := g7 i r j a0 q1 q4
      exact ⟨x, by rw [z1]; exact hx, q5 _ _ _ _ hxr⟩
theorem MemOK.more {σ : Sig} {S S' F F' : Nat → Prop} {w : World} {b : Nat} {m : MB} (h : MemOK σ S F w b m) (hS : ∀ k, S k → S' k) (hn : ∀ k, σ b = some k → ¬ S' k) (hF : ∀ k, F k → F' k) : MemOK σ S' F' w b m := by
  rcases h with h | ⟨k, c, e, g1, g2, g3, g4, g5, g6, g7⟩
  · exact .inl h
  · refine .inr ⟨k, c, e, g1, hF _ g2, hn k g1, g4, g5, g6, fun i r j av hi hj => ?_⟩
    obtain ⟨x, hx, hr⟩ := g7 i r j av hi hj
    exact ⟨x, hx, hr.mono (fun _ _ h => h) hS keeps_refl⟩
theorem call_v {C : Cx} (hT : TypesOK C.P C.ti) (hmx : C.P.follows .mixedOrders = true) (han : C.an = true) {f : FuncId} {fn : Func} {c : Code} {args : List AV} {res : AV} {m0 m1 m0' : MB} {m1' : Option MB} (n : Nat) (hent : Enters C.P f) (hf : C.P.funcs[f]? = some fn) (hb : fn.body = some c) (hnt : fn.ntmps = C.nt) (hargs : args.length ≤ C.nt)
    (hres : NB (nbOf m1') res) (hcm0 : ∀ r ∈ m0'.rows, ∀ a ∈ r, NB (nbOf m1') a) (hcm1 : ∀ m, m1' = some m → ∀ r ∈ m.rows, ∀ a ∈ r, NB (nbOf m1') a) (h : ex C n [.code c] (entryV args m0 m1) (EndsV C.ti fn.results.toList res m0' m1')) : CallV C.P C.G f args m0 m1 res m0' m1' := by
  refine ⟨hent, hres, hcm0, hcm1, fun S w vs k' σ hσ0 hdom hne hS hgs hsz hm0 hm1 hn1 hr => ?_⟩
  have hk0 : k' < w.heap.size := (hdom 0 k' hσ0).2
  have hn0 : ¬ S k' := by
    obtain ⟨k, c0, e0, q1, _, q3, _⟩ := hm0
    have : k = k' := Option.some.inj (q1.symm.trans hσ0)
    subst this; exact q3
  refine calls_of_wp hf hb ?_
  have hlen : (vs ++ Array.replicate (fn.ntmps - vs.size) undef).size = C.nt := by simp [hnt, hsz]; omega
  let D : Base := ⟨fun k => k = k' ∨ σ 1 = some k, C.G, some k'⟩
  have hnd : ∀ k, D.d k → ¬ S k := fun k hk => by
    rcases hk with rfl | hk
    · exact hn0
    · exact hn1 k hk
  have hsim : Sim D S w C.nt (entryV args m0 m1) { tmps := vs ++ Array.replicate (fn.ntmps - vs.size) undef, defers := [] } w := by
    refine ⟨rfl, hlen, σ, S, ⟨Bel.refl (fun g l hg => ⟨fun he => hnd g he (hgs g l hg).1, (hgs g l hg).2⟩), hdom, (fun b b' k m m' _ _ h1 h2 => ?_), hS, (fun _ h => h), (fun _ h => .inl h), ⟨fun g l hg => (hgs g l hg).1, fun k hk => ?_⟩, (fun b m2 h => ?_)⟩, fun t av ht => ?_⟩
    · have e1 := (hdom b k h1).1
      have e2 := (hdom b' k h2).1
      match b, b', e1, e2, h1, h2 with
      | 0, 0, _, _, _, _ => rfl
      | 1, 1, _, _, _, _ => rfl
      | 0, 1, _, _, h1, h2 => exact absurd (Option.some.inj (h1.symm.trans hσ0)) (hne k h2)
      | 1, 0, _, _, h1, h2 => exact absurd (Option.some.inj (h2.symm.trans hσ0)) (hne k h1)
    · injection hk with hk; subst hk; exact hσ0
    · simp only [entryV, look] at h
      split at h
      · rename_i hb0; injection h with h; subst h hb0
        obtain ⟨k, c0, e0, q1, _, q3⟩ := hm0
        refine .inr ⟨k, c0, e0, q1, .inr (.inl (Option.some.inj (q1.symm.trans hσ0))), q3⟩
      · split at h
        · rename_i hb1; injection h with h; subst h hb1
          rcases hm1 with hm1 | ⟨k, c0, e0, q1, _, q3⟩
          · exact .inl hm1
          · exact .inr ⟨k, c0, e0, q1, .inr (.inr q1), q3⟩
        · cases h
    · obtain ⟨_, h2⟩ := look_entry args 0 t av ht
      simp only [Nat.sub_zero] at h2
      have hlt : t < vs.size := by rw [hsz]; exact (List.getElem?_eq_some_iff.1 h2).1
      exact ⟨vs[t], by simp [Array.getElem?_append, hlt], hr t _ av (by simp [hlt]) h2⟩
  let Post : Ending → World → Prop := fun e w' => Bel D w w' ∧ ∃ x σ' S', e = .returned x ∧ σ' 0 = some k' ∧ (∀ b k, σ' b = some k → b < nbOf m1' ∧ k < w'.heap.size) ∧
      (∀ k, σ' 1 = some k → k ≠ k' ∧ (σ 1 = some k ∨ w.heap.size ≤ k)) ∧ (∀ k, S k → S' k) ∧ (∀ k, S' k → k < w'.heap.size ∧ (S k ∨ w.heap.size ≤ k ∨ σ 1 = some k)) ∧ Rel σ' S' w' x res ∧ MemAt σ' S' (fun _ => True) w' 0 m0' ∧
      ∀ m, m1' = some m → MemOK σ' S' (fun _ => True) w' 1 m
  have fin : ∀ (e : Exit) (s : AS) (a : Act) (w' : World), (e = .normal ∨ e = .ret) → FinV s.mem (resL C.ti s fn.results.toList) res m1' → (∃ m, look s.mem 0 = some m ∧ MLe m m0') → (∀ m, m1' = some m → ∃ q, look s.mem 1 = some q ∧ MLe q m) → Sim D S w C.nt s a w' → bodyPost C.P fn Post e a w' := fun e s a w' he hq hq0 hq1 hs => ?_
  · have key := ex_sound (D := D) (S0 := S) (w0 := w) (R := bodyPost C.P fn Post) (M := fun _ _ _ => False) hT ⟨rfl, fun h => by rw [han] at h; cases h⟩ hmx n _ _ _ h _ _ hsim
      ⟨fun s a w q hs => fin _ s a w (.inl rfl) q.2.1 q.2.2.1 q.2.2.2 hs, fun s a w q hs => fin _ s a w (.inr rfl) q.2.1 q.2.2.1 q.2.2.2 hs, fun k s a w q hs => by rcases q.1 with q | q <;> cases q⟩
    simp only [Real] at key
    exact wp_mono key fun e a w' q => by cases e <;> exact q
  · obtain ⟨p, l, b, hr1, hp1, hpub, hle⟩ := hq
    obtain ⟨q0, hq0, hle0⟩ := hq0
    obtain ⟨hd, hn, σ', S', hF, hE⟩ := hs
    obtain ⟨v, hv1, hv2⟩ := results_run (P := C.P) hT hF hE hr1 hp1
    have hσ : σ' 0 = some k' := hF.glob.2 k' rfl
    let mem' : List (Nat × MB) := if m1' = none then dropM 0 s.mem else drop2 s.mem
    have hmem' : ∀ b m, look mem' b = some m → b ≠ 0 ∧ (m1' ≠ none → b ≠ 1) ∧ look s.mem b = some m := fun b m hm => by
      by_cases h1 : m1' = none
      · have hm : look (dropM 0 s.mem) b = some m := by simpa [mem', h1] using hm
        obtain ⟨g1, g2⟩ := look_dropM _ _ _ hm
        exact ⟨g1, fun h => absurd h1 h, g2⟩
      · have hm : look (drop2 s.mem) b = some m := by simpa [mem', h1] using hm
        obtain ⟨g1, g2⟩ := look_dropM _ _ _ hm
        obtain ⟨g3, g4⟩ := look_dropM _ _ _ g2
        exact ⟨g3, fun _ => g1, g4⟩
    have hsub : Fit D S w σ' S' mem' (fun b => b < s.next) w' := hF.sub fun b m h => (hmem' b m h).2.2
    have hpub : Pub mem' (one l) b := hpub
    have m0OK := (hF.mem 0 q0 hq0)
    have own0 : ∀ b m k, look s.mem b = some m → σ' b = some k → w.heap.size ≤ k ∨ k = k' ∨ σ 1 = some k := fun b m k hm hs => by
      obtain ⟨k3, c3, e3, q1, q2, _⟩ := (hF.mem b m hm).named hs
      have : k3 = k := Option.some.inj (q1.symm.trans hs)
      subst this
      exact q2
    have hn0' : ¬ S' k' := by
      obtain ⟨k2, c2, e2, g1, g2, g3, _⟩ := m0OK.named hσ
      have : k2 = k' := Option.some.inj (g1.symm.trans hσ)
      subst this; exact g3
    have hn0'' : ¬ With σ' mem' S' k' := fun hk => by
      rcases hk with hk | ⟨b, m, hm, hσb⟩
      · exact hn0' hk
      · obtain ⟨h1, _, h3⟩ := hmem' b m hm
        exact h1 (hF.inj b 0 k' m q0 h3 hq0 hσb hσ)
    have hc0 : cutσ (nbOf m1') σ' 0 = some k' := by unfold cutσ; rw [if_pos (nbOf_pos _)]; exact hσ
    have cut : ∀ b k, cutσ (nbOf m1') σ' b = some k → b < nbOf m1' ∧ σ' b = some k := fun b k hk => by
      unfold cutσ at hk
      split at hk
      · rename_i hb; exact ⟨hb, hk⟩
      · cases hk
    have hs' : ∀ k, With σ' mem' S' k → k < w'.heap.size ∧ (S k ∨ w.heap.size ≤ k ∨ σ 1 = some k) := fun k hk => by
      have hne : k ≠ k' := fun e => hn0'' (e ▸ hk)
      rcases hk with hk | ⟨b, m, hm, hσb⟩
      · refine ⟨hF.sbd k hk, ?_⟩
        rcases hF.s1 k hk with h1 | h1 | h1
        · exact .inl h1
        · exact .inr (.inl h1)
        · rcases h1 with h1 | h1
          · exact absurd h1 hne
          · exact .inr (.inr h1)
      · refine ⟨(hF.dom b k hσb).2, .inr ?_⟩
        rcases own0 b m k (hmem' b m hm).2.2 hσb with h1 | h1 | h1
        · exact .inl h1
        · exact absurd h1 hne
        · exact .inr h1
    have one1 : ∀ m, m1' = some m → ∃ q, look s.mem 1 = some q ∧ MLe q m ∧ ∀ k, σ' 1 = some k → k ≠ k' ∧ (σ 1 = some k ∨ w.heap.size ≤ k) ∧ ¬ With σ' mem' S' k := fun m hm => by
      obtain ⟨q, h1, h2⟩ := hq1 m hm
      refine ⟨q, h1, h2, fun k hk => ?_⟩
      have hne : k ≠ k' := fun e => by have := hF.inj 1 0 k q q0 h1 hq0 hk (e ▸ hσ); omega
      refine ⟨hne, ?_, fun hw => ?_⟩
      · rcases own0 1 q k h1 hk with h3 | h3 | h3
        · exact .inr h3
        · exact absurd h3 hne
        · exact .inl h3
      · rcases hw with hw | ⟨b, m2, hm2, hσb⟩
        · obtain ⟨k2, c2, e2, g1, g2, g3, _⟩ := (hF.mem 1 q h1).named hk
          have : k2 = k := Option.some.inj (g1.symm.trans hk)
          subst this; exact g3 hw
        · obtain ⟨_, h4, h5⟩ := hmem' b m2 hm2
          exact h4 (by rw [hm]; exact fun h => by cases h) (hF.inj b 1 k m2 q h5 h1 hσb hk)
    have hfin : Post (.returned v) w' := by
      refine ⟨hF.below, v, cutσ (nbOf m1') σ', With σ' mem' S', rfl, hc0, fun b k hk => ?_, fun k hk => ?_, fun k hk => .inl (hF.s0 k hk), hs', ?_, ?_, fun m hm => ?_⟩
      · obtain ⟨h1, h2⟩ := cut b k hk
        exact ⟨h1, (hF.dom b k h2).2⟩
      · obtain ⟨h1, h2⟩ := cut 1 k hk
        cases hm1' : m1' with
        | none => rw [hm1'] at h1; exact absurd h1 (by decide)
        | some m =>
          obtain ⟨q, _, _, h3⟩ := one1 m hm1'
          exact ⟨(h3 k h2).1, (h3 k h2).2.1⟩
      · exact hres _ _ _ _ (hle _ _ _ _ (pub_rel hsub hv2 hpub))
      · have h1 := ((MLe.memOK m0OK hle0).more (S' := With σ' mem' S') (F' := fun _ => True) (fun _ h => .inl h) (fun k hk => by
          have : k = k' := Option.some.inj (hk.symm.trans hσ)
          subst this; exact hn0'') (fun _ _ => trivial)).cut (nbOf_pos m1') hcm0
        exact h1.named hc0
      · obtain ⟨q, h1, h2, h3⟩ := one1 m hm
        exact ((MLe.memOK (hF.mem 1 q h1) h2).more (S' := With σ' mem' S') (F' := fun _ => True) (fun _ h => .inl h) (fun k hk => (h3 k hk).2.2) (fun _ _ => trivial)).cut (by rw [hm]; exact Nat.lt_succ_self 1) (hcm1 m hm)
    rcases he with rfl | rfl
    · exact ⟨hd, v, hv1, hfin⟩
    · exact ⟨hd, v, hv1, hfin⟩
inductive Rn (b0 b1 : Nat) : AV → AV → Prop
  | p0 (sz row j : Nat) : Rn b0 b1 (.p b0 sz row j) (.p 0 sz row j)
  | ps0 (sz row n : Nat) : Rn b0 b1 (.ps b0 sz row n) (.ps 0 sz row n)
  | p1 (sz row j : Nat) : Rn b0 b1 (.p b1 sz row j) (.p 1 sz row j)
  | ps1 (sz row n : Nat) : Rn b0 b1 (.ps b1 sz row n) (.ps 1 sz row n)
  | cl {a a' : AV} (h : Cl a') (k : Le a a') : Rn b0 b1 a a'
inductive Rb (b0 b1 : Nat) : AV → AV → Prop
  | p0 (sz row j : Nat) : Rb b0 b1 (.p 0 sz row j) (.p b0 sz row j)
  | ps0 (sz row n : Nat) : Rb b0 b1 (.ps 0 sz row n) (.ps b0 sz row n)
  | p1 (sz row j : Nat) : Rb b0 b1 (.p 1 sz row j) (.p b1 sz row j)
  | ps1 (sz row n : Nat) : Rb b0 b1 (.ps 1 sz row n) (.ps b1 sz row n)
  | cl {a : AV} (h : Cl a) : Rb b0 b1 a a
theorem move_rel {σ σ' : Sig} {S : Nat → Prop} {w : World} {x : Value} {a a' : AV} {c c' sz row : Nat} (h : ∀ k, σ c = some k → σ' c' = some k) :
    (∀ j, Rel σ S w x (.p c sz row j) → Rel σ' S w x (.p c' sz row j)) ∧ ∀ n, Rel σ S w x (.ps c sz row n) → Rel σ' S w x (.ps c' sz row n) := by
  refine ⟨fun j hr => ?_, fun n hr => ?_⟩
  · cases hr with
    | p h1 => exact .p (h _ h1)
  · cases hr with
    | ps h1 hn ho hs => exact .ps (h _ h1) hn ho hs
    | ps0 => exact .ps0
theorem Rn.rel {σ σ' : Sig} {S : Nat → Prop} {w : World} {b0 b1 : Nat} (h0 : ∀ k, σ b0 = some k → σ' 0 = some k) (h1 : ∀ k, σ b1 = some k → σ' 1 = some k) {x : Value} {a a' : AV} (h : Rn b0 b1 a a') (hr : Rel σ S w x a) : Rel σ' S w x a' := by
  cases h with
  | p0 sz row j => exact (move_rel (a := .top) (a' := .top) h0).1 _ hr
  | ps0 sz row n => exact (move_rel (a := .top) (a' := .top) h0).2 _ hr
  | p1 sz row j => exact (move_rel (a := .top) (a' := .top) h1).1 _ hr
  | ps1 sz row n => exact (move_rel (a := .top) (a' := .top) h1).2 _ hr
  | cl h k => exact (h _ _ _ _ (k _ _ _ _ hr)).mono (fun _ _ h => by cases h) (fun _ h => h) keeps_refl
theorem Rb.rel {σ σ' : Sig} {S : Nat → Prop} {w : World} {b0 b1 : Nat} (h0 : ∀ k, σ 0 = some k → σ' b0 = some k) (h1 : ∀ k, σ 1 = some k → σ' b1 = some k) {x : Value} {a a' : AV} (h : Rb b0 b1 a a') (hr : Rel σ S w x a) : Rel σ' S w x a' := by
  cases h with
  | p0 sz row j => exact (move_rel (a := .top) (a' := .top) h0).1 _ hr
  | ps0 sz row n => exact (move_rel (a := .top) (a' := .top) h0).2 _ hr
  | p1 sz row j => exact (move_rel (a := .top) (a' := .top) h1).1 _ hr
  | ps1 sz row n => exact (move_rel (a := .top) (a' := .top) h1).2 _ hr
  | cl h => exact (h _ _ _ _ hr).mono (fun _ _ h => by cases h) (fun _ h => h) keeps_refl
def MR (R : AV → AV → Prop) (m m' : MB) : Prop := m'.sz = m.sz ∧ PubL (PubL R) m.rows m'.rows
theorem MR.memAt {R : AV → AV → Prop} {σ σ' : Sig} {S F F' : Nat → Prop} {w : World} {b b' : Nat} {m m' : MB} (h : MR R m m') (hb : ∀ k, σ b = some k → σ' b' = some k ∧ F' k) (hR : ∀ x a a', R a a' → Rel σ S w x a → Rel σ' S w x a') (hm : MemAt σ S F w b m) : MemAt σ' S F' w b' m' := by
  obtain ⟨k, c, e, g1, g2, g3, g4, g5, g6, g7⟩ := hm
  obtain ⟨z1, z2⟩ := h
  obtain ⟨z3, z4⟩ := z2.spec
  refine ⟨k, c, e, (hb k g1).1, (hb k g1).2, g3, g4, fun r' hr' => ?_, by rw [z1, ← z3]; exact g6, fun i r' j a' hi hj => ?_⟩
  · obtain ⟨i, hi⟩ := List.getElem?_of_mem hr'
    obtain ⟨r, q1, q2⟩ := z4 i r' hi
    rw [← q2.spec.1, z1]; exact g5 r (List.mem_of_getElem? q1)
  · obtain ⟨r, q1, q2⟩ := z4 i r' hi
    obtain ⟨a, q3, q4⟩ := q2.spec.2 j a' hj
    obtain ⟨x, hx, hxr⟩ := g7 i r j a q1 q3
    exact ⟨x, by rw [z1]; exact hx, hR x a a' q4 hxr⟩
theorem MR.memOK {R : AV → AV → Prop} {σ σ' : Sig} {S F F' : Nat → Prop} {w : World} {b b' : Nat} {m m' : MB} (h : MR R m m') (hb : ∀ k, σ b = some k → σ' b' = some k ∧ F' k) (hn : σ b = none → σ' b' = none) (hR : ∀ x a a', R a a' → Rel σ S w x a → Rel σ' S w x a') (hm : MemOK σ S F w b m) : MemOK σ' S F' w b' m' := by
  rcases hm with ⟨h1, h2⟩ | hm
  · exact .inl ⟨List.length_eq_zero_iff.1 (by rw [← h.2.spec.1, h1]; rfl), hn h2⟩
  · exact .inr (h.memAt hb hR hm)
def noE (b : Nat) : List (Nat × AV) → Prop
  | [] => True
  | (_, a) :: l => NO b a ∧ noE b l
theorem noE_look {b : Nat} : ∀ (l : List (Nat × AV)), noE b l → ∀ t a, look l t = some a → NO b a
  | [], _, t, a, h => by simp [look] at h
  | (t', a') :: l, hl, t, a, h => by
    simp only [look] at h
    split at h
    · injection h with h; subst h; exact hl.1
    · exact noE_look l hl.2 t a h
def noM (b0 b1 : Nat) : List (Nat × MB) → Prop
  | [] => True
  | (k, m) :: l => (k = b0 ∨ k = b1 ∨ ∀ r ∈ m.rows, ∀ a ∈ r, NO b1 a) ∧ noM b0 b1 l
theorem noM_look {b0 b1 : Nat} : ∀ (l : List (Nat × MB)), noM b0 b1 l → ∀ k m, look l k = some m → k ≠ b0 → k ≠ b1 → ∀ r ∈ m.rows, ∀ a ∈ r, NO b1 a
  | [], _, k, m, h, _, _ => by simp [look] at h
  | (k', m') :: l, hl, k, m, h, h0, h1 => by
    simp only [look] at h
    split at h
    · rename_i he
      injection h with h; subst h he
      rcases hl.1 with h2 | h2 | h2
      · exact absurd h2 h0
      · exact absurd h2 h1
      · exact h2
    · exact noM_look l hl.2 k m h h0 h1
def memV (b0 b1 : Nat) (M0' : MB) (M1' : Option MB) (mem : List (Nat × MB)) : List (Nat × MB) := match M1' with
  | some M => (b0, M0') :: (b1, M) :: mem
  | none => (b0, M0') :: dropM b1 mem
def given (b1 : Nat) (s : AS) (M1 : MB) : Prop := look s.mem b1 = some M1 ∨ (s.next ≤ b1 ∧ look s.mem b1 = none ∧ M1.rows = [])
theorem callG_own2 {C : Cx} {s : AS} {g : FuncId} {as args : List AV} {res res' : AV} {M0 M1 m0 m1 m0' M0' : MB} {m1' M1' : Option MB} (b0 b1 : Nat) (hne : b0 ≠ b1 ∧ (C.an = false ∨ b1 ≠ 0)) (hM0 : look s.mem b0 = some M0) (h0 : 0 < M0.rows.length) (hM1 : given b1 s M1) (hnx : M1' = none ∨ b1 < s.next)
    (hr0 : MR (Rn b0 b1) M0 m0) (hr1 : MR (Rn b0 b1) M1 m1) (has : PubL (Rn b0 b1) as args) (henv : noE b1 s.env) (hmem : noM b0 b1 s.mem) (h : CallV C.P C.G g args m0 m1 res m0' m1')
    (hb0 : MR (Rb b0 b1) m0' M0') (hb1 : (m1' = none ∧ M1' = none) ∨ ∃ m M, m1' = some m ∧ M1' = some M ∧ MR (Rb b0 b1) m M) (hres : Rb b0 b1 res res') :
    CallG C s g as ⟨s.env, memV b0 b1 M0' M1' s.mem, s.next⟩ res' := by
  obtain ⟨hne, hb10⟩ := hne
  intro D S0 w0 σ S a w vs hG hF hE hsz hr
  have hm0 := (hF.mem b0 M0 hM0).row h0
  obtain ⟨k0, c0, e0, g1, g2, g3, g4, _⟩ := id hm0
  have hm1 : MemOK σ S (Own D w0) w b1 M1 := by
    rcases hM1 with hM1 | ⟨h1, _, h2⟩
    · exact hF.mem b1 M1 hM1
    · refine .inl ⟨h2, ?_⟩
      cases hs : σ b1 with
      | none => rfl
      | some k => have := (hF.dom b1 k hs).1; omega
  have b1ne : ∀ k, σ b1 = some k → k ≠ k0 ∧ ¬ S k ∧ Own D w0 k := fun k hk => by
    obtain ⟨k', c', e', q1, q2, q3, _⟩ := hm1.named hk
    have : k' = k := Option.some.inj (q1.symm.trans hk)
    subst this
    refine ⟨fun he => ?_, q3, q2⟩
    rcases hM1 with hM1 | ⟨h1, _, _⟩
    · exact hne (hF.inj b0 b1 k' M0 M1 hM0 hM1 (he ▸ g1) hk)
    · have := (hF.dom b1 k' hk).1; omega
  let σc : Sig := fun c => if c = 0 then σ b0 else if c = 1 then σ b1 else none
  have c0e : σc 0 = σ b0 := rfl
  have c1e : σc 1 = σ b1 := rfl
  have hsub : ∀ (vs : List AV) (as : List AV), True := fun _ _ => trivial
  have down : ∀ x a a', Rn b0 b1 a a' → Rel σ S w x a → Rel σc S w x a' := fun x a a' h hr => h.rel (fun k hk => c0e ▸ hk) (fun k hk => c1e ▸ hk) hr
  refine (h.runs S w vs k0 σc (c0e ▸ g1) (fun b k hk => ?_) (fun k hk => (b1ne k (c1e ▸ hk)).1) hF.sbd (by rw [← hG.1]; exact hF.gs) (by rw [hsz, has.spec.1]) (hr0.memAt (fun k hk => ⟨c0e ▸ hk, trivial⟩) down hm0) (hr1.memOK (fun k hk => ⟨c1e ▸ hk, trivial⟩) (fun hk => c1e ▸ hk) down hm1) (fun k hk => (b1ne k (c1e ▸ hk)).2.1)
    (fun i x av hx hav => by obtain ⟨a0, ha, hra⟩ := has.spec.2 i av hav; exact down x a0 av hra (hr i x a0 hx ha))).mono fun e' w' hw => ?_
  · match b, hk with
    | 0, hk => exact ⟨by decide, (hF.dom b0 k hk).2⟩
    | 1, hk => exact ⟨by decide, (hF.dom b1 k hk).2⟩
    | n + 2, hk => simp [σc] at hk
  obtain ⟨hb, x, σ', S', rfl, q0, qd, q1, qs, qs', qr, qm0, qm1⟩ := hw
  rw [c1e] at hb q1 qs'
  let σn : Sig := fun c => if c = b1 then σ' 1 else σ c
  have n1 : σn b1 = σ' 1 := by simp [σn]
  have nne : ∀ c, c ≠ b1 → σn c = σ c := fun c hc => by simp [σn, hc]
  have n0 : σn b0 = some k0 := (nne b0 hne).trans g1
  have same : ∀ k, k < w.heap.size → k ≠ k0 → σ b1 ≠ some k → w'.heap[k]? = w.heap[k]? := fun k hk h1 h2 => hb.block k hk (fun h => by rcases h with h | h; exact h1 h; exact h2 h)
  have hke : Keeps σ S w w' := ⟨fun k hk => same k (hF.sbd k hk) (fun he => g3 (he ▸ hk)) (fun he => (b1ne k he).2.1 hk), fun c k c2 e2 f2 hs hc => by
    by_cases hk : k = k0 ∨ σ b1 = some k
    · exact hb.kept k c2 e2 f2 hk hc
    · exact ⟨c2, e2, f2, by rw [same k (lt_of_get hc) (fun h => hk (.inl h)) (fun h => hk (.inr h))]; exact hc, Nat.le_refl _⟩⟩
  have up : ∀ {x : Value} {av : AV}, NO b1 av → Rel σ S w x av → Rel σn S' w' x av := fun hno hr => hno σ σn S' w' _ (fun c k hc hk => (nne c hc).trans hk) (hr.mono (fun _ _ h => h) qs hke)
  have back : ∀ x a a', Rb b0 b1 a a' → Rel σ' S' w' x a → Rel σn S' w' x a' := fun x a a' h hr => h.rel (fun k hk => by rw [n0, ← q0]; exact hk) (fun k hk => n1.trans hk) hr
  have own1 : ∀ k, σ' 1 = some k → Own D w0 k := fun k hk => by
    rcases (q1 k hk).2 with h | h
    · exact (b1ne k h).2.2
    · exact .inl (Nat.le_trans hF.below.size h)
  have ns1 : ∀ c mc k, c ≠ b1 → look s.mem c = some mc → σ c = some k → σ' 1 ≠ some k := fun c mc k hc hl hs he => by
    rcases (q1 k he).2 with h | h
    · rcases hM1 with hM1 | ⟨h1, _, _⟩
      · exact hc (hF.inj c b1 k mc M1 hl hM1 hs h)
      · have := (hF.dom b1 k h).1; omega
    · have := (hF.dom c k hs).2; omega
  have names : ∀ c mc, look (memV b0 b1 M0' M1' s.mem) c = some mc → (c = b0 ∧ mc = M0') ∨ (c = b1 ∧ M1' = some mc) ∨ (c ≠ b0 ∧ c ≠ b1 ∧ look s.mem c = some mc) := fun c mc hl => by
    cases hM : M1' with
    | none =>
      rw [hM] at hl
      simp only [memV, look] at hl
      split at hl
      · rename_i he; injection hl with hl; exact .inl ⟨he.symm, hl.symm⟩
      · rename_i he
        obtain ⟨h1, h2⟩ := look_dropM _ _ _ hl
        exact .inr (.inr ⟨fun e => he e.symm, h1, h2⟩)
    | some M =>
      rw [hM] at hl
      simp only [memV, look] at hl
      split at hl
      · rename_i he; injection hl with hl; exact .inl ⟨he.symm, hl.symm⟩
      · rename_i he
        split at hl
        · rename_i he1; injection hl with hl; exact .inr (.inl ⟨he1.symm, by rw [hl]⟩)
        · rename_i he1; exact .inr (.inr ⟨fun e => he e.symm, fun e => he1 e.symm, hl⟩)
  have h2 : ∀ c mc k, look (memV b0 b1 M0' M1' s.mem) c = some mc → σn c = some k → (c = b1 ∧ σ' 1 = some k) ∨ (c ≠ b1 ∧ σ c = some k ∧ ∃ mo, look s.mem c = some mo) := fun c mc k hl hs => by
    rcases names c mc hl with ⟨rfl, _⟩ | ⟨rfl, _⟩ | ⟨_, hc, hl⟩
    · exact .inr ⟨hne, by rw [← nne c hne]; exact hs, M0, hM0⟩
    · exact .inl ⟨rfl, by rw [← n1]; exact hs⟩
    · exact .inr ⟨hc, by rw [← nne c hc]; exact hs, mc, hl⟩
  have hlt1 : ∀ k, σ' 1 = some k → b1 < s.next := fun k hk => by
    rcases hnx with h | h
    · rcases hb1 with ⟨h3, _⟩ | ⟨m, M, _, h4, _⟩
      · have := (qd 1 k hk).1; rw [h3] at this; exact absurd this (by decide)
      · rw [h] at h4; cases h4
    · exact h
  refine ⟨x, rfl, σn, S', ⟨⟨hb.os.trans hF.below.os, hb.tape.trans hF.below.tape, hb.output.trans hF.below.output, Nat.le_trans hF.below.size hb.size, fun k hk hd => ?_, fun k c2 e2 f2 hd hc => ?_, hF.below.glob⟩, fun c k hs => ?_,
      fun c1 c2 k m1 m2 l1 l2 s1 s2 => ?_, fun k hk => (qs' k hk).1, fun k hk => qs k (hF.s0 k hk), fun k hk => ?_, ⟨fun g l hg => qs g (hF.glob.1 g l hg), fun k hk => ?_⟩, fun c mc hl => ?_⟩, fun t av ht => ?_, back x _ _ hres qr⟩
  · have h1 : k ≠ k0 := fun he => by
      subst he
      obtain ⟨k', c', e', p1, p2, _⟩ := hm0
      have : k' = k := Option.some.inj (p1.symm.trans g1)
      subst this
      rcases p2 with p2 | p2
      · omega
      · exact hd p2
    have h3 : σ b1 ≠ some k := fun he => by
      rcases (b1ne k he).2.2 with p2 | p2
      · omega
      · exact hd p2
    rw [same k (Nat.lt_of_lt_of_le hk hF.below.size) h1 h3]
    exact hF.below.block k hk hd
  · obtain ⟨c3, e3, f3, r1, r2⟩ := hF.below.kept k c2 e2 f2 hd hc
    by_cases hk : k = k0 ∨ σ b1 = some k
    · obtain ⟨c4, e4, f4, r3, r4⟩ := hb.kept k c3 e3 f3 hk r1
      exact ⟨c4, e4, f4, r3, Nat.le_trans r2 r4⟩
    · exact ⟨c3, e3, f3, by rw [same k (lt_of_get r1) (fun h => hk (.inl h)) (fun h => hk (.inr h))]; exact r1, r2⟩
  · by_cases hc : c = b1
    · subst hc
      rw [n1] at hs
      exact ⟨hlt1 k hs, (qd 1 k hs).2⟩
    · rw [nne c hc] at hs
      exact ⟨(hF.dom c k hs).1, Nat.lt_of_lt_of_le (hF.dom c k hs).2 hb.size⟩
  · rcases h2 c1 m1 k l1 s1 with ⟨rfl, p1⟩ | ⟨p1, p2, mo1, p3⟩
    · rcases h2 c2 m2 k l2 s2 with ⟨rfl, _⟩ | ⟨p4, p5, mo2, p6⟩
      · rfl
      · exact absurd p1 (ns1 c2 mo2 k p4 p6 p5)
    · rcases h2 c2 m2 k l2 s2 with ⟨rfl, p4⟩ | ⟨p4, p5, mo2, p6⟩
      · exact absurd p4 (ns1 c1 mo1 k p1 p3 p2)
      · exact hF.inj c1 c2 k mo1 mo2 p3 p6 p2 p5
  · rcases (qs' k hk).2 with p | p | p
    · exact hF.s1 k p
    · exact .inr (.inl (Nat.le_trans hF.below.size p))
    · exact .inr (b1ne k p).2.2
  · have h1 := hF.glob.2 k hk
    by_cases hc : 0 = b1
    · rcases hb10 with h3 | h3
      · rw [hG.2 h3] at hk; cases hk
      · exact absurd hc.symm h3
    · exact (nne 0 hc).trans h1
  · rcases names c mc hl with ⟨rfl, rfl⟩ | ⟨rfl, hM⟩ | ⟨hc0, hc1, hl⟩
    · exact .inr (hb0.memAt (fun k hk => ⟨by rw [n0, ← q0]; exact hk, by
        have : k = k0 := Option.some.inj (hk.symm.trans q0)
        subst this
        obtain ⟨k', c', e', p1, p2, _⟩ := hm0
        have : k' = k := Option.some.inj (p1.symm.trans g1)
        subst this
        exact p2⟩) back qm0)
    · rcases hb1 with ⟨_, h3⟩ | ⟨m, M, h3, h4, h5⟩
      · rw [h3] at hM; cases hM
      · have : M = mc := Option.some.inj (h4.symm.trans hM)
        subst this
        exact h5.memOK (fun k hk => ⟨n1.trans hk, own1 k hk⟩) (fun hk => n1.trans hk) back (qm1 m h3)
    · have hno := noM_look _ hmem c mc hl hc0 hc1
      rcases hF.mem c mc hl with ⟨p1, p2⟩ | ⟨k, c', e', p1, p2, p3, p4, p5, p6, p7⟩
      · exact .inl ⟨p1, (nne c hc1).trans p2⟩
      · have hk0 : k ≠ k0 := fun he => hc0 (hF.inj c b0 k mc M0 hl hM0 p1 (he ▸ g1))
        have hk1 : σ b1 ≠ some k := fun he => by
          rcases hM1 with hM1 | ⟨h1, _, _⟩
          · exact hc1 (hF.inj c b1 k mc M1 hl hM1 p1 he)
          · have := (hF.dom b1 k he).1; omega
        refine .inr ⟨k, c', e', (nne c hc1).trans p1, p2, fun hk => ?_, by rw [same k (lt_of_get p4) hk0 hk1]; exact p4, p5, p6, fun i r j av hi hj => ?_⟩
        · rcases (qs' k hk).2 with p | p | p
          · exact p3 p
          · have := lt_of_get p4; omega
          · exact hk1 p
        · obtain ⟨y, hy, hyr⟩ := p7 i r j av hi hj
          exact ⟨y, hy, up (hno r (List.mem_of_getElem? hi) av (List.mem_of_getElem? hj)) hyr⟩
  · obtain ⟨y, hy, hyr⟩ := hE t av ht
    exact ⟨y, hy, up (noE_look _ henv t av ht) hyr⟩
section
variable {C : Cx} {n : Nat} {r : List It} {s : AS} {Q : Lab → AS → Prop} {d : Option Tmp}
theorem endsV_ret {ti : Types} {rs : List ResultVar} {res : AV} {m0' : MB} {m1' : Option MB} : EndsV ti rs res m0' m1' .ret s = (FinV s.mem (resL ti s rs) res m1' ∧ (∃ m, look s.mem 0 = some m ∧ MLe m m0') ∧ ∀ m, m1' = some m → ∃ q, look s.mem 1 = some q ∧ MLe q m) := by simp [EndsV]
theorem endsV_normal {ti : Types} {rs : List ResultVar} {res : AV} {m0' : MB} {m1' : Option MB} : EndsV ti rs res m0' m1' .normal s = (FinV s.mem (resL ti s rs) res m1' ∧ (∃ m, look s.mem 0 = some m ∧ MLe m m0') ∧ ∀ m, m1' = some m → ∃ q, look s.mem 1 = some q ∧ MLe q m) := by simp [EndsV]
end
end Go.Ax

namespace Go.Ax
open Go Go.RowKit
section
variable {C : Cx} {s : AS} {n : Nat} {r : List It} {Q : Lab → AS → Prop} {d : Option Tmp}
theorem callG_peek {g : FuncId} {as as' args' : List AV} {v0 : Value} (b : Nat) {m : MB} (hm : look s.mem b = some m) (has : PubL (Pub [(b, m)]) as as') (hle : LeL as' args') (h : CallOK C.P C.G g args' (.v v0)) : CallG C s g as s (.v v0) := by
  intro D S0 w0 σ S a w vs hG hF hE hsz hr
  obtain ⟨hl, hp⟩ := has.spec
  have hF' := hF.frz hm
  refine (h.runs (With σ [(b, m)] S) w vs hF'.sbd (by rw [← hG.1]; exact hF'.gs) (by rw [hsz, hl, hle.length]) (fun i x av hx hav => ?_)).mono fun e w' hw => ?_
  · obtain ⟨c, hc, hle'⟩ := hle.get i av hav
    obtain ⟨a0, ha, hpub⟩ := hp i c hc
    exact h.cla av (List.mem_of_getElem? hav) _ _ _ _ (hle' _ _ _ _ (frz_rel hF hm (hr i x a0 hx ha) hpub))
  · obtain ⟨hb, x, rfl, hx⟩ := hw
    exact ⟨x, rfl, σ, _, hF.grow hb, hE.grow hF hb, by cases hx; exact .v _⟩
theorem callF_peek {f : FuncId} {as as' args' : List AV} {v0 : Value} (b : Nat) {m : MB} (hm : look s.mem b = some m) (has : PubL (Pub [(b, m)]) as as') (hle : LeL as' args') (h : CallOK C.P C.G f args' (.v v0))
    (k : ex C n r (s.put d (.v v0)) Q) : callF C n r s Q f as d := callF_big h.enters (callG_peek b hm has hle h) k
end
end Go.Ax

namespace Go.Ax
open Go Go.RowKit
attribute [go_sem] Ax.endsV_ret Ax.endsV_normal Ax.entryV
theorem MR.cl {R : AV → AV → Prop} {m : MB} (h : ∀ r ∈ m.rows, ∀ a ∈ r, R a a) : MR R m m := by
  refine ⟨rfl, ?_⟩
  have hl : ∀ l : List AV, (∀ a ∈ l, R a a) → PubL R l l := fun l => by
    induction l with
    | nil => intro _; exact .nil
    | cons a l ih => intro h; exact .cons (h a (List.mem_cons_self ..)) (ih fun b hb => h b (List.mem_cons_of_mem _ hb))
  have : ∀ rows : List (List AV), (∀ r ∈ rows, ∀ a ∈ r, R a a) → PubL (PubL R) rows rows := fun rows => by
    induction rows with
    | nil => intro _; exact .nil
    | cons r l ih => intro h; exact .cons (hl r (h r (List.mem_cons_self ..))) (ih fun b hb => h b (List.mem_cons_of_mem _ hb))
  exact this m.rows h
section
variable {C : Cx} {s : AS} {n : Nat} {r : List It} {Q : Lab → AS → Prop} {d : Option Tmp}
theorem callF_part {g : FuncId} {as args : List AV} {res res' : AV} {m m' : MB} (b : Nat) (hM : look s.mem b = some m) (hne : b ≠ s.next ∧ (C.an = false ∨ s.next ≠ 0)) (h0 : 0 < m.rows.length) (hcm : ∀ r ∈ m.rows, ∀ a ∈ r, Cl a) (hcm' : ∀ r ∈ m'.rows, ∀ a ∈ r, Cl a) (hnone : look s.mem s.next = none)
    (has : PubL (Rn b s.next) as args) (hres : Rb b s.next res res') (henv : noE s.next s.env) (hmem : noM b s.next s.mem) (h : CallV C.P C.G g args m ⟨1, []⟩ res m' none)
    (k : ex C n r ((⟨s.env, (b, m') :: dropM s.next s.mem, s.next⟩ : AS).put d res') Q) : callF C n r s Q g as d := by
  refine callF_big h.enters ?_ k
  exact callG_own2 (M0' := m') (M1' := none) (M1 := ⟨1, []⟩) b s.next hne hM h0 (.inr ⟨Nat.le_refl _, hnone, rfl⟩) (.inl rfl) (MR.cl fun r hr a ha => .cl (hcm r hr a ha) (.refl _)) (MR.cl fun r hr => by cases hr) has henv hmem h (MR.cl fun r hr a ha => .cl (hcm' r hr a ha)) (.inl ⟨rfl, rfl⟩) hres
end
end Go.Ax

namespace Go.Ax
open Go Go.RowKit
structure Iv where
  lo : Dy
  hi : Dy
  h : lo.v ≤ hi.v
theorem Iv.eq {a b : Iv} (h1 : a.lo = b.lo) (h2 : a.hi = b.hi) : a = b := by
  cases a; cases b; simp_all
theorem Iv.same {a b : Iv} : (a.lo = b.lo ∧ a.hi = b.hi) ↔ a = b := ⟨fun h => Iv.eq h.1 h.2, fun h => by subst h; exact ⟨rfl, rfl⟩⟩
def Iv.Mg (k : Nat) (a : Iv) : Prop := Ax.Mg k a.lo ∧ Ax.Mg k a.hi
theorem Iv.Mg.mono {k k' : Nat} {a : Iv} (h : a.Mg k) (hk : k ≤ k') : a.Mg k' := ⟨h.1.mono hk, h.2.mono hk⟩
theorem min_le_l (x y : Dy) : (x.min y).v ≤ x.v := by rw [Dy.v_min]; split <;> grind
theorem min_le_r (x y : Dy) : (x.min y).v ≤ y.v := by rw [Dy.v_min]; split <;> grind
theorem le_max_l (x y : Dy) : x.v ≤ (x.max y).v := by rw [Dy.v_max]; split <;> grind
theorem le_max_r (x y : Dy) : y.v ≤ (x.max y).v := by rw [Dy.v_max]; split <;> grind
theorem le_min {x y z : Dy} (h1 : z.v ≤ x.v) (h2 : z.v ≤ y.v) : z.v ≤ (x.min y).v := by rw [Dy.v_min]; split <;> grind
theorem max_le {x y z : Dy} (h1 : x.v ≤ z.v) (h2 : y.v ≤ z.v) : (x.max y).v ≤ z.v := by rw [Dy.v_max]; split <;> grind
def Iv.zero : Iv := ⟨Dy.zero, Dy.zero, by grind⟩
def Iv.sp2 (x y : Dy) : Iv := ⟨x.min y, x.max y, min_le_max x y⟩
def Iv.sp4 (x y z w : Dy) : Iv := ⟨((x.min y).min z).min w, ((x.max y).max z).max w, by
  have := min_le_r ((x.min y).min z) w; have := le_max_r ((x.max y).max z) w; grind⟩
def Iv.neg (a : Iv) : Iv := ⟨a.hi.neg, a.lo.neg, by rw [Dy.v_neg, Dy.v_neg]; have := a.h; grind⟩
theorem abs_nn (x : Dy) : 0 ≤ x.abs.v := by rw [Dy.v_abs]; split <;> grind
def Iv.abs (a : Iv) : Iv := if a.lo.v < 0 ∧ 0 < a.hi.v then ⟨Dy.zero, a.lo.abs.max a.hi.abs, by rw [Dy.v_zero]; have := abs_nn a.lo; have := le_max_l a.lo.abs a.hi.abs; grind⟩ else Iv.sp2 a.lo.abs a.hi.abs
def Iv.add (a b : Iv) : Iv := ⟨a.lo.add b.lo, a.hi.add b.hi, by rw [Dy.v_add, Dy.v_add]; have := a.h; have := b.h; grind⟩
def Iv.sub (a b : Iv) : Iv := a.add b.neg
def Iv.mul (a b : Iv) : Iv := Iv.sp4 (a.lo.mul b.lo) (a.lo.mul b.hi) (a.hi.mul b.lo) (a.hi.mul b.hi)
def Iv.min (a b : Iv) : Iv := ⟨a.lo.min b.lo, a.hi.min b.hi, le_min (by have := min_le_l a.lo b.lo; have := a.h; grind) (by have := min_le_r a.lo b.lo; have := b.h; grind)⟩
def Iv.max (a b : Iv) : Iv := ⟨a.lo.max b.lo, a.hi.max b.hi, max_le (by have := le_max_l a.hi b.hi; have := a.h; grind) (by have := le_max_r a.hi b.hi; have := b.h; grind)⟩
def Iv.wide (a : Iv) (x : Dy) : Iv := Iv.add a (Iv.sp2 x x.neg)
def Iv.has (a : Iv) (x : Dy) : Bool := decide (a.lo.v ≤ x.v ∧ x.v ≤ a.hi.v)
theorem Iv.Mg.sp2 {k : Nat} {x y : Dy} (h : Ax.Mg k x) (g : Ax.Mg k y) : (Iv.sp2 x y).Mg k := ⟨h.min g, h.max g⟩
theorem Iv.Mg.sp4 {k : Nat} {x y z w : Dy} (h : Ax.Mg k x) (g : Ax.Mg k y) (i : Ax.Mg k z) (j : Ax.Mg k w) : (Iv.sp4 x y z w).Mg k := ⟨((h.min g).min i).min j, ((h.max g).max i).max j⟩
theorem Iv.Mg.zero (k : Nat) : Iv.zero.Mg k := ⟨Ax.Mg.zero k, Ax.Mg.zero k⟩
theorem Iv.Mg.neg {k : Nat} {a : Iv} (h : a.Mg k) : a.neg.Mg k := ⟨h.2.neg, h.1.neg⟩
theorem Iv.Mg.abs {k : Nat} {a : Iv} (h : a.Mg k) : a.abs.Mg k := by
  unfold Iv.abs; split
  · exact ⟨Ax.Mg.zero k, h.1.abs.max h.2.abs⟩
  · exact .sp2 h.1.abs h.2.abs
theorem Iv.Mg.add {k : Nat} {a b : Iv} (h : a.Mg k) (g : b.Mg k) : (a.add b).Mg (k + 1) := ⟨h.1.add g.1, h.2.add g.2⟩
theorem Iv.Mg.sub {k : Nat} {a b : Iv} (h : a.Mg k) (g : b.Mg k) : (a.sub b).Mg (k + 1) := h.add g.neg
theorem Iv.Mg.mul {k l : Nat} {a b : Iv} (h : a.Mg k) (g : b.Mg l) : (a.mul b).Mg (k + l) := .sp4 (h.1.mul g.1) (h.1.mul g.2) (h.2.mul g.1) (h.2.mul g.2)
theorem Iv.Mg.min {k : Nat} {a b : Iv} (h : a.Mg k) (g : b.Mg k) : (a.min b).Mg k := ⟨h.1.min g.1, h.2.min g.2⟩
theorem Iv.Mg.max {k : Nat} {a b : Iv} (h : a.Mg k) (g : b.Mg k) : (a.max b).Mg k := ⟨h.1.max g.1, h.2.max g.2⟩
def okI (s : Bool) (ws : List Nat) (d : Int) (s' : Bool) (ws' : List Nat) (d' : Int) (x y : Dy) : Prop := (validR s ws d = true ∧ validR s' ws' d' = true) ∧ x.v ≤ y.v
instance (s : Bool) (ws : List Nat) (d : Int) (s' : Bool) (ws' : List Nat) (d' : Int) (x y : Dy) : Decidable (okI s ws d s' ws' d' x y) := inferInstanceAs (Decidable (_ ∧ _))
structure IArg (s : Bool) (ws : List Nat) (d : Int) (s' : Bool) (ws' : List Nat) (d' : Int) (x y : Dy) (a : Iv) : Prop where
  px : Arg s ws d x
  py : Arg s' ws' d' y
  is : (okI s ws d s' ws' d' x y ∧ a.lo = x ∧ a.hi = y) ∨ (¬ okI s ws d s' ws' d' x y ∧ a = Iv.zero)
theorem IArg.get {s : Bool} {ws : List Nat} {d : Int} {s' : Bool} {ws' : List Nat} {d' : Int} {x y : Dy} (h : Arg s ws d x) (g : Arg s' ws' d' y) : ∃ a, IArg s ws d s' ws' d' x y a := by
  by_cases ho : okI s ws d s' ws' d' x y
  · exact ⟨⟨x, y, ho.2⟩, h, g, .inl ⟨ho, rfl, rfl⟩⟩
  · exact ⟨Iv.zero, h, g, .inr ⟨ho, rfl⟩⟩
theorem IArg.of {a : Iv} {k : Nat} (h : a.Mg k) (hk : k ≤ 1099511627776 := by omega) : IArg (sg a.lo) (ms a.lo) (dn a.lo) (sg a.hi) (ms a.hi) (dn a.hi) a.lo a.hi a :=
  ⟨Arg.of h.1 hk, Arg.of h.2 hk, .inl ⟨⟨⟨valid_of _, valid_of _⟩, a.h⟩, rfl, rfl⟩⟩
section
variable {s : Bool} {ws : List Nat} {d : Int} {s' : Bool} {ws' : List Nat} {d' : Int} {x y : Dy} {a : Iv}
theorem IArg.lo (h : IArg s ws d s' ws' d' x y a) : Arg (sg a.lo) (ms a.lo) (dn a.lo) a.lo := by
  rcases h.is with ⟨_, h1, _⟩ | ⟨_, h1⟩
  · rw [h1]; exact ⟨ms_wd x, h.px.mlen, .inl ⟨valid_of x, rfl, rfl, rfl⟩⟩
  · rw [h1]; exact Arg.of (Ax.Mg.zero 1) (by omega)
theorem IArg.hi (h : IArg s ws d s' ws' d' x y a) : Arg (sg a.hi) (ms a.hi) (dn a.hi) a.hi := by
  rcases h.is with ⟨_, _, h1⟩ | ⟨_, h1⟩
  · rw [h1]; exact ⟨ms_wd y, h.py.mlen, .inl ⟨valid_of y, rfl, rfl, rfl⟩⟩
  · rw [h1]; exact Arg.of (Ax.Mg.zero 1) (by omega)
theorem IArg.mg {k : Nat} (h : IArg s ws d s' ws' d' x y a) (gx : Ax.Mg k x) (gy : Ax.Mg k y) : a.Mg k := by
  rcases h.is with ⟨_, h1, h2⟩ | ⟨_, h1⟩
  · unfold Iv.Mg; rw [h1, h2]; exact ⟨gx, gy⟩
  · rw [h1]; exact .zero k
theorem IArg.den {k : Nat} (h : IArg s ws d s' ws' d' x y a) (gx : x.d ≤ k) (gy : y.d ≤ k) : a.lo.d ≤ k ∧ a.hi.d ≤ k := by
  rcases h.is with ⟨_, h1, h2⟩ | ⟨_, h1⟩
  · rw [h1, h2]; exact ⟨gx, gy⟩
  · rw [h1]; exact ⟨Nat.zero_le _, Nat.zero_le _⟩
end
theorem ok_of (a : Iv) : okI (sg a.lo) (ms a.lo) (dn a.lo) (sg a.hi) (ms a.hi) (dn a.hi) a.lo a.hi := ⟨⟨valid_of _, valid_of _⟩, a.h⟩
abbrev ilit : AV := .agg [.v (.bool false), .v (.slice none 0 0), .v (.int .i64 0), .v (.bool false), .v (.slice none 0 0), .v (.int .i64 0)]
theorem Cl.ilit : Cl ilit := Cl.agg (fun a ha => by
  simp only [List.mem_cons, List.not_mem_nil, or_false] at ha
  rcases ha with rfl | rfl | rfl | rfl | rfl | rfl <;> exact Cl.v _)
theorem Arg.can {s : Bool} {ws : List Nat} {d : Int} {x : Dy} (h : Arg s ws d x) : Arg (sg x) (ms x) (dn x) x := ⟨ms_wd x, h.mlen, .inl ⟨valid_of x, rfl, rfl, rfl⟩⟩
theorem IArg.mk' {a : Iv} (h : Arg (sg a.lo) (ms a.lo) (dn a.lo) a.lo) (g : Arg (sg a.hi) (ms a.hi) (dn a.hi) a.hi) : IArg (sg a.lo) (ms a.lo) (dn a.lo) (sg a.hi) (ms a.hi) (dn a.hi) a.lo a.hi a :=
  ⟨h, g, .inl ⟨ok_of a, rfl, rfl⟩⟩
section
variable {s : Bool} {ws : List Nat} {d : Int} {s' : Bool} {ws' : List Nat} {d' : Int} {x y : Dy} {a : Iv}
theorem IArg.can (h : IArg s ws d s' ws' d' x y a) : IArg (sg a.lo) (ms a.lo) (dn a.lo) (sg a.hi) (ms a.hi) (dn a.hi) a.lo a.hi a := .mk' h.lo h.hi
variable {s2 : Bool} {ws2 : List Nat} {d2 : Int} {s2' : Bool} {ws2' : List Nat} {d2' : Int} {x2 y2 : Dy} {b : Iv}
end
end Go.Ax

namespace Go.Ax
open Go Go.RowKit
section
variable {P : Program} {w : World}
theorem run_copy {t tx ty e : TypeId} {i : TypeInfo} (ht : P.underlying t = some (.slice e)) (hi : P.info? e = some i) (k sLen sCap : Nat) (x : Value) (n : Nat) (news : List Value) (hs : Src P i.size tx x n news w)
    (cur : Array Value) (et : TypeId) (hg : w.heap[k]? = some (.cells cur et (0, 0))) (hle : n ≤ sLen) (hfit : news.length ≤ cur.size) :
    (Builtin.copy_ #[t, tx] ty #[.slice (some ⟨k, 0, none⟩) sLen sCap, x]).run P w = .ok (goInt n) (w.setRow k (news ++ cur.toList.drop news.length).toArray) := by
  have hst := run_storeCells_at P k 0 et news 0 cur w hg (by simpa using hfit) hs.one
  simp only [Nat.add_zero, Nat.zero_add, List.take_zero, List.nil_append] at hst
  have hmin : Nat.min n sLen = n := Nat.min_eq_left hle
  simp [Builtin.copy_, run_underlying ht, sizeOf, typeInfo, hi, hs.len, hs.cells, hst, hmin]
end
section
variable {C : Cx} {s : AS} {o : Oper}
theorem exec_copy {x y : Operand} {t tx : TypeId} (ho : o.op = .call ⟨.builtin .copy, #[x, y], #[t, tx]⟩) {P : Program} {w w' : World} {a : Act} {v : Value} (h : (Builtin.copy_ #[t, tx] o.type #[a.eval x, a.eval y]).run P w = .ok v w') :
    (execOp a.eval o).run P w = .ok (.value v) w' := by
  have e : (execOp a.eval o).run P w = (builtin .copy #[t, tx] o.type (#[x, y].map fun | .const _ => true | _ => false) (#[x, y].map a.eval)).run P w := by
    simp [execOp, ho, resolve, invoke]; rfl
  rw [e]
  simp [builtin, h]
theorem big_copy (hT : TypesOK C.P C.ti) {x y : Operand} {t tx e : TypeId} {q1 q2 : Nat} {q3 : List Z} {z : TyI} (ho : o.op = .call ⟨.builtin .copy, #[x, y], #[t, tx]⟩) (ht : C.ti t = some ⟨q1, q2, q3, .slc e⟩) (hz : C.ti e = some z) (htx : isSlcT (C.ti tx) = true)
    {b sz k : Nat} {m : MB} {rows : List (List AV)} (hx : ev s x = some (.ps b sz 0 k)) (hm : look s.mem b = some m) (hy : srcA s.mem sz (ev s y) = some (True, rows))
    (hc : z.size = sz ∧ m.sz = sz ∧ 0 < sz) (hk : 0 < k ∧ rows.length ≤ k ∧ k ≤ m.rows.length) (hrows : RowsOK b sz rows) :
    OpG C s o ⟨s.env, (b, ⟨sz, rows ++ m.rows.drop rows.length⟩) :: s.mem, s.next⟩ (.v (.int .i64 rows.length)) := by
  intro D S0 w0 σ S a w K Q hG hF hE hK
  obtain ⟨c1, c2, c3⟩ := hc
  obtain ⟨p1, p2, p3⟩ := hk
  obtain ⟨i, d, h1, h2, h3, h4, h5, h6⟩ := underlying_of hT ht
  have hd := slc_desc h5
  subst hd
  obtain ⟨i', d', g1, g2, g3, g4, g5, ⟨zv, hz1, hz2, hz3⟩, g7⟩ := underlying_of hT hz
  cases hyv : ev s y with
  | none => rw [hyv] at hy; simp [srcA] at hy
  | some av =>
  rw [hyv] at hy
  have hyr := ev_rel hE hyv
  obtain ⟨news, hs, hn⟩ := src_spec (P := C.P) hT hF htx (size := sz) (b := b) c3 hyr hy trivial hrows
  have hisz : i'.size = sz := by rw [g3, c1]
  have hnl : news.length = rows.length * sz := hs.newsLen
  have hxr := ev_rel hE hx
  rcases rel_ps hxr with ⟨hx1, h0⟩ | ⟨kk, off, cap, f1, f2, f3, f4, f5⟩
  · omega
  · obtain ⟨cc, ee, ff, f5, f6⟩ := f5
    obtain ⟨k0, c0, e0, u1, u2, u3, u4, u5, u6, u7⟩ := (hF.mem b m hm).named f1
    have : k0 = kk := Option.some.inj (u1.symm.trans f1)
    subst this
    have hoff : off = 0 := by
      rcases f4 with f4 | f4
      · simpa using f4
      · omega
    subst hoff
    have hle : rows.length * sz ≤ m.rows.length * sz := Nat.mul_le_mul_right _ (by omega)
    rw [c2] at u6
    have hrun := run_copy (P := C.P) (ty := o.type) h2 g1 k0 k cap (a.eval y) rows.length news (by rw [hisz]; exact hs) c0 e0 u4 p2 (by omega)
    unfold Oper.wp
    rw [exec_copy ho (by rw [f2]; exact hrun)]
    have key := hF.set (b := b) (m := m) (m' := ⟨sz, rows ++ m.rows.drop rows.length⟩) hm f1 (c' := (news ++ c0.toList.drop news.length).toArray) u4
      (by simp; omega)
      (fun r hr => by
        rcases List.mem_append.1 hr with hr | hr
        · exact (hrows r hr).1
        · rw [← c2]; exact u5 r (List.mem_of_mem_drop hr))
      (by
        simp only [List.length_append, List.length_drop, List.size_toArray, Array.length_toList]
        rw [show rows.length + (m.rows.length - rows.length) = m.rows.length by omega]
        omega)
      (fun i r j av hi hj => by
        simp only at hi
        simp only [List.getElem?_toArray]
        rw [List.getElem?_append] at hi
        split at hi
        · obtain ⟨v, hv, hvr⟩ := hn i r j av hi hj
          have hvlt := (List.getElem?_eq_some_iff.1 hv).1
          exact ⟨v, by rw [List.getElem?_append_left hvlt]; exact hv, hvr⟩
        · rename_i hge
          rw [List.getElem?_drop] at hi
          obtain ⟨v, hv, hvr⟩ := u7 _ r j av hi hj
          rw [c2] at hv
          have hge2 : rows.length * sz ≤ i * sz := Nat.mul_le_mul_right _ (by omega)
          refine ⟨v, ?_, hvr⟩
          rw [List.getElem?_append_right (by omega), List.getElem?_drop, ← hv, show rows.length + (i - rows.length) = i by omega, show news.length + (i * sz + j - news.length) = i * sz + j by omega]
          simp)
    obtain ⟨hF', hke⟩ := key
    exact hK σ S _ _ hF' (hE.mono (fun _ _ h => h) (fun _ h => h) hke) (.v _)
end
section
variable {C : Cx} {s : AS} {n : Nat} {r : List It} {Q : Lab → AS → Prop}
theorem after_copy {d : Option Tmp} {u : TypeId} {pos : String} {af : Array Edge} {g : Option (Nat × Bool)} (hT : TypesOK C.P C.ti) {x y : Operand} {t tx e : TypeId} {q1 q2 : Nat} {q3 : List Z} {z : TyI} (ht : C.ti t = some ⟨q1, q2, q3, .slc e⟩) (hz : C.ti e = some z) (htx : isSlcT (C.ti tx) = true)
    {b sz k : Nat} {m : MB} {rows : List (List AV)} (hx : ev s x = some (.ps b sz 0 k)) (hm : look s.mem b = some m) (hy : srcA s.mem sz (ev s y) = some (True, rows))
    (hc : z.size = sz ∧ m.sz = sz ∧ 0 < sz) (hk : 0 < k ∧ rows.length ≤ k ∧ k ≤ m.rows.length) (hrows : RowsOK b sz rows)
    (kk : ex C n r ((⟨s.env, (b, ⟨sz, rows ++ m.rows.drop rows.length⟩) :: s.mem, s.next⟩ : AS).put d (.v (.int .i64 rows.length))) Q) : after C n r s Q ⟨d, .call ⟨.builtin .copy, #[x, y], #[t, tx]⟩, u, pos, af, g⟩ none :=
  after_big (big_copy hT rfl ht hz htx hx hm hy hc hk hrows) kk
end
end Go.Ax

namespace Go.Ax
open Go Go.RowKit
def Iv.On (a : Iv) (x : Dy) : Prop := a.lo.v ≤ x.v ∧ x.v ≤ a.hi.v
theorem Iv.On.has {a : Iv} {x : Dy} (h : a.On x) : a.has x = true := decide_eq_true h
end Go.Ax

namespace Go.Ax
open Go Go.RowKit
section
variable {C : Cx} {s : AS} {o : Oper}
end
section
variable {C : Cx} {s : AS} {n : Nat} {r : List It} {Q : Lab → AS → Prop}
def thawL : List Nat → AS → AS
  | [], s => s
  | b :: l, s => match look s.mem b with
    | some m => thawL l (thawS b m s)
    | none => s
attribute [go_sem] Ax.thawL
end
end Go.Ax

namespace Go.Ax
open Go Go.RowKit
section
variable {C : Cx} {n : Nat} {r : List It} {s s' : AS} {Q : Lab → AS → Prop}
end
end Go.Ax

namespace Go.Ax
open Go Go.RowKit
structure BS where
  ln : Int
  ld : Int
  hn : Int
  hd : Int
  hl : Bool
  hh : Bool
  no : Bool
def BS.zero : BS := ⟨0, 0, 0, 0, false, false, false⟩
def BS.add (b : BS) (k c : Int) : BS :=
  if k = 0 then ⟨b.ln, b.ld, b.hn, b.hd, b.hl, b.hh, b.no || decide (c < 0)⟩
  else if 0 < k then (if b.hh = false ∨ c * b.hd < b.hn * k then ⟨b.ln, b.ld, c, k, b.hl, true, b.no⟩ else b)
  else (if b.hl = false ∨ b.ln * -k < -c * b.ld then ⟨-c, -k, b.hn, b.hd, true, b.hh, b.no⟩ else b)
def BS.of (C : List (Int × Int)) : BS := C.foldl (fun b p => b.add p.1 p.2) BS.zero
def BS.Sm (m : Nat) (b : BS) : Prop := b.ln.natAbs < 2 ^ m ∧ b.ld.natAbs < 2 ^ m ∧ b.hn.natAbs < 2 ^ m ∧ b.hd.natAbs < 2 ^ m
theorem BS.Sm.add {m : Nat} {b : BS} {k c : Int} (h : b.Sm m) (hk : k.natAbs < 2 ^ m) (hc : c.natAbs < 2 ^ m) : (b.add k c).Sm m := by
  obtain ⟨h1, h2, h3, h4⟩ := h
  unfold BS.add
  split
  · exact ⟨h1, h2, h3, h4⟩
  · split
    · split
      · exact ⟨h1, h2, hc, hk⟩
      · exact ⟨h1, h2, h3, h4⟩
    · split
      · exact ⟨by show (-c).natAbs < _; rw [Int.natAbs_neg]; exact hc, by show (-k).natAbs < _; rw [Int.natAbs_neg]; exact hk, h3, h4⟩
      · exact ⟨h1, h2, h3, h4⟩
theorem BS.Sm.zero (m : Nat) : BS.zero.Sm m := by have : 0 < 2 ^ m := Nat.pow_pos (by omega); exact ⟨this, this, this, this⟩
theorem BS.Sm.of {m : Nat} {C : List (Int × Int)} (h : ∀ p ∈ C, p.1.natAbs < 2 ^ m ∧ p.2.natAbs < 2 ^ m) : (BS.of C).Sm m := by
  have : ∀ (C : List (Int × Int)) (b : BS), b.Sm m → (∀ p ∈ C, p.1.natAbs < 2 ^ m ∧ p.2.natAbs < 2 ^ m) → (C.foldl (fun b p => b.add p.1 p.2) b).Sm m := by
    intro C
    induction C with
    | nil => intro b hb _; exact hb
    | cons p C ih => intro b hb hC; exact ih _ (hb.add (hC p (List.mem_cons_self ..)).1 (hC p (List.mem_cons_self ..)).2) (fun q hq => hC q (List.mem_cons_of_mem _ hq))
  exact this C _ (.zero m) h
structure BInv (C : List (Int × Int)) (b : BS) : Prop where
  no : b.no = true ↔ ∃ c, (0, c) ∈ C ∧ c < 0
  hh : b.hh = true ↔ ∃ k c, (k, c) ∈ C ∧ 0 < k
  hl : b.hl = true ↔ ∃ k c, (k, c) ∈ C ∧ k < 0
  hi : b.hh = true → 0 < b.hd ∧ (b.hd, b.hn) ∈ C ∧ ∀ k c, (k, c) ∈ C → 0 < k → b.hn * k ≤ c * b.hd
  lo : b.hl = true → 0 < b.ld ∧ (-b.ld, -b.ln) ∈ C ∧ ∀ k c, (k, c) ∈ C → k < 0 → -c * b.ld ≤ b.ln * -k
theorem BInv.zero : BInv [] BS.zero := ⟨by simp [BS.zero], by simp [BS.zero], by simp [BS.zero], by simp [BS.zero], by simp [BS.zero]⟩
theorem cross_trans {a b c d e f : Int} (hb : 0 < b) (hd : 0 < d) (hf : 0 < f) (h1 : a * d ≤ c * b) (h2 : c * f ≤ e * d) : a * f ≤ e * b := by
  have q1 : a * d * f ≤ c * b * f := Int.mul_le_mul_of_nonneg_right h1 (by omega)
  have q2 : c * f * b ≤ e * d * b := Int.mul_le_mul_of_nonneg_right h2 (by omega)
  have e1 : a * d * f = a * f * d := by rw [Int.mul_right_comm]
  have e2 : c * b * f = c * f * b := by rw [Int.mul_right_comm]
  have e3 : e * d * b = e * b * d := by rw [Int.mul_right_comm]
  rw [e1, e2] at q1
  rw [e3] at q2
  exact Int.le_of_mul_le_mul_right (Int.le_trans q1 q2) hd
theorem BInv.add {C : List (Int × Int)} {b : BS} (h : BInv C b) (k c : Int) : BInv (C ++ [(k, c)]) (b.add k c) := by
  obtain ⟨i1, i2, i3, i4, i5⟩ := h
  have mem : ∀ p, p ∈ C ++ [(k, c)] ↔ p ∈ C ∨ p = (k, c) := fun p => by simp
  unfold BS.add
  rcases Int.lt_trichotomy k 0 with hk | hk | hk
  · rw [if_neg (by omega), if_neg (by omega)]
    have j1 : (∃ c', (0, c') ∈ C ++ [(k, c)] ∧ c' < 0) ↔ ∃ c', (0, c') ∈ C ∧ c' < 0 := by
      constructor
      · rintro ⟨c', h1, h2⟩
        rcases (mem _).1 h1 with h1 | h1
        · exact ⟨c', h1, h2⟩
        · injection h1 with h1; omega
      · rintro ⟨c', h1, h2⟩; exact ⟨c', (mem _).2 (.inl h1), h2⟩
    have j2 : (∃ k' c', (k', c') ∈ C ++ [(k, c)] ∧ 0 < k') ↔ ∃ k' c', (k', c') ∈ C ∧ 0 < k' := by
      constructor
      · rintro ⟨k', c', h1, h2⟩
        rcases (mem _).1 h1 with h1 | h1
        · exact ⟨k', c', h1, h2⟩
        · injection h1 with h1; omega
      · rintro ⟨k', c', h1, h2⟩; exact ⟨k', c', (mem _).2 (.inl h1), h2⟩
    have j3 : ∃ k' c', (k', c') ∈ C ++ [(k, c)] ∧ k' < 0 := ⟨k, c, (mem _).2 (.inr rfl), hk⟩
    have j4 : b.hh = true → 0 < b.hd ∧ (b.hd, b.hn) ∈ C ++ [(k, c)] ∧ ∀ k' c', (k', c') ∈ C ++ [(k, c)] → 0 < k' → b.hn * k' ≤ c' * b.hd := fun h => by
      obtain ⟨q1, q2, q3⟩ := i4 h
      refine ⟨q1, (mem _).2 (.inl q2), fun k' c' h1 h2 => ?_⟩
      rcases (mem _).1 h1 with h1 | h1
      · exact q3 k' c' h1 h2
      · injection h1 with h1; omega
    split
    · rename_i hc
      refine ⟨i1.trans j1.symm, i2.trans j2.symm, ⟨fun _ => j3, fun _ => rfl⟩, j4, fun _ => ⟨by show 0 < -k; omega, ?_, fun k' c' h1 h2 => ?_⟩⟩
      · show (- -k, - -c) ∈ _
        rw [Int.neg_neg, Int.neg_neg]; exact (mem _).2 (.inr rfl)
      · show -c' * -k ≤ -c * -k'
        rcases (mem _).1 h1 with h1 | h1
        · have hb : b.hl = true := i3.2 ⟨k', c', h1, h2⟩
          obtain ⟨q1, q2, q3⟩ := i5 hb
          have q4 := q3 k' c' h1 h2
          rcases hc with hc | hc
          · rw [hb] at hc; cases hc
          · exact cross_trans (b := -k') (d := b.ld) (f := -k) (c := b.ln) (e := -c) (by omega) q1 (by omega) q4 (by omega)
        · injection h1 with h1 h3; subst h1 h3; exact Int.le_refl _
    · rename_i hc
      have hb : b.hl = true := by
        cases hb : b.hl
        · exact absurd (.inl hb) hc
        · rfl
      have hc2 : ¬ b.ln * -k < -c * b.ld := fun h => hc (.inr h)
      refine ⟨i1.trans j1.symm, i2.trans j2.symm, ⟨fun _ => j3, fun _ => hb⟩, j4, fun _ => ?_⟩
      obtain ⟨q1, q2, q3⟩ := i5 hb
      refine ⟨q1, (mem _).2 (.inl q2), fun k' c' h1 h2 => ?_⟩
      rcases (mem _).1 h1 with h1 | h1
      · exact q3 k' c' h1 h2
      · injection h1 with h1 h3; subst h1 h3; omega
  · subst hk
    rw [if_pos rfl]
    have j1 : (∃ c', (0, c') ∈ C ++ [(0, c)] ∧ c' < 0) ↔ (∃ c', (0, c') ∈ C ∧ c' < 0) ∨ c < 0 := by
      constructor
      · rintro ⟨c', h1, h2⟩
        rcases (mem _).1 h1 with h1 | h1
        · exact .inl ⟨c', h1, h2⟩
        · injection h1 with h1 h3; subst h3; exact .inr h2
      · rintro (⟨c', h1, h2⟩ | h)
        · exact ⟨c', (mem _).2 (.inl h1), h2⟩
        · exact ⟨c, (mem _).2 (.inr rfl), h⟩
    have j2 : (∃ k' c', (k', c') ∈ C ++ [(0, c)] ∧ 0 < k') ↔ ∃ k' c', (k', c') ∈ C ∧ 0 < k' := by
      constructor
      · rintro ⟨k', c', h1, h2⟩
        rcases (mem _).1 h1 with h1 | h1
        · exact ⟨k', c', h1, h2⟩
        · injection h1 with h1; omega
      · rintro ⟨k', c', h1, h2⟩; exact ⟨k', c', (mem _).2 (.inl h1), h2⟩
    have j3 : (∃ k' c', (k', c') ∈ C ++ [(0, c)] ∧ k' < 0) ↔ ∃ k' c', (k', c') ∈ C ∧ k' < 0 := by
      constructor
      · rintro ⟨k', c', h1, h2⟩
        rcases (mem _).1 h1 with h1 | h1
        · exact ⟨k', c', h1, h2⟩
        · injection h1 with h1; omega
      · rintro ⟨k', c', h1, h2⟩; exact ⟨k', c', (mem _).2 (.inl h1), h2⟩
    refine ⟨?_, i2.trans j2.symm, i3.trans j3.symm, fun h => ?_, fun h => ?_⟩
    · show (b.no || decide (c < 0)) = true ↔ _
      rw [Bool.or_eq_true, decide_eq_true_eq, j1, i1]
    · obtain ⟨q1, q2, q3⟩ := i4 h
      refine ⟨q1, (mem _).2 (.inl q2), fun k' c' h1 h2 => ?_⟩
      rcases (mem _).1 h1 with h1 | h1
      · exact q3 k' c' h1 h2
      · injection h1 with h1; omega
    · obtain ⟨q1, q2, q3⟩ := i5 h
      refine ⟨q1, (mem _).2 (.inl q2), fun k' c' h1 h2 => ?_⟩
      rcases (mem _).1 h1 with h1 | h1
      · exact q3 k' c' h1 h2
      · injection h1 with h1; omega
  · rw [if_neg (by omega), if_pos hk]
    have j1 : (∃ c', (0, c') ∈ C ++ [(k, c)] ∧ c' < 0) ↔ ∃ c', (0, c') ∈ C ∧ c' < 0 := by
      constructor
      · rintro ⟨c', h1, h2⟩
        rcases (mem _).1 h1 with h1 | h1
        · exact ⟨c', h1, h2⟩
        · injection h1 with h1; omega
      · rintro ⟨c', h1, h2⟩; exact ⟨c', (mem _).2 (.inl h1), h2⟩
    have j2 : ∃ k' c', (k', c') ∈ C ++ [(k, c)] ∧ 0 < k' := ⟨k, c, (mem _).2 (.inr rfl), hk⟩
    have j3 : (∃ k' c', (k', c') ∈ C ++ [(k, c)] ∧ k' < 0) ↔ ∃ k' c', (k', c') ∈ C ∧ k' < 0 := by
      constructor
      · rintro ⟨k', c', h1, h2⟩
        rcases (mem _).1 h1 with h1 | h1
        · exact ⟨k', c', h1, h2⟩
        · injection h1 with h1; omega
      · rintro ⟨k', c', h1, h2⟩; exact ⟨k', c', (mem _).2 (.inl h1), h2⟩
    have j5 : b.hl = true → 0 < b.ld ∧ (-b.ld, -b.ln) ∈ C ++ [(k, c)] ∧ ∀ k' c', (k', c') ∈ C ++ [(k, c)] → k' < 0 → -c' * b.ld ≤ b.ln * -k' := fun h => by
      obtain ⟨q1, q2, q3⟩ := i5 h
      refine ⟨q1, (mem _).2 (.inl q2), fun k' c' h1 h2 => ?_⟩
      rcases (mem _).1 h1 with h1 | h1
      · exact q3 k' c' h1 h2
      · injection h1 with h1; omega
    split
    · rename_i hc
      refine ⟨i1.trans j1.symm, ⟨fun _ => j2, fun _ => rfl⟩, i3.trans j3.symm, fun _ => ⟨hk, (mem _).2 (.inr rfl), fun k' c' h1 h2 => ?_⟩, j5⟩
      show c * k' ≤ c' * k
      rcases (mem _).1 h1 with h1 | h1
      · have hb : b.hh = true := i2.2 ⟨k', c', h1, h2⟩
        obtain ⟨q1, q2, q3⟩ := i4 hb
        have q4 := q3 k' c' h1 h2
        rcases hc with hc | hc
        · rw [hb] at hc; cases hc
        · exact cross_trans (b := k) (d := b.hd) (f := k') (c := b.hn) (e := c') hk q1 h2 (by omega) q4
      · injection h1 with h1 h3; subst h1 h3; exact Int.le_refl _
    · rename_i hc
      have hb : b.hh = true := by
        cases hb : b.hh
        · exact absurd (.inl hb) hc
        · rfl
      have hc2 : ¬ c * b.hd < b.hn * k := fun h => hc (.inr h)
      refine ⟨i1.trans j1.symm, ⟨fun _ => j2, fun _ => hb⟩, i3.trans j3.symm, fun _ => ?_, j5⟩
      obtain ⟨q1, q2, q3⟩ := i4 hb
      refine ⟨q1, (mem _).2 (.inl q2), fun k' c' h1 h2 => ?_⟩
      rcases (mem _).1 h1 with h1 | h1
      · exact q3 k' c' h1 h2
      · injection h1 with h1 h3; subst h1 h3; omega
theorem BInv.of (C : List (Int × Int)) : BInv C (BS.of C) := by
  have : ∀ (l C0 : List (Int × Int)) (b : BS), BInv C0 b → BInv (C0 ++ l) (l.foldl (fun b p => b.add p.1 p.2) b) := by
    intro l
    induction l with
    | nil => intro C0 b h; simpa using h
    | cons p l ih =>
      intro C0 b h
      have := ih (C0 ++ [p]) _ (h.add p.1 p.2)
      rwa [List.append_assoc] at this
  have h := this C [] _ .zero
  rwa [List.nil_append] at h
inductive Out where
  | bad
  | wide
  | iv (ln ld hn hd : Int)
inductive OutOK (F : Rat → Prop) : Out → Prop
  | bad (h : ∀ u, ¬ F u) : OutOK F .bad
  | wide (h : ∃ u, F u) (g : ∀ lo hi : Rat, ∃ u, F u ∧ (u < lo ∨ hi < u)) : OutOK F .wide
  | iv {ln ld hn hd : Int} (h1 : 0 < ld) (h2 : 0 < hd) (h3 : ln * hd ≤ hn * ld) (h : ∀ u, F u ↔ (ln : Rat) ≤ u * ld ∧ u * hd ≤ (hn : Rat)) : OutOK F (.iv ln ld hn hd)
def BS.out (b : BS) : Out := if b.no = true ∨ (b.hl = true ∧ b.hh = true ∧ b.hn * b.ld < b.ln * b.hd) then .bad else if b.hl = true ∧ b.hh = true then .iv b.ln b.ld b.hn b.hd else .wide
def qd (n d : Int) : Dy := (Dy.int n).quo (Dy.int d) 16
def Out.lo : Out → Dy
  | .iv ln ld _ _ => qd ln ld
  | _ => Dy.zero
def Out.hi : Out → Dy
  | .iv _ _ hn hd => (qd (-hn) hd).neg
  | _ => Dy.zero
theorem OutOK.congr {F G : Rat → Prop} {o : Out} (h : OutOK F o) (hfg : ∀ u, F u ↔ G u) : OutOK G o := by
  have : F = G := funext fun u => propext (hfg u)
  rw [← this]; exact h
end Go.Ax

namespace Go.Ax
open Go Go.RowKit
end Go.Ax

namespace Go.Ax
open Go Go.RowKit
theorem MLe.one {sz : Nat} {l l' : List AV} (h : LeL l l') : MLe ⟨sz, [l]⟩ ⟨sz, [l']⟩ := ⟨rfl, rfl, fun i r' hi => by
  cases i with
  | zero =>
    simp at hi; subst hi
    refine ⟨l, rfl, h.length.symm, fun j a' hj => h.get j a' hj⟩
  | succ i => simp at hi⟩
end Go.Ax
namespace Go.Ax
open Go Go.RowKit
theorem byRenL {b : Nat} {l l' : List AV} (h : RenL b l l' := by (repeat' (first | exact RenL.nil | refine RenL.cons ?_ ?_ | exact Ren.p _ _ _ _ | exact Ren.ps _ _ _ _ | exact Ren.cl byCl))) : RenL b l l' := h
abbrev Hf := Int × Int × Int
end Go.Ax
namespace Go.Ax
open Go Go.RowKit
def hv2 (f g : Int × Int → Int) (n : Int) (s : Int × Int) : List Hf := [(f s, g s, s.2 + n), (0 - f s, 0 - g s, n - s.2)]
def hv (f g : Int × Int → Int) (n : Int) (l : List (Int × Int)) : List Hf := l.flatMap (hv2 f g n)
end Go.Ax
namespace Go.Ax
open Go Go.RowKit
end Go.Ax
namespace Go.Ax
open Go Go.RowKit
end Go.Ax

namespace Go.Ax
open Go Go.RowKit
end Go.Ax

namespace Go.Ax
open Go Go.RowKit
def fitD (p q : Dy) (n : Int) (s : Int × Int) : Prop := (((Dy.int s.2).sub (p.mul (Dy.int s.1))).sub q).abs.cmp (Dy.int n) ≤ 0
instance (p q : Dy) (n : Int) (s : Int × Int) : Decidable (fitD p q n s) := inferInstanceAs (Decidable (_ ≤ _))
def fitAll (p q : Dy) (n : Int) (l : List (Int × Int)) : Prop := ∀ i, i < l.length → fitD p q n (l.getD i (0, 0))
instance (p q : Dy) (n : Int) (l : List (Int × Int)) : Decidable (fitAll p q n l) := inferInstanceAs (Decidable (∀ i, i < l.length → fitD p q n (l.getD i (0, 0))))
end Go.Ax

namespace Go.Ax
open Go Go.RowKit
theorem bit_step (a i : Nat) : a / 2 ^ i = 2 * (a / 2 ^ (i + 1)) + a / 2 ^ i % 2 := by
  rw [Nat.pow_succ, ← Nat.div_div_eq_div_mul]; omega
theorem div_bit {A b r t : Nat} (hb : 0 < b) (hr : r = A % b) : (2 * A + t) % b = (2 * r + t) % b ∧ (2 * A + t) / b = 2 * (A / b) + (2 * r + t) / b := by
  have h := Nat.div_add_mod A b
  rw [← hr] at h
  have e : 2 * A + t = (2 * r + t) + b * (2 * (A / b)) := by
    rw [← h]
    have : b * (A / b) = b * (A / b) := rfl
    have h2 : (b * (A / b) + r) / b = A / b := by rw [h]
    rw [h2, Nat.mul_add, show b * (2 * (A / b)) = 2 * (b * (A / b)) by ac_rfl]; omega
  constructor
  · rw [e, Nat.add_mul_mod_self_left]
  · rw [e, Nat.add_mul_div_left _ _ hb]; omega
theorem small_mod {b v : Nat} (h1 : b ≤ v) (h2 : v < 2 * b) : v % b = v - b ∧ v / b = 1 := by
  have : v = (v - b) + b * 1 := by omega
  constructor
  · rw [this, Nat.add_mul_mod_self_left, Nat.mod_eq_of_lt (by omega)]; omega
  · rw [this, Nat.add_mul_div_left _ _ (by omega), Nat.div_eq_of_lt (by omega)]
theorem tp32 : (4294967296 : Nat) = 2 ^ 32 := by decide
theorem val_put : ∀ {ws : List Nat} {k : Nat} {x y : Nat}, k < ws.length → ws.getD k 0 = x → val (ws.set k (x + y)) = val ws + y * 4294967296 ^ k
  | [], k, x, y, h, _ => by simp at h
  | w :: ws, 0, x, y, _, hx => by
    have : w = x := by simpa [List.getD] using hx
    subst this
    simp [val]; omega
  | w :: ws, k + 1, x, y, h, hx => by
    have ih := val_put (ws := ws) (k := k) (x := x) (y := y) (by simpa using h) (by simpa [List.getD] using hx)
    show w + 4294967296 * val (ws.set k (x + y)) = w + 4294967296 * val ws + y * 4294967296 ^ (k + 1)
    rw [ih, Nat.mul_add, Nat.pow_succ, show 4294967296 * (y * 4294967296 ^ k) = y * (4294967296 ^ k * 4294967296) by ac_rfl]
    omega
end Go.Ax
namespace Go.Ax
open Go Go.RowKit
theorem or_even {x c : Nat} (hx : x < 4294967296) (hc : c ≤ 1) : bOr .u32 ((2 * x % 4294967296 : Nat) : Int) (c : Int) = ((2 * x % 4294967296 + c : Nat) : Int) := by
  rw [or32 (Nat.mod_lt _ (by omega)) (by omega)]
  congr 1
  have e : 2 * x % 4294967296 = 2 ^ 1 * (x % 2147483648) := by omega
  rw [e]
  exact or_add (k := 1) (by omega)
theorem or_put {w t : Nat} (hw : w < 4294967296) (ht : t < 32) (h : w % 2 ^ (t + 1) = 0) : bOr .u32 (w : Int) ((2 ^ t : Nat) : Int) = ((w + 2 ^ t : Nat) : Int) ∧ w + 2 ^ t < 4294967296 := by
  have hp : 2 ^ t < 2 ^ (t + 1) := by rw [Nat.pow_succ]; have := Nat.pow_pos (n := t) (show 0 < 2 by omega); omega
  have h32 : 2 ^ (t + 1) ≤ 4294967296 := by rw [tp32]; exact Nat.pow_le_pow_right (by omega) (by omega)
  have e : w = 2 ^ (t + 1) * (w / 2 ^ (t + 1)) := by have := Nat.div_add_mod w (2 ^ (t + 1)); omega
  constructor
  · rw [or32 hw (by omega)]
    congr 1
    rw [e]
    exact or_add (k := t + 1) hp
  · obtain ⟨m, hm⟩ : ∃ m, 4294967296 = 2 ^ (t + 1) * m := ⟨2 ^ (32 - (t + 1)), by rw [← Nat.pow_add, Nat.add_sub_cancel' (by omega)]⟩
    have h1 : w / 2 ^ (t + 1) < m := by
      refine Nat.lt_of_mul_lt_mul_left (a := 2 ^ (t + 1)) ?_
      rw [← e, ← hm]; exact hw
    have h2 : 2 ^ (t + 1) * (w / 2 ^ (t + 1) + 1) ≤ 2 ^ (t + 1) * m := Nat.mul_le_mul_left _ h1
    rw [Nat.mul_add, ← e, ← hm] at h2
    omega
theorem word_zeros {ws : List Nat} (h : Wd ws) {i : Nat} (hz : val ws % 2 ^ (i + 1) = 0) : ws.getD (i / 32) 0 % 2 ^ (i % 32 + 1) = 0 := by
  rw [getD_val h]
  have hk : i % 32 < 32 := Nat.mod_lt _ (by omega)
  have e1 : (4294967296 : Nat) = 2 ^ (i % 32 + 1) * 2 ^ (31 - i % 32) := by rw [← Nat.pow_add, show i % 32 + 1 + (31 - i % 32) = 32 by omega]
  obtain ⟨q, hq⟩ := Nat.dvd_of_mod_eq_zero hz
  have e2 : 2 ^ (i + 1) = 4294967296 ^ (i / 32) * 2 ^ (i % 32 + 1) := by
    rw [tp32, ← Nat.pow_mul, ← Nat.pow_add]; congr 1; omega
  rw [hq, e2, Nat.mul_assoc, Nat.mul_div_cancel_left _ (Nat.pow_pos (by omega)), e1, Nat.mod_mul_right_mod, Nat.mul_mod_right]
theorem pow_split (i : Nat) : 2 ^ (i % 32) * 4294967296 ^ (i / 32) = 2 ^ i := by
  rw [tp32, ← Nat.pow_mul, ← Nat.pow_add]; congr 1; omega
end Go.Ax

