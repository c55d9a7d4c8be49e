/- The abstract executor and plain facts, part 4 (of several texts, laid together). -/
import Derived.Test.YtfmgfjmfogmeeaaGreatDoorU1
import Derived.Test.YtfmgfjmfogmeeaaGreatDoorU2
import Derived.Test.YtfmgfjmfogmeeaaGreatDoorU3
import Derived.Laws.BytesArg
import Derived.Lib.IndexLaws
import Derived.Lib.IndexMore
import Derived.Lib.AtoiTie
import Derived.Lib.AtoiAllCases
import Derived.Lib.SlTrimSet
import Derived.Lib.Strings
import Derived.HandedShaped
set_option linter.unusedSimpArgs false
set_option linter.unusedVariables false
set_option linter.deprecated false
namespace Go.Ax
open Go Go.RowKit
def nbOf (m1' : Option MB) : Nat := match m1' with
  | none => 1
  | some _ => 2
theorem nbOf_pos (m1' : Option MB) : 0 < nbOf m1' := by cases m1' <;> simp [nbOf]
structure CallV (P : Program) (G : GL) (f : FuncId) (args : List AV) (m0 m1 : MB) (res : AV) (m0' : MB) (m1' : Option MB) : Prop where
  enters : Enters P f
  nor : NB (nbOf m1') res
  nom0 : ∀ r ∈ m0'.rows, ∀ a ∈ r, NB (nbOf m1') a
  nom1 : ∀ m, m1' = some m → ∀ r ∈ m.rows, ∀ a ∈ r, NB (nbOf m1') a
  runs : ∀ (S : Nat → Prop) (w : World) (vs : Array Value) (k0 : Nat) (σ : Sig), σ 0 = some k0 → (∀ b k, σ b = some k → b < 2 ∧ k < w.heap.size) → (∀ k, σ 1 = some k → k ≠ k0) → (∀ k, S k → k < w.heap.size) → GS G S w → vs.size = args.length →
    MemAt σ S (fun _ => True) w 0 m0 → MemOK σ S (fun _ => True) w 1 m1 → (∀ k, σ 1 = some k → ¬ S k) → (∀ (i : Nat) (x : Value) (av : AV), vs[i]? = some x → args[i]? = some av → Rel σ S w x av) →
    Calls P f vs w fun e w' => Bel ⟨fun k => k = k0 ∨ σ 1 = some k, G, some k0⟩ w w' ∧ ∃ x σ' S', e = .returned x ∧ σ' 0 = some k0 ∧ (∀ b k, σ' b = some k → b < nbOf m1' ∧ k < w'.heap.size) ∧
      (∀ k, σ' 1 = some k → k ≠ k0 ∧ (σ 1 = some k ∨ w.heap.size ≤ k)) ∧ (∀ k, S k → S' k) ∧ (∀ k, S' k → k < w'.heap.size ∧ (S k ∨ w.heap.size ≤ k ∨ σ 1 = some k)) ∧ Rel σ' S' w' x res ∧ MemAt σ' S' (fun _ => True) w' 0 m0' ∧
      ∀ m, m1' = some m → MemOK σ' S' (fun _ => True) w' 1 m
def drop2 (mem : List (Nat × MB)) : List (Nat × MB) := dropM 1 (dropM 0 mem)
def FinV (mem : List (Nat × MB)) (r : Option (Prop × List AV)) (res : AV) (m1' : Option MB) : Prop := ∃ p l b, r = some (p, l) ∧ p ∧ Pub (if m1' = none then dropM 0 mem else drop2 mem) (one l) b ∧ Le b res
def EndsV (ti : Types) (rs : List ResultVar) (res : AV) (m0' : MB) (m1' : Option MB) (l : Lab) (s : AS) : Prop :=
  (l = .normal ∨ l = .ret) ∧ FinV s.mem (resL ti s rs) res m1' ∧ (∃ m, look s.mem 0 = some m ∧ MLe m m0') ∧ ∀ m, m1' = some m → ∃ q, look s.mem 1 = some q ∧ MLe q m
def entryV (args : List AV) (m0 m1 : MB) : AS := ⟨entryEnv 0 args, [(0, m0), (1, m1)], 2⟩
theorem MLe.memOK {σ : Sig} {S F : Nat → Prop} {w : World} {b : Nat} {m m' : MB} (h : MemOK σ S F w b m) (hle : MLe m m') : MemOK σ S F w b m' := by
  obtain ⟨z1, z2, z3⟩ := hle
  rcases h with ⟨h1, h2⟩ | ⟨k, c, e, g1, g2, g3, g4, g5, g6, g7⟩
  · exact .inl ⟨List.length_eq_zero_iff.1 (by rw [z2, h1]; rfl), h2⟩
  · refine .inr ⟨k, c, e, g1, g2, g3, g4, fun r' hr' => ?_, by rw [z1, z2]; exact g6, fun i r' j a' hi hj => ?_⟩
    · obtain ⟨i, hi⟩ := List.getElem?_of_mem hr'
      obtain ⟨r, q1, q2, _⟩ := z3 i r' hi
      rw [q2, z1]; exact g5 r (List.mem_of_getElem? q1)
    · obtain ⟨r, q1, q2, q3⟩ := z3 i r' hi
      obtain ⟨a0, q4, q5⟩ := q3 j a' hj
      obtain ⟨x, hx, hxr⟩ := g7 i r j a0 q1 q4
      exact ⟨x, by rw [z1]; exact hx, q5 _ _ _ _ hxr⟩
theorem MemOK.more {σ : Sig} {S S' F F' : Nat → Prop} {w : World} {b : Nat} {m : MB} (h : MemOK σ S F w b m) (hS : ∀ k, S k → S' k) (hn : ∀ k, σ b = some k → ¬ S' k) (hF : ∀ k, F k → F' k) : MemOK σ S' F' w b m := by
  rcases h with h | ⟨k, c, e, g1, g2, g3, g4, g5, g6, g7⟩
  · exact .inl h
  · refine .inr ⟨k, c, e, g1, hF _ g2, hn k g1, g4, g5, g6, fun i r j av hi hj => ?_⟩
    obtain ⟨x, hx, hr⟩ := g7 i r j av hi hj
    exact ⟨x, hx, hr.mono (fun _ _ h => h) hS keeps_refl⟩
theorem call_v {C : Cx} (hT : TypesOK C.P C.ti) (hmx : C.P.follows .mixedOrders = true) (han : C.an = true) {f : FuncId} {fn : Func} {c : Code} {args : List AV} {res : AV} {m0 m1 m0' : MB} {m1' : Option MB} (n : Nat) (hent : Enters C.P f) (hf : C.P.funcs[f]? = some fn) (hb : fn.body = some c) (hnt : fn.ntmps = C.nt) (hargs : args.length ≤ C.nt)
    (hres : NB (nbOf m1') res) (hcm0 : ∀ r ∈ m0'.rows, ∀ a ∈ r, NB (nbOf m1') a) (hcm1 : ∀ m, m1' = some m → ∀ r ∈ m.rows, ∀ a ∈ r, NB (nbOf m1') a) (h : ex C n [.code c] (entryV args m0 m1) (EndsV C.ti fn.results.toList res m0' m1')) : CallV C.P C.G f args m0 m1 res m0' m1' := by
  refine ⟨hent, hres, hcm0, hcm1, fun S w vs k' σ hσ0 hdom hne hS hgs hsz hm0 hm1 hn1 hr => ?_⟩
  have hk0 : k' < w.heap.size := (hdom 0 k' hσ0).2
  have hn0 : ¬ S k' := by
    obtain ⟨k, c0, e0, q1, _, q3, _⟩ := hm0
    have : k = k' := Option.some.inj (q1.symm.trans hσ0)
    subst this; exact q3
  refine calls_of_wp hf hb ?_
  have hlen : (vs ++ Array.replicate (fn.ntmps - vs.size) undef).size = C.nt := by simp [hnt, hsz]; omega
  let D : Base := ⟨fun k => k = k' ∨ σ 1 = some k, C.G, some k'⟩
  have hnd : ∀ k, D.d k → ¬ S k := fun k hk => by
    rcases hk with rfl | hk
    · exact hn0
    · exact hn1 k hk
  have hsim : Sim D S w C.nt (entryV args m0 m1) { tmps := vs ++ Array.replicate (fn.ntmps - vs.size) undef, defers := [] } w := by
    refine ⟨rfl, hlen, σ, S, ⟨Bel.refl (fun g l hg => ⟨fun he => hnd g he (hgs g l hg).1, (hgs g l hg).2⟩), hdom, (fun b b' k m m' _ _ h1 h2 => ?_), hS, (fun _ h => h), (fun _ h => .inl h), ⟨fun g l hg => (hgs g l hg).1, fun k hk => ?_⟩, (fun b m2 h => ?_)⟩, fun t av ht => ?_⟩
    · have e1 := (hdom b k h1).1
      have e2 := (hdom b' k h2).1
      match b, b', e1, e2, h1, h2 with
      | 0, 0, _, _, _, _ => rfl
      | 1, 1, _, _, _, _ => rfl
      | 0, 1, _, _, h1, h2 => exact absurd (Option.some.inj (h1.symm.trans hσ0)) (hne k h2)
      | 1, 0, _, _, h1, h2 => exact absurd (Option.some.inj (h2.symm.trans hσ0)) (hne k h1)
    · injection hk with hk; subst hk; exact hσ0
    · simp only [entryV, look] at h
      split at h
      · rename_i hb0; injection h with h; subst h hb0
        obtain ⟨k, c0, e0, q1, _, q3⟩ := hm0
        refine .inr ⟨k, c0, e0, q1, .inr (.inl (Option.some.inj (q1.symm.trans hσ0))), q3⟩
      · split at h
        · rename_i hb1; injection h with h; subst h hb1
          rcases hm1 with hm1 | ⟨k, c0, e0, q1, _, q3⟩
          · exact .inl hm1
          · exact .inr ⟨k, c0, e0, q1, .inr (.inr q1), q3⟩
        · cases h
    · obtain ⟨_, h2⟩ := look_entry args 0 t av ht
      simp only [Nat.sub_zero] at h2
      have hlt : t < vs.size := by rw [hsz]; exact (List.getElem?_eq_some_iff.1 h2).1
      exact ⟨vs[t], by simp [Array.getElem?_append, hlt], hr t _ av (by simp [hlt]) h2⟩
  let Post : Ending → World → Prop := fun e w' => Bel D w w' ∧ ∃ x σ' S', e = .returned x ∧ σ' 0 = some k' ∧ (∀ b k, σ' b = some k → b < nbOf m1' ∧ k < w'.heap.size) ∧
      (∀ k, σ' 1 = some k → k ≠ k' ∧ (σ 1 = some k ∨ w.heap.size ≤ k)) ∧ (∀ k, S k → S' k) ∧ (∀ k, S' k → k < w'.heap.size ∧ (S k ∨ w.heap.size ≤ k ∨ σ 1 = some k)) ∧ Rel σ' S' w' x res ∧ MemAt σ' S' (fun _ => True) w' 0 m0' ∧
      ∀ m, m1' = some m → MemOK σ' S' (fun _ => True) w' 1 m
  have fin : ∀ (e : Exit) (s : AS) (a : Act) (w' : World), (e = .normal ∨ e = .ret) → FinV s.mem (resL C.ti s fn.results.toList) res m1' → (∃ m, look s.mem 0 = some m ∧ MLe m m0') → (∀ m, m1' = some m → ∃ q, look s.mem 1 = some q ∧ MLe q m) → Sim D S w C.nt s a w' → bodyPost C.P fn Post e a w' := fun e s a w' he hq hq0 hq1 hs => ?_
  · have key := ex_sound (D := D) (S0 := S) (w0 := w) (R := bodyPost C.P fn Post) (M := fun _ _ _ => False) hT ⟨rfl, fun h => by rw [han] at h; cases h⟩ hmx n _ _ _ h _ _ hsim
      ⟨fun s a w q hs => fin _ s a w (.inl rfl) q.2.1 q.2.2.1 q.2.2.2 hs, fun s a w q hs => fin _ s a w (.inr rfl) q.2.1 q.2.2.1 q.2.2.2 hs, fun k s a w q hs => by rcases q.1 with q | q <;> cases q⟩
    simp only [Real] at key
    exact wp_mono key fun e a w' q => by cases e <;> exact q
  · obtain ⟨p, l, b, hr1, hp1, hpub, hle⟩ := hq
    obtain ⟨q0, hq0, hle0⟩ := hq0
    obtain ⟨hd, hn, σ', S', hF, hE⟩ := hs
    obtain ⟨v, hv1, hv2⟩ := results_run (P := C.P) hT hF hE hr1 hp1
    have hσ : σ' 0 = some k' := hF.glob.2 k' rfl
    let mem' : List (Nat × MB) := if m1' = none then dropM 0 s.mem else drop2 s.mem
    have hmem' : ∀ b m, look mem' b = some m → b ≠ 0 ∧ (m1' ≠ none → b ≠ 1) ∧ look s.mem b = some m := fun b m hm => by
      by_cases h1 : m1' = none
      · have hm : look (dropM 0 s.mem) b = some m := by simpa [mem', h1] using hm
        obtain ⟨g1, g2⟩ := look_dropM _ _ _ hm
        exact ⟨g1, fun h => absurd h1 h, g2⟩
      · have hm : look (drop2 s.mem) b = some m := by simpa [mem', h1] using hm
        obtain ⟨g1, g2⟩ := look_dropM _ _ _ hm
        obtain ⟨g3, g4⟩ := look_dropM _ _ _ g2
        exact ⟨g3, fun _ => g1, g4⟩
    have hsub : Fit D S w σ' S' mem' (fun b => b < s.next) w' := hF.sub fun b m h => (hmem' b m h).2.2
    have hpub : Pub mem' (one l) b := hpub
    have m0OK := (hF.mem 0 q0 hq0)
    have own0 : ∀ b m k, look s.mem b = some m → σ' b = some k → w.heap.size ≤ k ∨ k = k' ∨ σ 1 = some k := fun b m k hm hs => by
      obtain ⟨k3, c3, e3, q1, q2, _⟩ := (hF.mem b m hm).named hs
      have : k3 = k := Option.some.inj (q1.symm.trans hs)
      subst this
      exact q2
    have hn0' : ¬ S' k' := by
      obtain ⟨k2, c2, e2, g1, g2, g3, _⟩ := m0OK.named hσ
      have : k2 = k' := Option.some.inj (g1.symm.trans hσ)
      subst this; exact g3
    have hn0'' : ¬ With σ' mem' S' k' := fun hk => by
      rcases hk with hk | ⟨b, m, hm, hσb⟩
      · exact hn0' hk
      · obtain ⟨h1, _, h3⟩ := hmem' b m hm
        exact h1 (hF.inj b 0 k' m q0 h3 hq0 hσb hσ)
    have hc0 : cutσ (nbOf m1') σ' 0 = some k' := by unfold cutσ; rw [if_pos (nbOf_pos _)]; exact hσ
    have cut : ∀ b k, cutσ (nbOf m1') σ' b = some k → b < nbOf m1' ∧ σ' b = some k := fun b k hk => by
      unfold cutσ at hk
      split at hk
      · rename_i hb; exact ⟨hb, hk⟩
      · cases hk
    have hs' : ∀ k, With σ' mem' S' k → k < w'.heap.size ∧ (S k ∨ w.heap.size ≤ k ∨ σ 1 = some k) := fun k hk => by
      have hne : k ≠ k' := fun e => hn0'' (e ▸ hk)
      rcases hk with hk | ⟨b, m, hm, hσb⟩
      · refine ⟨hF.sbd k hk, ?_⟩
        rcases hF.s1 k hk with h1 | h1 | h1
        · exact .inl h1
        · exact .inr (.inl h1)
        · rcases h1 with h1 | h1
          · exact absurd h1 hne
          · exact .inr (.inr h1)
      · refine ⟨(hF.dom b k hσb).2, .inr ?_⟩
        rcases own0 b m k (hmem' b m hm).2.2 hσb with h1 | h1 | h1
        · exact .inl h1
        · exact absurd h1 hne
        · exact .inr h1
    have one1 : ∀ m, m1' = some m → ∃ q, look s.mem 1 = some q ∧ MLe q m ∧ ∀ k, σ' 1 = some k → k ≠ k' ∧ (σ 1 = some k ∨ w.heap.size ≤ k) ∧ ¬ With σ' mem' S' k := fun m hm => by
      obtain ⟨q, h1, h2⟩ := hq1 m hm
      refine ⟨q, h1, h2, fun k hk => ?_⟩
      have hne : k ≠ k' := fun e => by have := hF.inj 1 0 k q q0 h1 hq0 hk (e ▸ hσ); omega
      refine ⟨hne, ?_, fun hw => ?_⟩
      · rcases own0 1 q k h1 hk with h3 | h3 | h3
        · exact .inr h3
        · exact absurd h3 hne
        · exact .inl h3
      · rcases hw with hw | ⟨b, m2, hm2, hσb⟩
        · obtain ⟨k2, c2, e2, g1, g2, g3, _⟩ := (hF.mem 1 q h1).named hk
          have : k2 = k := Option.some.inj (g1.symm.trans hk)
          subst this; exact g3 hw
        · obtain ⟨_, h4, h5⟩ := hmem' b m2 hm2
          exact h4 (by rw [hm]; exact fun h => by cases h) (hF.inj b 1 k m2 q h5 h1 hσb hk)
    have hfin : Post (.returned v) w' := by
      refine ⟨hF.below, v, cutσ (nbOf m1') σ', With σ' mem' S', rfl, hc0, fun b k hk => ?_, fun k hk => ?_, fun k hk => .inl (hF.s0 k hk), hs', ?_, ?_, fun m hm => ?_⟩
      · obtain ⟨h1, h2⟩ := cut b k hk
        exact ⟨h1, (hF.dom b k h2).2⟩
      · obtain ⟨h1, h2⟩ := cut 1 k hk
        cases hm1' : m1' with
        | none => rw [hm1'] at h1; exact absurd h1 (by decide)
        | some m =>
          obtain ⟨q, _, _, h3⟩ := one1 m hm1'
          exact ⟨(h3 k h2).1, (h3 k h2).2.1⟩
      · exact hres _ _ _ _ (hle _ _ _ _ (pub_rel hsub hv2 hpub))
      · have h1 := ((MLe.memOK m0OK hle0).more (S' := With σ' mem' S') (F' := fun _ => True) (fun _ h => .inl h) (fun k hk => by
          have : k = k' := Option.some.inj (hk.symm.trans hσ)
          subst this; exact hn0'') (fun _ _ => trivial)).cut (nbOf_pos m1') hcm0
        exact h1.named hc0
      · obtain ⟨q, h1, h2, h3⟩ := one1 m hm
        exact ((MLe.memOK (hF.mem 1 q h1) h2).more (S' := With σ' mem' S') (F' := fun _ => True) (fun _ h => .inl h) (fun k hk => (h3 k hk).2.2) (fun _ _ => trivial)).cut (by rw [hm]; exact Nat.lt_succ_self 1) (hcm1 m hm)
    rcases he with rfl | rfl
    · exact ⟨hd, v, hv1, hfin⟩
    · exact ⟨hd, v, hv1, hfin⟩
inductive Rn (b0 b1 : Nat) : AV → AV → Prop
  | p0 (sz row j : Nat) : Rn b0 b1 (.p b0 sz row j) (.p 0 sz row j)
  | ps0 (sz row n : Nat) : Rn b0 b1 (.ps b0 sz row n) (.ps 0 sz row n)
  | p1 (sz row j : Nat) : Rn b0 b1 (.p b1 sz row j) (.p 1 sz row j)
  | ps1 (sz row n : Nat) : Rn b0 b1 (.ps b1 sz row n) (.ps 1 sz row n)
  | cl {a a' : AV} (h : Cl a') (k : Le a a') : Rn b0 b1 a a'
inductive Rb (b0 b1 : Nat) : AV → AV → Prop
  | p0 (sz row j : Nat) : Rb b0 b1 (.p 0 sz row j) (.p b0 sz row j)
  | ps0 (sz row n : Nat) : Rb b0 b1 (.ps 0 sz row n) (.ps b0 sz row n)
  | p1 (sz row j : Nat) : Rb b0 b1 (.p 1 sz row j) (.p b1 sz row j)
  | ps1 (sz row n : Nat) : Rb b0 b1 (.ps 1 sz row n) (.ps b1 sz row n)
  | cl {a : AV} (h : Cl a) : Rb b0 b1 a a
theorem move_rel {σ σ' : Sig} {S : Nat → Prop} {w : World} {x : Value} {a a' : AV} {c c' sz row : Nat} (h : ∀ k, σ c = some k → σ' c' = some k) :
    (∀ j, Rel σ S w x (.p c sz row j) → Rel σ' S w x (.p c' sz row j)) ∧ ∀ n, Rel σ S w x (.ps c sz row n) → Rel σ' S w x (.ps c' sz row n) := by
  refine ⟨fun j hr => ?_, fun n hr => ?_⟩
  · cases hr with
    | p h1 => exact .p (h _ h1)
  · cases hr with
    | ps h1 hn ho hs => exact .ps (h _ h1) hn ho hs
    | ps0 => exact .ps0
theorem Rn.rel {σ σ' : Sig} {S : Nat → Prop} {w : World} {b0 b1 : Nat} (h0 : ∀ k, σ b0 = some k → σ' 0 = some k) (h1 : ∀ k, σ b1 = some k → σ' 1 = some k) {x : Value} {a a' : AV} (h : Rn b0 b1 a a') (hr : Rel σ S w x a) : Rel σ' S w x a' := by
  cases h with
  | p0 sz row j => exact (move_rel (a := .top) (a' := .top) h0).1 _ hr
  | ps0 sz row n => exact (move_rel (a := .top) (a' := .top) h0).2 _ hr
  | p1 sz row j => exact (move_rel (a := .top) (a' := .top) h1).1 _ hr
  | ps1 sz row n => exact (move_rel (a := .top) (a' := .top) h1).2 _ hr
  | cl h k => exact (h _ _ _ _ (k _ _ _ _ hr)).mono (fun _ _ h => by cases h) (fun _ h => h) keeps_refl
theorem Rb.rel {σ σ' : Sig} {S : Nat → Prop} {w : World} {b0 b1 : Nat} (h0 : ∀ k, σ 0 = some k → σ' b0 = some k) (h1 : ∀ k, σ 1 = some k → σ' b1 = some k) {x : Value} {a a' : AV} (h : Rb b0 b1 a a') (hr : Rel σ S w x a) : Rel σ' S w x a' := by
  cases h with
  | p0 sz row j => exact (move_rel (a := .top) (a' := .top) h0).1 _ hr
  | ps0 sz row n => exact (move_rel (a := .top) (a' := .top) h0).2 _ hr
  | p1 sz row j => exact (move_rel (a := .top) (a' := .top) h1).1 _ hr
  | ps1 sz row n => exact (move_rel (a := .top) (a' := .top) h1).2 _ hr
  | cl h => exact (h _ _ _ _ hr).mono (fun _ _ h => by cases h) (fun _ h => h) keeps_refl
def MR (R : AV → AV → Prop) (m m' : MB) : Prop := m'.sz = m.sz ∧ PubL (PubL R) m.rows m'.rows
theorem MR.memAt {R : AV → AV → Prop} {σ σ' : Sig} {S F F' : Nat → Prop} {w : World} {b b' : Nat} {m m' : MB} (h : MR R m m') (hb : ∀ k, σ b = some k → σ' b' = some k ∧ F' k) (hR : ∀ x a a', R a a' → Rel σ S w x a → Rel σ' S w x a') (hm : MemAt σ S F w b m) : MemAt σ' S F' w b' m' := by
  obtain ⟨k, c, e, g1, g2, g3, g4, g5, g6, g7⟩ := hm
  obtain ⟨z1, z2⟩ := h
  obtain ⟨z3, z4⟩ := z2.spec
  refine ⟨k, c, e, (hb k g1).1, (hb k g1).2, g3, g4, fun r' hr' => ?_, by rw [z1, ← z3]; exact g6, fun i r' j a' hi hj => ?_⟩
  · obtain ⟨i, hi⟩ := List.getElem?_of_mem hr'
    obtain ⟨r, q1, q2⟩ := z4 i r' hi
    rw [← q2.spec.1, z1]; exact g5 r (List.mem_of_getElem? q1)
  · obtain ⟨r, q1, q2⟩ := z4 i r' hi
    obtain ⟨a, q3, q4⟩ := q2.spec.2 j a' hj
    obtain ⟨x, hx, hxr⟩ := g7 i r j a q1 q3
    exact ⟨x, by rw [z1]; exact hx, hR x a a' q4 hxr⟩
theorem MR.memOK {R : AV → AV → Prop} {σ σ' : Sig} {S F F' : Nat → Prop} {w : World} {b b' : Nat} {m m' : MB} (h : MR R m m') (hb : ∀ k, σ b = some k → σ' b' = some k ∧ F' k) (hn : σ b = none → σ' b' = none) (hR : ∀ x a a', R a a' → Rel σ S w x a → Rel σ' S w x a') (hm : MemOK σ S F w b m) : MemOK σ' S F' w b' m' := by
  rcases hm with ⟨h1, h2⟩ | hm
  · exact .inl ⟨List.length_eq_zero_iff.1 (by rw [← h.2.spec.1, h1]; rfl), hn h2⟩
  · exact .inr (h.memAt hb hR hm)
def noE (b : Nat) : List (Nat × AV) → Prop
  | [] => True
  | (_, a) :: l => NO b a ∧ noE b l
theorem noE_look {b : Nat} : ∀ (l : List (Nat × AV)), noE b l → ∀ t a, look l t = some a → NO b a
  | [], _, t, a, h => by simp [look] at h
  | (t', a') :: l, hl, t, a, h => by
    simp only [look] at h
    split at h
    · injection h with h; subst h; exact hl.1
    · exact noE_look l hl.2 t a h
def noM (b0 b1 : Nat) : List (Nat × MB) → Prop
  | [] => True
  | (k, m) :: l => (k = b0 ∨ k = b1 ∨ ∀ r ∈ m.rows, ∀ a ∈ r, NO b1 a) ∧ noM b0 b1 l
theorem noM_look {b0 b1 : Nat} : ∀ (l : List (Nat × MB)), noM b0 b1 l → ∀ k m, look l k = some m → k ≠ b0 → k ≠ b1 → ∀ r ∈ m.rows, ∀ a ∈ r, NO b1 a
  | [], _, k, m, h, _, _ => by simp [look] at h
  | (k', m') :: l, hl, k, m, h, h0, h1 => by
    simp only [look] at h
    split at h
    · rename_i he
      injection h with h; subst h he
      rcases hl.1 with h2 | h2 | h2
      · exact absurd h2 h0
      · exact absurd h2 h1
      · exact h2
    · exact noM_look l hl.2 k m h h0 h1
def memV (b0 b1 : Nat) (M0' : MB) (M1' : Option MB) (mem : List (Nat × MB)) : List (Nat × MB) := match M1' with
  | some M => (b0, M0') :: (b1, M) :: mem
  | none => (b0, M0') :: dropM b1 mem
def given (b1 : Nat) (s : AS) (M1 : MB) : Prop := look s.mem b1 = some M1 ∨ (s.next ≤ b1 ∧ look s.mem b1 = none ∧ M1.rows = [])
theorem callG_own2 {C : Cx} {s : AS} {g : FuncId} {as args : List AV} {res res' : AV} {M0 M1 m0 m1 m0' M0' : MB} {m1' M1' : Option MB} (b0 b1 : Nat) (hne : b0 ≠ b1 ∧ (C.an = false ∨ b1 ≠ 0)) (hM0 : look s.mem b0 = some M0) (h0 : 0 < M0.rows.length) (hM1 : given b1 s M1) (hnx : M1' = none ∨ b1 < s.next)
    (hr0 : MR (Rn b0 b1) M0 m0) (hr1 : MR (Rn b0 b1) M1 m1) (has : PubL (Rn b0 b1) as args) (henv : noE b1 s.env) (hmem : noM b0 b1 s.mem) (h : CallV C.P C.G g args m0 m1 res m0' m1')
    (hb0 : MR (Rb b0 b1) m0' M0') (hb1 : (m1' = none ∧ M1' = none) ∨ ∃ m M, m1' = some m ∧ M1' = some M ∧ MR (Rb b0 b1) m M) (hres : Rb b0 b1 res res') :
    CallG C s g as ⟨s.env, memV b0 b1 M0' M1' s.mem, s.next⟩ res' := by
  obtain ⟨hne, hb10⟩ := hne
  intro D S0 w0 σ S a w vs hG hF hE hsz hr
  have hm0 := (hF.mem b0 M0 hM0).row h0
  obtain ⟨k0, c0, e0, g1, g2, g3, g4, _⟩ := id hm0
  have hm1 : MemOK σ S (Own D w0) w b1 M1 := by
    rcases hM1 with hM1 | ⟨h1, _, h2⟩
    · exact hF.mem b1 M1 hM1
    · refine .inl ⟨h2, ?_⟩
      cases hs : σ b1 with
      | none => rfl
      | some k => have := (hF.dom b1 k hs).1; omega
  have b1ne : ∀ k, σ b1 = some k → k ≠ k0 ∧ ¬ S k ∧ Own D w0 k := fun k hk => by
    obtain ⟨k', c', e', q1, q2, q3, _⟩ := hm1.named hk
    have : k' = k := Option.some.inj (q1.symm.trans hk)
    subst this
    refine ⟨fun he => ?_, q3, q2⟩
    rcases hM1 with hM1 | ⟨h1, _, _⟩
    · exact hne (hF.inj b0 b1 k' M0 M1 hM0 hM1 (he ▸ g1) hk)
    · have := (hF.dom b1 k' hk).1; omega
  let σc : Sig := fun c => if c = 0 then σ b0 else if c = 1 then σ b1 else none
  have c0e : σc 0 = σ b0 := rfl
  have c1e : σc 1 = σ b1 := rfl
  have hsub : ∀ (vs : List AV) (as : List AV), True := fun _ _ => trivial
  have down : ∀ x a a', Rn b0 b1 a a' → Rel σ S w x a → Rel σc S w x a' := fun x a a' h hr => h.rel (fun k hk => c0e ▸ hk) (fun k hk => c1e ▸ hk) hr
  refine (h.runs S w vs k0 σc (c0e ▸ g1) (fun b k hk => ?_) (fun k hk => (b1ne k (c1e ▸ hk)).1) hF.sbd (by rw [← hG.1]; exact hF.gs) (by rw [hsz, has.spec.1]) (hr0.memAt (fun k hk => ⟨c0e ▸ hk, trivial⟩) down hm0) (hr1.memOK (fun k hk => ⟨c1e ▸ hk, trivial⟩) (fun hk => c1e ▸ hk) down hm1) (fun k hk => (b1ne k (c1e ▸ hk)).2.1)
    (fun i x av hx hav => by obtain ⟨a0, ha, hra⟩ := has.spec.2 i av hav; exact down x a0 av hra (hr i x a0 hx ha))).mono fun e' w' hw => ?_
  · match b, hk with
    | 0, hk => exact ⟨by decide, (hF.dom b0 k hk).2⟩
    | 1, hk => exact ⟨by decide, (hF.dom b1 k hk).2⟩
    | n + 2, hk => simp [σc] at hk
  obtain ⟨hb, x, σ', S', rfl, q0, qd, q1, qs, qs', qr, qm0, qm1⟩ := hw
  rw [c1e] at hb q1 qs'
  let σn : Sig := fun c => if c = b1 then σ' 1 else σ c
  have n1 : σn b1 = σ' 1 := by simp [σn]
  have nne : ∀ c, c ≠ b1 → σn c = σ c := fun c hc => by simp [σn, hc]
  have n0 : σn b0 = some k0 := (nne b0 hne).trans g1
  have same : ∀ k, k < w.heap.size → k ≠ k0 → σ b1 ≠ some k → w'.heap[k]? = w.heap[k]? := fun k hk h1 h2 => hb.block k hk (fun h => by rcases h with h | h; exact h1 h; exact h2 h)
  have hke : Keeps σ S w w' := ⟨fun k hk => same k (hF.sbd k hk) (fun he => g3 (he ▸ hk)) (fun he => (b1ne k he).2.1 hk), fun c k c2 e2 f2 hs hc => by
    by_cases hk : k = k0 ∨ σ b1 = some k
    · exact hb.kept k c2 e2 f2 hk hc
    · exact ⟨c2, e2, f2, by rw [same k (lt_of_get hc) (fun h => hk (.inl h)) (fun h => hk (.inr h))]; exact hc, Nat.le_refl _⟩⟩
  have up : ∀ {x : Value} {av : AV}, NO b1 av → Rel σ S w x av → Rel σn S' w' x av := fun hno hr => hno σ σn S' w' _ (fun c k hc hk => (nne c hc).trans hk) (hr.mono (fun _ _ h => h) qs hke)
  have back : ∀ x a a', Rb b0 b1 a a' → Rel σ' S' w' x a → Rel σn S' w' x a' := fun x a a' h hr => h.rel (fun k hk => by rw [n0, ← q0]; exact hk) (fun k hk => n1.trans hk) hr
  have own1 : ∀ k, σ' 1 = some k → Own D w0 k := fun k hk => by
    rcases (q1 k hk).2 with h | h
    · exact (b1ne k h).2.2
    · exact .inl (Nat.le_trans hF.below.size h)
  have ns1 : ∀ c mc k, c ≠ b1 → look s.mem c = some mc → σ c = some k → σ' 1 ≠ some k := fun c mc k hc hl hs he => by
    rcases (q1 k he).2 with h | h
    · rcases hM1 with hM1 | ⟨h1, _, _⟩
      · exact hc (hF.inj c b1 k mc M1 hl hM1 hs h)
      · have := (hF.dom b1 k h).1; omega
    · have := (hF.dom c k hs).2; omega
  have names : ∀ c mc, look (memV b0 b1 M0' M1' s.mem) c = some mc → (c = b0 ∧ mc = M0') ∨ (c = b1 ∧ M1' = some mc) ∨ (c ≠ b0 ∧ c ≠ b1 ∧ look s.mem c = some mc) := fun c mc hl => by
    cases hM : M1' with
    | none =>
      rw [hM] at hl
      simp only [memV, look] at hl
      split at hl
      · rename_i he; injection hl with hl; exact .inl ⟨he.symm, hl.symm⟩
      · rename_i he
        obtain ⟨h1, h2⟩ := look_dropM _ _ _ hl
        exact .inr (.inr ⟨fun e => he e.symm, h1, h2⟩)
    | some M =>
      rw [hM] at hl
      simp only [memV, look] at hl
      split at hl
      · rename_i he; injection hl with hl; exact .inl ⟨he.symm, hl.symm⟩
      · rename_i he
        split at hl
        · rename_i he1; injection hl with hl; exact .inr (.inl ⟨he1.symm, by rw [hl]⟩)
        · rename_i he1; exact .inr (.inr ⟨fun e => he e.symm, fun e => he1 e.symm, hl⟩)
  have h2 : ∀ c mc k, look (memV b0 b1 M0' M1' s.mem) c = some mc → σn c = some k → (c = b1 ∧ σ' 1 = some k) ∨ (c ≠ b1 ∧ σ c = some k ∧ ∃ mo, look s.mem c = some mo) := fun c mc k hl hs => by
    rcases names c mc hl with ⟨rfl, _⟩ | ⟨rfl, _⟩ | ⟨_, hc, hl⟩
    · exact .inr ⟨hne, by rw [← nne c hne]; exact hs, M0, hM0⟩
    · exact .inl ⟨rfl, by rw [← n1]; exact hs⟩
    · exact .inr ⟨hc, by rw [← nne c hc]; exact hs, mc, hl⟩
  have hlt1 : ∀ k, σ' 1 = some k → b1 < s.next := fun k hk => by
    rcases hnx with h | h
    · rcases hb1 with ⟨h3, _⟩ | ⟨m, M, _, h4, _⟩
      · have := (qd 1 k hk).1; rw [h3] at this; exact absurd this (by decide)
      · rw [h] at h4; cases h4
    · exact h
  refine ⟨x, rfl, σn, S', ⟨⟨hb.os.trans hF.below.os, hb.tape.trans hF.below.tape, hb.output.trans hF.below.output, Nat.le_trans hF.below.size hb.size, fun k hk hd => ?_, fun k c2 e2 f2 hd hc => ?_, hF.below.glob⟩, fun c k hs => ?_,
      fun c1 c2 k m1 m2 l1 l2 s1 s2 => ?_, fun k hk => (qs' k hk).1, fun k hk => qs k (hF.s0 k hk), fun k hk => ?_, ⟨fun g l hg => qs g (hF.glob.1 g l hg), fun k hk => ?_⟩, fun c mc hl => ?_⟩, fun t av ht => ?_, back x _ _ hres qr⟩
  · have h1 : k ≠ k0 := fun he => by
      subst he
      obtain ⟨k', c', e', p1, p2, _⟩ := hm0
      have : k' = k := Option.some.inj (p1.symm.trans g1)
      subst this
      rcases p2 with p2 | p2
      · omega
      · exact hd p2
    have h3 : σ b1 ≠ some k := fun he => by
      rcases (b1ne k he).2.2 with p2 | p2
      · omega
      · exact hd p2
    rw [same k (Nat.lt_of_lt_of_le hk hF.below.size) h1 h3]
    exact hF.below.block k hk hd
  · obtain ⟨c3, e3, f3, r1, r2⟩ := hF.below.kept k c2 e2 f2 hd hc
    by_cases hk : k = k0 ∨ σ b1 = some k
    · obtain ⟨c4, e4, f4, r3, r4⟩ := hb.kept k c3 e3 f3 hk r1
      exact ⟨c4, e4, f4, r3, Nat.le_trans r2 r4⟩
    · exact ⟨c3, e3, f3, by rw [same k (lt_of_get r1) (fun h => hk (.inl h)) (fun h => hk (.inr h))]; exact r1, r2⟩
  · by_cases hc : c = b1
    · subst hc
      rw [n1] at hs
      exact ⟨hlt1 k hs, (qd 1 k hs).2⟩
    · rw [nne c hc] at hs
      exact ⟨(hF.dom c k hs).1, Nat.lt_of_lt_of_le (hF.dom c k hs).2 hb.size⟩
  · rcases h2 c1 m1 k l1 s1 with ⟨rfl, p1⟩ | ⟨p1, p2, mo1, p3⟩
    · rcases h2 c2 m2 k l2 s2 with ⟨rfl, _⟩ | ⟨p4, p5, mo2, p6⟩
      · rfl
      · exact absurd p1 (ns1 c2 mo2 k p4 p6 p5)
    · rcases h2 c2 m2 k l2 s2 with ⟨rfl, p4⟩ | ⟨p4, p5, mo2, p6⟩
      · exact absurd p4 (ns1 c1 mo1 k p1 p3 p2)
      · exact hF.inj c1 c2 k mo1 mo2 p3 p6 p2 p5
  · rcases (qs' k hk).2 with p | p | p
    · exact hF.s1 k p
    · exact .inr (.inl (Nat.le_trans hF.below.size p))
    · exact .inr (b1ne k p).2.2
  · have h1 := hF.glob.2 k hk
    by_cases hc : 0 = b1
    · rcases hb10 with h3 | h3
      · rw [hG.2 h3] at hk; cases hk
      · exact absurd hc.symm h3
    · exact (nne 0 hc).trans h1
  · rcases names c mc hl with ⟨rfl, rfl⟩ | ⟨rfl, hM⟩ | ⟨hc0, hc1, hl⟩
    · exact .inr (hb0.memAt (fun k hk => ⟨by rw [n0, ← q0]; exact hk, by
        have : k = k0 := Option.some.inj (hk.symm.trans q0)
        subst this
        obtain ⟨k', c', e', p1, p2, _⟩ := hm0
        have : k' = k := Option.some.inj (p1.symm.trans g1)
        subst this
        exact p2⟩) back qm0)
    · rcases hb1 with ⟨_, h3⟩ | ⟨m, M, h3, h4, h5⟩
      · rw [h3] at hM; cases hM
      · have : M = mc := Option.some.inj (h4.symm.trans hM)
        subst this
        exact h5.memOK (fun k hk => ⟨n1.trans hk, own1 k hk⟩) (fun hk => n1.trans hk) back (qm1 m h3)
    · have hno := noM_look _ hmem c mc hl hc0 hc1
      rcases hF.mem c mc hl with ⟨p1, p2⟩ | ⟨k, c', e', p1, p2, p3, p4, p5, p6, p7⟩
      · exact .inl ⟨p1, (nne c hc1).trans p2⟩
      · have hk0 : k ≠ k0 := fun he => hc0 (hF.inj c b0 k mc M0 hl hM0 p1 (he ▸ g1))
        have hk1 : σ b1 ≠ some k := fun he => by
          rcases hM1 with hM1 | ⟨h1, _, _⟩
          · exact hc1 (hF.inj c b1 k mc M1 hl hM1 p1 he)
          · have := (hF.dom b1 k he).1; omega
        refine .inr ⟨k, c', e', (nne c hc1).trans p1, p2, fun hk => ?_, by rw [same k (lt_of_get p4) hk0 hk1]; exact p4, p5, p6, fun i r j av hi hj => ?_⟩
        · rcases (qs' k hk).2 with p | p | p
          · exact p3 p
          · have := lt_of_get p4; omega
          · exact hk1 p
        · obtain ⟨y, hy, hyr⟩ := p7 i r j av hi hj
          exact ⟨y, hy, up (hno r (List.mem_of_getElem? hi) av (List.mem_of_getElem? hj)) hyr⟩
  · obtain ⟨y, hy, hyr⟩ := hE t av ht
    exact ⟨y, hy, up (noE_look _ henv t av ht) hyr⟩
section
variable {C : Cx} {n : Nat} {r : List It} {s : AS} {Q : Lab → AS → Prop} {d : Option Tmp}
theorem endsV_ret {ti : Types} {rs : List ResultVar} {res : AV} {m0' : MB} {m1' : Option MB} : EndsV ti rs res m0' m1' .ret s = (FinV s.mem (resL ti s rs) res m1' ∧ (∃ m, look s.mem 0 = some m ∧ MLe m m0') ∧ ∀ m, m1' = some m → ∃ q, look s.mem 1 = some q ∧ MLe q m) := by simp [EndsV]
theorem endsV_normal {ti : Types} {rs : List ResultVar} {res : AV} {m0' : MB} {m1' : Option MB} : EndsV ti rs res m0' m1' .normal s = (FinV s.mem (resL ti s rs) res m1' ∧ (∃ m, look s.mem 0 = some m ∧ MLe m m0') ∧ ∀ m, m1' = some m → ∃ q, look s.mem 1 = some q ∧ MLe q m) := by simp [EndsV]
end
end Go.Ax

namespace Go.Ax
open Go Go.RowKit
section
variable {C : Cx} {s : AS} {n : Nat} {r : List It} {Q : Lab → AS → Prop} {d : Option Tmp}
end
end Go.Ax

namespace Go.Ax
open Go Go.RowKit
attribute [go_sem] Ax.endsV_ret Ax.endsV_normal Ax.entryV
theorem MR.cl {R : AV → AV → Prop} {m : MB} (h : ∀ r ∈ m.rows, ∀ a ∈ r, R a a) : MR R m m := by
  refine ⟨rfl, ?_⟩
  have hl : ∀ l : List AV, (∀ a ∈ l, R a a) → PubL R l l := fun l => by
    induction l with
    | nil => intro _; exact .nil
    | cons a l ih => intro h; exact .cons (h a (List.mem_cons_self ..)) (ih fun b hb => h b (List.mem_cons_of_mem _ hb))
  have : ∀ rows : List (List AV), (∀ r ∈ rows, ∀ a ∈ r, R a a) → PubL (PubL R) rows rows := fun rows => by
    induction rows with
    | nil => intro _; exact .nil
    | cons r l ih => intro h; exact .cons (hl r (h r (List.mem_cons_self ..))) (ih fun b hb => h b (List.mem_cons_of_mem _ hb))
  exact this m.rows h
section
variable {C : Cx} {s : AS} {n : Nat} {r : List It} {Q : Lab → AS → Prop} {d : Option Tmp}
theorem callF_part {g : FuncId} {as args : List AV} {res res' : AV} {m m' : MB} (b : Nat) (hM : look s.mem b = some m) (hne : b ≠ s.next ∧ (C.an = false ∨ s.next ≠ 0)) (h0 : 0 < m.rows.length) (hcm : ∀ r ∈ m.rows, ∀ a ∈ r, Cl a) (hcm' : ∀ r ∈ m'.rows, ∀ a ∈ r, Cl a) (hnone : look s.mem s.next = none)
    (has : PubL (Rn b s.next) as args) (hres : Rb b s.next res res') (henv : noE s.next s.env) (hmem : noM b s.next s.mem) (h : CallV C.P C.G g args m ⟨1, []⟩ res m' none)
    (k : ex C n r ((⟨s.env, (b, m') :: dropM s.next s.mem, s.next⟩ : AS).put d res') Q) : callF C n r s Q g as d := by
  refine callF_big h.enters ?_ k
  exact callG_own2 (M0' := m') (M1' := none) (M1 := ⟨1, []⟩) b s.next hne hM h0 (.inr ⟨Nat.le_refl _, hnone, rfl⟩) (.inl rfl) (MR.cl fun r hr a ha => .cl (hcm r hr a ha) (.refl _)) (MR.cl fun r hr => by cases hr) has henv hmem h (MR.cl fun r hr a ha => .cl (hcm' r hr a ha)) (.inl ⟨rfl, rfl⟩) hres
end
end Go.Ax

namespace Go.Ax
open Go Go.RowKit
structure Iv where
  lo : Dy
  hi : Dy
  h : lo.v ≤ hi.v
theorem Iv.eq {a b : Iv} (h1 : a.lo = b.lo) (h2 : a.hi = b.hi) : a = b := by
  cases a; cases b; simp_all
theorem Iv.same {a b : Iv} : (a.lo = b.lo ∧ a.hi = b.hi) ↔ a = b := ⟨fun h => Iv.eq h.1 h.2, fun h => by subst h; exact ⟨rfl, rfl⟩⟩
def Iv.Mg (k : Nat) (a : Iv) : Prop := Ax.Mg k a.lo ∧ Ax.Mg k a.hi
theorem Iv.Mg.mono {k k' : Nat} {a : Iv} (h : a.Mg k) (hk : k ≤ k') : a.Mg k' := ⟨h.1.mono hk, h.2.mono hk⟩
theorem min_le_l (x y : Dy) : (x.min y).v ≤ x.v := by rw [Dy.v_min]; split <;> grind
theorem min_le_r (x y : Dy) : (x.min y).v ≤ y.v := by rw [Dy.v_min]; split <;> grind
theorem le_max_l (x y : Dy) : x.v ≤ (x.max y).v := by rw [Dy.v_max]; split <;> grind
theorem le_max_r (x y : Dy) : y.v ≤ (x.max y).v := by rw [Dy.v_max]; split <;> grind
theorem le_min {x y z : Dy} (h1 : z.v ≤ x.v) (h2 : z.v ≤ y.v) : z.v ≤ (x.min y).v := by rw [Dy.v_min]; split <;> grind
theorem max_le {x y z : Dy} (h1 : x.v ≤ z.v) (h2 : y.v ≤ z.v) : (x.max y).v ≤ z.v := by rw [Dy.v_max]; split <;> grind
def Iv.zero : Iv := ⟨Dy.zero, Dy.zero, by grind⟩
def Iv.sp2 (x y : Dy) : Iv := ⟨x.min y, x.max y, min_le_max x y⟩
def Iv.sp4 (x y z w : Dy) : Iv := ⟨((x.min y).min z).min w, ((x.max y).max z).max w, by
  have := min_le_r ((x.min y).min z) w; have := le_max_r ((x.max y).max z) w; grind⟩
def Iv.neg (a : Iv) : Iv := ⟨a.hi.neg, a.lo.neg, by rw [Dy.v_neg, Dy.v_neg]; have := a.h; grind⟩
theorem abs_nn (x : Dy) : 0 ≤ x.abs.v := by rw [Dy.v_abs]; split <;> grind
def Iv.abs (a : Iv) : Iv := if a.lo.v < 0 ∧ 0 < a.hi.v then ⟨Dy.zero, a.lo.abs.max a.hi.abs, by rw [Dy.v_zero]; have := abs_nn a.lo; have := le_max_l a.lo.abs a.hi.abs; grind⟩ else Iv.sp2 a.lo.abs a.hi.abs
def Iv.add (a b : Iv) : Iv := ⟨a.lo.add b.lo, a.hi.add b.hi, by rw [Dy.v_add, Dy.v_add]; have := a.h; have := b.h; grind⟩
def Iv.sub (a b : Iv) : Iv := a.add b.neg
def Iv.mul (a b : Iv) : Iv := Iv.sp4 (a.lo.mul b.lo) (a.lo.mul b.hi) (a.hi.mul b.lo) (a.hi.mul b.hi)
def Iv.min (a b : Iv) : Iv := ⟨a.lo.min b.lo, a.hi.min b.hi, le_min (by have := min_le_l a.lo b.lo; have := a.h; grind) (by have := min_le_r a.lo b.lo; have := b.h; grind)⟩
def Iv.max (a b : Iv) : Iv := ⟨a.lo.max b.lo, a.hi.max b.hi, max_le (by have := le_max_l a.hi b.hi; have := a.h; grind) (by have := le_max_r a.hi b.hi; have := b.h; grind)⟩
def Iv.wide (a : Iv) (x : Dy) : Iv := Iv.add a (Iv.sp2 x x.neg)
def Iv.has (a : Iv) (x : Dy) : Bool := decide (a.lo.v ≤ x.v ∧ x.v ≤ a.hi.v)
theorem Iv.Mg.sp2 {k : Nat} {x y : Dy} (h : Ax.Mg k x) (g : Ax.Mg k y) : (Iv.sp2 x y).Mg k := ⟨h.min g, h.max g⟩
theorem Iv.Mg.sp4 {k : Nat} {x y z w : Dy} (h : Ax.Mg k x) (g : Ax.Mg k y) (i : Ax.Mg k z) (j : Ax.Mg k w) : (Iv.sp4 x y z w).Mg k := ⟨((h.min g).min i).min j, ((h.max g).max i).max j⟩
theorem Iv.Mg.zero (k : Nat) : Iv.zero.Mg k := ⟨Ax.Mg.zero k, Ax.Mg.zero k⟩
theorem Iv.Mg.neg {k : Nat} {a : Iv} (h : a.Mg k) : a.neg.Mg k := ⟨h.2.neg, h.1.neg⟩
theorem Iv.Mg.abs {k : Nat} {a : Iv} (h : a.Mg k) : a.abs.Mg k := by
  unfold Iv.abs; split
  · exact ⟨Ax.Mg.zero k, h.1.abs.max h.2.abs⟩
  · exact .sp2 h.1.abs h.2.abs
theorem Iv.Mg.add {k : Nat} {a b : Iv} (h : a.Mg k) (g : b.Mg k) : (a.add b).Mg (k + 1) := ⟨h.1.add g.1, h.2.add g.2⟩
theorem Iv.Mg.sub {k : Nat} {a b : Iv} (h : a.Mg k) (g : b.Mg k) : (a.sub b).Mg (k + 1) := h.add g.neg
theorem Iv.Mg.mul {k l : Nat} {a b : Iv} (h : a.Mg k) (g : b.Mg l) : (a.mul b).Mg (k + l) := .sp4 (h.1.mul g.1) (h.1.mul g.2) (h.2.mul g.1) (h.2.mul g.2)
theorem Iv.Mg.min {k : Nat} {a b : Iv} (h : a.Mg k) (g : b.Mg k) : (a.min b).Mg k := ⟨h.1.min g.1, h.2.min g.2⟩
theorem Iv.Mg.max {k : Nat} {a b : Iv} (h : a.Mg k) (g : b.Mg k) : (a.max b).Mg k := ⟨h.1.max g.1, h.2.max g.2⟩
def okI (s : Bool) (ws : List Nat) (d : Int) (s' : Bool) (ws' : List Nat) (d' : Int) (x y : Dy) : Prop := (validR s ws d = true ∧ validR s' ws' d' = true) ∧ x.v ≤ y.v
instance (s : Bool) (ws : List Nat) (d : Int) (s' : Bool) (ws' : List Nat) (d' : Int) (x y : Dy) : Decidable (okI s ws d s' ws' d' x y) := inferInstanceAs (Decidable (_ ∧ _))
structure IArg (s : Bool) (ws : List Nat) (d : Int) (s' : Bool) (ws' : List Nat) (d' : Int) (x y : Dy) (a : Iv) : Prop where
  px : Arg s ws d x
  py : Arg s' ws' d' y
  is : (okI s ws d s' ws' d' x y ∧ a.lo = x ∧ a.hi = y) ∨ (¬ okI s ws d s' ws' d' x y ∧ a = Iv.zero)
theorem IArg.get {s : Bool} {ws : List Nat} {d : Int} {s' : Bool} {ws' : List Nat} {d' : Int} {x y : Dy} (h : Arg s ws d x) (g : Arg s' ws' d' y) : ∃ a, IArg s ws d s' ws' d' x y a := by
  by_cases ho : okI s ws d s' ws' d' x y
  · exact ⟨⟨x, y, ho.2⟩, h, g, .inl ⟨ho, rfl, rfl⟩⟩
  · exact ⟨Iv.zero, h, g, .inr ⟨ho, rfl⟩⟩
theorem IArg.of {a : Iv} {k : Nat} (h : a.Mg k) (hk : k ≤ 1099511627776 := by omega) : IArg (sg a.lo) (ms a.lo) (dn a.lo) (sg a.hi) (ms a.hi) (dn a.hi) a.lo a.hi a :=
  ⟨Arg.of h.1 hk, Arg.of h.2 hk, .inl ⟨⟨⟨valid_of _, valid_of _⟩, a.h⟩, rfl, rfl⟩⟩
section
variable {s : Bool} {ws : List Nat} {d : Int} {s' : Bool} {ws' : List Nat} {d' : Int} {x y : Dy} {a : Iv}
theorem IArg.lo (h : IArg s ws d s' ws' d' x y a) : Arg (sg a.lo) (ms a.lo) (dn a.lo) a.lo := by
  rcases h.is with ⟨_, h1, _⟩ | ⟨_, h1⟩
  · rw [h1]; exact ⟨ms_wd x, h.px.mlen, .inl ⟨valid_of x, rfl, rfl, rfl⟩⟩
  · rw [h1]; exact Arg.of (Ax.Mg.zero 1) (by omega)
theorem IArg.hi (h : IArg s ws d s' ws' d' x y a) : Arg (sg a.hi) (ms a.hi) (dn a.hi) a.hi := by
  rcases h.is with ⟨_, _, h1⟩ | ⟨_, h1⟩
  · rw [h1]; exact ⟨ms_wd y, h.py.mlen, .inl ⟨valid_of y, rfl, rfl, rfl⟩⟩
  · rw [h1]; exact Arg.of (Ax.Mg.zero 1) (by omega)
theorem IArg.mg {k : Nat} (h : IArg s ws d s' ws' d' x y a) (gx : Ax.Mg k x) (gy : Ax.Mg k y) : a.Mg k := by
  rcases h.is with ⟨_, h1, h2⟩ | ⟨_, h1⟩
  · unfold Iv.Mg; rw [h1, h2]; exact ⟨gx, gy⟩
  · rw [h1]; exact .zero k
theorem IArg.den {k : Nat} (h : IArg s ws d s' ws' d' x y a) (gx : x.d ≤ k) (gy : y.d ≤ k) : a.lo.d ≤ k ∧ a.hi.d ≤ k := by
  rcases h.is with ⟨_, h1, h2⟩ | ⟨_, h1⟩
  · rw [h1, h2]; exact ⟨gx, gy⟩
  · rw [h1]; exact ⟨Nat.zero_le _, Nat.zero_le _⟩
end
theorem ok_of (a : Iv) : okI (sg a.lo) (ms a.lo) (dn a.lo) (sg a.hi) (ms a.hi) (dn a.hi) a.lo a.hi := ⟨⟨valid_of _, valid_of _⟩, a.h⟩
abbrev ilit : AV := .agg [.v (.bool false), .v (.slice none 0 0), .v (.int .i64 0), .v (.bool false), .v (.slice none 0 0), .v (.int .i64 0)]
theorem Cl.ilit : Cl ilit := Cl.agg (fun a ha => by
  simp only [List.mem_cons, List.not_mem_nil, or_false] at ha
  rcases ha with rfl | rfl | rfl | rfl | rfl | rfl <;> exact Cl.v _)
theorem Arg.can {s : Bool} {ws : List Nat} {d : Int} {x : Dy} (h : Arg s ws d x) : Arg (sg x) (ms x) (dn x) x := ⟨ms_wd x, h.mlen, .inl ⟨valid_of x, rfl, rfl, rfl⟩⟩
theorem IArg.mk' {a : Iv} (h : Arg (sg a.lo) (ms a.lo) (dn a.lo) a.lo) (g : Arg (sg a.hi) (ms a.hi) (dn a.hi) a.hi) : IArg (sg a.lo) (ms a.lo) (dn a.lo) (sg a.hi) (ms a.hi) (dn a.hi) a.lo a.hi a :=
  ⟨h, g, .inl ⟨ok_of a, rfl, rfl⟩⟩
section
variable {s : Bool} {ws : List Nat} {d : Int} {s' : Bool} {ws' : List Nat} {d' : Int} {x y : Dy} {a : Iv}
theorem IArg.can (h : IArg s ws d s' ws' d' x y a) : IArg (sg a.lo) (ms a.lo) (dn a.lo) (sg a.hi) (ms a.hi) (dn a.hi) a.lo a.hi a := .mk' h.lo h.hi
variable {s2 : Bool} {ws2 : List Nat} {d2 : Int} {s2' : Bool} {ws2' : List Nat} {d2' : Int} {x2 y2 : Dy} {b : Iv}
end
end Go.Ax

namespace Go.Ax
open Go Go.RowKit
def Iv.On (a : Iv) (x : Dy) : Prop := a.lo.v ≤ x.v ∧ x.v ≤ a.hi.v
theorem Iv.On.has {a : Iv} {x : Dy} (h : a.On x) : a.has x = true := decide_eq_true h
end Go.Ax

namespace Go.Ax
open Go Go.RowKit
section
variable {C : Cx} {s : AS} {o : Oper}
end
section
variable {C : Cx} {s : AS} {n : Nat} {r : List It} {Q : Lab → AS → Prop}
def thawL : List Nat → AS → AS
  | [], s => s
  | b :: l, s => match look s.mem b with
    | some m => thawL l (thawS b m s)
    | none => s
attribute [go_sem] Ax.thawL
end
end Go.Ax

namespace Go.Ax
open Go Go.RowKit
section
variable {C : Cx} {n : Nat} {r : List It} {s s' : AS} {Q : Lab → AS → Prop}
end
end Go.Ax

namespace Go.Ax
open Go Go.RowKit
section
variable {P : Program} {w : World}
end
section
variable {C : Cx} {s : AS} {o : Oper}
end
section
variable {C : Cx} {s : AS} {n : Nat} {r : List It} {Q : Lab → AS → Prop}
end
end Go.Ax

namespace Go.Ax
open Go Go.RowKit
structure BS where
  ln : Int
  ld : Int
  hn : Int
  hd : Int
  hl : Bool
  hh : Bool
  no : Bool
def BS.zero : BS := ⟨0, 0, 0, 0, false, false, false⟩
def BS.add (b : BS) (k c : Int) : BS :=
  if k = 0 then ⟨b.ln, b.ld, b.hn, b.hd, b.hl, b.hh, b.no || decide (c < 0)⟩
  else if 0 < k then (if b.hh = false ∨ c * b.hd < b.hn * k then ⟨b.ln, b.ld, c, k, b.hl, true, b.no⟩ else b)
  else (if b.hl = false ∨ b.ln * -k < -c * b.ld then ⟨-c, -k, b.hn, b.hd, true, b.hh, b.no⟩ else b)
def BS.of (C : List (Int × Int)) : BS := C.foldl (fun b p => b.add p.1 p.2) BS.zero
def BS.Sm (m : Nat) (b : BS) : Prop := b.ln.natAbs < 2 ^ m ∧ b.ld.natAbs < 2 ^ m ∧ b.hn.natAbs < 2 ^ m ∧ b.hd.natAbs < 2 ^ m
theorem BS.Sm.add {m : Nat} {b : BS} {k c : Int} (h : b.Sm m) (hk : k.natAbs < 2 ^ m) (hc : c.natAbs < 2 ^ m) : (b.add k c).Sm m := by
  obtain ⟨h1, h2, h3, h4⟩ := h
  unfold BS.add
  split
  · exact ⟨h1, h2, h3, h4⟩
  · split
    · split
      · exact ⟨h1, h2, hc, hk⟩
      · exact ⟨h1, h2, h3, h4⟩
    · split
      · exact ⟨by show (-c).natAbs < _; rw [Int.natAbs_neg]; exact hc, by show (-k).natAbs < _; rw [Int.natAbs_neg]; exact hk, h3, h4⟩
      · exact ⟨h1, h2, h3, h4⟩
theorem BS.Sm.zero (m : Nat) : BS.zero.Sm m := by have : 0 < 2 ^ m := Nat.pow_pos (by omega); exact ⟨this, this, this, this⟩
theorem BS.Sm.of {m : Nat} {C : List (Int × Int)} (h : ∀ p ∈ C, p.1.natAbs < 2 ^ m ∧ p.2.natAbs < 2 ^ m) : (BS.of C).Sm m := by
  have : ∀ (C : List (Int × Int)) (b : BS), b.Sm m → (∀ p ∈ C, p.1.natAbs < 2 ^ m ∧ p.2.natAbs < 2 ^ m) → (C.foldl (fun b p => b.add p.1 p.2) b).Sm m := by
    intro C
    induction C with
    | nil => intro b hb _; exact hb
    | cons p C ih => intro b hb hC; exact ih _ (hb.add (hC p (List.mem_cons_self ..)).1 (hC p (List.mem_cons_self ..)).2) (fun q hq => hC q (List.mem_cons_of_mem _ hq))
  exact this C _ (.zero m) h
structure BInv (C : List (Int × Int)) (b : BS) : Prop where
  no : b.no = true ↔ ∃ c, (0, c) ∈ C ∧ c < 0
  hh : b.hh = true ↔ ∃ k c, (k, c) ∈ C ∧ 0 < k
  hl : b.hl = true ↔ ∃ k c, (k, c) ∈ C ∧ k < 0
  hi : b.hh = true → 0 < b.hd ∧ (b.hd, b.hn) ∈ C ∧ ∀ k c, (k, c) ∈ C → 0 < k → b.hn * k ≤ c * b.hd
  lo : b.hl = true → 0 < b.ld ∧ (-b.ld, -b.ln) ∈ C ∧ ∀ k c, (k, c) ∈ C → k < 0 → -c * b.ld ≤ b.ln * -k
theorem BInv.zero : BInv [] BS.zero := ⟨by simp [BS.zero], by simp [BS.zero], by simp [BS.zero], by simp [BS.zero], by simp [BS.zero]⟩
theorem cross_trans {a b c d e f : Int} (hb : 0 < b) (hd : 0 < d) (hf : 0 < f) (h1 : a * d ≤ c * b) (h2 : c * f ≤ e * d) : a * f ≤ e * b := by
  have q1 : a * d * f ≤ c * b * f := Int.mul_le_mul_of_nonneg_right h1 (by omega)
  have q2 : c * f * b ≤ e * d * b := Int.mul_le_mul_of_nonneg_right h2 (by omega)
  have e1 : a * d * f = a * f * d := by rw [Int.mul_right_comm]
  have e2 : c * b * f = c * f * b := by rw [Int.mul_right_comm]
  have e3 : e * d * b = e * b * d := by rw [Int.mul_right_comm]
  rw [e1, e2] at q1
  rw [e3] at q2
  exact Int.le_of_mul_le_mul_right (Int.le_trans q1 q2) hd
theorem BInv.add {C : List (Int × Int)} {b : BS} (h : BInv C b) (k c : Int) : BInv (C ++ [(k, c)]) (b.add k c) := by
  obtain ⟨i1, i2, i3, i4, i5⟩ := h
  have mem : ∀ p, p ∈ C ++ [(k, c)] ↔ p ∈ C ∨ p = (k, c) := fun p => by simp
  unfold BS.add
  rcases Int.lt_trichotomy k 0 with hk | hk | hk
  · rw [if_neg (by omega), if_neg (by omega)]
    have j1 : (∃ c', (0, c') ∈ C ++ [(k, c)] ∧ c' < 0) ↔ ∃ c', (0, c') ∈ C ∧ c' < 0 := by
      constructor
      · rintro ⟨c', h1, h2⟩
        rcases (mem _).1 h1 with h1 | h1
        · exact ⟨c', h1, h2⟩
        · injection h1 with h1; omega
      · rintro ⟨c', h1, h2⟩; exact ⟨c', (mem _).2 (.inl h1), h2⟩
    have j2 : (∃ k' c', (k', c') ∈ C ++ [(k, c)] ∧ 0 < k') ↔ ∃ k' c', (k', c') ∈ C ∧ 0 < k' := by
      constructor
      · rintro ⟨k', c', h1, h2⟩
        rcases (mem _).1 h1 with h1 | h1
        · exact ⟨k', c', h1, h2⟩
        · injection h1 with h1; omega
      · rintro ⟨k', c', h1, h2⟩; exact ⟨k', c', (mem _).2 (.inl h1), h2⟩
    have j3 : ∃ k' c', (k', c') ∈ C ++ [(k, c)] ∧ k' < 0 := ⟨k, c, (mem _).2 (.inr rfl), hk⟩
    have j4 : b.hh = true → 0 < b.hd ∧ (b.hd, b.hn) ∈ C ++ [(k, c)] ∧ ∀ k' c', (k', c') ∈ C ++ [(k, c)] → 0 < k' → b.hn * k' ≤ c' * b.hd := fun h => by
      obtain ⟨q1, q2, q3⟩ := i4 h
      refine ⟨q1, (mem _).2 (.inl q2), fun k' c' h1 h2 => ?_⟩
      rcases (mem _).1 h1 with h1 | h1
      · exact q3 k' c' h1 h2
      · injection h1 with h1; omega
    split
    · rename_i hc
      refine ⟨i1.trans j1.symm, i2.trans j2.symm, ⟨fun _ => j3, fun _ => rfl⟩, j4, fun _ => ⟨by show 0 < -k; omega, ?_, fun k' c' h1 h2 => ?_⟩⟩
      · show (- -k, - -c) ∈ _
        rw [Int.neg_neg, Int.neg_neg]; exact (mem _).2 (.inr rfl)
      · show -c' * -k ≤ -c * -k'
        rcases (mem _).1 h1 with h1 | h1
        · have hb : b.hl = true := i3.2 ⟨k', c', h1, h2⟩
          obtain ⟨q1, q2, q3⟩ := i5 hb
          have q4 := q3 k' c' h1 h2
          rcases hc with hc | hc
          · rw [hb] at hc; cases hc
          · exact cross_trans (b := -k') (d := b.ld) (f := -k) (c := b.ln) (e := -c) (by omega) q1 (by omega) q4 (by omega)
        · injection h1 with h1 h3; subst h1 h3; exact Int.le_refl _
    · rename_i hc
      have hb : b.hl = true := by
        cases hb : b.hl
        · exact absurd (.inl hb) hc
        · rfl
      have hc2 : ¬ b.ln * -k < -c * b.ld := fun h => hc (.inr h)
      refine ⟨i1.trans j1.symm, i2.trans j2.symm, ⟨fun _ => j3, fun _ => hb⟩, j4, fun _ => ?_⟩
      obtain ⟨q1, q2, q3⟩ := i5 hb
      refine ⟨q1, (mem _).2 (.inl q2), fun k' c' h1 h2 => ?_⟩
      rcases (mem _).1 h1 with h1 | h1
      · exact q3 k' c' h1 h2
      · injection h1 with h1 h3; subst h1 h3; omega
  · subst hk
    rw [if_pos rfl]
    have j1 : (∃ c', (0, c') ∈ C ++ [(0, c)] ∧ c' < 0) ↔ (∃ c', (0, c') ∈ C ∧ c' < 0) ∨ c < 0 := by
      constructor
      · rintro ⟨c', h1, h2⟩
        rcases (mem _).1 h1 with h1 | h1
        · exact .inl ⟨c', h1, h2⟩
        · injection h1 with h1 h3; subst h3; exact .inr h2
      · rintro (⟨c', h1, h2⟩ | h)
        · exact ⟨c', (mem _).2 (.inl h1), h2⟩
        · exact ⟨c, (mem _).2 (.inr rfl), h⟩
    have j2 : (∃ k' c', (k', c') ∈ C ++ [(0, c)] ∧ 0 < k') ↔ ∃ k' c', (k', c') ∈ C ∧ 0 < k' := by
      constructor
      · rintro ⟨k', c', h1, h2⟩
        rcases (mem _).1 h1 with h1 | h1
        · exact ⟨k', c', h1, h2⟩
        · injection h1 with h1; omega
      · rintro ⟨k', c', h1, h2⟩; exact ⟨k', c', (mem _).2 (.inl h1), h2⟩
    have j3 : (∃ k' c', (k', c') ∈ C ++ [(0, c)] ∧ k' < 0) ↔ ∃ k' c', (k', c') ∈ C ∧ k' < 0 := by
      constructor
      · rintro ⟨k', c', h1, h2⟩
        rcases (mem _).1 h1 with h1 | h1
        · exact ⟨k', c', h1, h2⟩
        · injection h1 with h1; omega
      · rintro ⟨k', c', h1, h2⟩; exact ⟨k', c', (mem _).2 (.inl h1), h2⟩
    refine ⟨?_, i2.trans j2.symm, i3.trans j3.symm, fun h => ?_, fun h => ?_⟩
    · show (b.no || decide (c < 0)) = true ↔ _
      rw [Bool.or_eq_true, decide_eq_true_eq, j1, i1]
    · obtain ⟨q1, q2, q3⟩ := i4 h
      refine ⟨q1, (mem _).2 (.inl q2), fun k' c' h1 h2 => ?_⟩
      rcases (mem _).1 h1 with h1 | h1
      · exact q3 k' c' h1 h2
      · injection h1 with h1; omega
    · obtain ⟨q1, q2, q3⟩ := i5 h
      refine ⟨q1, (mem _).2 (.inl q2), fun k' c' h1 h2 => ?_⟩
      rcases (mem _).1 h1 with h1 | h1
      · exact q3 k' c' h1 h2
      · injection h1 with h1; omega
  · rw [if_neg (by omega), if_pos hk]
    have j1 : (∃ c', (0, c') ∈ C ++ [(k, c)] ∧ c' < 0) ↔ ∃ c', (0, c') ∈ C ∧ c' < 0 := by
      constructor
      · rintro ⟨c', h1, h2⟩
        rcases (mem _).1 h1 with h1 | h1
        · exact ⟨c', h1, h2⟩
        · injection h1 with h1; omega
      · rintro ⟨c', h1, h2⟩; exact ⟨c', (mem _).2 (.inl h1), h2⟩
    have j2 : ∃ k' c', (k', c') ∈ C ++ [(k, c)] ∧ 0 < k' := ⟨k, c, (mem _).2 (.inr rfl), hk⟩
    have j3 : (∃ k' c', (k', c') ∈ C ++ [(k, c)] ∧ k' < 0) ↔ ∃ k' c', (k', c') ∈ C ∧ k' < 0 := by
      constructor
      · rintro ⟨k', c', h1, h2⟩
        rcases (mem _).1 h1 with h1 | h1
        · exact ⟨k', c', h1, h2⟩
        · injection h1 with h1; omega
      · rintro ⟨k', c', h1, h2⟩; exact ⟨k', c', (mem _).2 (.inl h1), h2⟩
    have j5 : b.hl = true → 0 < b.ld ∧ (-b.ld, -b.ln) ∈ C ++ [(k, c)] ∧ ∀ k' c', (k', c') ∈ C ++ [(k, c)] → k' < 0 → -c' * b.ld ≤ b.ln * -k' := fun h => by
      obtain ⟨q1, q2, q3⟩ := i5 h
      refine ⟨q1, (mem _).2 (.inl q2), fun k' c' h1 h2 => ?_⟩
      rcases (mem _).1 h1 with h1 | h1
      · exact q3 k' c' h1 h2
      · injection h1 with h1; omega
    split
    · rename_i hc
      refine ⟨i1.trans j1.symm, ⟨fun _ => j2, fun _ => rfl⟩, i3.trans j3.symm, fun _ => ⟨hk, (mem _).2 (.inr rfl), fun k' c' h1 h2 => ?_⟩, j5⟩
      show c * k' ≤ c' * k
      rcases (mem _).1 h1 with h1 | h1
      · have hb : b.hh = true := i2.2 ⟨k', c', h1, h2⟩
        obtain ⟨q1, q2, q3⟩ := i4 hb
        have q4 := q3 k' c' h1 h2
        rcases hc with hc | hc
        · rw [hb] at hc; cases hc
        · exact cross_trans (b := k) (d := b.hd) (f := k') (c := b.hn) (e := c') hk q1 h2 (by omega) q4
      · injection h1 with h1 h3; subst h1 h3; exact Int.le_refl _
    · rename_i hc
      have hb : b.hh = true := by
        cases hb : b.hh
        · exact absurd (.inl hb) hc
        · rfl
      have hc2 : ¬ c * b.hd < b.hn * k := fun h => hc (.inr h)
      refine ⟨i1.trans j1.symm, ⟨fun _ => j2, fun _ => hb⟩, i3.trans j3.symm, fun _ => ?_, j5⟩
      obtain ⟨q1, q2, q3⟩ := i4 hb
      refine ⟨q1, (mem _).2 (.inl q2), fun k' c' h1 h2 => ?_⟩
      rcases (mem _).1 h1 with h1 | h1
      · exact q3 k' c' h1 h2
      · injection h1 with h1 h3; subst h1 h3; omega
theorem BInv.of (C : List (Int × Int)) : BInv C (BS.of C) := by
  have : ∀ (l C0 : List (Int × Int)) (b : BS), BInv C0 b → BInv (C0 ++ l) (l.foldl (fun b p => b.add p.1 p.2) b) := by
    intro l
    induction l with
    | nil => intro C0 b h; simpa using h
    | cons p l ih =>
      intro C0 b h
      have := ih (C0 ++ [p]) _ (h.add p.1 p.2)
      rwa [List.append_assoc] at this
  have h := this C [] _ .zero
  rwa [List.nil_append] at h
inductive Out where
  | bad
  | wide
  | iv (ln ld hn hd : Int)
inductive OutOK (F : Rat → Prop) : Out → Prop
  | bad (h : ∀ u, ¬ F u) : OutOK F .bad
  | wide (h : ∃ u, F u) (g : ∀ lo hi : Rat, ∃ u, F u ∧ (u < lo ∨ hi < u)) : OutOK F .wide
  | iv {ln ld hn hd : Int} (h1 : 0 < ld) (h2 : 0 < hd) (h3 : ln * hd ≤ hn * ld) (h : ∀ u, F u ↔ (ln : Rat) ≤ u * ld ∧ u * hd ≤ (hn : Rat)) : OutOK F (.iv ln ld hn hd)
def BS.out (b : BS) : Out := if b.no = true ∨ (b.hl = true ∧ b.hh = true ∧ b.hn * b.ld < b.ln * b.hd) then .bad else if b.hl = true ∧ b.hh = true then .iv b.ln b.ld b.hn b.hd else .wide
def qd (n d : Int) : Dy := (Dy.int n).quo (Dy.int d) 16
def Out.lo : Out → Dy
  | .iv ln ld _ _ => qd ln ld
  | _ => Dy.zero
def Out.hi : Out → Dy
  | .iv _ _ hn hd => (qd (-hn) hd).neg
  | _ => Dy.zero
theorem OutOK.congr {F G : Rat → Prop} {o : Out} (h : OutOK F o) (hfg : ∀ u, F u ↔ G u) : OutOK G o := by
  have : F = G := funext fun u => propext (hfg u)
  rw [← this]; exact h
end Go.Ax

namespace Go.Ax
open Go Go.RowKit
theorem byRenE {b : Nat} {l : List (Nat × AV)} (h : renEOK b l := by (repeat' (first | exact trivial | exact .v | exact .top | exact .cl (Cl.fn (fun a ha => by cases ha)) | exact .cl (by (first | exact Cl.v _ | exact Cl.u32s | exact Cl.vec | exact Cl.rws clrow_p | exact Cl.rws clrow_i | exact Cl.rws clrow_t | exact Cl.rws clrow_l | exact Cl.rws (by assumption) | exact Cl.mat | exact Cl.strs | exact Cl.i64s | exact Cl.sl (by assumption) | assumption | ((first | refine Cl.agg ?_ | refine Cl.rp ?_ | refine Cl.sl ?_ | refine Cl.tup ?_); simp only [List.mem_cons, List.not_mem_nil, or_false, forall_eq_or_imp, forall_eq]; (repeat' (first | exact Cl.v _ | exact Cl.u32s | exact Cl.vec | exact Cl.mat | exact Cl.strs | exact Cl.rws clrow_i | exact Cl.sl (by assumption) | assumption | refine And.intro ?_ ?_))))) | refine And.intro ?_ ?_))) : renEOK b l := h
theorem Weak.ren2 {s s' : AS} (b' b nx : Nat) (hn : s.next ≤ nx) (hb0 : b ≠ 0) (hb : b < nx) (he : renEOK b s.env) (hm : noMem b s.mem) (h : Weak ⟨renE b' b s.env, renM b' b s.mem, nx⟩ s') : Weak s s' := Weak.trans (Weak.ren b' b nx hn hb0 hb he hm) hn h
end Go.Ax

namespace Go.Ax
open Go Go.RowKit
theorem MLe.one {sz : Nat} {l l' : List AV} (h : LeL l l') : MLe ⟨sz, [l]⟩ ⟨sz, [l']⟩ := ⟨rfl, rfl, fun i r' hi => by
  cases i with
  | zero =>
    simp at hi; subst hi
    refine ⟨l, rfl, h.length.symm, fun j a' hj => h.get j a' hj⟩
  | succ i => simp at hi⟩
end Go.Ax
namespace Go.Ax
open Go Go.RowKit
abbrev Hf := Int × Int × Int
def E0 (l : List Hf) (k : Nat) : List (Int × Int) := ((l.take k).filter fun p => decide (p.2.1 = 0)).map fun p => (p.1, p.2.2)
def joinC (x y : Hf) : List (Int × Int) := if 0 < x.2.1 ∧ y.2.1 < 0 then [(y.1 * x.2.1 - x.1 * y.2.1, y.2.2 * x.2.1 - x.2.2 * y.2.1)] else []
def E2 (x : Hf) (l : List Hf) (j : Nat) : List (Int × Int) := (l.take j).flatMap (joinC x)
def E1 (l : List Hf) (i : Nat) : List (Int × Int) := (l.take i).flatMap fun x => E2 x l l.length
def elimC (l : List Hf) : List (Int × Int) := E0 l l.length ++ E1 l l.length
end Go.Ax
namespace Go.Ax
open Go Go.RowKit
def hv2 (f g : Int × Int → Int) (n : Int) (s : Int × Int) : List Hf := [(f s, g s, s.2 + n), (0 - f s, 0 - g s, n - s.2)]
def hv (f g : Int × Int → Int) (n : Int) (l : List (Int × Int)) : List Hf := l.flatMap (hv2 f g n)
def conds (f : (Int × Int → Int) × (Int × Int → Int)) (n : Int) (l : List (Int × Int)) : List (Int × Int) := elimC (hv f.1 f.2 n l)
end Go.Ax
namespace Go.Ax
open Go Go.RowKit
end Go.Ax
namespace Go.Ax
open Go Go.RowKit
end Go.Ax

namespace Go.Ax
open Go Go.RowKit
end Go.Ax

namespace Go.Ax
open Go Go.RowKit
def fitD (p q : Dy) (n : Int) (s : Int × Int) : Prop := (((Dy.int s.2).sub (p.mul (Dy.int s.1))).sub q).abs.cmp (Dy.int n) ≤ 0
instance (p q : Dy) (n : Int) (s : Int × Int) : Decidable (fitD p q n s) := inferInstanceAs (Decidable (_ ≤ _))
def fitAll (p q : Dy) (n : Int) (l : List (Int × Int)) : Prop := ∀ i, i < l.length → fitD p q n (l.getD i (0, 0))
instance (p q : Dy) (n : Int) (l : List (Int × Int)) : Decidable (fitAll p q n l) := inferInstanceAs (Decidable (∀ i, i < l.length → fitD p q n (l.getD i (0, 0))))
end Go.Ax

namespace Go.Ax
open Go Go.RowKit
end Go.Ax
namespace Go.Ax
open Go Go.RowKit
end Go.Ax

namespace Go.Ax
open Go Go.RowKit
section
variable {C : Cx} {s : AS} {o : Oper}
theorem big_litP (hT : TypesOK C.P C.ti) {t : TypeId} {len : Nat} {parts : Array (Nat × Operand)} (ho : o.op = .buildSlice t len parts) {sz : Nat} {rows : List (List AV)} (h : aLit C.ti s t len parts.toList = some (sz, rows)) :
    OpG C s o ⟨s.env, (s.next, ⟨sz, rows⟩) :: s.mem, s.next + 1⟩ (.ps s.next sz 0 len) := by
  intro D S0 w0 σ S a w K Q hG hF hE hK
  have hops : ∀ p ∈ parts.toList, ∀ b, ev s p.2 = some b → Rel σ S w (a.eval p.2) b := fun p _ b hb => ev_rel hE hb
  unfold aLit at h
  split at h
  · rename_i _ _ _ e hy
    split at h
    · rename_i z hz
      split at h
      · rename_i hc
        split at h
        · rename_i rs hrs
          injection h with h; injection h with h1 h2; subst h1 h2
          obtain ⟨hsz, hlen, hmax, hpl⟩ := hc
          obtain ⟨i, d, h1, h2, h3, h4, h5, _⟩ := underlying_of hT hy
          have hd := slc_desc h5
          subst hd
          obtain ⟨i', d', g1, g2, g3, _, _, ⟨zv, hz1, hz2, _⟩, _⟩ := underlying_of hT hz
          obtain ⟨hrl, hrw⟩ := aRows_len 0 parts.toList rs hrs
          obtain ⟨m, m1, m2⟩ := aRows_fill 0 parts.toList rs hrs
          have hn : len * z.size ≠ 0 := Nat.mul_ne_zero (by omega) (by omega)
          generalize hc0 : (Array.range (len * z.size)).map (fun j => zv.cells[j % zv.cells.size]!) = c0
          have hc0s : c0.size = len * z.size := by rw [← hc0]; simp
          have m3 := m2 [] (c0.toList.map AV.v) (by simp) (by simp [hc0s, hrl, hpl])
          obtain ⟨cs', k1, k2, k3⟩ := fill_spec' (σ := σ) (S := S) (w := w) (a := a) _ (fun i => some (i * z.size, z.size)) (fun i q hq => hq) parts.toList m c0 _ _ (fun p hp b hb => hops p hp b hb) m1 m3 (by simp) (fun i y av hy hav => by
            simp only [List.nil_append, List.getElem?_map] at hav
            obtain ⟨x, hx, rfl⟩ := Option.map_eq_some_iff.1 hav
            have : c0[i]? = some x := by simpa using hx
            rw [this] at hy; injection hy with hy; subst hy; exact .v _)
          simp only [List.nil_append] at k2 k3
          have hpar : (parts.map fun (p : Nat × Operand) => (p.1, a.eval p.2)).toList = parts.toList.map fun (p : Nat × Operand) => (p.1, a.eval p.2) := by simp
          have hrun : (execOp a.eval o).run C.P w = .ok (.value (.slice (some ⟨w.heap.size, 0, none⟩) len len)) (w.alloc (.cells cs' e)) := by
            have hgt : ¬ (len * z.size > 2 ^ 24) := by omega
            simp only [execOp, ho, Instr.buildSlice, Sem.run_bind, run_underlying h2, Result.andThen_ok, run_sizeOf_of g1, g3, hgt, if_false, hn, run_zeroValue_of g1 hz1, Sem.run_pure, hc0, hpar, k1]
            rfl
          have cell : ∀ (i : Nat) (r : List AV) (j : Nat) (av : AV), rs[i]? = some r → r[j]? = some av → ∃ x, cs'[i * z.size + j]? = some x ∧ Rel σ S w x av := fun i r j av hi hj => by
            have hf := flatten_get rs hrw i r j av hi hj
            have hlt : i * z.size + j < cs'.size := by rw [k2]; exact (List.getElem?_eq_some_iff.1 hf).1
            exact ⟨cs'[i * z.size + j], by simp [hlt], k3 _ _ av (by simp [hlt]) hf⟩
          have hsize : cs'.size = len * z.size := by
            rw [k2]
            have : ∀ (l : List (List AV)), (∀ r ∈ l, r.length = z.size) → l.flatten.length = l.length * z.size := fun l hl => by
              induction l with
              | nil => simp
              | cons r l ih => rw [List.flatten_cons, List.length_append, hl r (List.mem_cons_self ..), ih (fun r hr => hl r (List.mem_cons_of_mem _ hr)), List.length_cons, Nat.add_mul]; omega
            rw [this rs hrw]; rw [show rs.length = len by omega]
          unfold Oper.wp
          rw [hrun]
          have hid : ¬ (s.next < s.next) := Nat.lt_irrefl _
          have hFn := hF.new (next := s.next) hid cs' e ⟨z.size, rs⟩ hrw (by show rs.length * z.size ≤ _; rw [hsize, show rs.length = len by omega]; exact Nat.le_refl _) cell
          exact hK _ S _ _ (hFn.congr (fun _ => rfl) (fun b hb => by rcases hb with hb | hb <;> simp <;> omega)) (hE.new hF hid _ _)
            (.ps (k := w.heap.size) (off := 0) (by simp [upd]) (Nat.le_refl _) (.inl (by simp)) ⟨_, e, (0, 0), heap_alloc_new w _, by rw [hsize]; omega⟩)
        · cases h
      · cases h
    · cases h
  · cases h
end
section
variable {C : Cx} {s : AS} {o : Oper}
theorem big_bstr (hT : TypesOK C.P C.ti) {t u e : TypeId} {x : Operand} {q1 q2 : Nat} {q3 : List Z} {z1 z2 : Nat} {z3 : List Z} {y1 y2 : Nat} {y3 : List Z} (ho : o.op = .convert t u x) (ht : C.ti t = some ⟨q1, q2, q3, .slc e⟩) (he : C.ti e = some ⟨z1, z2, z3, .int .u8⟩) (hu : C.ti u = some ⟨y1, y2, y3, .str⟩)
    {b row n : Nat} {m : MB} (bs : List Int) (hx : ev s x = some (.ps b 1 row n)) (hm : look s.mem b = some m) (hsz : m.sz = 1) (hb : (m.rows.drop row).take n = bs.map fun k => [.v (.int .u8 k)]) (hn : row + n ≤ m.rows.length) :
    OpG C s o s (.v (.string (strOfNums bs))) := by
  intro D S0 w0 σ S a w K Q hG hF hE hK
  obtain ⟨i, d, h1, h2, h3, h4, h5, h6⟩ := underlying_of hT ht
  have hd := slc_desc h5
  subst hd
  obtain ⟨i', d', g1, g2, g3, g4, g5, g6⟩ := underlying_of hT he
  have hd' : d' = .int .u8 := by cases d' <;> simp [TK.ofDesc] at g5; subst g5; rfl
  subst hd'
  obtain ⟨j, dj, j1, j2, j3, j4, j5, j6⟩ := underlying_of hT hu
  have hdj : dj = .string := by cases dj <;> simp [TK.ofDesc] at j5; rfl
  subst hdj
  have hr := ev_rel hE hx
  have hlen : bs.length = n := by
    have := congrArg List.length hb
    simp at this; omega
  have hrun : (execOp a.eval o).run C.P w = .ok (.value (.string (strOfNums bs))) w := by
    have hc : (convert t u (a.eval x)).run C.P w = .ok (.string (strOfNums bs)) w := by
      rcases rel_ps hr with ⟨hv, hn0⟩ | ⟨k, off, cap, f1, hv, f2, f3, f4⟩
      · rw [hv]
        have : bs = [] := List.length_eq_zero_iff.1 (by omega)
        subst this
        rw [run_convert_bytes_nil _ t e h2 g2 0 0 u j2]; rfl
      · rw [hv]
        obtain ⟨k', c', e', r1, r2, r3, r4, r5, r6, r7⟩ := (hF.mem b m hm).named f1
        have : k' = k := Option.some.inj (r1.symm.trans f1)
        subst this
        refine run_convert_bytes_arg _ t e h2 g2 k' off n cap bs hlen (fun i hi => ?_) u j2
        have hoff : off = row := by rcases f3 with f3 | f3 <;> omega
        have hi2 : m.rows[row + i]? = some [.v (.int .u8 (bs.getD i 0))] := by
          have h9 := congrArg (fun l => l[i]?) hb
          simp only [List.getElem?_take, List.getElem?_drop, List.getElem?_map] at h9
          rw [if_pos hi, List.getElem?_eq_getElem (l := bs) (by omega)] at h9
          rw [h9, List.getD, List.getElem?_eq_getElem (l := bs) (by omega)]; rfl
        obtain ⟨v, hv, hvr⟩ := r7 _ _ 0 _ hi2 rfl
        have := rel_v hvr
        subst this
        rw [cell_of_cells r4, hoff, ← hv, hsz, Nat.mul_one, Nat.add_zero]
    simp [execOp, ho, hc]
  unfold Oper.wp
  rw [hrun]
  exact hK σ S _ w hF hE (.v _)
end
section
variable {C : Cx} {n : Nat} {r : List It} {s : AS} {Q : Lab → AS → Prop} {d : Option Tmp} {t u : TypeId} {len : Nat} {parts : List (Nat × Operand)} {pos : String} {af : Array Edge} {g : Option (Nat × Bool)}
theorem after_litP (hT : TypesOK C.P C.ti) {sz : Nat} {rows : List (List AV)} (h : aLit C.ti s t len parts = some (sz, rows))
    (k : ex C n r ((⟨s.env, (s.next, ⟨sz, rows⟩) :: s.mem, s.next + 1⟩ : AS).put d (.ps s.next sz 0 len)) Q) : after C n r s Q ⟨d, .buildSlice t len parts.toArray, u, pos, af, g⟩ none :=
  after_big (big_litP hT rfl (by simpa using h)) k
theorem after_bstr (hT : TypesOK C.P C.ti) {e : TypeId} {x : Operand} {q1 q2 : Nat} {q3 : List Z} {z1 z2 : Nat} {z3 : List Z} {y1 y2 : Nat} {y3 : List Z} {u' : TypeId} (ht : C.ti t = some ⟨q1, q2, q3, .slc e⟩) (he : C.ti e = some ⟨z1, z2, z3, .int .u8⟩) (hu : C.ti u' = some ⟨y1, y2, y3, .str⟩)
    {b row k : Nat} {m : MB} (bs : List Int) (hx : ev s x = some (.ps b 1 row k)) (hm : look s.mem b = some m) (hsz : m.sz = 1) (hb : (m.rows.drop row).take k = bs.map fun k => [.v (.int .u8 k)]) (hn : row + k ≤ m.rows.length)
    (kk : ex C n r (s.put d (.v (.string (strOfNums bs)))) Q) : after C n r s Q ⟨d, .convert t u' x, u, pos, af, g⟩ none :=
  after_big (big_bstr hT rfl ht he hu bs hx hm hsz hb hn) kk
end
end Go.Ax

namespace Go.Ax
open Go Go.RowKit
theorem MemAt.cut {σ : Sig} {S F : Nat → Prop} {w : World} {b : Nat} {m : MB} (k : Nat) (h : MemAt σ S F w b m) : MemAt σ S F w b ⟨m.sz, m.rows.take k⟩ := by
  obtain ⟨k0, c, e, h1, h2, h3, h4, h5, h6, h7⟩ := h
  refine ⟨k0, c, e, h1, h2, h3, h4, fun r hr => h5 r (List.mem_of_mem_take hr), ?_, fun i r j av hi hj => ?_⟩
  · exact Nat.le_trans (Nat.mul_le_mul_right _ (by show (m.rows.take k).length ≤ _; rw [List.length_take]; omega)) h6
  · change (m.rows.take k)[i]? = some r at hi
    rw [List.getElem?_take] at hi
    split at hi
    · exact h7 i r j av hi hj
    · cases hi
theorem Weak.cutR {s : AS} (b k : Nat) {m : MB} {rows : List (List AV)} (hb : look s.mem b = some m) (hr : m.rows.take k = rows) : Weak s ⟨s.env, (b, ⟨m.sz, rows⟩) :: s.mem, s.next⟩ := by
  subst hr
  intro D S0 w0 σ S w hF _
  have names : ∀ c mc, look ((b, (⟨m.sz, m.rows.take k⟩ : MB)) :: s.mem) c = some mc → (c = b ∧ mc = ⟨m.sz, m.rows.take k⟩) ∨ (c ≠ b ∧ look s.mem c = some mc) := fun c mc hl => by
    simp only [look] at hl
    split at hl
    · rename_i he; injection hl with hl; exact .inl ⟨he.symm, hl.symm⟩
    · rename_i he; exact .inr ⟨fun e => he e.symm, hl⟩
  have old : ∀ c mc, look ((b, (⟨m.sz, m.rows.take k⟩ : MB)) :: s.mem) c = some mc → ∃ mc0, look s.mem c = some mc0 := fun c mc hl => by
    rcases names c mc hl with ⟨rfl, _⟩ | ⟨_, h⟩
    · exact ⟨m, hb⟩
    · exact ⟨mc, h⟩
  refine ⟨σ, S, ⟨hF.below, hF.dom, fun b1 b2 k m1 m2 h1 h2 h3 h4 => ?_, hF.sbd, hF.s0, hF.s1, hF.glob, fun c mc hl => ?_⟩, fun a hE => hE⟩
  · obtain ⟨n1, g1⟩ := old _ _ h1
    obtain ⟨n2, g2⟩ := old _ _ h2
    exact hF.inj b1 b2 k n1 n2 g1 g2 h3 h4
  · rcases names c mc hl with ⟨rfl, rfl⟩ | ⟨hne, hl⟩
    · rcases hF.mem c m hb with ⟨h1, h2⟩ | h
      · exact .inl ⟨by show m.rows.take k = []; rw [h1]; simp, h2⟩
      · exact .inr (h.cut k)
    · exact hF.mem c mc hl
def brow (n : Int) : List AV := [.v (.int .u8 n)]
theorem clrow_b : ClRow brow := fun x a ha => by
  simp only [brow, List.mem_cons, List.not_mem_nil, or_false] at ha
  subst ha; exact Cl.v _
def digs (bs : List Int) : List UInt8 := bs.map fun n => UInt8.ofNat n.toNat
theorem strOfNums_digs (bs : List Int) : strOfNums bs = ⟨(digs bs).toArray⟩ := rfl
theorem digs_cons {m : Nat} (bs : List Int) (h : ¬ m < 10) : Lib.decDigits (m / 10) ++ digs (((48 + m % 10 : Nat) : Int) :: bs) = Lib.decDigits m ++ digs bs := by
  rw [decDigits_big h, List.append_assoc]; rfl
theorem digs_last {m : Nat} (bs : List Int) (h : m < 10) : digs (((48 + m % 10 : Nat) : Int) :: bs) = Lib.decDigits m ++ digs bs := by
  rw [decDigits_small h, Nat.mod_eq_of_lt h]; rfl
end Go.Ax

set_option maxRecDepth 100000
namespace Go.Ax
open Go Go.RowKit
def isD (b : UInt8) : Prop := 48 ≤ b.toNat ∧ b.toNat ≤ 57
instance (b : UInt8) : Decidable (isD b) := by unfold isD; infer_instance
def dvl : List UInt8 → Nat → Nat
  | [], a => a
  | b :: l, a => dvl l (a * 10 + (b.toNat - 48))
theorem dvl_append : ∀ (l m : List UInt8) (a : Nat), dvl (l ++ m) a = dvl m (dvl l a)
  | [], _, _ => rfl
  | _ :: l, m, _ => dvl_append l m _
theorem ofNat_toNat {k : Nat} (h : k < 10) : (UInt8.ofNat (48 + k)).toNat = 48 + k := by
  rw [UInt8.toNat_ofNat']; omega
theorem dec_isD : ∀ (n : Nat), ∀ b ∈ Lib.decDigits n, isD b := fun n => by
  induction n using Nat.strongRecOn with
  | _ n ih =>
    intro b hb
    by_cases h : n < 10
    · rw [decDigits_small h] at hb
      simp only [List.mem_cons, List.not_mem_nil, or_false] at hb
      subst hb
      have := ofNat_toNat h
      unfold isD; omega
    · rw [decDigits_big h, List.mem_append] at hb
      rcases hb with hb | hb
      · exact ih (n / 10) (by omega) b hb
      · simp only [List.mem_cons, List.not_mem_nil, or_false] at hb
        subst hb
        have := ofNat_toNat (k := n % 10) (by omega)
        unfold isD; omega
theorem dvl_dec (n : Nat) : dvl (Lib.decDigits n) 0 = n := by
  induction n using Nat.strongRecOn with
  | _ n ih =>
    by_cases h : n < 10
    · rw [decDigits_small h]
      simp only [dvl, ofNat_toNat h]; omega
    · rw [decDigits_big h, dvl_append, ih (n / 10) (by omega)]
      simp only [dvl, ofNat_toNat (k := n % 10) (by omega)]; omega
theorem dec_head : ∀ (n : Nat), 0 < n → ∀ b l, Lib.decDigits n = b :: l → b.toNat ≠ 48 := fun n => by
  induction n using Nat.strongRecOn with
  | _ n ih =>
    intro hn b l he
    by_cases h : n < 10
    · rw [decDigits_small h] at he
      injection he with he _
      rw [← he, ofNat_toNat h]; omega
    · rw [decDigits_big h] at he
      cases hd : Lib.decDigits (n / 10) with
      | nil => have := decDigits_pos (n / 10); rw [hd] at this; simp at this
      | cons c m =>
        rw [hd] at he
        injection he with he _
        rw [← he]
        exact ih (n / 10) (by omega) (by omega) c m hd
theorem decFrom_dvl : ∀ (l : List UInt8) (a : Nat), (∀ b ∈ l, isD b) → Lib.decFrom a l = some (dvl l a)
  | [], _, _ => rfl
  | b :: l, a, h => by
    have hb := h b (List.mem_cons_self ..)
    unfold isD at hb
    unfold Lib.decFrom Lib.digitVal
    rw [if_pos hb]
    exact decFrom_dvl l _ fun c hc => h c (List.mem_cons_of_mem _ hc)
def bar : List UInt8 := [47, 50, 94]
theorem occ_no {s : List UInt8} {j : Nat} (h : s[j]? ≠ some 47) : Lib.occAt s bar j = false := by
  unfold Lib.occAt bar
  cases hd : s.drop j with
  | nil => rfl
  | cons c l =>
    have : s[j]? = some c := by
      have := congrArg List.head? hd
      rwa [List.head?_drop] at this
    rw [this] at h
    have hc : ¬ c = 47 := fun e => h (by rw [e])
    simp only [List.isPrefixOf]
    have h2 : ((47 : UInt8) == c) = false := by
      rw [beq_eq_false_iff_ne]; exact fun e => hc e.symm
    rw [h2]; rfl
theorem occ_at (f b : List UInt8) : Lib.occAt (f ++ (bar ++ b)) bar f.length = true := by
  unfold Lib.occAt bar
  rw [List.drop_left]
  simp [List.isPrefixOf]
theorem index_bar {f b : List UInt8} (h : ∀ c ∈ f, c ≠ 47) : Lib.index (f ++ (bar ++ b)) bar = f.length := by
  refine Lib.index_first (by simp) (occ_at f b) fun j hj => occ_no fun e => ?_
  rw [List.getElem?_append_left hj] at e
  exact h _ (List.mem_of_getElem? e) rfl
theorem index_nobar {s : List UInt8} (h : ∀ c ∈ s, c ≠ 47) : Lib.index s bar = -1 :=
  Lib.index_past (i := s.length) (by simp [bar]) (fun j _ => occ_no fun e => h _ (List.mem_of_getElem? e) rfl) (by simp [bar])
theorem cut_bar {f b : List UInt8} (h : ∀ c ∈ f, c ≠ 47) : Lib.cut (f ++ (bar ++ b)) bar = (f, b, true) := by
  unfold Lib.cut
  rw [index_bar h, if_pos (by omega)]
  simp only [Int.toNat_natCast]
  rw [List.take_left, ← List.append_assoc, show f.length + bar.length = (f ++ bar).length by simp, List.drop_left]
theorem cut_nobar {s : List UInt8} (h : ∀ c ∈ s, c ≠ 47) : Lib.cut s bar = (s, [], false) := by
  unfold Lib.cut
  rw [index_nobar h, if_neg (by omega)]
theorem isD_ne {b c : UInt8} (h : isD b) (hc : ¬ isD c) : b ≠ c := fun e => hc (e ▸ h)
theorem dec_nobar (n : Nat) : ∀ c ∈ Lib.decDigits n, c ≠ 47 := fun c hc => isD_ne (dec_isD n c hc) (by decide)
theorem dec_nominus (n : Nat) : ∀ c ∈ Lib.decDigits n, c ≠ 45 := fun c hc => isD_ne (dec_isD n c hc) (by decide)
theorem dec_ne (n : Nat) : Lib.decDigits n ≠ [] := fun e => by have := decDigits_pos n; rw [e] at this; simp at this
theorem atoi_digits {l : List UInt8} (hl : l.length ≤ 18) (h0 : l ≠ []) (h : ∀ b ∈ l, isD b) : Lib.atoiAll l = .ok (dvl l 0 : Nat) := by
  rw [Lib.atoiAll_short l hl]
  cases l with
  | nil => exact absurd rfl h0
  | cons b r =>
    have hb := h b (List.mem_cons_self ..)
    have h1 : (b == 45) = false := by rw [beq_eq_false_iff_ne]; exact isD_ne hb (by decide)
    have h2 : (b == 43) = false := by rw [beq_eq_false_iff_ne]; exact isD_ne hb (by decide)
    simp only [Lib.atoi, h1, h2, Bool.false_eq_true, if_false]
    have e : Lib.decNat (b :: r) = some (dvl (b :: r) 0) := by
      unfold Lib.decNat
      exact decFrom_dvl _ _ h
    rw [e]; rfl
theorem dvl_lt : ∀ (l : List UInt8) (a k : Nat), (∀ b ∈ l, isD b) → a < 10 ^ k → dvl l a < 10 ^ (k + l.length)
  | [], a, k, _, ha => ha
  | b :: l, a, k, h, ha => by
    have hb := h b (List.mem_cons_self ..)
    unfold isD at hb
    have := dvl_lt l (a * 10 + (b.toNat - 48)) (k + 1) (fun c hc => h c (List.mem_cons_of_mem _ hc)) (by rw [Nat.pow_succ]; omega)
    rw [show k + (b :: l).length = k + 1 + l.length by simp; omega]
    exact this
theorem dvl_eq (l : List UInt8) (a : Nat) : dvl l a = a * 10 ^ l.length + dvl l 0 := by
  induction l generalizing a with
  | nil => simp [dvl]
  | cons b l ih =>
    simp only [dvl, List.length_cons]
    rw [ih (a * 10 + (b.toNat - 48)), ih (0 * 10 + (b.toNat - 48)), Nat.pow_succ, Nat.add_mul, Nat.zero_mul, Nat.zero_add, Nat.mul_assoc, Nat.mul_comm 10 (10 ^ l.length)]
    omega
def txtOf (neg : Bool) (n d : Nat) : List UInt8 := (if neg = true then [45] else []) ++ Lib.decDigits n ++ (if 0 < d then bar ++ Lib.decDigits d else [])
def frontOf (neg : Bool) (n : Nat) : List UInt8 := (if neg = true then [45] else []) ++ Lib.decDigits n
theorem front_nobar (neg : Bool) (n : Nat) : ∀ c ∈ frontOf neg n, c ≠ 47 := fun c hc => by
  unfold frontOf at hc
  rw [List.mem_append] at hc
  rcases hc with hc | hc
  · cases neg
    · simp at hc
    · simp only [if_true, List.mem_cons, List.not_mem_nil, or_false] at hc
      subst hc; decide
  · exact dec_nobar n c hc
theorem cut_txt (neg : Bool) (n d : Nat) : Lib.cut (txtOf neg n d) bar = if 0 < d then (frontOf neg n, Lib.decDigits d, true) else (frontOf neg n, [], false) := by
  unfold txtOf
  by_cases h : 0 < d
  · rw [if_pos h, if_pos h]; exact cut_bar (front_nobar neg n)
  · rw [if_neg h, if_neg h, List.append_nil]; exact cut_nobar (front_nobar neg n)
end Go.Ax

set_option maxRecDepth 100000
namespace Go.Ax
open Go Go.RowKit
def madW : List Nat → Nat → List Nat
  | [], _ => []
  | w :: l, c => (w * 10 + c) % 4294967296 :: madW l ((w * 10 + c) / 4294967296)
def madC : List Nat → Nat → Nat
  | [], c => c
  | w :: l, c => madC l ((w * 10 + c) / 4294967296)
def tlW (c : Nat) : List Nat := if 0 < c then [c] else []
theorem madW_len : ∀ (l : List Nat) (c : Nat), (madW l c).length = l.length
  | [], _ => rfl
  | _ :: l, _ => congrArg (· + 1) (madW_len l _)
theorem madW_snoc : ∀ (l : List Nat) (w c : Nat), madW (l ++ [w]) c = madW l c ++ [(w * 10 + madC l c) % 4294967296]
  | [], _, _ => rfl
  | _ :: l, w, _ => congrArg (_ :: ·) (madW_snoc l w _)
theorem madC_snoc : ∀ (l : List Nat) (w c : Nat), madC (l ++ [w]) c = (w * 10 + madC l c) / 4294967296
  | [], _, _ => rfl
  | _ :: l, w, _ => madC_snoc l w _
theorem madC_le : ∀ (l : List Nat) (c : Nat), Wd l → c ≤ 9 → madC l c ≤ 9
  | [], _, _, h => h
  | w :: l, c, hl, h => by
    have := hl.head
    exact madC_le l _ hl.tail (by omega)
theorem mad_words (n c : Nat) (h : c ≤ 9) : words (n * 10 + c) = madW (words n) c ++ tlW (madC (words n) c) := by
  induction n using Nat.strongRecOn generalizing c with
  | _ n ih =>
    by_cases h0 : n = 0
    · subst h0
      rw [words_zero, Nat.zero_mul, Nat.zero_add]
      show words c = [] ++ tlW c
      rw [List.nil_append]
      unfold tlW
      by_cases hc : 0 < c
      · rw [if_pos hc, words_small (by omega) (by omega)]
      · rw [if_neg hc, show c = 0 by omega, words_zero]
    · rw [words_pos h0, words_pos (n := n * 10 + c) (by omega)]
      simp only [madW, madC, List.cons_append]
      have e1 : (n * 10 + c) % 4294967296 = (n % 4294967296 * 10 + c) % 4294967296 := by omega
      have e2 : (n * 10 + c) / 4294967296 = n / 4294967296 * 10 + (n % 4294967296 * 10 + c) / 4294967296 := by omega
      rw [e1, e2, ih (n / 4294967296) (Nat.div_lt_self (by omega) (by omega)) _ (by omega)]
def madK (l : List Nat) (c k : Nat) : List Nat := madW (l.take k) c ++ l.drop k
theorem madK_all {l : List Nat} {c k : Nat} (h : l.length ≤ k) : madK l c k = madW l c := by
  unfold madK; rw [List.take_of_length_le h, List.drop_of_length_le h, List.append_nil]
theorem madK_len {l : List Nat} {c k : Nat} : (madK l c k).length = l.length := by
  unfold madK; rw [List.length_append, madW_len, ← List.length_append, List.take_append_drop]
theorem madK_get {l : List Nat} {c k : Nat} (h : k < l.length) : (madK l c k).getD k 0 = l.getD k 0 := by
  have e : (madW (l.take k) c).length = k := by rw [madW_len, List.length_take, Nat.min_eq_left (by omega)]
  unfold madK
  simp only [List.getD]
  rw [List.getElem?_append_right (by omega), e, Nat.sub_self, List.getElem?_drop, Nat.add_zero]
theorem madK_set {l : List Nat} {c k : Nat} (h : k < l.length) : (madK l c k).set k ((l.getD k 0 * 10 + madC (l.take k) c) % 4294967296) = madK l c (k + 1) := by
  have e : (madW (l.take k) c).length = k := by rw [madW_len, List.length_take, Nat.min_eq_left (by omega)]
  unfold madK
  rw [take_succ_getD h, madW_snoc, drop_getD h, List.set_append_right _ _ (by omega), e, Nat.sub_self]
  simp
theorem madC_step {l : List Nat} {c k : Nat} (h : k < l.length) : madC (l.take (k + 1)) c = (l.getD k 0 * 10 + madC (l.take k) c) / 4294967296 := by
  rw [take_succ_getD h, madC_snoc]
def allD (l : List UInt8) : Prop := ∀ b ∈ l, isD b
instance (l : List UInt8) : Decidable (allD l) := by unfold allD; infer_instance
def numeral (l : List UInt8) : Prop := l ≠ [] ∧ ¬ ((l.getD 0 0).toNat = 48 ∧ 1 < l.length) ∧ allD l
instance (l : List UInt8) : Decidable (numeral l) := by unfold numeral; infer_instance
theorem numeral_dec (n : Nat) : numeral (Lib.decDigits n) := by
  refine ⟨dec_ne n, fun ⟨h1, h2⟩ => ?_, dec_isD n⟩
  by_cases h0 : n = 0
  · subst h0; rw [decDigits_small (by omega)] at h2; simp at h2
  · cases hd : Lib.decDigits n with
    | nil => exact dec_ne n hd
    | cons b l => rw [hd] at h1; exact dec_head n (by omega) b l hd h1
theorem dvl_take_succ {l : List UInt8} {i : Nat} (h : i < l.length) : dvl (l.take (i + 1)) 0 = dvl (l.take i) 0 * 10 + ((l.getD i 0).toNat - 48) := by
  have e : l.take (i + 1) = l.take i ++ [l.getD i 0] := by rw [List.take_succ_eq_append_getElem h, getD_in h]
  rw [e, dvl_append]; rfl
end Go.Ax

set_option maxRecDepth 100000
namespace Go.Ax
open Go Go.RowKit
def dyTxt (x : Dy) : List UInt8 := txtOf (sg x) x.n.natAbs x.d
theorem front_minus {neg : Bool} {n : Nat} : (frontOf neg n).head? = some 45 ↔ neg = true := by
  unfold frontOf
  cases neg with
  | true => simp
  | false =>
    simp only [Bool.false_eq_true, if_false, List.nil_append, iff_false]
    intro h
    cases hd : Lib.decDigits n with
    | nil => exact dec_ne n hd
    | cons b l =>
      rw [hd] at h
      injection h with h
      exact dec_nominus n b (by rw [hd]; exact List.mem_cons_self ..) h
def bodyOf (f : List UInt8) : List UInt8 := if f.head? = some 45 then f.tail else f
theorem body_front (neg : Bool) (n : Nat) : bodyOf (frontOf neg n) = Lib.decDigits n := by
  unfold bodyOf
  cases neg with
  | true => rw [if_pos (front_minus.2 rfl)]; rfl
  | false => rw [if_neg (fun h => by cases front_minus.1 h)]; rfl
def readD (s : List UInt8) : Option Dy :=
  if bodyOf (Lib.cut s bar).1 ≠ [] ∧ allD (bodyOf (Lib.cut s bar).1) then
    if (Lib.cut s bar).2.2 = true then
      match Lib.atoiAll (Lib.cut s bar).2.1 with
      | .ok d => if 1 ≤ d ∧ d ≤ 65536 then some (nrm (sgn (decide ((Lib.cut s bar).1.head? = some 45)) (dvl (bodyOf (Lib.cut s bar).1) 0)) d.toNat) else none
      | _ => none
    else some (nrm (sgn (decide ((Lib.cut s bar).1.head? = some 45)) (dvl (bodyOf (Lib.cut s bar).1) 0)) 0)
  else none
theorem decLen5 {d : Nat} (h : d ≤ 65536) : (Lib.decDigits d).length ≤ 18 := Nat.le_trans (decDigits_len 5 d (by omega)) (by omega)
theorem readD_txt (a : Dy) : readD (dyTxt a) = some a := by
  have hd := a.ok.1
  have e0 : decide ((frontOf (sg a) a.n.natAbs).head? = some 45) = sg a := by
    cases hs : sg a with
    | true => exact decide_eq_true (front_minus.2 rfl)
    | false => exact decide_eq_false fun h => by cases front_minus.1 h
  unfold readD dyTxt
  rw [cut_txt]
  by_cases h : 0 < a.d
  · simp only [if_pos h, body_front, e0, dvl_dec, sgn_sg]
    rw [if_pos ⟨dec_ne _, dec_isD _⟩, if_pos trivial, atoi_digits (decLen5 hd) (dec_ne _) (dec_isD _), dvl_dec]
    simp only
    rw [if_pos (by omega), Int.toNat_natCast, nrm_self]
  · simp only [if_neg h, body_front, e0, dvl_dec, sgn_sg]
    rw [if_pos ⟨dec_ne _, dec_isD _⟩, if_neg (by decide)]
    have : a.d = 0 := by omega
    have e := nrm_self a
    rw [this] at e
    rw [e]
def parseD (s : List UInt8) : Option Dy := match readD s with
  | some a => if dyTxt a = s then some a else none
  | none => none
theorem parseD_iff {s : List UInt8} {a : Dy} : parseD s = some a ↔ dyTxt a = s := by
  unfold parseD
  constructor
  · intro h
    split at h
    · split at h
      · rename_i e; injection h with h; subst h; exact e
      · cases h
    · cases h
  · intro h
    subst h
    rw [readD_txt]
    simp
theorem parseD_none {s : List UInt8} (h : ∀ a : Dy, dyTxt a ≠ s) : parseD s = none := by
  cases hp : parseD s with
  | none => rfl
  | some a => exact absurd (parseD_iff.1 hp) (h a)
end Go.Ax

set_option maxRecDepth 100000
namespace Go.Ax
open Go Go.RowKit
def digs10 : List UInt8 := [48, 49, 50, 51, 52, 53, 54, 55, 56, 57]
theorem digs_contains (b : UInt8) : digs10.contains b = decide (isD b) := by
  have h : ∀ k, k < 256 → digs10.contains (UInt8.ofNat k) = decide (isD (UInt8.ofNat k)) := by decide +kernel
  have := h b.toNat b.toNat_lt
  rwa [show UInt8.ofNat b.toNat = b from UInt8.ofNat_toNat] at this
theorem all_of_dropWhile {α : Type} {p : α → Bool} {l : List α} (h : ∀ x ∈ l.dropWhile p, p x = true) : ∀ x ∈ l, p x = true := by
  induction l with
  | nil => intro x hx; cases hx
  | cons a l ih =>
    intro x hx
    by_cases ha : p a = true
    · rw [List.dropWhile_cons_of_pos ha] at h
      rcases List.mem_cons.1 hx with rfl | hx
      · exact ha
      · exact ih h x hx
    · rw [List.dropWhile_cons_of_neg ha] at h
      exact h x hx
theorem dropWhile_nil {α : Type} {p : α → Bool} {l : List α} : l.dropWhile p = [] ↔ ∀ x ∈ l, p x = true := by
  induction l with
  | nil => simp
  | cons a l ih =>
    by_cases ha : p a = true
    · rw [List.dropWhile_cons_of_pos ha, ih]; simp [ha]
    · rw [List.dropWhile_cons_of_neg ha]; simp [ha]
theorem trim_digs (s : List UInt8) : Lib.trimS s digs10 = [] ↔ allD s := by
  unfold Lib.trimS Lib.trimLeftS
  rw [dropWhile_nil]
  unfold Lib.trimRightS allD
  simp only [digs_contains, decide_eq_true_eq, List.mem_reverse]
  constructor
  · intro h x hx
    have := all_of_dropWhile (p := fun b => decide (isD b)) (l := s.reverse) (fun x hx => decide_eq_true (h x hx)) x (List.mem_reverse.2 hx)
    simpa using this
  · intro h x hx
    exact h x (List.mem_reverse.1 ((List.dropWhile_sublist _).mem hx))
theorem head_pre (s : List UInt8) : Lib.hasPrefix s [45] = decide (s.head? = some 45) := by
  unfold Lib.hasPrefix
  cases s with
  | nil => rfl
  | cons b l =>
    simp only [List.isPrefixOf, Bool.and_true, List.head?_cons, Option.some.injEq]
    by_cases h : b = 45
    · subst h; rfl
    · have h1 : ((45 : UInt8) == b) = false := by rw [beq_eq_false_iff_ne]; exact fun e => h e.symm
      rw [h1, decide_eq_false h]
theorem trim_pre (s : List UInt8) : Lib.trimPrefix s [45] = bodyOf s := by
  unfold Lib.trimPrefix bodyOf
  rw [head_pre]
  by_cases h : s.head? = some 45
  · rw [decide_eq_true h, if_pos rfl, if_pos h]; simp
  · rw [decide_eq_false h, if_neg (by decide), if_neg h]
theorem ext_mk (l : List UInt8) (a b : Nat) : (⟨l.toArray⟩ : ByteArray).extract a b = ⟨((l.drop a).take (b - a)).toArray⟩ := by
  apply ByteArray.ext
  rw [ByteArray.data_extract]
  simp [List.take_drop]
theorem pre3 (m : List UInt8) : bar.isPrefixOf m = decide (m.take 3 = bar) := by
  unfold bar
  match m with
  | [] => rfl
  | [a] => simp [List.isPrefixOf]
  | [a, b] => simp [List.isPrefixOf]
  | a :: b :: c :: m =>
    simp only [List.isPrefixOf, Bool.and_true, List.take_succ_cons, List.take_zero, List.cons.injEq, and_true]
    by_cases h1 : a = 47
    · by_cases h2 : b = 50
      · by_cases h3 : c = 94
        · subst h1 h2 h3; rfl
        · have : ((94 : UInt8) == c) = false := by rw [beq_eq_false_iff_ne]; exact fun e => h3 e.symm
          simp [this, h3]
      · have : ((50 : UInt8) == b) = false := by rw [beq_eq_false_iff_ne]; exact fun e => h2 e.symm
        simp [this, h2]
    · have : ((47 : UInt8) == a) = false := by rw [beq_eq_false_iff_ne]; exact fun e => h1 e.symm
      simp [this, h1]
theorem occ_ext (l : List UInt8) (i : Nat) : decide ((⟨((l.drop i).take 3).toArray⟩ : ByteArray) = ⟨#[47, 50, 94]⟩) = Lib.occAt l bar i := by
  unfold Lib.occAt
  rw [pre3]
  exact decide_eq_decide.2 (by rw [show (⟨#[47, 50, 94]⟩ : ByteArray) = ⟨bar.toArray⟩ from rfl, bytes_eq])
def noBar (l : List UInt8) (k : Nat) : Prop := ∀ j, j < k → Lib.occAt l bar j = false
theorem occ_len {l : List UInt8} {i : Nat} (h : Lib.occAt l bar i = true) : i + 3 ≤ l.length := by
  unfold Lib.occAt at h
  rw [pre3, decide_eq_true_eq] at h
  have := congrArg List.length h
  simp [bar] at this
  omega
theorem noBar_all {l : List UInt8} {k : Nat} (h : noBar l k) (hk : l.length < k + 3) : ∀ j, Lib.occAt l bar j = false := fun j => by
  cases ho : Lib.occAt l bar j with
  | false => rfl
  | true => have := occ_len ho; rw [h j (by omega)] at ho; exact ho.symm
theorem head_txt (a : Dy) : decide ((dyTxt a).head? = some 45) = sg a := by
  unfold dyTxt txtOf
  cases hs : sg a with
  | true => simp
  | false =>
    simp only [Bool.false_eq_true, if_false, List.nil_append]
    refine decide_eq_false fun h => ?_
    cases hd : Lib.decDigits a.n.natAbs with
    | nil => exact dec_ne _ hd
    | cons b l =>
      rw [hd] at h
      simp only [List.cons_append, List.head?_cons, Option.some.injEq] at h
      exact dec_nominus a.n.natAbs b (by rw [hd]; exact List.mem_cons_self ..) h
theorem body_txt (a : Dy) : bodyOf (dyTxt a) = Lib.decDigits a.n.natAbs ++ (if 0 < a.d then bar ++ Lib.decDigits a.d else []) := by
  have h := head_txt a
  unfold bodyOf
  cases hs : sg a with
  | true =>
    rw [hs, decide_eq_true_eq] at h
    rw [if_pos h]
    unfold dyTxt txtOf
    rw [hs]
    simp
  | false =>
    rw [hs, decide_eq_false_iff_not] at h
    rw [if_neg h]
    unfold dyTxt txtOf
    rw [hs]
    simp
theorem bar_first {s : List UInt8} {a : Dy} (h : dyTxt a = s) {i : Nat} (hn : noBar (bodyOf s) i) (ho : Lib.occAt (bodyOf s) bar i = true) : 0 < a.d ∧ i = (Lib.decDigits a.n.natAbs).length := by
  subst h
  rw [body_txt] at hn ho
  by_cases hd : 0 < a.d
  · rw [if_pos hd] at hn ho
    refine ⟨hd, ?_⟩
    rcases Nat.lt_trichotomy i (Lib.decDigits a.n.natAbs).length with h1 | h1 | h1
    · rw [occ_no (fun e => ?_)] at ho
      · cases ho
      · rw [List.getElem?_append_left h1] at e
        exact dec_nobar _ _ (List.mem_of_getElem? e) rfl
    · exact h1
    · have := hn _ h1
      rw [occ_at] at this; cases this
  · rw [if_neg hd, List.append_nil] at ho
    rw [occ_no (fun e => dec_nobar _ _ (List.mem_of_getElem? e) rfl)] at ho
    cases ho
theorem bar_none {s : List UInt8} {a : Dy} (h : dyTxt a = s) (hn : ∀ j, Lib.occAt (bodyOf s) bar j = false) : a.d = 0 ∧ bodyOf s = Lib.decDigits a.n.natAbs := by
  subst h
  rw [body_txt] at hn ⊢
  by_cases hd : 0 < a.d
  · rw [if_pos hd] at hn
    have := hn (Lib.decDigits a.n.natAbs).length
    rw [occ_at] at this; cases this
  · rw [if_neg hd, List.append_nil]
    exact ⟨by omega, rfl⟩
theorem bar_parts {s : List UInt8} {a : Dy} (h : dyTxt a = s) {i : Nat} (hn : noBar (bodyOf s) i) (ho : Lib.occAt (bodyOf s) bar i = true) : (bodyOf s).take i = Lib.decDigits a.n.natAbs ∧ (bodyOf s).drop (i + 3) = Lib.decDigits a.d ∧ 0 < a.d ∧ a.d ≤ 65536 := by
  obtain ⟨h1, h2⟩ := bar_first h hn ho
  subst h
  rw [body_txt, if_pos h1, h2]
  refine ⟨List.take_left .., ?_, h1, a.ok.1⟩
  rw [← List.append_assoc, show (Lib.decDigits a.n.natAbs).length + 3 = (Lib.decDigits a.n.natAbs ++ bar).length by simp [bar], List.drop_left]
theorem neg_txt {s : List UInt8} {a : Dy} (h : dyTxt a = s) : decide (s.head? = some 45) = sg a := by subst h; exact head_txt a
theorem words_pow {a k N : Nat} (h1 : a < 10 ^ k) (h2 : k ≤ N) : (words a).length ≤ N :=
  words_length_le (Nat.lt_of_lt_of_le h1 (Nat.le_trans (Nat.pow_le_pow_right (by decide) h2) (Nat.pow_le_pow_left (by decide) _)))
end Go.Ax

set_option maxRecDepth 100000
namespace Go.Ax
open Go Go.RowKit
structure Tail (s : List UInt8) (neg : Bool) (l : List UInt8) (den : Nat) : Prop where
  h1 : ¬ numeral l → parseD s = none
  h2 : validR neg (words (dvl l 0)) (den : Int) = false → parseD s = none
  h3 : ∀ x : Dy, sg x = neg → ms x = words (dvl l 0) → dn x = (den : Int) → dyTxt x ≠ s → parseD s = none
theorem parse_none {s : List UInt8} (h : ∀ a : Dy, dyTxt a = s → False) : parseD s = none := parseD_none fun a e => h a e
theorem tail_of {s : List UInt8} {neg : Bool} {l : List UInt8} {den : Nat} (h : ∀ a : Dy, dyTxt a = s → neg = sg a ∧ l = Lib.decDigits a.n.natAbs ∧ den = a.d) : Tail s neg l den where
  h1 hn := parse_none fun a e => hn (by rw [(h a e).2.1]; exact numeral_dec _)
  h2 hv := parse_none fun a e => by
    obtain ⟨h1, h2, h3⟩ := h a e
    have := valid_of a
    rw [h2, dvl_dec, h1, h3] at hv
    rw [show validR (sg a) (words a.n.natAbs) (a.d : Int) = true from this] at hv
    cases hv
  h3 x e1 e2 e3 hne := parse_none fun a e => by
    obtain ⟨h1, h2, h3⟩ := h a e
    rw [h2, dvl_dec] at e2
    have q1 : x.n.natAbs = a.n.natAbs := by have := congrArg val e2; rwa [ms_val, val_words] at this
    have q2 : x.d = a.d := by rw [h3] at e3; exact Int.ofNat.inj e3
    have q3 : x.n = a.n := by rw [← sgn_sg x, ← sgn_sg a, q1, e1, h1]
    exact hne (by rw [← e, Dy.eq q3 q2])
theorem tail_none {s : List UInt8} (hn : ∀ j, Lib.occAt (bodyOf s) bar j = false) : Tail s (decide (s.head? = some 45)) (bodyOf s) 0 :=
  tail_of fun a e => ⟨neg_txt e, (bar_none e hn).2, (bar_none e hn).1.symm⟩
theorem tail_some {s : List UInt8} {i : Nat} (hn : noBar (bodyOf s) i) (ho : Lib.occAt (bodyOf s) bar i = true) : Tail s (decide (s.head? = some 45)) ((bodyOf s).take i) (dvl ((bodyOf s).drop (i + 3)) 0) :=
  tail_of fun a e => ⟨neg_txt e, (bar_parts e hn ho).1, by rw [(bar_parts e hn ho).2.1, dvl_dec]⟩
theorem behind_bad {s : List UInt8} {i : Nat} (hn : noBar (bodyOf s) i) (ho : Lib.occAt (bodyOf s) bar i = true) (h : ¬ numeral ((bodyOf s).drop (i + 3)) ∨ dvl ((bodyOf s).drop (i + 3)) 0 = 0 ∨ 65536 < dvl ((bodyOf s).drop (i + 3)) 0) : parseD s = none :=
  parse_none fun a e => by
    obtain ⟨_, h2, h3, h4⟩ := bar_parts e hn ho
    rw [h2, dvl_dec] at h
    rcases h with h | h | h
    · exact h (numeral_dec _)
    · omega
    · omega
theorem noBar_succ {l : List UInt8} {k : Nat} (h : noBar l k) (hk : Lib.occAt l bar k = false) : noBar l (k + 1) := fun j hj => by
  by_cases e : j = k
  · rw [e]; exact hk
  · exact h j (by omega)
def pz (s : List UInt8) : Dy := (parseD s).getD Dy.zero
def pc (s : List UInt8) : Int := if (parseD s).isSome then 0 else 2
theorem pz_none {s : List UInt8} (h : parseD s = none) : pz s = Dy.zero ∧ pc s = 2 := by unfold pz pc; rw [h]; exact ⟨rfl, rfl⟩
theorem pz_some {s : List UInt8} {a : Dy} (h : parseD s = some a) : pz s = a ∧ pc s = 0 := by unfold pz pc; rw [h]; exact ⟨rfl, rfl⟩
end Go.Ax

namespace Go.Ax
open Go Go.RowKit
variable {H : Type} {enc : TypeId × Value → H}
theorem gh_of_err {P : Program} {w : World} {laid : List (String × DataW Unit)} (h : laidMetH P laid w) (hp : (laid.all fun x => x.2.handleName?.isNone) = true) {n nm : String} {d : DataW Unit} (hm : (n, .iface nm d) ∈ laid) {g : Nat} {t : TypeId} {ms : Array (String × TypeId)}
    (hg : P.globalNamed n = some g) (h1 : g ≠ 1) (ht : (P.globals[g]?).map (·.type) = some t) (hi : P.underlying t = some (.interface ms)) : GH w g [] := by
  rw [MakeChecks.laidMetH_plain _ _ _ hp] at h
  obtain ⟨ps, hv, _⟩ := h
  obtain ⟨g', t', cs, fuel, p, q1, q2, q3, q4⟩ := laidVars_mem hv hm
  obtain rfl := Option.some.inj (hg.symm.trans q1)
  obtain rfl := Option.some.inj (ht.symm.trans q2)
  obtain ⟨_, u, v, hcs, _⟩ := iface_of_trod hi q4
  obtain ⟨l⟩ := cs
  have hcs : l = [.iface u v] := hcs
  subst hcs
  exact gh_of_var hg h1 q3
theorem handed_both {a : Assume} {C : Checked} {os : Os} {f : FuncId} {fn : Func} {s : ChangeSpec} {conds : List PathCond} {apart fresh handsOn again : Bool} {X : World → Array Value → Prop}
    (hX : ∀ (w w' : World) (args : Array Value), w.heap = w'.heap → X w args → X w' args)
    (own : ownKnob C.prog.godebug = none) (started : os.Started) (noInit : C.prog.inits.idxOf? f = none) (hfn : C.prog.funcs[f]? = some fn)
    (witness : ∃ (w : World) (tape : Tape) (i : Input), w.os = os ∧ (w.forCall tape i).Shaped C.prog ∧ i.vars = [] ∧ Input.okWide C.prog (w.forCall tape i) .any w.heap.size f i ∧
      ((s.pre enc C.prog fn conds apart (w.forCall tape i).memory i.args ∧ X (w.forCall tape i).memory i.args) ∧ sizedMet enc C.prog fn (OpenSpec.ofChange s) apart (w.forCall tape i).memory i.args) ∧ a.holds C.prog (lone (Frame.enter C.prog f i.args .normal) [] (w.forCall tape i)))
    (contract : ∀ (W : World) (base : Nat) (args : Array Value) (ds gs : List (DataW H)) (before : List MemPlace), W.ShapedOpen C.prog → X W args →
      (∀ (j : Nat) t v, fn.params[j]? = some t → args[j]? = some v → Value.okWide C.prog W .any base t v) →
      DataW.Whole enc C.prog fn.params.toList s.vars apart W args.toList ds gs before →
      conds.all (PathCond.test C.prog ⟨fn.params.toList, ds, s.plain.varTypes C.prog, gs⟩) = true →
      Calls C.prog f args W fun e W' => ∃ v, e = .returned v ∧ s.post enc C.prog fn apart fresh handsOn again W args v W') :
    ReturnsInHanded a C os f .any (fun w args => (s.pre enc C.prog fn conds apart w args ∧ X w args) ∧ sizedMet enc C.prog fn (OpenSpec.ofChange s) apart w args) (s.post enc C.prog fn apart fresh handsOn again) := by
  refine returnsInHanded_of_calls own started noInit witness fun w tape i _ shape _ ok pre _ => ?_
  obtain ⟨⟨⟨ds, gs, before, whole, met⟩, x⟩, _⟩ := pre
  have vals := ok.2.2.2
  obtain ⟨fn', at', _, _, _, _, val⟩ := vals
  obtain rfl := Option.some.inj (at'.symm.trans hfn)
  have c := contract (w.forCall tape i) w.heap.size i.args ds gs before shape (hX (w.forCall tape i).memory (w.forCall tape i) _ (by rfl) x) val (DataW.Whole.of_heap (w' := w.forCall tape i) (by rfl) whole) met
  exact c.mono fun e W' h => by
    obtain ⟨v, rfl, hp⟩ := h
    exact ChangeSpec.post_blind hp
end Go.Ax

