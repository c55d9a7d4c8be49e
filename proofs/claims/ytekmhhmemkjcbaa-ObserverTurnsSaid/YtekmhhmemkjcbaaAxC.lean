/- The abstract executor, part 12: a region that draws its order ends as the order of the text does. -/
import Derived.Test.YtekmhhmemkjcbaaAxB
set_option linter.unusedSimpArgs false
set_option linter.unusedVariables false
set_option linter.deprecated false
namespace Go.Ax
open Go Go.RowKit

section
variable {C : Cx} {D : Base} {S0 : Nat → Prop} {w0 : World}

def count (listed : Array Bool) (n : Nat) : Nat := ((List.range n).filter fun i => !listed.getD i true).length

theorem count_set {listed : Array Bool} {n i : Nat} (hs : listed.size = n) (hi : i < n) (hun : listed.getD i true = false) : count listed n = count (listed.setIfInBounds i true) n + 1 := by
  unfold count
  have key : ∀ m, m ≤ n → ((List.range m).filter fun j => !listed.getD j true).length = ((List.range m).filter fun j => !(listed.setIfInBounds i true).getD j true).length + (if i < m then 1 else 0) := by
    intro m
    induction m with
    | zero => intro _; simp
    | succ m ih =>
      intro hm
      have ih := ih (by omega)
      rw [List.range_succ, List.filter_append, List.filter_append, List.length_append, List.length_append, ih]
      by_cases him : i = m
      · subst him
        have : (listed.setIfInBounds i true).getD i true = true := by simp [hs, hi]
        have hun' : listed[i]?.getD true = false := by simpa using hun
        simp at this
        simp [this, hun', List.filter_cons]
      · have e1 := getD_set_ne (listed := listed) true him
        have hlt : (i < m + 1) = (i < m) := by simp only [eq_iff_iff]; omega
        simp only [hlt]
        rw [show ([m].filter fun j => !(listed.setIfInBounds i true).getD j true) = ([m].filter fun j => !listed.getD j true) by simp only [List.filter_cons, e1, List.filter_nil]]
        omega
  have := key n (Nat.le_refl _)
  rw [if_pos hi] at this
  exact this

theorem getD_both' {listed : Array Bool} {i : Nat} (h : listed.getD i true = false) : listed.getD i false = false ∧ i < listed.size := by
  rcases Nat.lt_or_ge i listed.size with h' | h'
  · simp [h'] at h ⊢; exact h
  · simp [Array.getElem?_eq_none h'] at h

/-- What holds while a region runs, whichever of its operations have run. -/
structure Mid (C : Cx) (D : Base) (S0 : Nat → Prop) (w0 : World) (ops : Array Oper) (recs : List Rc) (s : AS) (listed : Array Bool) (a : Act) (w : World) : Prop where
  defers : a.defers = []
  nt : a.tmps.size = C.nt
  size : listed.size = ops.size
  closed : Closed ops.toList (fun j => listed.getD j false)
  ex : ∃ σ S, Fit D S0 w0 σ S (memL (fun j => listed.getD j false) s.next 0 (zipR ops.toList recs) s.mem) (fun b => b < s.next ∨ (s.next ≤ b ∧ b < s.next + ops.size ∧ listed.getD (b - s.next) false = true)) w ∧
    EnvOK σ S w (envL (fun j => listed.getD j false) 0 (zipR ops.toList recs) s.env) a

theorem zip_get {l : List Oper} {recs : List Rc} (hl : recs.length = l.length) (j : Nat) (o : Oper) (rc : Rc) : (zipR l recs)[j]? = some (o, rc) ↔ l[j]? = some o ∧ recs[j]? = some rc := by
  unfold zipR
  rw [List.getElem?_zip_eq_some]

theorem mid_step {ops : Array Oper} {recs : List Rc} {s s' : AS} (hT : TypesOK C.P C.ti) (hG : D.G = C.G) (ht : Tr C ops.toList s ops.toList recs s') (hck : drawCheck ops.toList (recs.map Rc.fp) = true)
    {listed : Array Bool} {a : Act} {w : World} (hm : Mid C D S0 w0 ops recs s listed a w) {i : Nat} (hi : i ∈ Region.ready .any ops listed) {Q : Exit → Act → World → Prop} {K : Act → World → Prop}
    (hK : ∀ a' w', Mid C D S0 w0 ops recs s (listed.setIfInBounds i true) a' w' → K a' w') : wpOp C.P ops Q i K a w := by
  obtain ⟨hun, o, ho, hall⟩ := mem_ready.1 hi
  obtain ⟨hd, hnt, hsz, hcl, σ, S, hF, hE⟩ := hm
  obtain ⟨hunf, hilt⟩ := getD_both' hun
  have hin : i < ops.size := by rw [← hsz]; exact hilt
  have hlen := tr_len ht
  have ho' : ops.toList[i]? = some o := by simpa using ho
  have hil : i < ops.toList.length := by simpa using hin
  obtain ⟨rc, hrc⟩ : ∃ rc, recs[i]? = some rc := ⟨recs[i]'(by omega), by simp [show i < recs.length by omega]⟩
  obtain ⟨ck1, ck2, ck3⟩ := check_spec hck
  obtain ⟨hdst, hg⟩ := tr_get (n0 := s.next) 0 ht (by omega) i o rc ho' hrc
  simp only [Nat.zero_add] at hg
  -- what runs before, what runs behind
  let L : Nat → Bool := fun j => listed.getD j false
  have ord : ∀ (j : Nat) (o' : Oper) (rc' : Rc), ops.toList[j]? = some o' → recs[j]? = some rc' → (i < j → conf ops.toList o o' rc.fp rc'.fp = true → L j = false) ∧ (j < i → conf ops.toList o' o rc'.fp rc.fp = true → L j = true) := fun j o' rc' hj hrj => by
    have f1 : (recs.map Rc.fp)[i]? = some rc.fp := by simp [hrc]
    have f2 : (recs.map Rc.fp)[j]? = some rc'.fp := by simp [hrj]
    constructor
    · intro hij hc
      cases hL : L j with
      | false => rfl
      | true =>
        have := ck3 L hcl i j o o' _ _ hij ho' hj f1 f2 hc hL
        rw [show L i = false from hunf] at this
        cases this
    · intro hji hc
      let L' : Nat → Bool := fun q => L q || decide (q = i)
      have hcl' : Closed ops.toList L' := fun q oq hoq hLq e he hb => by
        simp only [L', Bool.or_eq_true, decide_eq_true_eq] at hLq ⊢
        rcases hLq with hLq | rfl
        · exact .inl (hcl q oq hoq hLq e he hb)
        · have : oq = o := Option.some.inj (hoq.symm.trans ho')
          subst this
          exact .inl (hall e he hb)
      have := ck3 L' hcl' j i o' o _ _ hji hj ho' f2 f1 hc (by simp [L'])
      simp only [L', Bool.or_eq_true, decide_eq_true_eq] at this
      rcases this with h | h
      · exact h
      · omega
  have agreeT : ∀ t ∈ looks ops.toList o, look (envL (fun j => decide (j < i)) 0 (zipR ops.toList recs) s.env) t = look (envL L 0 (zipR ops.toList recs) s.env) t := fun t htl => by
    refine envL_agree _ 0 _ _ (fun j o' rc' hj hdj => ?_) rfl
    obtain ⟨hj1, hj2⟩ := (zip_get hlen j o' rc').1 hj
    simp only [Nat.zero_add]
    rcases Nat.lt_trichotomy j i with hlt | heq | hgt
    · have hc : conf ops.toList o' o rc'.fp rc.fp = true := by simp [conf, optMem, hdj, htl]
      rw [(ord j o' rc' hj1 hj2).2 hlt hc]; simpa using hlt
    · subst heq; simp; exact hunf
    · have hc : conf ops.toList o o' rc.fp rc'.fp = true := by simp [conf, optMem, hdj, htl]
      rw [(ord j o' rc' hj1 hj2).1 hgt hc]; simp; omega
  have wrOf' : ∀ (j : Nat) (o' : Oper) (rc' : Rc) (b : Nat), ops.toList[j]? = some o' → recs[j]? = some rc' → touch (s.next + j) rc'.up = some b → rc'.wr = some b := fun j o' rc' b hj hrj htb => by
    obtain ⟨_, hg'⟩ := tr_get (n0 := s.next) 0 ht (by omega) j o' rc' hj hrj
    simp only [Nat.zero_add] at hg'
    exact touch_wr hg' b htb
  have agreeM : ∀ b, rc.rd = some b ∨ rc.wr = some b → look (memL (fun j => decide (j < i)) s.next 0 (zipR ops.toList recs) s.mem) b = look (memL L s.next 0 (zipR ops.toList recs) s.mem) b := fun b hb => by
    refine memL_agree _ 0 _ _ (fun j o' rc' hj htj => ?_) rfl
    obtain ⟨hj1, hj2⟩ := (zip_get hlen j o' rc').1 hj
    simp only [Nat.zero_add] at htj ⊢
    have hw := wrOf' j o' rc' b hj1 hj2 htj
    rcases Nat.lt_trichotomy j i with hlt | heq | hgt
    · have hc : conf ops.toList o' o rc'.fp rc.fp = true := by
        rcases hb with hb | hb <;> simp [conf, Rc.fp, optEq, hw, hb]
      rw [(ord j o' rc' hj1 hj2).2 hlt hc]; simpa using hlt
    · subst heq; simp; exact hunf
    · have hc : conf ops.toList o o' rc.fp rc'.fp = true := by
        rcases hb with hb | hb <;> simp [conf, Rc.fp, optEq, hw, hb]
      rw [(ord j o' rc' hj1 hj2).1 hgt hc]; simp; omega
  have hgL : RecG C ⟨envL L 0 (zipR ops.toList recs) s.env, memL L s.next 0 (zipR ops.toList recs) s.mem, s.next + i⟩ o (gd ops.toList o) rc := recG_congr hg agreeT agreeM rfl
  -- the state behind it
  let listed' := listed.setIfInBounds i true
  have hL' : ∀ j, listed'.getD j false = (L j || decide (j = i)) := fun j => by
    by_cases hji : j = i
    · subst hji; simp [listed', hilt]
    · have := getD_set_ne (listed := listed) false (fun e => hji e.symm)
      simp only [listed', this, hji, decide_false, Bool.or_false]; rfl
  have envEq : ∀ t, look (envL (fun j => listed'.getD j false) 0 (zipR ops.toList recs) s.env) t = look (putE o.dst rc.val (envL L 0 (zipR ops.toList recs) s.env)) t := fun t => by
    by_cases hdt : o.dst = some t
    · rw [envL_last (zipR ops.toList recs) 0 i s.env (envL L 0 (zipR ops.toList recs) s.env) o rc ((zip_get hlen i o rc).2 ⟨ho', hrc⟩) hdt (by simp [hL']) (fun j o' rc' hij hj hdj => by
        obtain ⟨hj1, hj2⟩ := (zip_get hlen j o' rc').1 hj
        have hc : conf ops.toList o o' rc.fp rc'.fp = true := by simp [conf, optEq, hdt, hdj]
        have := (ord j o' rc' hj1 hj2).1 hij hc
        simp only [Nat.zero_add, hL', this, Bool.false_or, decide_eq_false_iff_not]; omega)]
    · rw [look_putE_ne hdt]
      refine envL_agree _ 0 _ _ (fun j o' rc' hj hdj => ?_) rfl
      obtain ⟨hj1, hj2⟩ := (zip_get hlen j o' rc').1 hj
      simp only [Nat.zero_add, hL']
      have hne : j ≠ i := fun e => by
        subst e
        have : o' = o := Option.some.inj (hj1.symm.trans ho')
        subst this
        exact hdt hdj
      simp [hne]
  have memEq : ∀ b, look (memL (fun j => listed'.getD j false) s.next 0 (zipR ops.toList recs) s.mem) b = look (updM (s.next + i) rc.up (memL L s.next 0 (zipR ops.toList recs) s.mem)) b := fun b => by
    by_cases htb : touch (s.next + i) rc.up = some b
    · have hw := wrOf' i o rc b ho' hrc htb
      have := memL_last (L := fun j => listed'.getD j false) (n0 := s.next) (b := b) (zipR ops.toList recs) 0 i s.mem (memL L s.next 0 (zipR ops.toList recs) s.mem) o rc ((zip_get hlen i o rc).2 ⟨ho', hrc⟩) (by simpa using htb) (by simp [hL']) (fun j o' rc' hij hj hdj => by
        obtain ⟨hj1, hj2⟩ := (zip_get hlen j o' rc').1 hj
        have hw' := wrOf' j o' rc' b hj1 hj2 (by simpa using hdj)
        have hc : conf ops.toList o o' rc.fp rc'.fp = true := by simp [conf, Rc.fp, optEq, hw, hw']
        have := (ord j o' rc' hj1 hj2).1 hij hc
        simp only [Nat.zero_add, hL', this, Bool.false_or, decide_eq_false_iff_not]; omega)
      simpa using this
    · rw [look_updM_ne htb]
      refine memL_agree _ 0 _ _ (fun j o' rc' hj hdj => ?_) rfl
      obtain ⟨hj1, hj2⟩ := (zip_get hlen j o' rc').1 hj
      simp only [Nat.zero_add] at hdj
      simp only [Nat.zero_add, hL']
      have hne : j ≠ i := fun e => by
        subst e
        have : rc' = rc := Option.some.inj (hj2.symm.trans hrc)
        subst this
        exact htb hdj
      simp [hne]
  have mid' : ∀ (x : Value) (w' : World) (σ' : Sig) (S' : Nat → Prop), Fit D S0 w0 σ' S' (updM (s.next + i) rc.up (memL L s.next 0 (zipR ops.toList recs) s.mem)) (grown (fun b => b < s.next ∨ (s.next ≤ b ∧ b < s.next + ops.size ∧ listed.getD (b - s.next) false = true)) (s.next + i) rc.up) w' →
      EnvOK σ' S' w' (envL L 0 (zipR ops.toList recs) s.env) a → Rel σ' S' w' x rc.val → K (a.put o.dst x) w' := fun x w' σ' S' hF' hE' hr => by
    refine hK _ _ ⟨by rw [put_defers]; exact hd, by rw [put_size]; exact hnt, by simp [hsz], fun j oj hoj hLj e he hb => ?_, σ', S', hF'.congr memEq (fun b hb => ?_), ?_⟩
    · simp only [listed', hL', Bool.or_eq_true, decide_eq_true_eq] at hLj ⊢
      rcases hLj with hLj | rfl
      · exact .inl (hcl j oj hoj hLj e he hb)
      · have : oj = o := Option.some.inj (hoj.symm.trans ho')
        subst this
        exact .inl (hall e he hb)
    · have old : (b < s.next ∨ (s.next ≤ b ∧ b < s.next + ops.size ∧ listed.getD (b - s.next) false = true)) → (b < s.next ∨ (s.next ≤ b ∧ b < s.next + ops.size ∧ listed'.getD (b - s.next) false = true)) := fun h => by
        rcases h with h | ⟨h1, h2, h3⟩
        · exact .inl h
        · refine .inr ⟨h1, h2, ?_⟩
          rw [hL', show L (b - s.next) = true from h3]; rfl
      cases hup : rc.up with
      | keep => rw [hup] at hb; exact old hb
      | set c m => rw [hup] at hb; exact old hb
      | new m =>
        rw [hup] at hb
        rcases hb with hb | rfl
        · exact old hb
        · refine .inr ⟨by omega, by omega, ?_⟩
          rw [hL', show s.next + i - s.next = i by omega]; simp
    · refine EnvOK.congr (env := putE o.dst rc.val (envL L 0 (zipR ops.toList recs) s.env)) ?_ envEq
      cases hdd : o.dst with
      | none => simpa [putE, Act.put] using hE'
      | some d =>
        simp only [putE]
        rw [hdd] at hdst
        exact hE'.put (by rw [hnt]; exact hdst) hr
  have hUi : ¬ (s.next + i < s.next ∨ (s.next ≤ s.next + i ∧ s.next + i < s.next + ops.size ∧ listed.getD (s.next + i - s.next) false = true)) := by
    rw [show s.next + i - s.next = i by omega, hunf]
    simp
  have upd_eq : ∀ s1 : AS, (s1.upd rc.up).mem = updM s1.next rc.up s1.mem := fun s1 => by cases rc.up <;> rfl
  unfold wpOp
  simp only [ho]
  rw [gWanted_eq]
  have run : RecOK C ⟨envL L 0 (zipR ops.toList recs) s.env, memL L s.next 0 (zipR ops.toList recs) s.mem, s.next + i⟩ o rc → o.wp C.P a w K Q := fun h =>
    recOK_sound (s := ⟨envL L 0 (zipR ops.toList recs) s.env, memL L s.next 0 (zipR ops.toList recs) s.mem, s.next + i⟩) hT hG hUi hF hE h (fun x w' σ' S' hF' hE' hr => mid' x w' σ' S' (by rw [upd_eq] at hF'; exact hF') hE' hr)
  generalize hgd : gd ops.toList o = g at hgL
  cases hgL with
  | none h => exact .inl (run h)
  | @yes t want rc hl h =>
    obtain ⟨v, hv, hvr⟩ := hE t _ hl
    have := rel_v hvr
    subst this
    rw [if_pos (by simp [gWanted, hv])]
    exact .inl (run h)
  | @no t want x hl hx =>
    obtain ⟨v, hv, hvr⟩ := hE t _ hl
    have := rel_v hvr
    subst this
    rw [if_neg (by rw [gWanted_no hv hx]; exact Bool.false_ne_true)]
    exact mid' undef w σ S hF hE (.v _)

theorem real_draw {id : Nat} {ops : Array Oper} {recs : List Rc} {s s' : AS} (hT : TypesOK C.P C.ti) (hG : D.G = C.G) (hmx : C.P.follows .mixedOrders = true) (ht : Tr C ops.toList s ops.toList recs s') (hck : drawCheck ops.toList (recs.map Rc.fp) = true)
    {a : Act} {w : World} (hs : Sim D S0 w0 C.nt s a w) {Q : Exit → Act → World → Prop} (hQ : ∀ a' w', Sim D S0 w0 C.nt s' a' w' → Q .normal a' w') : (Code.region id ops true).wp C.P Q a w := by
  obtain ⟨hd, hnt, σ, S, hF, hE⟩ := hs
  have hlen := tr_len ht
  obtain ⟨ck1, ck2, ck3⟩ := check_spec hck
  refine wp_region_any hmx ?_
  have main : ∀ (fuel : Nat) (listed : Array Bool) (a : Act) (w : World), count listed ops.size = fuel → Mid C D S0 w0 ops recs s listed a w → wpAny C.P .any ops Q fuel listed a w := by
    have done : ∀ (listed : Array Bool) (a : Act) (w : World), Mid C D S0 w0 ops recs s listed a w → Region.ready .any ops listed = [] → (∀ j, j < ops.size → listed.getD j false = true) := fun listed a w hm hr j hj => by
      have : ∀ n, n < ops.size → listed.getD n false = true := fun n => by
        induction n using Nat.strongRecOn with
        | _ n ih =>
          intro hn
          have hn' : n < listed.size := by rw [hm.size]; exact hn
          cases hL : listed.getD n false with
          | true => rfl
          | false =>
            exfalso
            have hmem : n ∈ Region.ready .any ops listed := mem_ready.2 ⟨by simp [hn'] at hL ⊢; exact hL, ops[n], by simp [hn], fun e he hb => by
              have hlt := edgesOK_spec ops.toList 0 n ops[n] ck2 (by simp [hn]) e he hb
              simp only [Nat.zero_add] at hlt
              exact ih e.on hlt (by omega)⟩
            rw [hr] at hmem; cases hmem
      exact this j hj
    have fin : ∀ (listed : Array Bool) (a : Act) (w : World), Mid C D S0 w0 ops recs s listed a w → Region.ready .any ops listed = [] → Q .normal a w := fun listed a w hm hr => by
      have hall := done listed a w hm hr
      obtain ⟨hd, hnt, hsz, hcl, σ, S, hF, hE⟩ := hm
      have he := tr_end (n0 := s.next) 0 ht (by omega)
      refine hQ a w ⟨hd, hnt, σ, S, ?_, ?_⟩
      · rw [he]
        refine hF.congr (fun b => memL_agree _ 0 _ _ (fun j o' rc' hj htj => ?_) rfl) (fun b hb => ?_)
        · obtain ⟨hj1, _⟩ := (zip_get hlen j o' rc').1 hj
          have : j < ops.size := by simpa using (List.getElem?_eq_some_iff.1 hj1).1
          simp only [Nat.zero_add]
          exact (hall j this).symm
        · simp only [Array.length_toList]; rcases hb with hb | hb <;> omega
      · rw [he]
        refine hE.congr (fun t => envL_agree _ 0 _ _ (fun j o' rc' hj htj => ?_) rfl)
        obtain ⟨hj1, _⟩ := (zip_get hlen j o' rc').1 hj
        have : j < ops.size := by simpa using (List.getElem?_eq_some_iff.1 hj1).1
        simp only [Nat.zero_add]
        exact (hall j this).symm
    intro fuel
    induction fuel with
    | zero =>
      intro listed a w hc hm
      have hr : Region.ready .any ops listed = [] := by
        cases hq : Region.ready .any ops listed with
        | nil => rfl
        | cons i l =>
          exfalso
          have hi : i ∈ Region.ready .any ops listed := by rw [hq]; simp
          obtain ⟨hun, o, ho, _⟩ := mem_ready.1 hi
          obtain ⟨_, hilt⟩ := getD_both' hun
          have := count_set hm.size (by rw [← hm.size]; exact hilt) hun
          omega
      exact ⟨hr, fin listed a w hm hr⟩
    | succ fuel ih =>
      intro listed a w hc hm
      refine ⟨fin listed a w hm, fun i hi => mid_step hT hG ht hck hm hi (fun a' w' hm' => ih _ a' w' ?_ hm')⟩
      obtain ⟨hun, o, ho, _⟩ := mem_ready.1 hi
      obtain ⟨_, hilt⟩ := getD_both' hun
      have := count_set hm.size (by rw [← hm.size]; exact hilt) hun
      omega
  have hrep : ∀ j, (Array.replicate ops.size false).getD j false = false := fun j => by
    rcases Nat.lt_or_ge j ops.size with h | h <;> simp [h]
  refine main _ _ _ _ ?_ ⟨hd, hnt, by simp, fun j o hj hL => ?_, σ, S, ?_, ?_⟩
  · unfold count
    rw [List.filter_eq_self.2 (fun i hi => by have := List.mem_range.1 hi; simp [this])]
    simp
  · have hL2 : (Array.replicate ops.size false).getD j false = true := hL
    rw [hrep] at hL2; cases hL2
  · have hke : Keeps σ S w { w with drawn := w.drawn + 1 } := ⟨fun _ _ => rfl, fun b k c e f hs hc => ⟨c, e, f, hc, Nat.le_refl _⟩⟩
    have hb : Below w.heap.size w { w with drawn := w.drawn + 1 } := (Below.refl _ w).drew
    have hF' : Fit D S0 w0 σ S s.mem (fun b => b < s.next) { w with drawn := w.drawn + 1 } := ⟨hF.below.then hb, hF.dom, hF.inj, hF.sbd, hF.s0, hF.s1, hF.glob, fun b m hm => by
      rcases hF.mem b m hm with hn | ⟨k, c, e, h1, h2, h3, h4, h5, h6, h7⟩
      · exact .inl hn
      exact .inr ⟨k, c, e, h1, h2, h3, h4, h5, h6, fun i r j av hi hj => by
        obtain ⟨x, hx, hr⟩ := h7 i r j av hi hj
        exact ⟨x, hx, Rel.mono (fun _ _ h => h) (fun _ h => h) hke hr⟩⟩⟩
    refine hF'.congr (fun b => ?_) (fun b hb => .inl hb)
    rw [show memL (fun j => (Array.replicate ops.size false).getD j false) s.next 0 (zipR ops.toList recs) s.mem = memL (fun j => decide (j < 0)) s.next 0 (zipR ops.toList recs) s.mem from by congr 1; funext j; rw [hrep]; simp]
    rw [memL_lt 0 _ _ _ _ (Nat.le_refl _)]
  · have hke : Keeps σ S w { w with drawn := w.drawn + 1 } := ⟨fun _ _ => rfl, fun b k c e f hs hc => ⟨c, e, f, hc, Nat.le_refl _⟩⟩
    have hE' : EnvOK σ S { w with drawn := w.drawn + 1 } s.env a := EnvOK.mono (fun _ _ h => h) (fun _ h => h) hke hE
    refine hE'.congr (fun t => ?_)
    rw [show envL (fun j => (Array.replicate ops.size false).getD j false) 0 (zipR ops.toList recs) s.env = envL (fun j => decide (j < 0)) 0 (zipR ops.toList recs) s.env from by congr 1; funext j; rw [hrep]; simp]
    rw [envL_lt 0 _ _ _ (Nat.le_refl _)]
end
end Go.Ax
