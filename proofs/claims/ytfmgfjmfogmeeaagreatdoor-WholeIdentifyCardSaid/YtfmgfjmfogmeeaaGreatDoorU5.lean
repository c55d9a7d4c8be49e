/- The abstract executor and plain facts, part 5 (of several texts, laid together). -/
import Derived.Test.YtfmgfjmfogmeeaaGreatDoorU1
import Derived.Test.YtfmgfjmfogmeeaaGreatDoorU2
import Derived.Test.YtfmgfjmfogmeeaaGreatDoorU3
import Derived.Test.YtfmgfjmfogmeeaaGreatDoorU4

set_option linter.unusedSimpArgs false
set_option linter.unusedVariables false
set_option linter.deprecated false
namespace Go.Ax
open Go Go.RowKit
def frzRs (b : Nat) (m : MB) : List (List AV) → List (List AV) → Prop
  | [], [] => True
  | r :: l, r' :: l' => frzR b m r r' ∧ frzRs b m l l'
  | _, _ => False
theorem frzRs_get {b : Nat} {m : MB} : ∀ {l l' : List (List AV)}, frzRs b m l l' → l'.length = l.length ∧ ∀ (i : Nat) (r' : List AV), l'[i]? = some r' → ∃ r, l[i]? = some r ∧ frzR b m r r'
  | [], [], _ => ⟨rfl, fun i r' h => by simp at h⟩
  | r :: l, q :: l', h => by
    obtain ⟨h1, h2⟩ := frzRs_get (l := l) (l' := l') h.2
    refine ⟨by simp [h1], fun i r' hi => ?_⟩
    match i with
    | 0 => simp at hi; subst hi; exact ⟨r, rfl, h.1⟩
    | i + 1 => simp at hi; obtain ⟨x, q1, q2⟩ := h2 i r' hi; exact ⟨x, by simpa using q1, q2⟩
theorem MBle.rows {b sz : Nat} {m : MB} {l l' : List (List AV)} (h : frzRs b m l l') : MBle b m ⟨sz, l⟩ ⟨sz, l'⟩ := by
  obtain ⟨h1, h2⟩ := frzRs_get h
  refine ⟨rfl, h1, fun i r' hi => ?_⟩
  obtain ⟨r, q1, q2⟩ := h2 i r' hi
  obtain ⟨g1, g2⟩ := frzR_get q2
  exact ⟨r, q1, g1, fun j av hj => g2 j av hj⟩
def argE : Nat → List AV → List (Nat × AV)
  | _, [] => []
  | k, a :: l => (k, a) :: argE (k + 1) l
theorem look_argE {E : List (Nat × AV)} : ∀ (l : List AV) (k t : Nat), look (argE k l ++ E) t = if k ≤ t ∧ t < k + l.length then l[t - k]? else look E t
  | [], k, t => by rw [if_neg (by simp)]; rfl
  | a :: l, k, t => by
    simp only [argE, List.cons_append, look, List.length_cons]
    split
    · rename_i h
      have h : k = t := h
      subst h
      rw [if_pos (by omega), Nat.sub_self]; rfl
    · rename_i h
      have h : ¬ k = t := h
      rw [look_argE l (k + 1) t]
      by_cases h2 : k + 1 ≤ t ∧ t < k + 1 + l.length
      · rw [if_pos h2, if_pos (by omega), show t - k = (t - (k + 1)) + 1 by omega]; rfl
      · rw [if_neg h2, if_neg (by omega)]
section
variable {C : Cx} {n : Nat} {r : List It} {s : AS} {Q : Lab → AS → Prop} {d : Option Tmp}
theorem callF_wk {f : FuncId} {as as1 : List AV} {res : AV} {s1 : AS} (h : CallOK C.P C.G f as1 res) (hlen : as1.length = as.length) (h0 : 0 < s1.next)
    (hs : s.env.all (fun p => decide (p.1 < 1000)) = true) (hs1 : s1.env.all (fun p => (look s.env p.1).isSome && decide (p.1 < 1000)) = true)
    (hw : Weak ⟨argE 1000 as ++ s.env, s.mem, s.next⟩ ⟨argE 1000 as1 ++ s1.env, s1.mem, s1.next⟩) (k : ex C n r (s1.put d res) Q) : callF C n r s Q f as d := by
  refine callF_big h.enters (s' := s1) ?_ k
  intro D S0 w0 σ S a w vs hG hF hE hsz hr
  obtain ⟨σ', S', hF1, hE1⟩ := hw D S0 w0 σ S w hF (fun _ => h0)
  let a2 : Act := { a with tmps := Array.ofFn (n := 1000 + vs.size) fun t => if t.1 < 1000 then (a.tmps[t.1]?).getD undef else (vs[t.1 - 1000]?).getD undef }
  have g1 : ∀ t, t < 1000 → a2.tmps[t]? = some ((a.tmps[t]?).getD undef) := fun t ht => by
    simp only [a2]
    rw [Array.getElem?_eq_getElem (by simp; omega), Array.getElem_ofFn]
    simp only [ht, if_true]
  have g2 : ∀ i, i < vs.size → a2.tmps[1000 + i]? = some ((vs[i]?).getD undef) := fun i hi => by
    simp only [a2]
    rw [Array.getElem?_eq_getElem (by simp; omega), Array.getElem_ofFn]
    simp only [show ¬ 1000 + i < 1000 by omega, if_false, show 1000 + i - 1000 = i by omega]
  have lt0 : ∀ t av, look s.env t = some av → t < 1000 := fun t av ht => by
    have hm : (t, av) ∈ s.env := by
      clear hs hs1 hw hE hE1 hF hr
      generalize s.env = E at ht
      induction E with
      | nil => cases ht
      | cons p E ih =>
        obtain ⟨t', x'⟩ := p
        simp only [look] at ht
        split at ht
        · rename_i he; injection ht with ht; subst he ht; exact List.Mem.head _
        · exact List.Mem.tail _ (ih ht)
    have := List.all_eq_true.1 hs _ hm
    simpa using this
  have E2 : EnvOK σ S w (argE 1000 as ++ s.env) a2 := fun t av ht => by
    rw [look_argE] at ht
    split at ht
    · rename_i hb
      have hi : t - 1000 < vs.size := by omega
      refine ⟨(vs[t - 1000]?).getD undef, by have := g2 (t - 1000) hi; rwa [show 1000 + (t - 1000) = t by omega] at this, ?_⟩
      rw [Array.getElem?_eq_getElem hi, Option.getD_some]
      exact hr (t - 1000) _ av (Array.getElem?_eq_getElem hi) ht
    · obtain ⟨x, h1, h2⟩ := hE t av ht
      refine ⟨x, ?_, h2⟩
      rw [g1 t (lt0 t av ht), h1]; rfl
  have E3 := hE1 a2 E2
  have args : ∀ (i : Nat) (x : Value) (av : AV), vs[i]? = some x → as1[i]? = some av → Rel σ' S' w x av := fun i x av hx hav => by
    have hi : i < as1.length := (List.getElem?_eq_some_iff.1 hav).1
    obtain ⟨y, h1, h2⟩ := E3 (1000 + i) av (by
      show look (argE 1000 as1 ++ s1.env) (1000 + i) = _
      rw [look_argE, if_pos (by omega), show 1000 + i - 1000 = i by omega]; exact hav)
    rw [g2 i (by omega), hx] at h1
    injection h1 with h1
    subst h1; exact h2
  have hE' : EnvOK σ' S' w s1.env a := fun t av ht => by
    have hm : (t, av) ∈ s1.env := by
      clear hs hs1 hw hE hE1 hF hr E2 E3 args
      generalize s1.env = E at ht
      induction E with
      | nil => cases ht
      | cons p E ih =>
        obtain ⟨t', x'⟩ := p
        simp only [look] at ht
        split at ht
        · rename_i he; injection ht with ht; subst he ht; exact List.Mem.head _
        · exact List.Mem.tail _ (ih ht)
    have hb := List.all_eq_true.1 hs1 _ hm
    simp only [Bool.and_eq_true, decide_eq_true_eq] at hb
    obtain ⟨av0, hav0⟩ := Option.isSome_iff_exists.1 hb.1
    obtain ⟨x, h1, _⟩ := hE t av0 hav0
    obtain ⟨y, h3, h4⟩ := E3 t av (by
      show look (argE 1000 as1 ++ s1.env) t = _
      rw [look_argE, if_neg (by omega)]; exact ht)
    rw [g1 t hb.2, h1] at h3
    injection h3 with h3
    refine ⟨x, h1, ?_⟩
    have : y = x := by rw [← h3]; rfl
    rw [← this]; exact h4
  refine (h.runs S' w vs hF1.sbd (by rw [← hG.1]; exact hF1.gs) (by omega) (fun i x av hx hav => ?_)).mono fun e w' hw' => ?_
  · exact h.cla av (List.mem_of_getElem? hav) _ _ _ _ (args i x av hx hav)
  · obtain ⟨hb, x, rfl, hx⟩ := hw'
    refine ⟨x, rfl, σ', _, hF1.grow hb, hE'.grow hF1 hb, hx.mono (fun b k h => by cases h) (fun _ h => h) ⟨fun _ _ => rfl, fun b k c e f hs hc => ⟨c, e, f, hc, Nat.le_refl _⟩⟩⟩
end
end Go.Ax

set_option maxRecDepth 100000
namespace Go.Ax
open Go Go.RowKit
def wild (X Y : List Int) (i : Nat) : Prop := (X.getD i 0 < -1073741824 ∨ 1073741824 < X.getD i 0) ∨ (Y.getD i 0 < -1073741824 ∨ 1073741824 < Y.getD i 0)
instance (X Y : List Int) (i : Nat) : Decidable (wild X Y i) := inferInstanceAs (Decidable (_ ∨ _))
def slack (X Y : List Int) (i : Nat) : Prop := 0 < i ∧ (X.getD i 0 ≤ X.getD (i - 1) 0 ∨ Y.getD i 0 < Y.getD (i - 1) 0)
instance (X Y : List Int) (i : Nat) : Decidable (slack X Y i) := inferInstanceAs (Decidable (_ ∧ _))
def ckPt (X Y : List Int) (i : Nat) : Int := if wild X Y i then 3 else if slack X Y i then 26 else 0
theorem ckPt_zero {X Y : List Int} {i : Nat} (h : ckPt X Y i = 0) : ¬ wild X Y i ∧ ¬ slack X Y i := by
  unfold ckPt at h
  by_cases h1 : wild X Y i
  · rw [if_pos h1] at h; cases h
  · rw [if_neg h1] at h
    by_cases h2 : slack X Y i
    · rw [if_pos h2] at h; cases h
    · exact ⟨h1, h2⟩
theorem first_bad (p : Nat → Prop) (n : Nat) : ∃ k, k ≤ n ∧ (∀ i, i < k → p i) ∧ (k < n → ¬ p k) := by
  induction n with
  | zero => exact ⟨0, Nat.le_refl _, fun i h => by omega, fun h => by omega⟩
  | succ n ih =>
    obtain ⟨k, h1, h2, h3⟩ := ih
    by_cases hk : k < n
    · exact ⟨k, by omega, h2, fun _ => h3 hk⟩
    · obtain rfl : k = n := by omega
      by_cases hp : p k
      · exact ⟨k + 1, Nat.le_refl _, fun i hi => by
          by_cases e : i = k
          · rw [e]; exact hp
          · exact h2 i (by omega), fun h => by omega⟩
      · exact ⟨k, by omega, h2, fun _ => hp⟩
theorem first_ge (X : List Int) (x : Int) {n : Nat} (h0 : X.getD 0 0 < x) (h1 : 2 ≤ n) (h2 : x ≤ X.getD (n - 1) 0) : ∃ k, 0 < k ∧ k < n ∧ x ≤ X.getD k 0 ∧ ∀ i, i < k → X.getD i 0 < x := by
  obtain ⟨k, g1, g2, g3⟩ := first_bad (fun i => X.getD i 0 < x) n
  have hk : k < n := by
    rcases Nat.lt_or_ge k n with h | h
    · exact h
    · have := g2 (n - 1) (by omega)
      have this : X.getD (n - 1) 0 < x := this
      omega
  have h3 := g3 hk
  have h3 : ¬ X.getD k 0 < x := h3
  refine ⟨k, ?_, hk, by omega, g2⟩
  rcases Nat.eq_zero_or_pos k with e | e
  · rw [e] at h3; exact absurd h0 h3
  · exact e
theorem first_gt (X : List Int) (x : Int) {n : Nat} (h0 : X.getD 0 0 ≤ x) (h1 : 2 ≤ n) (h2 : x < X.getD (n - 1) 0) : ∃ k, 0 < k ∧ k < n ∧ x < X.getD k 0 ∧ ∀ i, i < k → X.getD i 0 ≤ x := by
  obtain ⟨k, a, b, c, d⟩ := first_ge X (x + 1) (n := n) (by omega) h1 (by omega)
  exact ⟨k, a, b, by omega, fun i hi => by have := d i hi; omega⟩
def segN (X Y : List Int) (k : Nat) (x : Int) : Int := Y.getD (k - 1) 0 * (X.getD k 0 - X.getD (k - 1) 0) + (Y.getD k 0 - Y.getD (k - 1) 0) * (x - X.getD (k - 1) 0)
def segD (X : List Int) (k : Nat) : Int := X.getD k 0 - X.getD (k - 1) 0
end Go.Ax

