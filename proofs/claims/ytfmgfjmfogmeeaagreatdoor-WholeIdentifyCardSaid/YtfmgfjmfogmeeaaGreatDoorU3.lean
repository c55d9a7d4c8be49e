/- The abstract executor and plain facts, part 3 (of several texts, laid together). -/
import Derived.Test.YtfmgfjmfogmeeaaGreatDoorU1
import Derived.Test.YtfmgfjmfogmeeaaGreatDoorU2
import Derived.Lib.ItoaNum
import Derived.Lib.Repeat
import Derived.MakeChecks
import Derived.LaidMore
import Derived.Stop.Joined
import Derived.Handed
import Derived.LaidLaws
import Derived.Lib.LaidTab
import Derived.Stop.LaidErr
set_option linter.unusedSimpArgs false
set_option linter.unusedVariables false
set_option linter.deprecated false
namespace Go.Ax
open Go Go.RowKit
structure RD where
  s : Bool
  ws : List Nat
  d : Int
def can (x : Dy) : RD := ⟨sg x, ms x, dn x⟩
def RD.zero : RD := ⟨false, [], 0⟩
theorem can_zero : can Dy.zero = RD.zero := by unfold can; rw [sg_zero, ms_zero, dn_zero]; rfl
def RD.dy (r : RD) : Dy := if validR r.s r.ws r.d = true then nrm (sgn r.s (val r.ws)) r.d.toNat else Dy.zero
def RD.ok (r : RD) : Prop := Wd r.ws ∧ r.ws.length ≤ 68719476736
theorem RD.arg {r : RD} (h : r.ok) : Arg r.s r.ws r.d r.dy := by
  refine ⟨h.1, h.2, ?_⟩
  unfold RD.dy
  cases hv : validR r.s r.ws r.d with
  | true =>
    obtain ⟨x, h1, h2, h3⟩ := of_valid h.1 hv
    left
    rw [if_pos rfl, ← h1, ← h2, ← h3, res_self]
    exact ⟨rfl, rfl, rfl, rfl⟩
  | false => exact .inr ⟨rfl, by rw [if_neg (by simp)]⟩
theorem can_ok {x : Dy} (h : (ms x).length ≤ 68719476736) : (can x).ok := ⟨ms_wd x, h⟩
theorem Mg.ok {k : Nat} {x : Dy} (h : Mg k x) (hk : k ≤ 1099511627776) : (can x).ok := can_ok (Arg.of h hk).len
theorem Mg.arg {k : Nat} {x : Dy} (h : Mg k x) (hk : k ≤ 1099511627776 := by omega) : Arg (sg x) (ms x) (dn x) x := Arg.of h hk
def vrow (r : RD) : List AV := [.v (.bool r.s), .sl 1 (u32s r.ws), .v (.int .i64 r.d)]
def vrows (l : List RD) : List (List AV) := l.map vrow
def mrows (a : List (List RD)) : List (List AV) := a.map fun l => [.sl 3 (vrows l)]
abbrev crow (x : Dy) : List AV := [.v (.bool (sg x)), .sl 1 (u32s (ms x)), .v (.int .i64 (dn x))]
theorem Cl.vrow {r : RD} : ∀ a ∈ vrow r, Cl a := fun a ha => by
  simp only [Ax.vrow, List.mem_cons, List.not_mem_nil, or_false] at ha
  rcases ha with rfl | rfl | rfl
  · exact Cl.v _
  · exact Cl.u32s
  · exact Cl.v _
theorem Cl.vec {sz : Nat} {l : List RD} : Cl (.sl sz (vrows l)) := Cl.sl (fun r hr a ha => by
  simp only [vrows, List.mem_map] at hr
  obtain ⟨x, _, rfl⟩ := hr
  exact Cl.vrow a ha)
theorem Cl.mat {sz : Nat} {l : List (List RD)} : Cl (.sl sz (mrows l)) := Cl.sl (fun r hr a ha => by
  simp only [mrows, List.mem_map] at hr
  obtain ⟨x, _, rfl⟩ := hr
  simp only [List.mem_cons, List.not_mem_nil, or_false] at ha
  subst ha
  exact Cl.vec)
inductive LeR : List (List AV) → List (List AV) → Prop
  | nil : LeR [] []
  | cons {a b : List AV} {l m : List (List AV)} (h : LeL a b) (t : LeR l m) : LeR (a :: l) (b :: m)
theorem LeR.refl : ∀ l, LeR l l
  | [] => .nil
  | a :: l => .cons (.refl a) (.refl l)
theorem LeR.length {l m : List (List AV)} (h : LeR l m) : l.length = m.length := by
  induction h with
  | nil => rfl
  | cons _ _ ih => simp [ih]
theorem LeR.get {l m : List (List AV)} (h : LeR l m) : ∀ (i : Nat) (b : List AV), m[i]? = some b → ∃ a, l[i]? = some a ∧ LeL a b := by
  induction h with
  | nil => intro i b hb; simp at hb
  | cons h t ih =>
    intro i b hb
    cases i with
    | zero => simp at hb; subst hb; exact ⟨_, rfl, h⟩
    | succ i => simp at hb; simpa using ih i b hb
theorem Le.sl {sz : Nat} {l m : List (List AV)} (h : LeR l m) : Le (.sl sz l) (.sl sz m) := fun σ S w x hx => by
  have hlen := h.length
  cases hx with
  | nil => cases h; exact .nil
  | e => cases h; exact .e
  | @sl k off cap _ _ c hk hc hl hcell hr =>
    rw [hlen]
    refine .sl c hk (by rw [← hlen]; exact hc) (fun r' hr' => ?_) (fun i r' j av' hi hj => ?_) (fun i r' j av' hi hj => ?_)
    · obtain ⟨i, hi⟩ := List.getElem?_of_mem hr'
      obtain ⟨r, q1, q2⟩ := h.get i r' hi
      rw [← q2.length]; exact hl r (List.mem_of_getElem? q1)
    · obtain ⟨r, q1, q2⟩ := h.get i r' hi
      obtain ⟨a, q3, _⟩ := q2.get j av' hj
      exact hcell i r j a q1 q3
    · obtain ⟨r, q1, q2⟩ := h.get i r' hi
      obtain ⟨a, q3, q4⟩ := q2.get j av' hj
      exact q4 _ _ _ _ (hr i r j a q1 q3)
theorem LeL.dy0 : LeL [.v (.bool false), .v (.slice none 0 0), .v (.int .i64 0)] (vrow RD.zero) := .cons (.refl _) (.cons (Le.nil 1) (.cons (.refl _) .nil))
theorem nbRows_of {n : Nat} {rows : List (List AV)} (h : ∀ r ∈ rows, ∀ a ∈ r, Cl a) : nbRows n rows := by
  have hl : ∀ l : List AV, (∀ a ∈ l, Cl a) → nbL n l := fun l => by
    induction l with
    | nil => intro _; trivial
    | cons a l ih => intro h; exact ⟨.cl (h a (List.mem_cons_self ..)), ih fun b hb => h b (List.mem_cons_of_mem _ hb)⟩
  induction rows with
  | nil => trivial
  | cons r l ih => exact ⟨hl r (h r (List.mem_cons_self ..)), ih fun r' hr' => h r' (List.mem_cons_of_mem _ hr')⟩
theorem vrows_cl (l : List RD) : ∀ r ∈ vrows l, ∀ a ∈ r, Cl a := fun r hr a ha => by
  simp only [vrows, List.mem_map] at hr
  obtain ⟨x, _, rfl⟩ := hr
  exact Cl.vrow a ha
theorem mrows_cl (l : List (List RD)) : ∀ r ∈ mrows l, ∀ a ∈ r, Cl a := fun r hr a ha => by
  simp only [mrows, List.mem_map] at hr
  obtain ⟨x, _, rfl⟩ := hr
  simp only [List.mem_cons, List.not_mem_nil, or_false] at ha
  subst ha
  exact Cl.vec
theorem nbRows_vrows {n : Nat} {l : List RD} : nbRows n (vrows l) := nbRows_of (vrows_cl l)
theorem nbRows_mrows {n : Nat} {l : List (List RD)} : nbRows n (mrows l) := nbRows_of (mrows_cl l)
theorem noRows_vrows {b : Nat} {l : List RD} : ∀ r ∈ vrows l, ∀ a ∈ r, NO b a := fun r hr a ha => .cl (vrows_cl l r hr a ha)
theorem noRows_mrows {b : Nat} {l : List (List RD)} : ∀ r ∈ mrows l, ∀ a ∈ r, NO b a := fun r hr a ha => .cl (mrows_cl l r hr a ha)
def okL (b : Nat) : List AV → Prop
  | [] => True
  | a :: l => (a.one = true ∧ NO b a) ∧ okL b l
def okRL (b sz : Nat) : List (List AV) → Prop
  | [] => True
  | r :: l => (r.length = sz ∧ okL b r) ∧ okRL b sz l
theorem okL_mem {b : Nat} : ∀ (l : List AV), okL b l → ∀ a ∈ l, a.one = true ∧ NO b a
  | [], _, a, h => by cases h
  | x :: l, hl, a, h => by
    rcases List.mem_cons.1 h with rfl | h
    · exact hl.1
    · exact okL_mem l hl.2 a h
theorem rowsOK_lit {b sz : Nat} {rows : List (List AV)} (h : okRL b sz rows) : RowsOK b sz rows := by
  induction rows with
  | nil => intro r hr; cases hr
  | cons r0 rows ih =>
    intro r hr
    rcases List.mem_cons.1 hr with rfl | hr
    · exact ⟨h.1.1, okL_mem _ h.1.2⟩
    · exact ih h.2 r hr
theorem rowsOK_vrows {b : Nat} {l : List RD} : RowsOK b 3 (vrows l) := fun r hr => by
  simp only [vrows, List.mem_map] at hr
  obtain ⟨x, _, rfl⟩ := hr
  refine ⟨rfl, fun a ha => ⟨?_, .cl (Cl.vrow a ha)⟩⟩
  simp only [vrow, List.mem_cons, List.not_mem_nil, or_false] at ha
  rcases ha with rfl | rfl | rfl <;> rfl
abbrev zlit : AV := .agg [.v (.bool false), .v (.slice none 0 0), .v (.int .i64 0)]
theorem Cl.zlit : Cl zlit := Cl.agg (fun a ha => by
  simp only [List.mem_cons, List.not_mem_nil, or_false] at ha
  rcases ha with rfl | rfl | rfl <;> exact Cl.v _)
def rws {α : Type} (f : α → List AV) (l : List α) : List (List AV) := l.map f
def ClRow {α : Type} (f : α → List AV) : Prop := ∀ x, ∀ a ∈ f x, Cl a
theorem rws_length {α : Type} {f : α → List AV} (l : List α) : (rws f l).length = l.length := by simp [rws]
theorem rws_getD {α : Type} {f : α → List AV} {l : List α} {i : Nat} (d : α) (h : i < l.length) : (rws f l).getD i [] = f (l.getD i d) := by
  simp [rws, List.getD, h]
theorem rws_append {α : Type} {f : α → List AV} (l m : List α) : rws f (l ++ m) = rws f l ++ rws f m := by simp [rws]
theorem rws_snoc2 {α : Type} {f : α → List AV} {l : List α} {k : Nat} {x y : α} (h : l.length = k) : (rws f l).take k ++ [f x, f y] = rws f (l ++ [x, y]) := by
  rw [rws_append, List.take_of_length_le (by rw [rws_length]; omega)]; rfl
theorem rws_take {α : Type} {f : α → List AV} (l : List α) (n : Nat) : (rws f l).take n = rws f (l.take n) := by simp [rws, List.map_take]
theorem rws_cl {α : Type} {f : α → List AV} (hf : ClRow f) (l : List α) : ∀ r ∈ rws f l, ∀ a ∈ r, Cl a := fun r hr a ha => by
  simp only [rws, List.mem_map] at hr
  obtain ⟨x, _, rfl⟩ := hr
  exact hf x a ha
theorem Cl.rws {α : Type} {f : α → List AV} (hf : ClRow f) {sz : Nat} {l : List α} : Cl (.sl sz (Ax.rws f l)) := Cl.sl (rws_cl hf l)
theorem nbRows_rws {α : Type} {f : α → List AV} (hf : ClRow f) {n : Nat} {l : List α} : nbRows n (rws f l) := nbRows_of (rws_cl hf l)
theorem noRows_rws {α : Type} {f : α → List AV} (hf : ClRow f) {b : Nat} {l : List α} : ∀ r ∈ rws f l, ∀ a ∈ r, NO b a := fun r hr a ha => .cl (rws_cl hf l r hr a ha)
theorem rowsOK_rws {α : Type} {f : α → List AV} (hf : ClRow f) {b sz : Nat} (h1 : ∀ x, (f x).length = sz ∧ ∀ a ∈ f x, a.one = true) {l : List α} : RowsOK b sz (rws f l) := fun r hr => by
  simp only [rws, List.mem_map] at hr
  obtain ⟨x, _, rfl⟩ := hr
  exact ⟨(h1 x).1, fun a ha => ⟨(h1 x).2 a ha, .cl (hf x a ha)⟩⟩
def prow (p : Int × Int) : List AV := [.v (.int .i64 p.1), .v (.int .i64 p.2)]
def trow (p : Int × Int × Int) : List AV := [.v (.int .i64 p.1), .v (.int .i64 p.2.1), .v (.int .i64 p.2.2)]
def lrow (p : Dy × Dy × Dy) : List AV := [.v (.bool (sg p.1)), .sl 1 (u32s (ms p.1)), .v (.int .i64 (dn p.1)), .v (.bool (sg p.2.1)), .sl 1 (u32s (ms p.2.1)), .v (.int .i64 (dn p.2.1)), .v (.bool (sg p.2.2)), .sl 1 (u32s (ms p.2.2)), .v (.int .i64 (dn p.2.2))]
theorem clrow_p : ClRow prow := fun x a ha => by
  simp only [prow, List.mem_cons, List.not_mem_nil, or_false] at ha
  rcases ha with rfl | rfl <;> exact Cl.v _
theorem clrow_t : ClRow trow := fun x a ha => by
  simp only [trow, List.mem_cons, List.not_mem_nil, or_false] at ha
  rcases ha with rfl | rfl | rfl <;> exact Cl.v _
theorem clrow_l : ClRow lrow := fun x a ha => by
  simp only [lrow, List.mem_cons, List.not_mem_nil, or_false] at ha
  rcases ha with rfl | rfl | rfl | rfl | rfl | rfl | rfl | rfl | rfl <;> first | exact Cl.v _ | exact Cl.u32s
theorem fit_prows {rows : List (List AV)} (h : ∀ r ∈ rows, FitL [.int .i64, .int .i64] r) : ∃ l : List (Int × Int), (∀ p ∈ l, (-9223372036854775808 ≤ p.1 ∧ p.1 ≤ 9223372036854775807) ∧ (-9223372036854775808 ≤ p.2 ∧ p.2 ≤ 9223372036854775807)) ∧ rows = rws prow l ∧ rows.length = l.length := by
  induction rows with
  | nil => exact ⟨[], fun r hr => by simp at hr, rfl, rfl⟩
  | cons r l ih =>
    obtain ⟨m, h1, h2, h3⟩ := ih (fun r' h' => h r' (List.mem_cons_of_mem _ h'))
    obtain ⟨a, l1, rfl, ha, q1⟩ := (h r (List.mem_cons_self ..)).i64
    obtain ⟨b, l2, rfl, hb, q2⟩ := q1.i64
    obtain rfl := q2.nil
    refine ⟨(a, b) :: m, fun p hp => ?_, by rw [h2]; rfl, by simp [h3]⟩
    rcases List.mem_cons.1 hp with rfl | hp
    · exact ⟨ha, hb⟩
    · exact h1 p hp
def irow (n : Int) : List AV := [.v (.int .i64 n)]
theorem clrow_i : ClRow irow := fun x a ha => by
  simp only [irow, List.mem_cons, List.not_mem_nil, or_false] at ha
  rcases ha with rfl; exact Cl.v _
theorem rowsOK_irows {b : Nat} {l : List Int} : RowsOK b 1 (rws irow l) := rowsOK_rws clrow_i (fun x => ⟨rfl, fun a ha => by
  simp only [irow, List.mem_cons, List.not_mem_nil, or_false] at ha
  rcases ha with rfl; rfl⟩)
theorem rowsOK_prows {b : Nat} {l : List (Int × Int)} : RowsOK b 2 (rws prow l) := rowsOK_rws clrow_p (fun x => ⟨rfl, fun a ha => by
  simp only [prow, List.mem_cons, List.not_mem_nil, or_false] at ha
  rcases ha with rfl | rfl <;> rfl⟩)
theorem fit_irows {rows : List (List AV)} (h : ∀ r ∈ rows, FitL [.int .i64] r) : ∃ l : List Int, (∀ p ∈ l, -9223372036854775808 ≤ p ∧ p ≤ 9223372036854775807) ∧ rows = rws irow l ∧ rows.length = l.length := by
  induction rows with
  | nil => exact ⟨[], fun r hr => by simp at hr, rfl, rfl⟩
  | cons r l ih =>
    obtain ⟨m, h1, h2, h3⟩ := ih (fun r' h' => h r' (List.mem_cons_of_mem _ h'))
    obtain ⟨a, l1, rfl, ha, q1⟩ := (h r (List.mem_cons_self ..)).i64
    obtain rfl := q1.nil
    refine ⟨a :: m, fun p hp => ?_, by rw [h2]; rfl, by simp [h3]⟩
    rcases List.mem_cons.1 hp with rfl | hp
    · exact ha
    · exact h1 p hp
end Go.Ax

namespace Go.Ax
open Go Go.RowKit
def Gr : List Nat → Prop
  | [] => True
  | g :: l => g < 1000000000 ∧ Gr l
theorem Gr.append : ∀ {l m : List Nat}, Gr l → Gr m → Gr (l ++ m)
  | [], _, _, h => h
  | _ :: _, _, h, k => ⟨h.1, Gr.append h.2 k⟩
theorem Gr.get {l : List Nat} (h : Gr l) : ∀ {g : Nat}, g ∈ l → g < 1000000000 := by
  induction l with
  | nil => intro g hg; simp at hg
  | cons a l ih =>
    intro g hg
    rcases List.mem_cons.1 hg with rfl | hg
    · exact h.1
    · exact ih h.2 hg
theorem Gr.drop : ∀ {l : List Nat} (n : Nat), Gr l → Gr (l.drop n)
  | _, 0, h => h
  | [], _ + 1, _ => trivial
  | _ :: _, n + 1, h => Gr.drop n h.2
def strV (l : List UInt8) : Value := .string ⟨l.toArray⟩
def strs (l : List (List UInt8)) : List (List AV) := l.map fun s => [.v (strV s)]
theorem Cl.strs {sz : Nat} {l : List (List UInt8)} : Cl (.sl sz (Ax.strs l)) := Cl.sl (fun r hr a ha => by
  simp only [Ax.strs, List.mem_map] at hr
  obtain ⟨s, _, rfl⟩ := hr
  simp only [List.mem_cons, List.not_mem_nil, or_false] at ha
  subst ha; exact Cl.v _)
theorem noRows_strs {b : Nat} {l : List (List UInt8)} : ∀ r ∈ strs l, ∀ a ∈ r, NO b a := fun r hr a ha => by
  simp only [strs, List.mem_map] at hr
  obtain ⟨s, _, rfl⟩ := hr
  simp only [List.mem_cons, List.not_mem_nil, or_false] at ha
  subst ha; exact NO.v
theorem nbRows_strs {n : Nat} {l : List (List UInt8)} : nbRows n (strs l) := by
  induction l with
  | nil => trivial
  | cons s l ih => exact ⟨⟨NB.v, trivial⟩, ih⟩
end Go.Ax

namespace Go.Ax
open Go Go.RowKit
section
variable {P : Program} {ti : Types} {D : Base} {S0 : Nat → Prop} {w0 : World} {σ : Sig} {S : Nat → Prop} {w : World} {mem : List (Nat × MB)} {U : Nat → Prop}
theorem Fit.alias (hF : Fit D S0 w0 σ S mem U w) {b next k0 k : Nat} {m : MB} (hid : ¬ U next) (hm : look mem b = some m) (hσ : σ b = some k0) :
    Fit D S0 w0 (upd σ next k0) S ((next, ⟨m.sz, m.rows.take k⟩) :: dropM b mem) (fun c => U c ∨ c = next) w where
  below := hF.below
  dom c k1 hk := by
    unfold upd at hk
    split at hk
    · injection hk with hk; subst hk; rename_i hc; exact ⟨.inr hc, (hF.dom b _ hσ).2⟩
    · have := hF.dom c k1 hk; exact ⟨.inl this.1, this.2⟩
  inj c c' k1 m1 m2 h1 h2 h3 h4 := by
    simp only [look] at h1 h2
    unfold upd at h3 h4
    by_cases e1 : c = next <;> by_cases e2 : c' = next
    · rw [e1, e2]
    · rw [if_pos e1] at h3; rw [if_neg e2] at h4
      rw [if_neg (fun e => e2 e.symm)] at h2
      injection h3 with h3; subst h3
      obtain ⟨n1, n2⟩ := look_dropM _ _ _ h2
      exact (n1 (hF.inj c' b k0 m2 m n2 hm h4 hσ)).elim
    · rw [if_neg e1] at h3; rw [if_pos e2] at h4
      rw [if_neg (fun e => e1 e.symm)] at h1
      injection h4 with h4; subst h4
      obtain ⟨n1, n2⟩ := look_dropM _ _ _ h1
      exact (n1 (hF.inj c b k0 m1 m n2 hm h3 hσ)).elim
    · rw [if_neg e1] at h3; rw [if_neg e2] at h4
      rw [if_neg (fun e => e1 e.symm)] at h1; rw [if_neg (fun e => e2 e.symm)] at h2
      exact hF.inj c c' k1 m1 m2 (look_dropM _ _ _ h1).2 (look_dropM _ _ _ h2).2 h3 h4
  sbd := hF.sbd
  s0 := hF.s0
  s1 := hF.s1
  glob := ⟨hF.glob.1, fun k hk => upd_old hF hid 0 k (hF.glob.2 k hk) _⟩
  mem c mc hmc := by
    have up : ∀ {x : Value} {av : AV}, Rel σ S w x av → Rel (upd σ next k0) S w x av := fun hr => hr.mono (fun b k hb => upd_old hF hid b k hb _) (fun _ h => h) keeps_refl
    simp only [look] at hmc
    split at hmc
    · rename_i hc
      injection hmc with hmc
      subst hmc hc
      obtain ⟨k1, c1, e1, g1, g2, g3, g4, g5, g6, g7⟩ := (hF.mem b m hm).named hσ
      have : k1 = k0 := Option.some.inj (g1.symm.trans hσ)
      subst this
      refine .inr ⟨k1, c1, e1, by simp [upd], g2, g3, g4, fun r hr => g5 r (List.mem_of_mem_take hr), ?_, fun i r j av hi hj => ?_⟩
      · simp only [List.length_take]
        exact Nat.le_trans (Nat.mul_le_mul_right _ (Nat.min_le_right ..)) g6
      · simp only [List.getElem?_take] at hi
        split at hi
        · obtain ⟨x, hx, hr⟩ := g7 i r j av hi hj
          exact ⟨x, hx, up hr⟩
        · cases hi
    · rename_i hc
      obtain ⟨n1, n2⟩ := look_dropM _ _ _ hmc
      rcases hF.mem c mc n2 with ⟨h1, h2⟩ | ⟨k1, c1, e1, g1, g2, g3, g4, g5, g6, g7⟩
      · refine .inl ⟨h1, ?_⟩
        unfold upd; rw [if_neg (fun e => hc e.symm)]; exact h2
      · refine .inr ⟨k1, c1, e1, upd_old hF hid c k1 g1 _, g2, g3, g4, g5, g6, fun i r j av hi hj => ?_⟩
        obtain ⟨x, hx, hr⟩ := g7 i r j av hi hj
        exact ⟨x, hx, up hr⟩
theorem Fit.none (hF : Fit D S0 w0 σ S mem U w) {next sz : Nat} (hid : ¬ U next) : Fit D S0 w0 σ S ((next, ⟨sz, []⟩) :: mem) (fun c => U c ∨ c = next) w where
  below := hF.below
  dom c k1 hk := ⟨.inl (hF.dom c k1 hk).1, (hF.dom c k1 hk).2⟩
  inj c c' k1 m1 m2 h1 h2 h3 h4 := by
    have ne : ∀ c, σ c = some k1 → c ≠ next := fun c hc e => hid (e ▸ (hF.dom c k1 hc).1)
    simp only [look] at h1 h2
    rw [if_neg (fun e => ne c h3 e.symm)] at h1
    rw [if_neg (fun e => ne c' h4 e.symm)] at h2
    exact hF.inj c c' k1 m1 m2 h1 h2 h3 h4
  sbd := hF.sbd
  s0 := hF.s0
  s1 := hF.s1
  glob := hF.glob
  mem c mc hmc := by
    simp only [look] at hmc
    split at hmc
    · rename_i hc
      injection hmc with hmc
      subst hmc hc
      refine .inl ⟨rfl, ?_⟩
      cases hs : σ next with
      | none => rfl
      | some k => exact (hid (hF.dom next k hs).1).elim
    · exact hF.mem c mc hmc
def srcY (sz : Nat) : Option AV → Option (List (List AV))
  | some (.sl sz' rows) => if sz' = sz then some rows else none
  | some (.v (.slice none 0 0)) => some []
  | _ => none
theorem srcY_A {sz : Nat} {a : Option AV} {rows : List (List AV)} (h : srcY sz a = some rows) : srcA mem sz a = some (True, rows) := by
  unfold srcY at h
  split at h
  · split at h
    · rename_i sz' rows' hsz; injection h with h; subst h; simp [srcA, hsz]
    · cases h
  · injection h with h; subst h; rfl
  · cases h
end
section
variable {C : Cx} {s : AS} {o : Oper}
theorem opR_app (hT : TypesOK C.P C.ti) {x y : Operand} {t tx e : TypeId} {q1 q2 : Nat} {q3 : List Z} {z : TyI} (ho : o.op = .call ⟨.builtin .append, #[x, y], #[t, tx]⟩) (ht : C.ti t = some ⟨q1, q2, q3, .slc e⟩) (hz : C.ti e = some z) (htx : isSlcT (C.ti tx) = true)
    {b sz k : Nat} {m : MB} {rows : List (List AV)} (hx : ev s x = some (.ps b sz 0 k)) (hm : look s.mem b = some m) (hy : srcY sz (ev s y) = some rows)
    (hc : z.size = sz ∧ m.sz = sz ∧ 0 < sz) (hp : k ≤ m.rows.length ∧ (k + rows.length) * z.bytes ≤ 140737488355328 ∧ k + rows.length ≤ 9223372036854775807)
    (hrows : RowsOK b sz rows) (rd wr : Option Nat) : OpR C s o ⟨.ps s.next sz 0 (k + rows.length), .app b ⟨sz, m.rows.take k ++ rows⟩, rd, wr⟩ := by
  intro D S0 w0 σ S U a w K Q hG hid hF hE hK
  simp only [AS.upd, grown] at hK
  obtain ⟨c1, c2, c3⟩ := hc
  obtain ⟨p2, p3, p4⟩ := hp
  obtain ⟨i, d, h1, h2, h3, h4, h5, h6⟩ := underlying_of hT ht
  have hd := slc_desc h5
  subst hd
  obtain ⟨i', d', g1, g2, g3, g4, g5, ⟨zv, hz1, hz2, hz3⟩, g7⟩ := underlying_of hT hz
  cases hyv : ev s y with
  | none => rw [hyv] at hy; simp [srcY] at hy
  | some av =>
  rw [hyv] at hy
  obtain ⟨news, hs, hn⟩ := src_spec (P := C.P) hT hF htx (size := sz) (b := b) c3 (ev_rel hE hyv) (srcY_A hy) trivial hrows
  have hisz : i'.size = sz := by rw [g3, c1]
  have hnl : news.length = rows.length * sz := hs.newsLen
  have wp : ∀ v w', (Builtin.append_ #[t, tx] o.type #[a.eval x, a.eval y]).run C.P w = .ok v w' → K (a.put o.dst v) w' → o.wp C.P a w K Q := fun v w' hr hk => by
    unfold Oper.wp
    rw [exec_append ho hr]
    exact hk
  have hxr := ev_rel hE hx
  have newlen : (m.rows.take k ++ rows).length = k + rows.length := by simp; omega
  have hFs : Fit D S0 w0 σ S (dropM b s.mem) U w := hF.sub fun c mc h => (look_dropM _ _ _ h).2
  have grow : ∀ (base : Option Addr) (cap : Nat) (olds : List Value), a.eval x = .slice base k cap → cap < k + rows.length → olds.length = k * sz →
      (Builtin.firstCells sz k (.slice base k cap)).run C.P w.drew = .ok olds.toArray w.drew →
      (∀ (i : Nat) (r : List AV) (j : Nat) (av : AV), (m.rows.take k)[i]? = some r → r[j]? = some av → ∃ v, olds[i * sz + j]? = some v ∧ Rel σ S w v av) →
      (∀ r ∈ m.rows.take k, r.length = sz) → o.wp C.P a w K Q := fun base cap olds hxe hcap hol hfc hor hlr => by
    have hrun := run_append_grow_src (P := C.P) w t tx o.type e i' zv h2 g1 hz1 base k cap olds (by rw [hisz]; exact hfc) (a.eval y) rows.length news (by rw [hisz]; exact hs) hcap (by omega) (growslice_fits hcap (by rw [g4]; exact p3))
    refine wp _ _ (by rw [hxe]; exact hrun) ?_
    have hb : Below w.heap.size w w.drew := (Below.refl _ w).drew
    have hke := hFs.keeps_below hb
    have hFd : Fit D S0 w0 σ S (dropM b s.mem) U w.drew := ⟨hFs.below.then hb, hFs.dom, hFs.inj, hFs.sbd, hFs.s0, hFs.s1, hFs.glob, fun b m hm => by
      rcases hFs.mem b m hm with hn | ⟨k, c, e, h1, h2, h3, h4, h5, h6, h7⟩
      · exact .inl hn
      · exact .inr ⟨k, c, e, h1, h2, h3, h4, h5, h6, fun i r j av hi hj => by
          obtain ⟨x, hx, hr⟩ := h7 i r j av hi hj
          exact ⟨x, hx, Rel.mono (fun _ _ h => h) (fun _ h => h) hke hr⟩⟩⟩
    have hEd : EnvOK σ S w.drew s.env a := EnvOK.mono (fun _ _ h => h) (fun _ h => h) hke hE
    have hcs : ((olds ++ news).toArray ++ Builtin.zeroCells zv.cells (grownCap w (k + rows.length) cap e - (k + rows.length))).size = (k + rows.length) * sz + (grownCap w (k + rows.length) cap e - (k + rows.length)) * sz := by
      rw [Array.size_append, size_zeroCells]
      have : zv.cells.size = sz := by rw [hz2]; simp [g7, c1]
      simp [hol, hnl, this, Nat.add_mul]
    have hcap2 : k + rows.length ≤ grownCap w (k + rows.length) cap e := by simp only [grownCap, Question.cut]; omega
    have hFn := hFd.new (next := s.next) hid ((olds ++ news).toArray ++ Builtin.zeroCells zv.cells (grownCap w (k + rows.length) cap e - (k + rows.length))) e ⟨sz, m.rows.take k ++ rows⟩
      (fun r hr => by
        rcases List.mem_append.1 hr with hr | hr
        · exact hlr r hr
        · exact (hrows r hr).1)
      (by simp only; rw [newlen, hcs]; omega)
      (fun i r j av hi hj => by
        simp only at hi
        rw [List.getElem?_append] at hi
        have hlen : (m.rows.take k).length = k := by simp; omega
        split at hi
        · rename_i hlt
          obtain ⟨v, hv, hvr⟩ := hor i r j av hi hj
          have hvlt := (List.getElem?_eq_some_iff.1 hv).1
          refine ⟨v, ?_, hvr.mono (fun _ _ h => h) (fun _ h => h) hke⟩
          rw [Array.getElem?_append_left (by simp; omega)]
          simp only [List.getElem?_toArray]
          rw [List.getElem?_append_left hvlt]; exact hv
        · rename_i hge
          rw [hlen] at hi hge
          obtain ⟨v, hv, hvr⟩ := hn (i - k) r j av hi hj
          have hvlt := (List.getElem?_eq_some_iff.1 hv).1
          refine ⟨v, ?_, hvr.mono (fun _ _ h => h) (fun _ h => h) hke⟩
          have e1 : i * sz + j = olds.length + ((i - k) * sz + j) := by
            rw [hol, Nat.sub_mul]
            have : k * sz ≤ i * sz := Nat.mul_le_mul_right _ (by omega)
            omega
          simp only [e1]
          rw [Array.getElem?_append_left (by simp; omega)]
          simp only [List.getElem?_toArray]
          rw [List.getElem?_append_right (by omega), Nat.add_sub_cancel_left]; exact hv)
    refine hK _ _ _ S hFn (hEd.new hFd hid _ _) ?_
    refine .ps (k := w.heap.size) (off := 0) (by simp [upd]) hcap2 (.inl (by simp)) ⟨_, e, (0, 0), heap_alloc_new w.drew _, ?_⟩
    rw [hcs, Nat.zero_add, ← Nat.add_mul]
    exact Nat.mul_le_mul_right _ (by omega)
  rcases rel_ps hxr with ⟨hx1, rfl⟩ | ⟨kk, off, cap, f1, f2, f3, f4, f5⟩
  · -- no block yet
    by_cases hr0 : rows = []
    · subst hr0
      have hn0 : news = [] := by simpa using hnl
      subst hn0
      have hrun := run_append_stay (P := C.P) (ty := o.type) h2 g1 none 0 0 (a.eval y) (by rw [hisz]; exact hs) (Nat.le_refl _)
      refine wp _ _ (by rw [hx1]; exact hrun) ?_
      simp only [List.take_zero, List.append_nil] at hK
      exact hK _ w σ S (hFs.none hid) hE .ps0
    · have hlen : 0 < rows.length := by
        rcases Nat.eq_zero_or_pos rows.length with h | h
        · exact (hr0 (List.length_eq_zero_iff.1 h)).elim
        · exact h
      exact grow none 0 [] hx1 (by omega) (by simp) (run_firstCells_none w.drew sz 0 0 0) (fun i r j av hi => by simp at hi) (by simp)
  · obtain ⟨cc, ee, ff, f5, f6⟩ := f5
    obtain ⟨k0, c0, e0, u1, u2, u3, u4, u5, u6, u7⟩ := (hF.mem b m hm).named f1
    have : k0 = kk := Option.some.inj (u1.symm.trans f1)
    subst this
    rw [u4] at f5
    injection f5 with f5
    injection f5 with f5a f5b f5c
    subst f5a f5b f5c
    have hFa := hF.alias (k := k) hid hm f1
    have hEa : EnvOK (upd σ s.next k0) S w s.env a := hE.mono (fun b k hb => upd_old hF hid b k hb _) (fun _ h => h) keeps_refl
    by_cases hroom : k + rows.length ≤ cap
    · -- in place
      by_cases hr0 : rows = []
      · subst hr0
        have hn0 : news = [] := by simpa using hnl
        subst hn0
        have hrun := run_append_stay (P := C.P) (ty := o.type) h2 g1 (some ⟨k0, off, none⟩) k cap (a.eval y) (by rw [hisz]; exact hs) f3
        refine wp _ _ (by rw [f2]; exact hrun) ?_
        simp only [List.append_nil] at hK
        rw [c2] at hFa
        exact hK _ w _ S hFa hEa (.ps (by simp [upd]) (by simpa using f3) f4 ⟨c0, e0, (0, 0), u4, f6⟩)
      · have hlen : 0 < rows.length := by
          rcases Nat.eq_zero_or_pos rows.length with h | h
          · exact (hr0 (List.length_eq_zero_iff.1 h)).elim
          · exact h
        have hoff : off = 0 := by
          rcases f4 with f4 | f4
          · simpa using f4
          · omega
        subst hoff
        have hfit : 0 + k * sz + news.length ≤ c0.size := by
          rw [hnl]
          have : (k + rows.length) * sz ≤ cap * sz := Nat.mul_le_mul_right _ hroom
          rw [Nat.add_mul] at this
          omega
        have hrun := run_append_in (P := C.P) (ty := o.type) h2 g1 k0 0 k cap (a.eval y) rows.length news (by rw [hisz]; exact hs) c0 e0 u4 hroom (by rw [hisz]; exact hfit)
        rw [hisz] at hrun
        simp only [Nat.zero_add] at hrun hfit
        refine wp _ _ (by rw [f2]; exact hrun) ?_
        have up : ∀ {x : Value} {av : AV}, Rel σ S w x av → Rel (upd σ s.next k0) S w x av := fun hr => hr.mono (fun b k hb => upd_old hF hid b k hb _) (fun _ h => h) keeps_refl
        have key := hFa.set (b := s.next) (m := ⟨m.sz, m.rows.take k⟩) (m' := ⟨sz, m.rows.take k ++ rows⟩) (by simp [look]) (by simp [upd] : upd σ s.next k0 s.next = some k0) (c' := (c0.toList.take (k * sz) ++ news ++ c0.toList.drop (k * sz + news.length)).toArray) u4
          (by simp; omega)
          (fun r hr => by
            rcases List.mem_append.1 hr with hr | hr
            · rw [← c2]; exact u5 r (List.mem_of_mem_take hr)
            · exact (hrows r hr).1)
          (by
            simp only [newlen]
            simp
            rw [Nat.add_mul, ← hnl]
            omega)
          (fun i r j av hi hj => by
            simp only at hi
            simp only [List.getElem?_toArray]
            rw [List.getElem?_append] at hi
            have hlen' : (m.rows.take k).length = k := by simp; omega
            have htl : (c0.toList.take (k * sz)).length = k * sz := by simp; omega
            split at hi
            · rename_i hlt
              rw [hlen'] at hlt
              rw [List.getElem?_take, if_pos hlt] at hi
              obtain ⟨v, hv, hvr⟩ := u7 i r j av hi hj
              rw [c2] at hv
              have hj' : j < sz := by rw [← c2, ← u5 r (List.mem_of_getElem? hi)]; exact (List.getElem?_eq_some_iff.1 hj).1
              have hlt2 : i * sz + j < k * sz := by
                have : (i + 1) * sz ≤ k * sz := Nat.mul_le_mul_right _ hlt
                rw [Nat.add_mul, Nat.one_mul] at this
                omega
              refine ⟨v, ?_, up hvr⟩
              rw [List.append_assoc, List.getElem?_append_left (by rw [htl]; exact hlt2), List.getElem?_take, if_pos hlt2]
              simpa using hv
            · rename_i hge
              rw [hlen'] at hi hge
              obtain ⟨v, hv, hvr⟩ := hn (i - k) r j av hi hj
              have hvlt := (List.getElem?_eq_some_iff.1 hv).1
              refine ⟨v, ?_, up hvr⟩
              have e1 : i * sz + j = k * sz + ((i - k) * sz + j) := by
                rw [Nat.sub_mul]
                have : k * sz ≤ i * sz := Nat.mul_le_mul_right _ (by omega)
                omega
              rw [e1, List.append_assoc, List.getElem?_append_right (by rw [htl]; omega), htl, Nat.add_sub_cancel_left, List.getElem?_append_left hvlt]
              exact hv)
        obtain ⟨hF', hke⟩ := key
        refine hK _ _ _ S (hF'.congr (fun c => ?_) (fun _ h => h)) (hEa.mono (fun _ _ h => h) (fun _ h => h) hke) (.ps (by simp [upd]) hroom (.inl (by simp)) ⟨_, e0, (0, 0), setRow_heap w k0 c0 _ e0 (0, 0) u4, ?_⟩)
        · simp only [look]; split <;> rfl
        · simp
          omega
    · have hol := exists_list (Q := fun q v => c0[q]? = some v) (k * sz) (fun q hq => by
        have : k * sz ≤ m.rows.length * m.sz := by rw [c2]; exact Nat.mul_le_mul_right _ p2
        exact ⟨c0[q]'(by omega), by simp [show q < c0.size by omega]⟩)
      obtain ⟨olds, ol1, ol2⟩ := hol
      have hoff : k = 0 ∨ off = 0 := by
        rcases f4 with f4 | f4
        · right; simpa using f4
        · left; omega
      refine grow (some ⟨k0, off, none⟩) cap olds f2 (by omega) ol1 ?_ ?_ (fun r hr => by rw [← c2]; exact u5 r (List.mem_of_mem_take hr))
      · refine run_firstCells_some w.drew sz k _ k cap olds ol1 (fun j v hj => ?_)
        rw [add_addr]
        have hjl : j < k * sz := by rw [← ol1]; exact (List.getElem?_eq_some_iff.1 hj).1
        have hoff' : off = 0 := by
          rcases hoff with h | h
          · rw [h] at hjl; simp at hjl
          · exact h
        subst hoff'
        have : (w.drew).heap[k0]? = some (.cells c0 e0 (0, 0)) := u4
        rw [cell_of_cells this, Nat.zero_add]
        exact ol2 j v hj
      · intro i r j av hi hj
        rw [List.getElem?_take] at hi
        split at hi
        · rename_i hlt
          obtain ⟨v, hv, hvr⟩ := u7 i r j av hi hj
          rw [c2] at hv
          have hj' : j < sz := by rw [← c2, ← u5 r (List.mem_of_getElem? hi)]; exact (List.getElem?_eq_some_iff.1 hj).1
          have hlt2 : i * sz + j < olds.length := by
            rw [ol1]
            have : (i + 1) * sz ≤ k * sz := Nat.mul_le_mul_right _ hlt
            rw [Nat.add_mul, Nat.one_mul] at this
            omega
          have hq := ol2 (i * sz + j) olds[i * sz + j] (by simp [hlt2])
          rw [hv] at hq
          exact ⟨v, by rw [List.getElem?_eq_getElem hlt2]; exact hq.symm, hvr⟩
        · cases hi
theorem own_app (hT : TypesOK C.P C.ti) {x y : Operand} {t tx e : TypeId} {q1 q2 : Nat} {q3 : List Z} {z : TyI} (ho : o.op = .call ⟨.builtin .append, #[x, y], #[t, tx]⟩) (ht : C.ti t = some ⟨q1, q2, q3, .slc e⟩) (hz : C.ti e = some z) (htx : isSlcT (C.ti tx) = true)
    {b sz k : Nat} {m : MB} {rows : List (List AV)} (hx : ev s x = some (.ps b sz 0 k)) (hm : look s.mem b = some m) (hy : srcY sz (ev s y) = some rows)
    (hc : z.size = sz ∧ m.sz = sz ∧ 0 < sz) (hp : k ≤ m.rows.length ∧ (k + rows.length) * z.bytes ≤ 140737488355328 ∧ k + rows.length ≤ 9223372036854775807)
    (hrows : RowsOK b sz rows) : OwnOK C s o ⟨.ps s.next sz 0 (k + rows.length), .app b ⟨sz, m.rows.take k ++ rows⟩, some b, some s.next⟩ where
  nocall := by rw [ho]; rfl
  noop s' := by rw [ho]; rfl
  run s' hA := by
    obtain ⟨h1, h2, h3⟩ := hA
    have hop : o.op.operands.toList = [x, y] := by rw [ho]; rfl
    have := opR_app (s := s') hT ho ht hz htx (by rw [← h1 x (by rw [hop]; simp)]; exact hx) (by rw [← h2 b (.inl rfl)]; exact hm) (by rw [← h1 y (by rw [hop]; simp)]; exact hy) hc hp hrows (some b) (some s'.next)
    rw [← h3] at this; exact this
  tch b' h := by
    simp only [tch, Bool.or_eq_true, beq_iff_eq] at h
    rcases h with h | h
    · exact .inl (by rw [h])
    · exact .inr ⟨by rw [h], by rw [ho]; rfl⟩
theorem drawAfter_app {n : Nat} {r : List It} {Q : Lab → AS → Prop} {all l : List Oper} {fps : List FP} {fp : FP} {d : Option Tmp} {u : TypeId} {pos : String} {af : Array Edge} {g : Option (Nat × Bool)} (hT : TypesOK C.P C.ti) {x y : Operand} {t tx e : TypeId} {q1 q2 : Nat} {q3 : List Z} {z : TyI} (ht : C.ti t = some ⟨q1, q2, q3, .slc e⟩) (hz : C.ti e = some z) (htx : isSlcT (C.ti tx) = true)
    {b sz k : Nat} {m : MB} {rows : List (List AV)} (hx : ev s x = some (.ps b sz 0 k)) (hm : look s.mem b = some m) (hc : z.size = sz ∧ m.sz = sz ∧ 0 < sz) (hy : srcY sz (ev s y) = some rows)
    (hp : True ∧ k ≤ m.rows.length ∧ (k + rows.length) * z.bytes ≤ 140737488355328 ∧ k + rows.length ≤ 9223372036854775807) (hrows : RowsOK b sz rows)
    (kk : drawRun C n r (bump ((⟨s.env, (s.next, ⟨sz, m.rows.take k ++ rows⟩) :: dropM b s.mem, s.next + 1⟩ : AS).put d (.ps s.next sz 0 (k + rows.length))) (s.next + 1)) Q all l ((some b, some s.next) :: fps)) :
    drawAfter C n r s Q all ⟨d, .call ⟨.builtin .append, #[x, y], #[t, tx]⟩, u, pos, af, g⟩ none fp l fps := by
  refine drawAfter_own (own_app hT rfl ht hz htx hx hm hy hc hp.2 hrows) ?_
  cases d <;> exact kk
end
def renV (b' b : Nat) : AV → AV
  | .p c sz row j => bif c == b' then .p b sz row j else bif c == b then .top else .p c sz row j
  | .ps c sz row k => bif c == b' then .ps b sz row k else bif c == b then .top else .ps c sz row k
  | a => a
def renOK (b : Nat) : AV → Prop
  | .p _ _ _ _ => True
  | .ps _ _ _ _ => True
  | a => NO b a
def renE (b' b : Nat) : List (Nat × AV) → List (Nat × AV)
  | [] => []
  | (t, a) :: l => (t, renV b' b a) :: renE b' b l
def renEOK (b : Nat) : List (Nat × AV) → Prop
  | [] => True
  | (_, a) :: l => renOK b a ∧ renEOK b l
def renM (b' b : Nat) : List (Nat × MB) → List (Nat × MB)
  | [] => []
  | (c, m) :: l => bif c == b' then (b, m) :: renM b' b l else bif c == b then renM b' b l else (c, m) :: renM b' b l
def renσ (b' b : Nat) (σ : Sig) : Sig := fun c => if c = b then σ b' else σ c
section
variable {σ : Sig} {S : Nat → Prop} {w : World}
theorem renV_rel {b' b : Nat} {x : Value} {a : AV} (h : renOK b a) (hr : Rel σ S w x a) : Rel (renσ b' b σ) S w x (renV b' b a) := by
  have other : ∀ {a : AV}, NO b a → Rel σ S w x a → Rel (renσ b' b σ) S w x a := fun h hr => h σ _ S w x (fun c k hc hk => by unfold renσ; rw [if_neg hc]; exact hk) hr
  cases a with
  | p c sz row j =>
    simp only [renV]
    cases hr with
    | p hσ =>
      by_cases h1 : c = b'
      · subst h1; simp only [beq_self_eq_true, cond_true]; exact .p (by simp [renσ, hσ])
      · by_cases h2 : c = b
        · subst h2; simp only [beq_eq_false_iff_ne.2 h1, cond_false, beq_self_eq_true, cond_true]; exact .top _
        · simp only [beq_eq_false_iff_ne.2 h1, beq_eq_false_iff_ne.2 h2, cond_false]; exact .p (by simp [renσ, h2, hσ])
  | ps c sz row k =>
    simp only [renV]
    by_cases h1 : c = b'
    · subst h1; simp only [beq_self_eq_true, cond_true]
      cases hr with
      | ps hσ q1 q2 q3 => exact .ps (by simp [renσ, hσ]) q1 q2 q3
      | ps0 => exact .ps0
    · by_cases h2 : c = b
      · subst h2; simp only [beq_eq_false_iff_ne.2 h1, cond_false, beq_self_eq_true, cond_true]; exact .top _
      · simp only [beq_eq_false_iff_ne.2 h1, beq_eq_false_iff_ne.2 h2, cond_false]
        cases hr with
        | ps hσ q1 q2 q3 => exact .ps (by simp [renσ, h2, hσ]) q1 q2 q3
        | ps0 => exact .ps0
  | _ => exact other h hr
theorem renE_look {b' b : Nat} : ∀ (l : List (Nat × AV)), renEOK b l → ∀ t av, look (renE b' b l) t = some av → ∃ a, look l t = some a ∧ renOK b a ∧ av = renV b' b a
  | [], _, t, av, h => by simp [renE, look] at h
  | (t', a') :: l, hl, t, av, h => by
    simp only [renE, look] at h ⊢
    split at h
    · rename_i he; injection h with h; exact ⟨a', by rw [if_pos he], hl.1, h.symm⟩
    · rename_i he
      rw [if_neg he]; exact renE_look l hl.2 t av h
theorem renM_look {b' b : Nat} : ∀ (l : List (Nat × MB)) (c : Nat) (m : MB), look (renM b' b l) c = some m → (c = b ∧ look l b' = some m) ∨ (c ≠ b ∧ c ≠ b' ∧ look l c = some m)
  | [], c, m, h => by simp [renM, look] at h
  | (c', m') :: l, c, m, h => by
    simp only [renM] at h
    by_cases h1 : c' = b'
    · subst h1
      simp only [beq_self_eq_true, cond_true, look] at h
      split at h
      · rename_i he
        injection h with h; subst h
        exact .inl ⟨he.symm, by simp [look]⟩
      · rename_i he
        rcases renM_look l c m h with ⟨q1, q2⟩ | ⟨q1, q2, q3⟩
        · exact (he q1.symm).elim
        · exact .inr ⟨q1, q2, by simp only [look]; rw [if_neg (fun e => q2 e.symm)]; exact q3⟩
    · by_cases h2 : c' = b
      · subst h2
        simp only [beq_eq_false_iff_ne.2 h1, cond_false, beq_self_eq_true, cond_true] at h
        rcases renM_look l c m h with ⟨q1, q2⟩ | ⟨q1, q2, q3⟩
        · exact .inl ⟨q1, by simp only [look]; rw [if_neg h1]; exact q2⟩
        · exact .inr ⟨q1, q2, by simp only [look]; rw [if_neg (fun e => q1 e.symm)]; exact q3⟩
      · simp only [beq_eq_false_iff_ne.2 h1, beq_eq_false_iff_ne.2 h2, cond_false, look] at h
        split at h
        · rename_i he
          subst he
          injection h with h; subst h
          exact .inr ⟨h2, h1, by simp [look]⟩
        · rename_i he
          rcases renM_look l c m h with ⟨q1, q2⟩ | ⟨q1, q2, q3⟩
          · exact .inl ⟨q1, by simp only [look]; rw [if_neg h1]; exact q2⟩
          · exact .inr ⟨q1, q2, by simp only [look]; rw [if_neg he]; exact q3⟩
end
theorem Weak.ren {s : AS} (b' b nx : Nat) (hn : s.next ≤ nx) (hb0 : b ≠ 0) (hb : b < nx) (he : renEOK b s.env) (hm : noMem b s.mem) : Weak s ⟨renE b' b s.env, renM b' b s.mem, nx⟩ := by
  intro D S0 w0 σ S w hF _
  have keep : ∀ c k, c ≠ b → σ c = some k → renσ b' b σ c = some k := fun c k hc hk => by unfold renσ; rw [if_neg hc]; exact hk
  have key : ∀ c m, look (renM b' b s.mem) c = some m → ∃ c0, look s.mem c0 = some m ∧ renσ b' b σ c = σ c0 ∧ ((c = b ∧ c0 = b') ∨ (c ≠ b ∧ c ≠ b' ∧ c0 = c)) := fun c m h => by
    rcases renM_look _ c m h with ⟨q1, q2⟩ | ⟨q1, q2, q3⟩
    · exact ⟨b', q2, by simp [renσ, q1], .inl ⟨q1, rfl⟩⟩
    · exact ⟨c, q3, by simp [renσ, q1], .inr ⟨q1, q2, rfl⟩⟩
  refine ⟨renσ b' b σ, S, ⟨hF.below, fun c k hk => ?_, fun c c' k m m' h1 h2 h3 h4 => ?_, hF.sbd, hF.s0, hF.s1, ⟨hF.glob.1, fun k hk => keep 0 k (fun e => hb0 e.symm) (hF.glob.2 k hk)⟩, fun c m h => ?_⟩, fun a hE t av ht => ?_⟩
  · unfold renσ at hk
    split at hk
    · rename_i hc; exact ⟨by rw [hc]; exact hb, (hF.dom _ k hk).2⟩
    · exact ⟨Nat.lt_of_lt_of_le (hF.dom _ k hk).1 hn, (hF.dom _ k hk).2⟩
  · obtain ⟨d, g1, g2, g3⟩ := key c m h1
    obtain ⟨d', g1', g2', g3'⟩ := key c' m' h2
    have := hF.inj d d' k m m' g1 g1' (g2 ▸ h3) (g2' ▸ h4)
    rcases g3 with ⟨q1, q2⟩ | ⟨q1, q2, q3⟩ <;> rcases g3' with ⟨q1', q2'⟩ | ⟨q1', q2', q3'⟩ <;> omega
  · obtain ⟨d, g1, g2, _⟩ := key c m h
    rcases hF.mem d m g1 with ⟨f1, f2⟩ | ⟨k, c0, e, f1, f2, f3, f4, f5, f6, f7⟩
    · exact .inl ⟨f1, by rw [g2]; exact f2⟩
    · refine .inr ⟨k, c0, e, by rw [g2]; exact f1, f2, f3, f4, f5, f6, fun i r j av hi hj => ?_⟩
      obtain ⟨x, hx, hr⟩ := f7 i r j av hi hj
      exact ⟨x, hx, noMem_look _ hm d m g1 r (List.mem_of_getElem? hi) av (List.mem_of_getElem? hj) σ _ S w x keep hr⟩
  · obtain ⟨a0, h1, h2, h3⟩ := renE_look _ he t av ht
    obtain ⟨x, hx, hr⟩ := hE t a0 h1
    subst h3
    exact ⟨x, hx, renV_rel h2 hr⟩
theorem Weak.trans {s s1 s2 : AS} (h : Weak s s1) (h1 : s.next ≤ s1.next) (k : Weak s1 s2) : Weak s s2 := by
  intro D S0 w0 σ S w hF h0
  obtain ⟨σ', S', g1, g2⟩ := h D S0 w0 σ S w hF (fun hne => by
    cases hk : D.an with
    | none => exact absurd hk hne
    | some k => exact Nat.lt_of_lt_of_le (hF.dom 0 k (hF.glob.2 k hk)).1 h1)
  obtain ⟨σ2, S2, k1, k2⟩ := k D S0 w0 σ' S' w g1 h0
  exact ⟨σ2, S2, k1, fun a ha => k2 a (g2 a ha)⟩
end Go.Ax

namespace Go.Ax
open Go Go.RowKit
theorem byClL {l : List AV} (h : ∀ x ∈ l, Cl x := by (try simp only [List.mem_cons, List.not_mem_nil, or_false, forall_eq_or_imp, forall_eq]); (repeat' (first | exact Cl.v _ | exact Cl.u32s | exact Cl.vec | exact Cl.rws clrow_p | exact Cl.rws clrow_i | exact Cl.rws clrow_t | exact Cl.rws clrow_l | exact Cl.rws (by assumption) | exact Cl.mat | exact Cl.strs | exact Cl.i64s | exact Cl.sl (by assumption) | refine And.intro ?_ ?_ | refine Cl.agg ?_ | refine Cl.rp ?_ | refine Cl.sl ?_ | refine Cl.tup ?_ | simp only [List.mem_cons, List.not_mem_nil, or_false, forall_eq_or_imp, forall_eq, false_imp_iff, implies_true]))) : ∀ x ∈ l, Cl x := h
theorem byCl {a : AV} (h : Cl a := by (try simp only [List.mem_cons, List.not_mem_nil, or_false, forall_eq_or_imp, forall_eq]); (repeat' (first | exact Cl.v _ | exact Cl.u32s | exact Cl.vec | exact Cl.rws clrow_p | exact Cl.rws clrow_i | exact Cl.rws clrow_t | exact Cl.rws clrow_l | exact Cl.rws (by assumption) | exact Cl.mat | exact Cl.strs | exact Cl.i64s | exact Cl.sl (by assumption) | refine And.intro ?_ ?_ | refine Cl.agg ?_ | refine Cl.rp ?_ | refine Cl.sl ?_ | refine Cl.tup ?_ | simp only [List.mem_cons, List.not_mem_nil, or_false, forall_eq_or_imp, forall_eq, false_imp_iff, implies_true]))) : Cl a := h
theorem byClM {rows : List (List AV)} (h : ∀ r ∈ rows, ∀ a ∈ r, Cl a := by intro r hr a ha; first | (obtain ⟨w, _, rfl⟩ := u32s_mem hr; simp only [u32, List.mem_cons, List.not_mem_nil, or_false] at ha; subst ha; exact Cl.v _) | (simp only [List.mem_cons, List.not_mem_nil, or_false] at hr; subst hr; simp only [List.mem_cons, List.not_mem_nil, or_false] at ha; (repeat' (rcases ha with ha | ha)) <;> subst ha <;> first | exact Cl.v _ | exact Cl.u32s | exact Cl.dy | assumption)) : ∀ r ∈ rows, ∀ a ∈ r, Cl a := h
theorem byWeak {s s' : AS} (h : Weak s s' := by (first | exact Weak.of (by (repeat' (first | exact trivial | exact ⟨_, rfl, .refl _⟩ | exact ⟨_, rfl, Le.nil _⟩ | exact ⟨_, rfl, Le.ps0 _ _ _⟩ | exact ⟨_, rfl, Le.top _⟩ | refine And.intro ?_ ?_))) (by (repeat' (first | exact trivial | exact rfl | refine And.intro ?_ ?_))) (by first | exact Nat.le_refl _ | exact Nat.le_of_ble_eq_true rfl) | exact Weak.cut (by (repeat' (first | exact trivial | exact ⟨_, rfl, .refl _⟩ | exact ⟨_, rfl, Le.nil _⟩ | exact ⟨_, rfl, Le.ps0 _ _ _⟩ | exact ⟨_, rfl, Le.top _⟩ | refine And.intro ?_ ?_))) (by (repeat' (first | exact trivial | exact rfl | refine And.intro ?_ ?_))) (by (repeat' (first | exact trivial | exact .v | exact .top | exact .p (Nat.le_of_ble_eq_true rfl) | exact .ps (Nat.le_of_ble_eq_true rfl) | exact nbRows_u32s | exact nbRows_strs | exact nbRows_vrows | exact nbRows_rws clrow_p | exact nbRows_rws clrow_i | exact nbRows_rws clrow_t | exact nbRows_rws clrow_l | exact nbRows_rws (by assumption) | exact nbRows_mrows | exact .cl (by (first | exact Cl.v _ | exact Cl.u32s | exact Cl.vec | exact Cl.rws clrow_p | exact Cl.rws clrow_i | exact Cl.rws clrow_t | exact Cl.rws clrow_l | exact Cl.rws (by assumption) | exact Cl.mat | exact Cl.strs | exact Cl.i64s | exact Cl.sl (by assumption) | assumption | ((first | refine Cl.agg ?_ | refine Cl.rp ?_ | refine Cl.sl ?_ | refine Cl.tup ?_); simp only [List.mem_cons, List.not_mem_nil, or_false, forall_eq_or_imp, forall_eq]; (repeat' (first | exact Cl.v _ | exact Cl.u32s | exact Cl.vec | exact Cl.rws clrow_p | exact Cl.rws clrow_i | exact Cl.rws clrow_t | exact Cl.rws clrow_l | exact Cl.rws (by assumption) | exact Cl.mat | exact Cl.strs | exact Cl.sl (by assumption) | assumption | refine And.intro ?_ ?_))))) | refine And.intro ?_ ?_))) (by (repeat' (first | exact trivial | exact Nat.le_of_ble_eq_true rfl | exact .v | exact .top | exact .p (Nat.le_of_ble_eq_true rfl) | exact .ps (Nat.le_of_ble_eq_true rfl) | exact nbRows_u32s | exact nbRows_strs | exact nbRows_vrows | exact nbRows_rws clrow_p | exact nbRows_rws clrow_i | exact nbRows_rws clrow_t | exact nbRows_rws clrow_l | exact nbRows_rws (by assumption) | exact nbRows_mrows | exact .cl (by (first | exact Cl.v _ | exact Cl.u32s | exact Cl.vec | exact Cl.rws clrow_p | exact Cl.rws clrow_i | exact Cl.rws clrow_t | exact Cl.rws clrow_l | exact Cl.rws (by assumption) | exact Cl.mat | exact Cl.strs | exact Cl.i64s | exact Cl.sl (by assumption) | assumption | ((first | refine Cl.agg ?_ | refine Cl.rp ?_ | refine Cl.sl ?_ | refine Cl.tup ?_); simp only [List.mem_cons, List.not_mem_nil, or_false, forall_eq_or_imp, forall_eq]; (repeat' (first | exact Cl.v _ | exact Cl.u32s | exact Cl.vec | exact Cl.rws clrow_p | exact Cl.rws clrow_i | exact Cl.rws clrow_t | exact Cl.rws clrow_l | exact Cl.rws (by assumption) | exact Cl.mat | exact Cl.strs | exact Cl.sl (by assumption) | assumption | refine And.intro ?_ ?_))))) | refine And.intro ?_ ?_))))) : Weak s s' := h
theorem byRows {b sz : Nat} {rows : List (List AV)} (h : RowsOK b sz rows := by (first | exact rowsOK_u32s | exact rowsOK_one (.v) | exact rowsOK_vrows | exact rowsOK_irows | exact rowsOK_prows | exact rowsOK_lit (by (repeat' (first | exact trivial | exact rfl | exact .v | exact .cl (by (first | exact Cl.v _ | exact Cl.u32s | exact Cl.vec | exact Cl.rws clrow_p | exact Cl.rws clrow_i | exact Cl.rws clrow_t | exact Cl.rws clrow_l | exact Cl.rws (by assumption) | exact Cl.mat | exact Cl.strs | exact Cl.i64s | exact Cl.sl (by assumption) | assumption | ((first | refine Cl.agg ?_ | refine Cl.rp ?_ | refine Cl.sl ?_ | refine Cl.tup ?_); simp only [List.mem_cons, List.not_mem_nil, or_false, forall_eq_or_imp, forall_eq]; (repeat' (first | exact Cl.v _ | exact Cl.u32s | exact Cl.vec | exact Cl.rws clrow_p | exact Cl.rws clrow_i | exact Cl.rws clrow_t | exact Cl.rws clrow_l | exact Cl.rws (by assumption) | exact Cl.mat | exact Cl.strs | exact Cl.sl (by assumption) | assumption | refine And.intro ?_ ?_))))) | refine And.intro ?_ ?_))))) : RowsOK b sz rows := h
theorem byNoE {b : Nat} {l : List (Nat × AV)} (h : noEnv b l := by (repeat' (first | exact trivial | exact .inl rfl | exact .inr .v | exact .inr (.p (by decide)) | exact .inr (.ps (by decide)) | exact .inr .top | exact .inr (.cl (by (first | exact Cl.v _ | exact Cl.u32s | exact Cl.vec | exact Cl.rws clrow_p | exact Cl.rws clrow_i | exact Cl.rws clrow_t | exact Cl.rws clrow_l | exact Cl.rws (by assumption) | exact Cl.mat | exact Cl.strs | exact Cl.i64s | exact Cl.sl (by assumption) | assumption | ((first | refine Cl.agg ?_ | refine Cl.rp ?_ | refine Cl.sl ?_ | refine Cl.tup ?_); simp only [List.mem_cons, List.not_mem_nil, or_false, forall_eq_or_imp, forall_eq]; (repeat' (first | exact Cl.v _ | exact Cl.u32s | exact Cl.vec | exact Cl.rws clrow_p | exact Cl.rws clrow_i | exact Cl.rws clrow_t | exact Cl.rws clrow_l | exact Cl.rws (by assumption) | exact Cl.mat | exact Cl.strs | exact Cl.sl (by assumption) | assumption | refine And.intro ?_ ?_)))))) | refine And.intro ?_ ?_))) : noEnv b l := h
theorem byNoM {b : Nat} {l : List (Nat × MB)} (h : noMem b l := by (repeat' (first | exact trivial | exact noRows_u32s | exact noRows_strs | exact noRows_vrows | exact noRows_rws clrow_p | exact noRows_rws clrow_i | exact noRows_rws clrow_t | exact noRows_rws clrow_l | exact noRows_rws (by assumption) | exact noRows_mrows | exact noRows_lit (by (repeat' (first | exact trivial | exact .v | exact .p (by decide) | exact .ps (by decide) | exact .cl (by (first | exact Cl.v _ | exact Cl.u32s | exact Cl.vec | exact Cl.rws clrow_p | exact Cl.rws clrow_i | exact Cl.rws clrow_t | exact Cl.rws clrow_l | exact Cl.rws (by assumption) | exact Cl.mat | exact Cl.strs | exact Cl.i64s | exact Cl.sl (by assumption) | assumption | ((first | refine Cl.agg ?_ | refine Cl.rp ?_ | refine Cl.sl ?_ | refine Cl.tup ?_); simp only [List.mem_cons, List.not_mem_nil, or_false, forall_eq_or_imp, forall_eq]; (repeat' (first | exact Cl.v _ | exact Cl.u32s | exact Cl.vec | exact Cl.rws clrow_p | exact Cl.rws clrow_i | exact Cl.rws clrow_t | exact Cl.rws clrow_l | exact Cl.rws (by assumption) | exact Cl.mat | exact Cl.strs | exact Cl.sl (by assumption) | assumption | refine And.intro ?_ ?_))))) | refine And.intro ?_ ?_))) | refine And.intro ?_ ?_))) : noMem b l := h
theorem byFresh {r : List It} {k : Nat} (h : Ax.fresh r = k := by simp only [Ax.fresh, Nat.max_def, Nat.zero_add, Nat.reduceAdd, Nat.reduceLeDiff, Nat.le_refl, Nat.zero_le, Nat.le_zero_eq, Nat.one_ne_zero, reduceIte, ite_self, if_true, if_false]; rfl) : Ax.fresh r = k := h
end Go.Ax

namespace Go.Ax
open Go Go.RowKit
theorem laidVars_mem {P : Program} {w : World} : ∀ {laid : List (String × DataW Unit)} {ps : List MemPlace} {n : String} {d : DataW Unit}, DataW.LaidVars P w laid ps → (n, d) ∈ laid →
    ∃ g t cs fuel p, P.globalNamed n = some g ∧ (P.globals[g]?).map (·.type) = some t ∧ w.var? P n = some cs ∧ DataW.trod (fun _ => ()) P w 0 (fun _ => true) false fuel t cs.toList = some (d, p)
  | [], _, _, _, _, h => by cases h
  | (n', d') :: laid, ps, n, d, h, hm => by
    obtain ⟨g, t, cs, fuel, p, q, h1, h2, h3, h4, h5, _⟩ := h
    rcases List.mem_cons.1 hm with he | hm
    · injection he with e1 e2
      subst e1 e2
      exact ⟨g, t, cs, fuel, p, h1, h2, h3, h4⟩
    · exact laidVars_mem h5 hm
theorem gh_of_laid {α : Type} {P : Program} {w : World} {laid : List (String × DataW Unit)} (h : laidMetH P laid w) (hp : (laid.all fun x => x.2.handleName?.isNone) = true) {n : String} {d : DataW Unit} (hm : (n, d) ∈ laid) {g N : Nat} {t e : TypeId} {k : IntKind}
    (hg : P.globalNamed n = some g) (ht : (P.globals[g]?).map (·.type) = some t) (hu : P.underlying t = some (.array N e)) (hc : P.cellsOf e = 1) (hct : P.cellsOf t = N) (he : P.underlying e = some (.int k)) (ds : List α) (f : α → Int)
    (hd : d = .agg (ds.map fun x => .lit (.int k (f x)))) (hN : ds.length = N) (h0 : ds ≠ []) : GH w g (ds.map fun x => Value.int k (f x)) := by
  rw [MakeChecks.laidMetH_plain _ _ _ hp] at h
  obtain ⟨ps, hv, _⟩ := h
  obtain ⟨g', t', cs, fuel, p, h1, h2, h3, h4⟩ := laidVars_mem hv hm
  obtain rfl := Option.some.inj (hg.symm.trans h1)
  obtain rfl := Option.some.inj (ht.symm.trans h2)
  obtain ⟨c, ty, fr, hb, hcs⟩ : ∃ c ty fr, w.heap[g]? = some (.cells c ty fr) ∧ cs = c := by
    simp only [World.var?, hg, Option.bind_some] at h3
    split at h3
    · rename_i c t' fr hb
      injection h3 with h3
      exact ⟨c, t', fr, hb, h3.symm⟩
    · cases h3
  subst hcs
  have hcs := Lib.cells_of_tab (zs := ds.map f) hu he hc hct (by rw [hd] at h4; rw [show Lib.tabData k (ds.map f) = (.agg (ds.map fun x => .lit (.int k (f x))) : DataW Unit) by simp [Lib.tabData, Function.comp_def]]; exact h4)
  have e1 : cs = (ds.map fun x => Value.int k (f x)).toArray := by
    apply Array.toList_inj.1
    rw [hcs]
    simp [Function.comp_def]
  refine ⟨cs, ty, fr, hb, fun j x hj => ?_, Or.inl ⟨fun h => h0 (List.map_eq_nil_iff.1 h), by rw [e1]; simp⟩⟩
  rw [e1]
  simpa using hj
end Go.Ax

namespace Go.Ax
open Go Go.RowKit
theorem Dy.add_comm (x y : Dy) : x.add y = y.add x := Dy.ext_v (by rw [Dy.v_add, Dy.v_add]; grind)
theorem Dy.add_assoc (x y z : Dy) : (x.add y).add z = x.add (y.add z) := Dy.ext_v (by simp only [Dy.v_add]; grind)
theorem Dy.add_sub_cancel (x y : Dy) : (x.add y).sub y = x := Dy.ext_v (by rw [Dy.v_sub, Dy.v_add]; grind)
theorem Dy.mul_comm (x y : Dy) : x.mul y = y.mul x := by unfold Dy.mul; rw [Int.mul_comm, Nat.add_comm]
theorem Dy.mul_assoc {x y z : Dy} (h : x.d + y.d + z.d ≤ 65536) : (x.mul y).mul z = x.mul (y.mul z) := by
  have h1 := Dy.d_mul x y (by omega)
  have h2 := Dy.d_mul y z (by omega)
  apply Dy.ext_v
  rw [Dy.v_mul_of _ _ (by omega), Dy.v_mul_of _ _ (by omega), Dy.v_mul_of _ _ (by omega), Dy.v_mul_of _ _ (by omega)]; grind
theorem Dy.mul_add {x y z : Dy} (h : x.d + y.d + z.d ≤ 65536) : x.mul (y.add z) = (x.mul y).add (x.mul z) := by
  have h1 := Dy.d_add y z
  apply Dy.ext_v
  rw [Dy.v_mul_of _ _ (by omega), Dy.v_add, Dy.v_add, Dy.v_mul_of _ _ (by omega), Dy.v_mul_of _ _ (by omega)]; grind
theorem min_le_max (x y : Dy) : (x.min y).v ≤ (x.max y).v := by
  rw [Dy.v_min, Dy.v_max]; split <;> split <;> grind
theorem mg_grid {q : Rat} {k den : Nat} (h1 : -2 ^ k < q) (h2 : q < 2 ^ k) : Mg (k + 1) (nrm (q * 2 ^ den).floor den) := by
  refine mg_nrm ?_
  have hp := p2pos den
  have e : (2 : Rat) ^ (k + den) = (((2 ^ (k + den) : Nat) : Int) : Rat) := by rw [p2nat, p2int]
  have h3 : (q * 2 ^ den).floor < ((2 ^ (k + den) : Nat) : Int) := by
    rw [← Rat.intCast_lt_intCast, ← e, p2add]
    have := Rat.floor_le (q * 2 ^ den)
    have := Rat.mul_lt_mul_of_pos_right h2 hp
    grind
  have h4 : -((2 ^ (k + den) : Nat) : Int) ≤ (q * 2 ^ den).floor := by
    rw [Rat.le_floor_iff, Rat.intCast_neg, ← e, p2add]
    have := Rat.mul_lt_mul_of_pos_right h1 hp
    grind
  have h5 : 2 ^ (k + 1 + den) = 2 ^ (k + den) * 2 := by rw [← Nat.pow_succ]; congr 1; omega
  have h6 : 0 < 2 ^ (k + den) := Nat.pow_pos (by omega)
  omega
theorem Dy.v_far {y : Dy} (h : y.n ≠ 0) : 1 ≤ y.v * 2 ^ y.d ∨ y.v * 2 ^ y.d ≤ -1 := by
  rw [y.v_mul]
  rcases Int.lt_or_gt_of_ne h with h1 | h1
  · right
    have : y.n ≤ -1 := by omega
    have := Rat.intCast_le_intCast.2 this
    simpa using this
  · left
    have : 1 ≤ y.n := by omega
    have := Rat.intCast_le_intCast.2 this
    simpa using this
theorem quo_bd {q K P xv yv : Rat} (hK : 0 < K) (hP : 0 < P) (hq : q * yv = xv) (h1 : -K < xv) (h2 : xv < K) (hf : 1 ≤ yv * P ∨ yv * P ≤ -1) : -(K * P) < q ∧ q < K * P := by
  have e : q * (yv * P) = xv * P := by rw [← Rat.mul_assoc, hq]
  have a1 : xv * P < K * P := Rat.mul_lt_mul_of_pos_right h2 hP
  have a2 : -K * P < xv * P := Rat.mul_lt_mul_of_pos_right h1 hP
  have a3 : -K * P = -(K * P) := by grind
  rw [a3] at a2
  have hKP := Rat.mul_pos hK hP
  generalize K * P = A at *
  generalize xv * P = B at *
  generalize yv * P = T at *
  clear a3
  rcases hf with hf | hf
  · by_cases h0 : 0 ≤ q
    · have := Rat.mul_le_mul_of_nonneg_left hf h0
      rw [e, Rat.mul_one] at this
      constructor <;> grind
    · have := Rat.mul_le_mul_of_nonneg_left hf (show (0 : Rat) ≤ -q by grind)
      rw [Rat.mul_one, Rat.neg_mul, e] at this
      constructor <;> grind
  · have hf : 1 ≤ -T := by grind
    have e2 : q * -T = -B := by rw [Rat.mul_neg, e]
    by_cases h0 : 0 ≤ q
    · have := Rat.mul_le_mul_of_nonneg_left hf h0
      rw [e2, Rat.mul_one] at this
      constructor <;> grind
    · have := Rat.mul_le_mul_of_nonneg_left hf (show (0 : Rat) ≤ -q by grind)
      rw [Rat.mul_one, Rat.neg_mul, e2] at this
      constructor <;> grind
theorem Mg.quo {k : Nat} {x y : Dy} (gx : Mg k x) (h0 : y.n ≠ 0) {den : Nat} : Mg (k + y.d + 1) (x.quo y den) := by
  have hy : y.v ≠ 0 := fun h => h0 ((Dy.v_zero_iff y).1 h)
  obtain ⟨h1, h2⟩ := quo_bd (p2pos k) (p2pos y.d) (Rat.div_mul_cancel hy : x.v / y.v * y.v = x.v) gx.1 gx.2 (Dy.v_far h0)
  rw [← p2add] at h1 h2
  exact mg_grid h1 h2
end Go.Ax

namespace Go.Ax
open Go Go.RowKit
section
variable {C : Cx} {n : Nat} {r : List It} {s : AS} {Q : Lab → AS → Prop} {o : Oper} {d : Option Tmp} {all l : List Oper} {fps : List FP} {fp : FP}
theorem cF {g : FuncId} {as : List AV} {res : AV} (h : CallOK C.P C.G g as res) (k : ex C n r (s.put d res) Q) : callF C n r s Q g as d := callF_of h k
theorem dF {g : FuncId} {as : List AV} {res : AV} (h : CallOK C.P C.G g as res) (k : drawRun C n r (bump (s.put d res) (s.next + 1)) Q all l ((none, none) :: fps)) : drawF C n r s Q all g as d l fps := drawF_of h k
theorem gS {b want : Bool} (h1 : b = true → guardThen C n r s Q (some (.v (.bool b))) want o) (h2 : b = false → guardThen C n r s Q (some (.v (.bool b))) want o) : guardThen C n r s Q (some (.v (.bool b))) want o := guard_split h1 h2
theorem dS {b want : Bool} (h1 : b = true → drawGuard C n r s Q all (some (.v (.bool b))) want o l fps) (h2 : b = false → drawGuard C n r s Q all (some (.v (.bool b))) want o l fps) : drawGuard C n r s Q all (some (.v (.bool b))) want o l fps := drawGuard_split h1 h2
theorem cC {b : Bool} {x y : Code} (h1 : b = true → condThen C n r s Q (some (.v (.bool b))) x y) (h2 : b = false → condThen C n r s Q (some (.v (.bool b))) x y) : condThen C n r s Q (some (.v (.bool b))) x y := cond_cases h1 h2
variable {t : TypeId} {len : Nat} {parts : List (Nat × Operand)} {u : TypeId} {pos : String} {af : Array Edge} {g : Option (Nat × Bool)}
theorem aL (hT : TypesOK C.P C.ti) (h : litThen C n r s Q d (aLit C.ti s t len parts)) : after C n r s Q ⟨d, .buildSlice t len parts.toArray, u, pos, af, g⟩ none := after_lit hT h
theorem dL (hT : TypesOK C.P C.ti) (h : drawLitThen C n r s Q all d (aLit C.ti s t len parts) fp l fps) : drawAfter C n r s Q all ⟨d, .buildSlice t len parts.toArray, u, pos, af, g⟩ none fp l fps := drawAfter_lit hT h
end
end Go.Ax

namespace Go.Ax
open Go Go.RowKit
theorem dcA : (∀ (p : Prop) [Decidable p], (decide p = true) = p) ∧ (∀ (p : Prop) [Decidable p], (decide p = false) = ¬p) ∧ (∀ b : Bool, (¬b = true) = (b = false)) ∧ (∀ b : Bool, (¬b = false) = (b = true)) ∧ (∀ b : Bool, ((!b) = true) = (b = false)) ∧ (∀ b : Bool, ((!b) = false) = (b = true)) :=
  ⟨fun _ _ => dcT, fun _ _ => propext dcF, fun _ => bnT, fun _ => bnF, fun _ => bnU, fun _ => bnV⟩
theorem wA : (∀ x : Int, (-9223372036854775808 ≤ x ∧ x ≤ 9223372036854775807) → IntKind.i64.wrap x = x) ∧ (∀ x : Int, (0 ≤ x ∧ x ≤ 18446744073709551615) → IntKind.u64.wrap x = x) ∧ (∀ x : Int, (0 ≤ x ∧ x ≤ 4294967295) → IntKind.u32.wrap x = x) ∧ (∀ a b : Nat, a ≤ b → min a b = a) :=
  ⟨fun _ h => w64 h, fun _ h => wu64 h, fun _ h => wu32 h, fun _ _ h => Nat.min_eq_left h⟩
section
variable {C : Cx} {n : Nat} {r : List It} {s : AS} {Q : Lab → AS → Prop} {o : Oper} {all l : List Oper} {fps : List FP}
theorem aO {p : Prop} {v : AV} {u : Upd} (h : ex C n r ((s.upd u).put o.dst v) Q) (hp : p := by omega) : after C n r s Q o (some ⟨p, v, u⟩) := after_need hp h
theorem dO {p : Prop} {v : AV} {u : Upd} {fp : FP} (h : drawRun C n r (bump ((s.upd u).put o.dst v) (s.next + 1)) Q all l (fp :: fps)) (hp : p := by omega) : drawAfter C n r s Q all o (some ⟨p, v, u⟩) fp l fps := drawAfter_need hp h
theorem dG (k : ex C n r s Q) (h : drawCheck all fps.reverse = true := by kernel_rfl) : drawEnd C n r s Q all fps := drawEnd_of h k
end
end Go.Ax

