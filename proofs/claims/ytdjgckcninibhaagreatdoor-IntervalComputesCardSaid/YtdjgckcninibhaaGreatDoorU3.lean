/- The abstract executor and plain facts, part 3 (of several texts, laid together). -/
import Derived.Test.YtdjgckcninibhaaGreatDoorU1
import Derived.Test.YtdjgckcninibhaaGreatDoorU2
import Derived.Lib.ItoaNum
import Derived.Lib.Repeat
import Derived.MakeChecks
import Derived.LaidMore
import Derived.Stop.Joined
import Derived.Handed
import Derived.LaidLaws
import Derived.Lib.LaidTab
set_option linter.unusedSimpArgs false
set_option linter.unusedVariables false
set_option linter.deprecated false
namespace Go.Ax
open Go Go.RowKit
structure RD where
  s : Bool
  ws : List Nat
  d : Int
def can (x : Dy) : RD := ⟨sg x, ms x, dn x⟩
def RD.zero : RD := ⟨false, [], 0⟩
def RD.dy (r : RD) : Dy := if validR r.s r.ws r.d = true then nrm (sgn r.s (val r.ws)) r.d.toNat else Dy.zero
def RD.ok (r : RD) : Prop := Wd r.ws ∧ r.ws.length ≤ 68719476736
theorem can_ok {x : Dy} (h : (ms x).length ≤ 68719476736) : (can x).ok := ⟨ms_wd x, h⟩
theorem Mg.ok {k : Nat} {x : Dy} (h : Mg k x) (hk : k ≤ 1099511627776) : (can x).ok := can_ok (Arg.of h hk).len
def vrow (r : RD) : List AV := [.v (.bool r.s), .sl 1 (u32s r.ws), .v (.int .i64 r.d)]
def vrows (l : List RD) : List (List AV) := l.map vrow
def mrows (a : List (List RD)) : List (List AV) := a.map fun l => [.sl 3 (vrows l)]
abbrev crow (x : Dy) : List AV := [.v (.bool (sg x)), .sl 1 (u32s (ms x)), .v (.int .i64 (dn x))]
theorem Cl.vrow {r : RD} : ∀ a ∈ vrow r, Cl a := fun a ha => by
  simp only [Ax.vrow, List.mem_cons, List.not_mem_nil, or_false] at ha
  rcases ha with rfl | rfl | rfl
  · exact Cl.v _
  · exact Cl.u32s
  · exact Cl.v _
theorem Cl.vec {sz : Nat} {l : List RD} : Cl (.sl sz (vrows l)) := Cl.sl (fun r hr a ha => by
  simp only [vrows, List.mem_map] at hr
  obtain ⟨x, _, rfl⟩ := hr
  exact Cl.vrow a ha)
theorem Cl.mat {sz : Nat} {l : List (List RD)} : Cl (.sl sz (mrows l)) := Cl.sl (fun r hr a ha => by
  simp only [mrows, List.mem_map] at hr
  obtain ⟨x, _, rfl⟩ := hr
  simp only [List.mem_cons, List.not_mem_nil, or_false] at ha
  subst ha
  exact Cl.vec)
inductive LeR : List (List AV) → List (List AV) → Prop
  | nil : LeR [] []
  | cons {a b : List AV} {l m : List (List AV)} (h : LeL a b) (t : LeR l m) : LeR (a :: l) (b :: m)
theorem LeR.refl : ∀ l, LeR l l
  | [] => .nil
  | a :: l => .cons (.refl a) (.refl l)
theorem LeR.length {l m : List (List AV)} (h : LeR l m) : l.length = m.length := by
  induction h with
  | nil => rfl
  | cons _ _ ih => simp [ih]
theorem LeR.get {l m : List (List AV)} (h : LeR l m) : ∀ (i : Nat) (b : List AV), m[i]? = some b → ∃ a, l[i]? = some a ∧ LeL a b := by
  induction h with
  | nil => intro i b hb; simp at hb
  | cons h t ih =>
    intro i b hb
    cases i with
    | zero => simp at hb; subst hb; exact ⟨_, rfl, h⟩
    | succ i => simp at hb; simpa using ih i b hb
theorem Le.sl {sz : Nat} {l m : List (List AV)} (h : LeR l m) : Le (.sl sz l) (.sl sz m) := fun σ S w x hx => by
  have hlen := h.length
  cases hx with
  | nil => cases h; exact .nil
  | e => cases h; exact .e
  | @sl k off cap _ _ c hk hc hl hcell hr =>
    rw [hlen]
    refine .sl c hk (by rw [← hlen]; exact hc) (fun r' hr' => ?_) (fun i r' j av' hi hj => ?_) (fun i r' j av' hi hj => ?_)
    · obtain ⟨i, hi⟩ := List.getElem?_of_mem hr'
      obtain ⟨r, q1, q2⟩ := h.get i r' hi
      rw [← q2.length]; exact hl r (List.mem_of_getElem? q1)
    · obtain ⟨r, q1, q2⟩ := h.get i r' hi
      obtain ⟨a, q3, _⟩ := q2.get j av' hj
      exact hcell i r j a q1 q3
    · obtain ⟨r, q1, q2⟩ := h.get i r' hi
      obtain ⟨a, q3, q4⟩ := q2.get j av' hj
      exact q4 _ _ _ _ (hr i r j a q1 q3)
theorem LeL.dy0 : LeL [.v (.bool false), .v (.slice none 0 0), .v (.int .i64 0)] (vrow RD.zero) := .cons (.refl _) (.cons (Le.nil 1) (.cons (.refl _) .nil))
theorem nbRows_of {n : Nat} {rows : List (List AV)} (h : ∀ r ∈ rows, ∀ a ∈ r, Cl a) : nbRows n rows := by
  have hl : ∀ l : List AV, (∀ a ∈ l, Cl a) → nbL n l := fun l => by
    induction l with
    | nil => intro _; trivial
    | cons a l ih => intro h; exact ⟨.cl (h a (List.mem_cons_self ..)), ih fun b hb => h b (List.mem_cons_of_mem _ hb)⟩
  induction rows with
  | nil => trivial
  | cons r l ih => exact ⟨hl r (h r (List.mem_cons_self ..)), ih fun r' hr' => h r' (List.mem_cons_of_mem _ hr')⟩
theorem vrows_cl (l : List RD) : ∀ r ∈ vrows l, ∀ a ∈ r, Cl a := fun r hr a ha => by
  simp only [vrows, List.mem_map] at hr
  obtain ⟨x, _, rfl⟩ := hr
  exact Cl.vrow a ha
theorem mrows_cl (l : List (List RD)) : ∀ r ∈ mrows l, ∀ a ∈ r, Cl a := fun r hr a ha => by
  simp only [mrows, List.mem_map] at hr
  obtain ⟨x, _, rfl⟩ := hr
  simp only [List.mem_cons, List.not_mem_nil, or_false] at ha
  subst ha
  exact Cl.vec
theorem nbRows_vrows {n : Nat} {l : List RD} : nbRows n (vrows l) := nbRows_of (vrows_cl l)
theorem nbRows_mrows {n : Nat} {l : List (List RD)} : nbRows n (mrows l) := nbRows_of (mrows_cl l)
theorem noRows_vrows {b : Nat} {l : List RD} : ∀ r ∈ vrows l, ∀ a ∈ r, NO b a := fun r hr a ha => .cl (vrows_cl l r hr a ha)
theorem noRows_mrows {b : Nat} {l : List (List RD)} : ∀ r ∈ mrows l, ∀ a ∈ r, NO b a := fun r hr a ha => .cl (mrows_cl l r hr a ha)
def okL (b : Nat) : List AV → Prop
  | [] => True
  | a :: l => (a.one = true ∧ NO b a) ∧ okL b l
def okRL (b sz : Nat) : List (List AV) → Prop
  | [] => True
  | r :: l => (r.length = sz ∧ okL b r) ∧ okRL b sz l
theorem okL_mem {b : Nat} : ∀ (l : List AV), okL b l → ∀ a ∈ l, a.one = true ∧ NO b a
  | [], _, a, h => by cases h
  | x :: l, hl, a, h => by
    rcases List.mem_cons.1 h with rfl | h
    · exact hl.1
    · exact okL_mem l hl.2 a h
theorem rowsOK_lit {b sz : Nat} {rows : List (List AV)} (h : okRL b sz rows) : RowsOK b sz rows := by
  induction rows with
  | nil => intro r hr; cases hr
  | cons r0 rows ih =>
    intro r hr
    rcases List.mem_cons.1 hr with rfl | hr
    · exact ⟨h.1.1, okL_mem _ h.1.2⟩
    · exact ih h.2 r hr
theorem rowsOK_vrows {b : Nat} {l : List RD} : RowsOK b 3 (vrows l) := fun r hr => by
  simp only [vrows, List.mem_map] at hr
  obtain ⟨x, _, rfl⟩ := hr
  refine ⟨rfl, fun a ha => ⟨?_, .cl (Cl.vrow a ha)⟩⟩
  simp only [vrow, List.mem_cons, List.not_mem_nil, or_false] at ha
  rcases ha with rfl | rfl | rfl <;> rfl
abbrev zlit : AV := .agg [.v (.bool false), .v (.slice none 0 0), .v (.int .i64 0)]
theorem Cl.zlit : Cl zlit := Cl.agg (fun a ha => by
  simp only [List.mem_cons, List.not_mem_nil, or_false] at ha
  rcases ha with rfl | rfl | rfl <;> exact Cl.v _)
theorem CallOK.le {P : Program} {G : GL} {f : FuncId} {as as' : List AV} {res : AV} (h : CallOK P G f as' res) (hle : LeL as as') (hcl : ∀ x ∈ as, Cl x) : CallOK P G f as res :=
  ⟨h.enters, hcl, h.clr, fun S w vs hS hg hsz hr => h.runs S w vs hS hg (by rw [hsz, hle.length]) (fun i x av hx hav => by
    obtain ⟨a, ha, hl⟩ := hle.get i av hav
    exact hl _ _ _ _ (hr i x a hx ha))⟩
theorem CallOK.zlit2 {P : Program} {G : GL} {f : FuncId} {a : AV} {res : AV} (h : CallOK P G f [a, .agg [.v (.bool (sg Dy.zero)), .sl 1 (u32s (ms Dy.zero)), .v (.int .i64 (dn Dy.zero))]] res) : CallOK P G f [a, zlit] res :=
  h.le (.cons (.refl _) (.cons Le.dy0 .nil)) (fun x hx => by
    simp only [List.mem_cons, List.not_mem_nil, or_false] at hx
    rcases hx with rfl | rfl
    · exact h.cla _ (by simp)
    · exact Cl.zlit)
theorem fit_u32s {rows : List (List AV)} (h : ∀ r ∈ rows, FitL [.int .u32] r) : ∃ ws, Wd ws ∧ rows = u32s ws ∧ rows.length = ws.length := by
  induction rows with
  | nil => exact ⟨[], Wd.nil, rfl, rfl⟩
  | cons r l ih =>
    obtain ⟨ws, h1, h2, h3⟩ := ih (fun r' h' => h r' (List.mem_cons_of_mem _ h'))
    obtain ⟨n, l', rfl, hn, hl⟩ := (h r (List.mem_cons_self ..)).int
    obtain rfl := hl.nil
    have hb : 0 ≤ n ∧ n ≤ 4294967295 := by simpa [Lit.wf, IntKind.min, IntKind.max, IntKind.signed, IntKind.bits] using hn
    refine ⟨n.toNat :: ws, .cons (by omega) h1, ?_, by simp [h3]⟩
    rw [h2]
    show _ = [AV.v (.int .u32 ((n.toNat : Nat) : Int))] :: u32s ws
    rw [Int.toNat_of_nonneg hb.1]
def rws {α : Type} (f : α → List AV) (l : List α) : List (List AV) := l.map f
def ClRow {α : Type} (f : α → List AV) : Prop := ∀ x, ∀ a ∈ f x, Cl a
theorem rws_length {α : Type} {f : α → List AV} (l : List α) : (rws f l).length = l.length := by simp [rws]
theorem rws_cl {α : Type} {f : α → List AV} (hf : ClRow f) (l : List α) : ∀ r ∈ rws f l, ∀ a ∈ r, Cl a := fun r hr a ha => by
  simp only [rws, List.mem_map] at hr
  obtain ⟨x, _, rfl⟩ := hr
  exact hf x a ha
theorem Cl.rws {α : Type} {f : α → List AV} (hf : ClRow f) {sz : Nat} {l : List α} : Cl (.sl sz (Ax.rws f l)) := Cl.sl (rws_cl hf l)
theorem nbRows_rws {α : Type} {f : α → List AV} (hf : ClRow f) {n : Nat} {l : List α} : nbRows n (rws f l) := nbRows_of (rws_cl hf l)
theorem noRows_rws {α : Type} {f : α → List AV} (hf : ClRow f) {b : Nat} {l : List α} : ∀ r ∈ rws f l, ∀ a ∈ r, NO b a := fun r hr a ha => .cl (rws_cl hf l r hr a ha)
theorem rowsOK_rws {α : Type} {f : α → List AV} (hf : ClRow f) {b sz : Nat} (h1 : ∀ x, (f x).length = sz ∧ ∀ a ∈ f x, a.one = true) {l : List α} : RowsOK b sz (rws f l) := fun r hr => by
  simp only [rws, List.mem_map] at hr
  obtain ⟨x, _, rfl⟩ := hr
  exact ⟨(h1 x).1, fun a ha => ⟨(h1 x).2 a ha, .cl (hf x a ha)⟩⟩
def prow (p : Int × Int) : List AV := [.v (.int .i64 p.1), .v (.int .i64 p.2)]
def trow (p : Int × Int × Int) : List AV := [.v (.int .i64 p.1), .v (.int .i64 p.2.1), .v (.int .i64 p.2.2)]
def lrow (p : Dy × Dy × Dy) : List AV := [.v (.bool (sg p.1)), .sl 1 (u32s (ms p.1)), .v (.int .i64 (dn p.1)), .v (.bool (sg p.2.1)), .sl 1 (u32s (ms p.2.1)), .v (.int .i64 (dn p.2.1)), .v (.bool (sg p.2.2)), .sl 1 (u32s (ms p.2.2)), .v (.int .i64 (dn p.2.2))]
theorem clrow_p : ClRow prow := fun x a ha => by
  simp only [prow, List.mem_cons, List.not_mem_nil, or_false] at ha
  rcases ha with rfl | rfl <;> exact Cl.v _
theorem clrow_t : ClRow trow := fun x a ha => by
  simp only [trow, List.mem_cons, List.not_mem_nil, or_false] at ha
  rcases ha with rfl | rfl | rfl <;> exact Cl.v _
theorem clrow_l : ClRow lrow := fun x a ha => by
  simp only [lrow, List.mem_cons, List.not_mem_nil, or_false] at ha
  rcases ha with rfl | rfl | rfl | rfl | rfl | rfl | rfl | rfl | rfl <;> first | exact Cl.v _ | exact Cl.u32s
def irow (n : Int) : List AV := [.v (.int .i64 n)]
theorem clrow_i : ClRow irow := fun x a ha => by
  simp only [irow, List.mem_cons, List.not_mem_nil, or_false] at ha
  rcases ha with rfl; exact Cl.v _
theorem rowsOK_irows {b : Nat} {l : List Int} : RowsOK b 1 (rws irow l) := rowsOK_rws clrow_i (fun x => ⟨rfl, fun a ha => by
  simp only [irow, List.mem_cons, List.not_mem_nil, or_false] at ha
  rcases ha with rfl; rfl⟩)
theorem rowsOK_prows {b : Nat} {l : List (Int × Int)} : RowsOK b 2 (rws prow l) := rowsOK_rws clrow_p (fun x => ⟨rfl, fun a ha => by
  simp only [prow, List.mem_cons, List.not_mem_nil, or_false] at ha
  rcases ha with rfl | rfl <;> rfl⟩)
end Go.Ax

namespace Go.Ax
open Go Go.RowKit
def pdig (k r : Nat) : List UInt8 := List.replicate (k - (Lib.decDigits r).length) 48 ++ Lib.decDigits r
theorem decDigits_small {u : Nat} (h : u < 10) : Lib.decDigits u = [UInt8.ofNat (48 + u)] := by rw [Lib.decDigits, dif_pos h]
theorem decDigits_big {u : Nat} (h : ¬ u < 10) : Lib.decDigits u = Lib.decDigits (u / 10) ++ [UInt8.ofNat (48 + u % 10)] := by rw [Lib.decDigits, dif_neg h]
theorem decDigits_len : ∀ (k u : Nat), u < 10 ^ (k + 1) → (Lib.decDigits u).length ≤ k + 1
  | 0, u, h => by rw [decDigits_small (by simpa using h)]; simp
  | k + 1, u, h => by
    by_cases h0 : u < 10
    · rw [decDigits_small h0]; simp
    · rw [decDigits_big h0, List.length_append]
      have := decDigits_len k (u / 10) (by rw [Nat.pow_succ] at h; omega)
      simp; omega
theorem decDigits_pos (u : Nat) : 0 < (Lib.decDigits u).length := by
  by_cases h0 : u < 10
  · rw [decDigits_small h0]; simp
  · rw [decDigits_big h0, List.length_append]; simp
theorem pdig_succ {k r : Nat} (hk : 0 < k) (h : r < 10 ^ (k + 1)) : pdig (k + 1) r = pdig k (r / 10) ++ [UInt8.ofNat (48 + r % 10)] := by
  unfold pdig
  by_cases h0 : r < 10
  · have e1 : r / 10 = 0 := by omega
    have e2 : r % 10 = r := by omega
    rw [e1, e2, decDigits_small h0, decDigits_small (by omega : (0 : Nat) < 10)]
    simp only [List.length_cons, List.length_nil]
    rw [show k + 1 - (0 + 1) = (k - (0 + 1)) + 1 by omega, List.replicate_succ']
    rfl
  · rw [decDigits_big h0]
    simp only [List.length_append, List.length_cons, List.length_nil]
    rw [show k + 1 - ((Lib.decDigits (r / 10)).length + (0 + 1)) = k - (Lib.decDigits (r / 10)).length by omega, List.append_assoc]
theorem decDigits_split : ∀ (k q r : Nat), 0 < q → r < 10 ^ (k + 1) → Lib.decDigits (q * 10 ^ (k + 1) + r) = Lib.decDigits q ++ pdig (k + 1) r
  | 0, q, r, hq, hr => by
    have hr : r < 10 := by simpa using hr
    rw [Nat.pow_succ, Nat.pow_zero, Nat.one_mul, decDigits_big (by omega), show (q * 10 + r) / 10 = q by omega, show (q * 10 + r) % 10 = r by omega]
    unfold pdig
    rw [decDigits_small hr]; rfl
  | k + 1, q, r, hq, hr => by
    have hp : 0 < 10 ^ (k + 1) := Nat.pow_pos (by omega)
    have h1 : 1 ≤ q * 10 ^ (k + 1) := Nat.mul_pos hq hp
    have e0 : q * 10 ^ (k + 1 + 1) = q * 10 ^ (k + 1) * 10 := by rw [Nat.pow_succ 10 (k + 1), Nat.mul_assoc]
    rw [e0, decDigits_big (by omega), show (q * 10 ^ (k + 1) * 10 + r) / 10 = q * 10 ^ (k + 1) + r / 10 by omega, show (q * 10 ^ (k + 1) * 10 + r) % 10 = r % 10 by omega,
      decDigits_split k q (r / 10) hq (by rw [Nat.pow_succ] at hr; omega), pdig_succ (by omega) hr, List.append_assoc]
def val9 : List Nat → Nat
  | [] => 0
  | g :: l => g + 1000000000 * val9 l
def txt9 : List Nat → List UInt8
  | [] => []
  | [g] => Lib.decDigits g
  | g :: l => txt9 l ++ pdig 9 g
def Gr : List Nat → Prop
  | [] => True
  | g :: l => g < 1000000000 ∧ Gr l
theorem txt9_cons {g : Nat} {l : List Nat} (h : l ≠ []) : txt9 (g :: l) = txt9 l ++ pdig 9 g := by
  cases l with
  | nil => exact absurd rfl h
  | cons a l => rfl
theorem txt9_val : ∀ (l : List Nat), Gr l → l ≠ [] → (∀ x, l.getLast? = some x → x ≠ 0) → txt9 l = Lib.decDigits (val9 l) ∧ 0 < val9 l
  | [], _, h, _ => absurd rfl h
  | [g], hg, _, h => ⟨by simp [txt9, val9], by have := h g rfl; simp [val9]; omega⟩
  | g :: a :: l, hg, _, h => by
    obtain ⟨h1, h2⟩ := txt9_val (a :: l) hg.2 (by simp) (fun x hx => h x (by simpa using hx))
    refine ⟨?_, by simp only [val9] at h2 ⊢; omega⟩
    rw [txt9_cons (by simp), h1]
    show _ = Lib.decDigits (g + 1000000000 * val9 (a :: l))
    have := decDigits_split 8 (val9 (a :: l)) g h2 (by simpa using hg.1)
    rw [show g + 1000000000 * val9 (a :: l) = val9 (a :: l) * 10 ^ (8 + 1) + g by rw [show (10 : Nat) ^ (8 + 1) = 1000000000 by decide]; omega, this]
theorem val9_append : ∀ (l m : List Nat), val9 (l ++ m) = val9 l + 1000000000 ^ l.length * val9 m
  | [], m => by simp [val9]
  | g :: l, m => by
    simp only [List.cons_append, val9, val9_append l m, List.length_cons, Nat.pow_succ]
    rw [Nat.mul_add, Nat.add_assoc, ← Nat.mul_assoc, Nat.mul_comm 1000000000 (1000000000 ^ l.length)]
theorem Gr.append : ∀ {l m : List Nat}, Gr l → Gr m → Gr (l ++ m)
  | [], _, _, h => h
  | _ :: _, _, h, k => ⟨h.1, Gr.append h.2 k⟩
theorem Gr.get {l : List Nat} (h : Gr l) : ∀ {g : Nat}, g ∈ l → g < 1000000000 := by
  induction l with
  | nil => intro g hg; simp at hg
  | cons a l ih =>
    intro g hg
    rcases List.mem_cons.1 hg with rfl | hg
    · exact h.1
    · exact ih h.2 hg
theorem txt9_drop {l : List Nat} {i : Nat} (h : i + 1 < l.length) : txt9 (l.drop i) = txt9 (l.drop (i + 1)) ++ pdig 9 (l.getD i 0) := by
  have e : l.drop i = l.getD i 0 :: l.drop (i + 1) := by
    rw [List.drop_eq_getElem_cons (by omega)]
    simp [List.getD, show i < l.length by omega]
  rw [e, txt9_cons (fun h0 => by have := congrArg List.length h0; simp at this; omega)]
theorem txt9_top {l : List Nat} {i : Nat} (h : i + 1 = l.length) : txt9 (l.drop i) = Lib.decDigits (l.getD i 0) := by
  have e : l.drop i = [l.getD i 0] := by
    rw [List.drop_eq_getElem_cons (by omega), List.drop_eq_nil_of_le (by omega)]
    simp [List.getD, show i < l.length by omega]
  rw [e, txt9]
theorem Gr.drop : ∀ {l : List Nat} (n : Nat), Gr l → Gr (l.drop n)
  | _, 0, h => h
  | [], _ + 1, _ => trivial
  | _ :: _, n + 1, h => Gr.drop n h.2
theorem pdig_len {r : Nat} (h : r < 1000000000) : (pdig 9 r).length = 9 := by
  have := decDigits_len 8 r (by simpa using h)
  unfold pdig
  rw [List.length_append, List.length_replicate]; omega
theorem txt9_len : ∀ (l : List Nat), Gr l → (txt9 l).length ≤ 9 * l.length
  | [], _ => by simp [txt9]
  | [g], h => by have := decDigits_len 8 g (by simpa using h.1); simp [txt9]; omega
  | g :: a :: l, h => by
    rw [txt9_cons (by simp), List.length_append, pdig_len h.1]
    have := txt9_len (a :: l) h.2
    simp only [List.length_cons] at this ⊢; omega
def strV (l : List UInt8) : Value := .string ⟨l.toArray⟩
def strs (l : List (List UInt8)) : List (List AV) := l.map fun s => [.v (strV s)]
theorem strs_length (l : List (List UInt8)) : (strs l).length = l.length := by simp [strs]
theorem strs_append (l m : List (List UInt8)) : strs (l ++ m) = strs l ++ strs m := by simp [strs]
theorem strs_snoc {l : List (List UInt8)} {k : Nat} {s : List UInt8} (h : l.length = k) : (strs l).take k ++ [[.v (.string ⟨s.toArray⟩)]] = strs (l ++ [s]) := by
  rw [List.take_of_length_le (by rw [strs_length]; omega), strs_append]; rfl
theorem Cl.strs {sz : Nat} {l : List (List UInt8)} : Cl (.sl sz (Ax.strs l)) := Cl.sl (fun r hr a ha => by
  simp only [Ax.strs, List.mem_map] at hr
  obtain ⟨s, _, rfl⟩ := hr
  simp only [List.mem_cons, List.not_mem_nil, or_false] at ha
  subst ha; exact Cl.v _)
theorem noRows_strs {b : Nat} {l : List (List UInt8)} : ∀ r ∈ strs l, ∀ a ∈ r, NO b a := fun r hr a ha => by
  simp only [strs, List.mem_map] at hr
  obtain ⟨s, _, rfl⟩ := hr
  simp only [List.mem_cons, List.not_mem_nil, or_false] at ha
  subst ha; exact NO.v
theorem nbRows_strs {n : Nat} {l : List (List UInt8)} : nbRows n (strs l) := by
  induction l with
  | nil => trivial
  | cons s l ih => exact ⟨⟨NB.v, trivial⟩, ih⟩
theorem grp_bd {m k n L : Nat} (h0 : 0 < m) (h : m * 536870912 ^ k ≤ n) (hn : n < 4294967296 ^ L) : k ≤ 2 * L := by
  rcases Nat.lt_or_ge (2 * L) k with h1 | h1
  · exfalso
    have h2 : 536870912 ^ (2 * L) ≤ 536870912 ^ k := Nat.pow_le_pow_right (by omega) (by omega)
    have h3 : 4294967296 ^ L ≤ (536870912 ^ 2) ^ L := Nat.pow_le_pow_left (by decide) L
    rw [← Nat.pow_mul] at h3
    have h4 : 1 * 536870912 ^ k ≤ m * 536870912 ^ k := Nat.mul_le_mul_right _ h0
    omega
  · exact h1
theorem grp_step {m k n : Nat} (h : m * 536870912 ^ k ≤ n) : m / 1000000000 * 536870912 ^ (k + 1) ≤ n := by
  refine Nat.le_trans ?_ h
  rw [Nat.pow_succ, Nat.mul_comm (536870912 ^ k), ← Nat.mul_assoc]
  exact Nat.mul_le_mul_right _ (by omega)
theorem grp_val {m n : Nat} {gs : List Nat} (h : val9 gs + 1000000000 ^ gs.length * m = n) : val9 (gs ++ [m % 1000000000]) + 1000000000 ^ (gs.length + 1) * (m / 1000000000) = n := by
  rw [val9_append, ← h, Nat.pow_succ, Nat.mul_assoc, Nat.add_assoc, ← Nat.mul_add]
  simp only [val9, Nat.mul_zero, Nat.add_zero]
  rw [Nat.mod_add_div]
theorem bytes_append (a b : List UInt8) : (⟨a.toArray⟩ : ByteArray) ++ ⟨b.toArray⟩ = ⟨(a ++ b).toArray⟩ := by
  apply ByteArray.ext
  rw [ByteArray.data_append]
  simp
end Go.Ax

namespace Go.Ax
open Go Go.RowKit
section
variable {P : Program} {ti : Types} {D : Base} {S0 : Nat → Prop} {w0 : World} {σ : Sig} {S : Nat → Prop} {w : World} {mem : List (Nat × MB)} {U : Nat → Prop}
theorem Fit.none (hF : Fit D S0 w0 σ S mem U w) {next sz : Nat} (hid : ¬ U next) : Fit D S0 w0 σ S ((next, ⟨sz, []⟩) :: mem) (fun c => U c ∨ c = next) w where
  below := hF.below
  dom c k1 hk := ⟨.inl (hF.dom c k1 hk).1, (hF.dom c k1 hk).2⟩
  inj c c' k1 m1 m2 h1 h2 h3 h4 := by
    have ne : ∀ c, σ c = some k1 → c ≠ next := fun c hc e => hid (e ▸ (hF.dom c k1 hc).1)
    simp only [look] at h1 h2
    rw [if_neg (fun e => ne c h3 e.symm)] at h1
    rw [if_neg (fun e => ne c' h4 e.symm)] at h2
    exact hF.inj c c' k1 m1 m2 h1 h2 h3 h4
  sbd := hF.sbd
  s0 := hF.s0
  s1 := hF.s1
  glob := hF.glob
  mem c mc hmc := by
    simp only [look] at hmc
    split at hmc
    · rename_i hc
      injection hmc with hmc
      subst hmc hc
      refine .inl ⟨rfl, ?_⟩
      cases hs : σ next with
      | none => rfl
      | some k => exact (hid (hF.dom next k hs).1).elim
    · exact hF.mem c mc hmc
end
section
variable {C : Cx} {s : AS} {o : Oper}
end
def renV (b' b : Nat) : AV → AV
  | .p c sz row j => bif c == b' then .p b sz row j else bif c == b then .top else .p c sz row j
  | .ps c sz row k => bif c == b' then .ps b sz row k else bif c == b then .top else .ps c sz row k
  | a => a
def renOK (b : Nat) : AV → Prop
  | .p _ _ _ _ => True
  | .ps _ _ _ _ => True
  | a => NO b a
def renE (b' b : Nat) : List (Nat × AV) → List (Nat × AV)
  | [] => []
  | (t, a) :: l => (t, renV b' b a) :: renE b' b l
def renEOK (b : Nat) : List (Nat × AV) → Prop
  | [] => True
  | (_, a) :: l => renOK b a ∧ renEOK b l
def renM (b' b : Nat) : List (Nat × MB) → List (Nat × MB)
  | [] => []
  | (c, m) :: l => bif c == b' then (b, m) :: renM b' b l else bif c == b then renM b' b l else (c, m) :: renM b' b l
def renσ (b' b : Nat) (σ : Sig) : Sig := fun c => if c = b then σ b' else σ c
section
variable {σ : Sig} {S : Nat → Prop} {w : World}
theorem renV_rel {b' b : Nat} {x : Value} {a : AV} (h : renOK b a) (hr : Rel σ S w x a) : Rel (renσ b' b σ) S w x (renV b' b a) := by
  have other : ∀ {a : AV}, NO b a → Rel σ S w x a → Rel (renσ b' b σ) S w x a := fun h hr => h σ _ S w x (fun c k hc hk => by unfold renσ; rw [if_neg hc]; exact hk) hr
  cases a with
  | p c sz row j =>
    simp only [renV]
    cases hr with
    | p hσ =>
      by_cases h1 : c = b'
      · subst h1; simp only [beq_self_eq_true, cond_true]; exact .p (by simp [renσ, hσ])
      · by_cases h2 : c = b
        · subst h2; simp only [beq_eq_false_iff_ne.2 h1, cond_false, beq_self_eq_true, cond_true]; exact .top _
        · simp only [beq_eq_false_iff_ne.2 h1, beq_eq_false_iff_ne.2 h2, cond_false]; exact .p (by simp [renσ, h2, hσ])
  | ps c sz row k =>
    simp only [renV]
    by_cases h1 : c = b'
    · subst h1; simp only [beq_self_eq_true, cond_true]
      cases hr with
      | ps hσ q1 q2 q3 => exact .ps (by simp [renσ, hσ]) q1 q2 q3
      | ps0 => exact .ps0
    · by_cases h2 : c = b
      · subst h2; simp only [beq_eq_false_iff_ne.2 h1, cond_false, beq_self_eq_true, cond_true]; exact .top _
      · simp only [beq_eq_false_iff_ne.2 h1, beq_eq_false_iff_ne.2 h2, cond_false]
        cases hr with
        | ps hσ q1 q2 q3 => exact .ps (by simp [renσ, h2, hσ]) q1 q2 q3
        | ps0 => exact .ps0
  | _ => exact other h hr
theorem renE_look {b' b : Nat} : ∀ (l : List (Nat × AV)), renEOK b l → ∀ t av, look (renE b' b l) t = some av → ∃ a, look l t = some a ∧ renOK b a ∧ av = renV b' b a
  | [], _, t, av, h => by simp [renE, look] at h
  | (t', a') :: l, hl, t, av, h => by
    simp only [renE, look] at h ⊢
    split at h
    · rename_i he; injection h with h; exact ⟨a', by rw [if_pos he], hl.1, h.symm⟩
    · rename_i he
      rw [if_neg he]; exact renE_look l hl.2 t av h
theorem renM_look {b' b : Nat} : ∀ (l : List (Nat × MB)) (c : Nat) (m : MB), look (renM b' b l) c = some m → (c = b ∧ look l b' = some m) ∨ (c ≠ b ∧ c ≠ b' ∧ look l c = some m)
  | [], c, m, h => by simp [renM, look] at h
  | (c', m') :: l, c, m, h => by
    simp only [renM] at h
    by_cases h1 : c' = b'
    · subst h1
      simp only [beq_self_eq_true, cond_true, look] at h
      split at h
      · rename_i he
        injection h with h; subst h
        exact .inl ⟨he.symm, by simp [look]⟩
      · rename_i he
        rcases renM_look l c m h with ⟨q1, q2⟩ | ⟨q1, q2, q3⟩
        · exact (he q1.symm).elim
        · exact .inr ⟨q1, q2, by simp only [look]; rw [if_neg (fun e => q2 e.symm)]; exact q3⟩
    · by_cases h2 : c' = b
      · subst h2
        simp only [beq_eq_false_iff_ne.2 h1, cond_false, beq_self_eq_true, cond_true] at h
        rcases renM_look l c m h with ⟨q1, q2⟩ | ⟨q1, q2, q3⟩
        · exact .inl ⟨q1, by simp only [look]; rw [if_neg h1]; exact q2⟩
        · exact .inr ⟨q1, q2, by simp only [look]; rw [if_neg (fun e => q1 e.symm)]; exact q3⟩
      · simp only [beq_eq_false_iff_ne.2 h1, beq_eq_false_iff_ne.2 h2, cond_false, look] at h
        split at h
        · rename_i he
          subst he
          injection h with h; subst h
          exact .inr ⟨h2, h1, by simp [look]⟩
        · rename_i he
          rcases renM_look l c m h with ⟨q1, q2⟩ | ⟨q1, q2, q3⟩
          · exact .inl ⟨q1, by simp only [look]; rw [if_neg h1]; exact q2⟩
          · exact .inr ⟨q1, q2, by simp only [look]; rw [if_neg he]; exact q3⟩
end
theorem Weak.ren {s : AS} (b' b nx : Nat) (hn : s.next ≤ nx) (hb0 : b ≠ 0) (hb : b < nx) (he : renEOK b s.env) (hm : noMem b s.mem) : Weak s ⟨renE b' b s.env, renM b' b s.mem, nx⟩ := by
  intro D S0 w0 σ S w hF _
  have keep : ∀ c k, c ≠ b → σ c = some k → renσ b' b σ c = some k := fun c k hc hk => by unfold renσ; rw [if_neg hc]; exact hk
  have key : ∀ c m, look (renM b' b s.mem) c = some m → ∃ c0, look s.mem c0 = some m ∧ renσ b' b σ c = σ c0 ∧ ((c = b ∧ c0 = b') ∨ (c ≠ b ∧ c ≠ b' ∧ c0 = c)) := fun c m h => by
    rcases renM_look _ c m h with ⟨q1, q2⟩ | ⟨q1, q2, q3⟩
    · exact ⟨b', q2, by simp [renσ, q1], .inl ⟨q1, rfl⟩⟩
    · exact ⟨c, q3, by simp [renσ, q1], .inr ⟨q1, q2, rfl⟩⟩
  refine ⟨renσ b' b σ, S, ⟨hF.below, fun c k hk => ?_, fun c c' k m m' h1 h2 h3 h4 => ?_, hF.sbd, hF.s0, hF.s1, ⟨hF.glob.1, fun k hk => keep 0 k (fun e => hb0 e.symm) (hF.glob.2 k hk)⟩, fun c m h => ?_⟩, fun a hE t av ht => ?_⟩
  · unfold renσ at hk
    split at hk
    · rename_i hc; exact ⟨by rw [hc]; exact hb, (hF.dom _ k hk).2⟩
    · exact ⟨Nat.lt_of_lt_of_le (hF.dom _ k hk).1 hn, (hF.dom _ k hk).2⟩
  · obtain ⟨d, g1, g2, g3⟩ := key c m h1
    obtain ⟨d', g1', g2', g3'⟩ := key c' m' h2
    have := hF.inj d d' k m m' g1 g1' (g2 ▸ h3) (g2' ▸ h4)
    rcases g3 with ⟨q1, q2⟩ | ⟨q1, q2, q3⟩ <;> rcases g3' with ⟨q1', q2'⟩ | ⟨q1', q2', q3'⟩ <;> omega
  · obtain ⟨d, g1, g2, _⟩ := key c m h
    rcases hF.mem d m g1 with ⟨f1, f2⟩ | ⟨k, c0, e, f1, f2, f3, f4, f5, f6, f7⟩
    · exact .inl ⟨f1, by rw [g2]; exact f2⟩
    · refine .inr ⟨k, c0, e, by rw [g2]; exact f1, f2, f3, f4, f5, f6, fun i r j av hi hj => ?_⟩
      obtain ⟨x, hx, hr⟩ := f7 i r j av hi hj
      exact ⟨x, hx, noMem_look _ hm d m g1 r (List.mem_of_getElem? hi) av (List.mem_of_getElem? hj) σ _ S w x keep hr⟩
  · obtain ⟨a0, h1, h2, h3⟩ := renE_look _ he t av ht
    obtain ⟨x, hx, hr⟩ := hE t a0 h1
    subst h3
    exact ⟨x, hx, renV_rel h2 hr⟩
theorem Weak.trans {s s1 s2 : AS} (h : Weak s s1) (h1 : s.next ≤ s1.next) (k : Weak s1 s2) : Weak s s2 := by
  intro D S0 w0 σ S w hF h0
  obtain ⟨σ', S', g1, g2⟩ := h D S0 w0 σ S w hF (fun hne => by
    cases hk : D.an with
    | none => exact absurd hk hne
    | some k => exact Nat.lt_of_lt_of_le (hF.dom 0 k (hF.glob.2 k hk)).1 h1)
  obtain ⟨σ2, S2, k1, k2⟩ := k D S0 w0 σ' S' w g1 h0
  exact ⟨σ2, S2, k1, fun a ha => k2 a (g2 a ha)⟩
end Go.Ax

namespace Go.Ax
open Go Go.RowKit
theorem byClL {l : List AV} (h : ∀ x ∈ l, Cl x := by (try simp only [List.mem_cons, List.not_mem_nil, or_false, forall_eq_or_imp, forall_eq]); (repeat' (first | exact Cl.v _ | exact Cl.u32s | exact Cl.vec | exact Cl.rws clrow_p | exact Cl.rws clrow_i | exact Cl.rws clrow_t | exact Cl.rws clrow_l | exact Cl.rws (by assumption) | exact Cl.mat | exact Cl.strs | exact Cl.i64s | exact Cl.sl (by assumption) | refine And.intro ?_ ?_ | refine Cl.agg ?_ | refine Cl.rp ?_ | refine Cl.sl ?_ | refine Cl.tup ?_ | simp only [List.mem_cons, List.not_mem_nil, or_false, forall_eq_or_imp, forall_eq, false_imp_iff, implies_true]))) : ∀ x ∈ l, Cl x := h
theorem byCl {a : AV} (h : Cl a := by (try simp only [List.mem_cons, List.not_mem_nil, or_false, forall_eq_or_imp, forall_eq]); (repeat' (first | exact Cl.v _ | exact Cl.u32s | exact Cl.vec | exact Cl.rws clrow_p | exact Cl.rws clrow_i | exact Cl.rws clrow_t | exact Cl.rws clrow_l | exact Cl.rws (by assumption) | exact Cl.mat | exact Cl.strs | exact Cl.i64s | exact Cl.sl (by assumption) | refine And.intro ?_ ?_ | refine Cl.agg ?_ | refine Cl.rp ?_ | refine Cl.sl ?_ | refine Cl.tup ?_ | simp only [List.mem_cons, List.not_mem_nil, or_false, forall_eq_or_imp, forall_eq, false_imp_iff, implies_true]))) : Cl a := h
theorem byClM {rows : List (List AV)} (h : ∀ r ∈ rows, ∀ a ∈ r, Cl a := by intro r hr a ha; first | (obtain ⟨w, _, rfl⟩ := u32s_mem hr; simp only [u32, List.mem_cons, List.not_mem_nil, or_false] at ha; subst ha; exact Cl.v _) | (simp only [List.mem_cons, List.not_mem_nil, or_false] at hr; subst hr; simp only [List.mem_cons, List.not_mem_nil, or_false] at ha; (repeat' (rcases ha with ha | ha)) <;> subst ha <;> first | exact Cl.v _ | exact Cl.u32s | exact Cl.dy | assumption)) : ∀ r ∈ rows, ∀ a ∈ r, Cl a := h
theorem byWeak {s s' : AS} (h : Weak s s' := by (first | exact Weak.of (by (repeat' (first | exact trivial | exact ⟨_, rfl, .refl _⟩ | exact ⟨_, rfl, Le.nil _⟩ | exact ⟨_, rfl, Le.ps0 _ _ _⟩ | exact ⟨_, rfl, Le.top _⟩ | refine And.intro ?_ ?_))) (by (repeat' (first | exact trivial | exact rfl | refine And.intro ?_ ?_))) (by first | exact Nat.le_refl _ | exact Nat.le_of_ble_eq_true rfl) | exact Weak.cut (by (repeat' (first | exact trivial | exact ⟨_, rfl, .refl _⟩ | exact ⟨_, rfl, Le.nil _⟩ | exact ⟨_, rfl, Le.ps0 _ _ _⟩ | exact ⟨_, rfl, Le.top _⟩ | refine And.intro ?_ ?_))) (by (repeat' (first | exact trivial | exact rfl | refine And.intro ?_ ?_))) (by (repeat' (first | exact trivial | exact .v | exact .top | exact .p (Nat.le_of_ble_eq_true rfl) | exact .ps (Nat.le_of_ble_eq_true rfl) | exact nbRows_u32s | exact nbRows_strs | exact nbRows_vrows | exact nbRows_rws clrow_p | exact nbRows_rws clrow_i | exact nbRows_rws clrow_t | exact nbRows_rws clrow_l | exact nbRows_rws (by assumption) | exact nbRows_mrows | exact .cl (by (first | exact Cl.v _ | exact Cl.u32s | exact Cl.vec | exact Cl.rws clrow_p | exact Cl.rws clrow_i | exact Cl.rws clrow_t | exact Cl.rws clrow_l | exact Cl.rws (by assumption) | exact Cl.mat | exact Cl.strs | exact Cl.i64s | exact Cl.sl (by assumption) | assumption | ((first | refine Cl.agg ?_ | refine Cl.rp ?_ | refine Cl.sl ?_ | refine Cl.tup ?_); simp only [List.mem_cons, List.not_mem_nil, or_false, forall_eq_or_imp, forall_eq]; (repeat' (first | exact Cl.v _ | exact Cl.u32s | exact Cl.vec | exact Cl.rws clrow_p | exact Cl.rws clrow_i | exact Cl.rws clrow_t | exact Cl.rws clrow_l | exact Cl.rws (by assumption) | exact Cl.mat | exact Cl.strs | exact Cl.sl (by assumption) | assumption | refine And.intro ?_ ?_))))) | refine And.intro ?_ ?_))) (by (repeat' (first | exact trivial | exact Nat.le_of_ble_eq_true rfl | exact .v | exact .top | exact .p (Nat.le_of_ble_eq_true rfl) | exact .ps (Nat.le_of_ble_eq_true rfl) | exact nbRows_u32s | exact nbRows_strs | exact nbRows_vrows | exact nbRows_rws clrow_p | exact nbRows_rws clrow_i | exact nbRows_rws clrow_t | exact nbRows_rws clrow_l | exact nbRows_rws (by assumption) | exact nbRows_mrows | exact .cl (by (first | exact Cl.v _ | exact Cl.u32s | exact Cl.vec | exact Cl.rws clrow_p | exact Cl.rws clrow_i | exact Cl.rws clrow_t | exact Cl.rws clrow_l | exact Cl.rws (by assumption) | exact Cl.mat | exact Cl.strs | exact Cl.i64s | exact Cl.sl (by assumption) | assumption | ((first | refine Cl.agg ?_ | refine Cl.rp ?_ | refine Cl.sl ?_ | refine Cl.tup ?_); simp only [List.mem_cons, List.not_mem_nil, or_false, forall_eq_or_imp, forall_eq]; (repeat' (first | exact Cl.v _ | exact Cl.u32s | exact Cl.vec | exact Cl.rws clrow_p | exact Cl.rws clrow_i | exact Cl.rws clrow_t | exact Cl.rws clrow_l | exact Cl.rws (by assumption) | exact Cl.mat | exact Cl.strs | exact Cl.sl (by assumption) | assumption | refine And.intro ?_ ?_))))) | refine And.intro ?_ ?_))))) : Weak s s' := h
theorem byRows {b sz : Nat} {rows : List (List AV)} (h : RowsOK b sz rows := by (first | exact rowsOK_u32s | exact rowsOK_one (.v) | exact rowsOK_vrows | exact rowsOK_irows | exact rowsOK_prows | exact rowsOK_lit (by (repeat' (first | exact trivial | exact rfl | exact .v | exact .cl (by (first | exact Cl.v _ | exact Cl.u32s | exact Cl.vec | exact Cl.rws clrow_p | exact Cl.rws clrow_i | exact Cl.rws clrow_t | exact Cl.rws clrow_l | exact Cl.rws (by assumption) | exact Cl.mat | exact Cl.strs | exact Cl.i64s | exact Cl.sl (by assumption) | assumption | ((first | refine Cl.agg ?_ | refine Cl.rp ?_ | refine Cl.sl ?_ | refine Cl.tup ?_); simp only [List.mem_cons, List.not_mem_nil, or_false, forall_eq_or_imp, forall_eq]; (repeat' (first | exact Cl.v _ | exact Cl.u32s | exact Cl.vec | exact Cl.rws clrow_p | exact Cl.rws clrow_i | exact Cl.rws clrow_t | exact Cl.rws clrow_l | exact Cl.rws (by assumption) | exact Cl.mat | exact Cl.strs | exact Cl.sl (by assumption) | assumption | refine And.intro ?_ ?_))))) | refine And.intro ?_ ?_))))) : RowsOK b sz rows := h
theorem byNoE {b : Nat} {l : List (Nat × AV)} (h : noEnv b l := by (repeat' (first | exact trivial | exact .inl rfl | exact .inr .v | exact .inr (.p (by decide)) | exact .inr (.ps (by decide)) | exact .inr .top | exact .inr (.cl (by (first | exact Cl.v _ | exact Cl.u32s | exact Cl.vec | exact Cl.rws clrow_p | exact Cl.rws clrow_i | exact Cl.rws clrow_t | exact Cl.rws clrow_l | exact Cl.rws (by assumption) | exact Cl.mat | exact Cl.strs | exact Cl.i64s | exact Cl.sl (by assumption) | assumption | ((first | refine Cl.agg ?_ | refine Cl.rp ?_ | refine Cl.sl ?_ | refine Cl.tup ?_); simp only [List.mem_cons, List.not_mem_nil, or_false, forall_eq_or_imp, forall_eq]; (repeat' (first | exact Cl.v _ | exact Cl.u32s | exact Cl.vec | exact Cl.rws clrow_p | exact Cl.rws clrow_i | exact Cl.rws clrow_t | exact Cl.rws clrow_l | exact Cl.rws (by assumption) | exact Cl.mat | exact Cl.strs | exact Cl.sl (by assumption) | assumption | refine And.intro ?_ ?_)))))) | refine And.intro ?_ ?_))) : noEnv b l := h
theorem byNoM {b : Nat} {l : List (Nat × MB)} (h : noMem b l := by (repeat' (first | exact trivial | exact noRows_u32s | exact noRows_strs | exact noRows_vrows | exact noRows_rws clrow_p | exact noRows_rws clrow_i | exact noRows_rws clrow_t | exact noRows_rws clrow_l | exact noRows_rws (by assumption) | exact noRows_mrows | exact noRows_lit (by (repeat' (first | exact trivial | exact .v | exact .p (by decide) | exact .ps (by decide) | exact .cl (by (first | exact Cl.v _ | exact Cl.u32s | exact Cl.vec | exact Cl.rws clrow_p | exact Cl.rws clrow_i | exact Cl.rws clrow_t | exact Cl.rws clrow_l | exact Cl.rws (by assumption) | exact Cl.mat | exact Cl.strs | exact Cl.i64s | exact Cl.sl (by assumption) | assumption | ((first | refine Cl.agg ?_ | refine Cl.rp ?_ | refine Cl.sl ?_ | refine Cl.tup ?_); simp only [List.mem_cons, List.not_mem_nil, or_false, forall_eq_or_imp, forall_eq]; (repeat' (first | exact Cl.v _ | exact Cl.u32s | exact Cl.vec | exact Cl.rws clrow_p | exact Cl.rws clrow_i | exact Cl.rws clrow_t | exact Cl.rws clrow_l | exact Cl.rws (by assumption) | exact Cl.mat | exact Cl.strs | exact Cl.sl (by assumption) | assumption | refine And.intro ?_ ?_))))) | refine And.intro ?_ ?_))) | refine And.intro ?_ ?_))) : noMem b l := h
theorem byFresh {r : List It} {k : Nat} (h : Ax.fresh r = k := by simp only [Ax.fresh, Nat.max_def, Nat.zero_add, Nat.reduceAdd, Nat.reduceLeDiff, Nat.le_refl, Nat.zero_le, Nat.le_zero_eq, Nat.one_ne_zero, reduceIte, ite_self, if_true, if_false]; rfl) : Ax.fresh r = k := h
end Go.Ax

namespace Go.Ax
open Go Go.RowKit
theorem laidVars_mem {P : Program} {w : World} : ∀ {laid : List (String × DataW Unit)} {ps : List MemPlace} {n : String} {d : DataW Unit}, DataW.LaidVars P w laid ps → (n, d) ∈ laid →
    ∃ g t cs fuel p, P.globalNamed n = some g ∧ (P.globals[g]?).map (·.type) = some t ∧ w.var? P n = some cs ∧ DataW.trod (fun _ => ()) P w 0 (fun _ => true) false fuel t cs.toList = some (d, p)
  | [], _, _, _, _, h => by cases h
  | (n', d') :: laid, ps, n, d, h, hm => by
    obtain ⟨g, t, cs, fuel, p, q, h1, h2, h3, h4, h5, _⟩ := h
    rcases List.mem_cons.1 hm with he | hm
    · injection he with e1 e2
      subst e1 e2
      exact ⟨g, t, cs, fuel, p, h1, h2, h3, h4⟩
    · exact laidVars_mem h5 hm
theorem gh_of_laid {α : Type} {P : Program} {w : World} {laid : List (String × DataW Unit)} (h : laidMetH P laid w) (hp : (laid.all fun x => x.2.handleName?.isNone) = true) {n : String} {d : DataW Unit} (hm : (n, d) ∈ laid) {g N : Nat} {t e : TypeId} {k : IntKind}
    (hg : P.globalNamed n = some g) (ht : (P.globals[g]?).map (·.type) = some t) (hu : P.underlying t = some (.array N e)) (hc : P.cellsOf e = 1) (hct : P.cellsOf t = N) (he : P.underlying e = some (.int k)) (ds : List α) (f : α → Int)
    (hd : d = .agg (ds.map fun x => .lit (.int k (f x)))) (hN : ds.length = N) : GH w g (ds.map fun x => Value.int k (f x)) := by
  rw [MakeChecks.laidMetH_plain _ _ _ hp] at h
  obtain ⟨ps, hv, _⟩ := h
  obtain ⟨g', t', cs, fuel, p, h1, h2, h3, h4⟩ := laidVars_mem hv hm
  obtain rfl := Option.some.inj (hg.symm.trans h1)
  obtain rfl := Option.some.inj (ht.symm.trans h2)
  obtain ⟨c, ty, fr, hb, hcs⟩ : ∃ c ty fr, w.heap[g]? = some (.cells c ty fr) ∧ cs = c := by
    simp only [World.var?, hg, Option.bind_some] at h3
    split at h3
    · rename_i c t' fr hb
      injection h3 with h3
      exact ⟨c, t', fr, hb, h3.symm⟩
    · cases h3
  subst hcs
  have hcs := Lib.cells_of_tab (zs := ds.map f) hu he hc hct (by rw [hd] at h4; rw [show Lib.tabData k (ds.map f) = (.agg (ds.map fun x => .lit (.int k (f x))) : DataW Unit) by simp [Lib.tabData, Function.comp_def]]; exact h4)
  have e1 : cs = (ds.map fun x => Value.int k (f x)).toArray := by
    apply Array.toList_inj.1
    rw [hcs]
    simp [Function.comp_def]
  refine ⟨cs, ty, fr, hb, fun j x hj => ?_, by rw [e1]; simp⟩
  rw [e1]
  simpa using hj
end Go.Ax

namespace Go.Ax
open Go Go.RowKit
theorem Dy.add_comm (x y : Dy) : x.add y = y.add x := Dy.ext_v (by rw [Dy.v_add, Dy.v_add]; grind)
theorem Dy.add_assoc (x y z : Dy) : (x.add y).add z = x.add (y.add z) := Dy.ext_v (by simp only [Dy.v_add]; grind)
theorem Dy.add_sub_cancel (x y : Dy) : (x.add y).sub y = x := Dy.ext_v (by rw [Dy.v_sub, Dy.v_add]; grind)
theorem Dy.mul_comm (x y : Dy) : x.mul y = y.mul x := by unfold Dy.mul; rw [Int.mul_comm, Nat.add_comm]
theorem Dy.mul_assoc {x y z : Dy} (h : x.d + y.d + z.d ≤ 65536) : (x.mul y).mul z = x.mul (y.mul z) := by
  have h1 := Dy.d_mul x y (by omega)
  have h2 := Dy.d_mul y z (by omega)
  apply Dy.ext_v
  rw [Dy.v_mul_of _ _ (by omega), Dy.v_mul_of _ _ (by omega), Dy.v_mul_of _ _ (by omega), Dy.v_mul_of _ _ (by omega)]; grind
theorem Dy.mul_add {x y z : Dy} (h : x.d + y.d + z.d ≤ 65536) : x.mul (y.add z) = (x.mul y).add (x.mul z) := by
  have h1 := Dy.d_add y z
  apply Dy.ext_v
  rw [Dy.v_mul_of _ _ (by omega), Dy.v_add, Dy.v_add, Dy.v_mul_of _ _ (by omega), Dy.v_mul_of _ _ (by omega)]; grind
theorem min_le_max (x y : Dy) : (x.min y).v ≤ (x.max y).v := by
  rw [Dy.v_min, Dy.v_max]; split <;> split <;> grind
theorem mg_grid {q : Rat} {k den : Nat} (h1 : -2 ^ k < q) (h2 : q < 2 ^ k) : Mg (k + 1) (nrm (q * 2 ^ den).floor den) := by
  refine mg_nrm ?_
  have hp := p2pos den
  have e : (2 : Rat) ^ (k + den) = (((2 ^ (k + den) : Nat) : Int) : Rat) := by rw [p2nat, p2int]
  have h3 : (q * 2 ^ den).floor < ((2 ^ (k + den) : Nat) : Int) := by
    rw [← Rat.intCast_lt_intCast, ← e, p2add]
    have := Rat.floor_le (q * 2 ^ den)
    have := Rat.mul_lt_mul_of_pos_right h2 hp
    grind
  have h4 : -((2 ^ (k + den) : Nat) : Int) ≤ (q * 2 ^ den).floor := by
    rw [Rat.le_floor_iff, Rat.intCast_neg, ← e, p2add]
    have := Rat.mul_lt_mul_of_pos_right h1 hp
    grind
  have h5 : 2 ^ (k + 1 + den) = 2 ^ (k + den) * 2 := by rw [← Nat.pow_succ]; congr 1; omega
  have h6 : 0 < 2 ^ (k + den) := Nat.pow_pos (by omega)
  omega
theorem Dy.v_far {y : Dy} (h : y.n ≠ 0) : 1 ≤ y.v * 2 ^ y.d ∨ y.v * 2 ^ y.d ≤ -1 := by
  rw [y.v_mul]
  rcases Int.lt_or_gt_of_ne h with h1 | h1
  · right
    have : y.n ≤ -1 := by omega
    have := Rat.intCast_le_intCast.2 this
    simpa using this
  · left
    have : 1 ≤ y.n := by omega
    have := Rat.intCast_le_intCast.2 this
    simpa using this
theorem quo_bd {q K P xv yv : Rat} (hK : 0 < K) (hP : 0 < P) (hq : q * yv = xv) (h1 : -K < xv) (h2 : xv < K) (hf : 1 ≤ yv * P ∨ yv * P ≤ -1) : -(K * P) < q ∧ q < K * P := by
  have e : q * (yv * P) = xv * P := by rw [← Rat.mul_assoc, hq]
  have a1 : xv * P < K * P := Rat.mul_lt_mul_of_pos_right h2 hP
  have a2 : -K * P < xv * P := Rat.mul_lt_mul_of_pos_right h1 hP
  have a3 : -K * P = -(K * P) := by grind
  rw [a3] at a2
  have hKP := Rat.mul_pos hK hP
  generalize K * P = A at *
  generalize xv * P = B at *
  generalize yv * P = T at *
  clear a3
  rcases hf with hf | hf
  · by_cases h0 : 0 ≤ q
    · have := Rat.mul_le_mul_of_nonneg_left hf h0
      rw [e, Rat.mul_one] at this
      constructor <;> grind
    · have := Rat.mul_le_mul_of_nonneg_left hf (show (0 : Rat) ≤ -q by grind)
      rw [Rat.mul_one, Rat.neg_mul, e] at this
      constructor <;> grind
  · have hf : 1 ≤ -T := by grind
    have e2 : q * -T = -B := by rw [Rat.mul_neg, e]
    by_cases h0 : 0 ≤ q
    · have := Rat.mul_le_mul_of_nonneg_left hf h0
      rw [e2, Rat.mul_one] at this
      constructor <;> grind
    · have := Rat.mul_le_mul_of_nonneg_left hf (show (0 : Rat) ≤ -q by grind)
      rw [Rat.mul_one, Rat.neg_mul, e2] at this
      constructor <;> grind
theorem Mg.quo {k : Nat} {x y : Dy} (gx : Mg k x) (h0 : y.n ≠ 0) {den : Nat} : Mg (k + y.d + 1) (x.quo y den) := by
  have hy : y.v ≠ 0 := fun h => h0 ((Dy.v_zero_iff y).1 h)
  obtain ⟨h1, h2⟩ := quo_bd (p2pos k) (p2pos y.d) (Rat.div_mul_cancel hy : x.v / y.v * y.v = x.v) gx.1 gx.2 (Dy.v_far h0)
  rw [← p2add] at h1 h2
  exact mg_grid h1 h2
end Go.Ax

namespace Go.Ax
open Go Go.RowKit
section
variable {C : Cx} {n : Nat} {r : List It} {s : AS} {Q : Lab → AS → Prop} {o : Oper} {d : Option Tmp} {all l : List Oper} {fps : List FP} {fp : FP}
theorem cF {g : FuncId} {as : List AV} {res : AV} (h : CallOK C.P C.G g as res) (k : ex C n r (s.put d res) Q) : callF C n r s Q g as d := callF_of h k
theorem dF {g : FuncId} {as : List AV} {res : AV} (h : CallOK C.P C.G g as res) (k : drawRun C n r (bump (s.put d res) (s.next + 1)) Q all l ((none, none) :: fps)) : drawF C n r s Q all g as d l fps := drawF_of h k
theorem gS {b want : Bool} (h1 : b = true → guardThen C n r s Q (some (.v (.bool b))) want o) (h2 : b = false → guardThen C n r s Q (some (.v (.bool b))) want o) : guardThen C n r s Q (some (.v (.bool b))) want o := guard_split h1 h2
theorem dS {b want : Bool} (h1 : b = true → drawGuard C n r s Q all (some (.v (.bool b))) want o l fps) (h2 : b = false → drawGuard C n r s Q all (some (.v (.bool b))) want o l fps) : drawGuard C n r s Q all (some (.v (.bool b))) want o l fps := drawGuard_split h1 h2
theorem cC {b : Bool} {x y : Code} (h1 : b = true → condThen C n r s Q (some (.v (.bool b))) x y) (h2 : b = false → condThen C n r s Q (some (.v (.bool b))) x y) : condThen C n r s Q (some (.v (.bool b))) x y := cond_cases h1 h2
theorem aN {p : Prop} {v : AV} {u : Upd} (hp : p) (h : ex C n r ((s.upd u).put o.dst v) Q) : after C n r s Q o (some ⟨p, v, u⟩) := after_need hp h
theorem dN {p : Prop} {v : AV} {u : Upd} (hp : p) (h : drawRun C n r (bump ((s.upd u).put o.dst v) (s.next + 1)) Q all l (fp :: fps)) : drawAfter C n r s Q all o (some ⟨p, v, u⟩) fp l fps := drawAfter_need hp h
theorem dE (h : drawCheck all fps.reverse = true) (k : ex C n r s Q) : drawEnd C n r s Q all fps := drawEnd_of h k
variable {t : TypeId} {len : Nat} {parts : List (Nat × Operand)} {u : TypeId} {pos : String} {af : Array Edge} {g : Option (Nat × Bool)}
theorem aL (hT : TypesOK C.P C.ti) (h : litThen C n r s Q d (aLit C.ti s t len parts)) : after C n r s Q ⟨d, .buildSlice t len parts.toArray, u, pos, af, g⟩ none := after_lit hT h
theorem dL (hT : TypesOK C.P C.ti) (h : drawLitThen C n r s Q all d (aLit C.ti s t len parts) fp l fps) : drawAfter C n r s Q all ⟨d, .buildSlice t len parts.toArray, u, pos, af, g⟩ none fp l fps := drawAfter_lit hT h
end
end Go.Ax

