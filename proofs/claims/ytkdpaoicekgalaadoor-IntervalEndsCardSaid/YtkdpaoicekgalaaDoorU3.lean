/- The abstract executor and plain facts, part 3 (of several texts, laid together). -/
import Derived.Test.YtkdpaoicekgalaaDoorU1
import Derived.Test.YtkdpaoicekgalaaDoorU2
import Derived.Lib.ItoaNum
import Derived.Lib.Repeat
import Derived.MakeChecks
import Derived.LaidMore
import Derived.Stop.Joined
import Derived.Handed
import Derived.LaidLaws
import Derived.Lib.LaidTab
set_option linter.unusedSimpArgs false
set_option linter.unusedVariables false
set_option linter.deprecated false
/- Dyadic numbers as they stand in cells, their rows and matrices. -/
namespace Go.Ax
open Go Go.RowKit

/-- A number as it stands: sign, words, denominator. -/
structure RD where
  s : Bool
  ws : List Nat
  d : Int
/-- As the program lays it. -/
def can (x : Dy) : RD := ⟨sg x, ms x, dn x⟩
theorem can_s (x : Dy) : (can x).s = sg x := (rfl)
theorem can_ws (x : Dy) : (can x).ws = ms x := (rfl)
theorem can_d (x : Dy) : (can x).d = dn x := (rfl)
def RD.zero : RD := ⟨false, [], 0⟩
theorem can_zero : can Dy.zero = RD.zero := by unfold can; rw [sg_zero, ms_zero, dn_zero]; rfl
/-- What it counts as. -/
def RD.dy (r : RD) : Dy := if validR r.s r.ws r.d = true then nrm (sgn r.s (val r.ws)) r.d.toNat else Dy.zero
def RD.ok (r : RD) : Prop := Wd r.ws ∧ r.ws.length ≤ 68719476736
theorem RD.arg {r : RD} (h : r.ok) : Arg r.s r.ws r.d r.dy := by
  refine ⟨h.1, h.2, ?_⟩
  unfold RD.dy
  cases hv : validR r.s r.ws r.d with
  | true =>
    obtain ⟨x, h1, h2, h3⟩ := of_valid h.1 hv
    left
    rw [if_pos rfl, ← h1, ← h2, ← h3, res_self]
    exact ⟨rfl, rfl, rfl, rfl⟩
  | false => exact .inr ⟨rfl, by rw [if_neg (by simp)]⟩
theorem RD.of_arg {s : Bool} {ws : List Nat} {d : Int} {x : Dy} (h : Arg s ws d x) : RD.dy ⟨s, ws, d⟩ = x := Arg.uniq (RD.arg (r := ⟨s, ws, d⟩) ⟨h.wd, h.len⟩) h
theorem can_dy (x : Dy) : (can x).dy = x := by
  unfold RD.dy can
  rw [if_pos (valid_of x), res_self]
theorem can_ok {x : Dy} (h : (ms x).length ≤ 68719476736) : (can x).ok := ⟨ms_wd x, h⟩
theorem Mg.ok {k : Nat} {x : Dy} (h : Mg k x) (hk : k ≤ 1099511627776) : (can x).ok := can_ok (Arg.of h hk).len
theorem Mg.arg {k : Nat} {x : Dy} (h : Mg k x) (hk : k ≤ 1099511627776 := by omega) : Arg (sg x) (ms x) (dn x) x := Arg.of h hk
theorem can_inj {x y : Dy} (h : can x = can y) : x = y := by rw [← can_dy x, h, can_dy]

/-- The cells of a row of numbers; of a matrix. -/
def vrow (r : RD) : List AV := [.v (.bool r.s), .sl 1 (u32s r.ws), .v (.int .i64 r.d)]
theorem vrow_mk (s : Bool) (ws : List Nat) (d : Int) : vrow ⟨s, ws, d⟩ = [.v (.bool s), .sl 1 (u32s ws), .v (.int .i64 d)] := (rfl)
def vrows (l : List RD) : List (List AV) := l.map vrow
def mrows (a : List (List RD)) : List (List AV) := a.map fun l => [.sl 3 (vrows l)]
theorem vrows_length (l : List RD) : (vrows l).length = l.length := by simp [vrows]
theorem mrows_length (a : List (List RD)) : (mrows a).length = a.length := by simp [mrows]
theorem vrows_nil : vrows [] = [] := (rfl)
theorem mrows_nil : mrows [] = [] := (rfl)
theorem vrows_cons (r : RD) (l : List RD) : vrows (r :: l) = vrow r :: vrows l := (rfl)
theorem mrows_cons (r : List RD) (l : List (List RD)) : mrows (r :: l) = [.sl 3 (vrows r)] :: mrows l := (rfl)
theorem vrows_append (l m : List RD) : vrows (l ++ m) = vrows l ++ vrows m := by simp [vrows]
theorem mrows_append (l m : List (List RD)) : mrows (l ++ m) = mrows l ++ mrows m := by simp [mrows]
theorem vrows_take (l : List RD) (n : Nat) : (vrows l).take n = vrows (l.take n) := by simp [vrows, List.map_take]
theorem vrows_drop (l : List RD) (n : Nat) : (vrows l).drop n = vrows (l.drop n) := by simp [vrows, List.map_drop]
theorem mrows_take (l : List (List RD)) (n : Nat) : (mrows l).take n = mrows (l.take n) := by simp [mrows, List.map_take]
theorem mrows_drop (l : List (List RD)) (n : Nat) : (mrows l).drop n = mrows (l.drop n) := by simp [mrows, List.map_drop]
theorem vrows_set (l : List RD) (n : Nat) (r : RD) : (vrows l).set n (vrow r) = vrows (l.set n r) := by simp [vrows, List.map_set]
theorem vrows_getD {l : List RD} {i : Nat} (h : i < l.length) : (vrows l).getD i [] = vrow (l.getD i RD.zero) := by
  simp [vrows, List.getD, h]
theorem mrows_getD {a : List (List RD)} {i : Nat} (h : i < a.length) : (mrows a).getD i [] = [.sl 3 (vrows (a.getD i []))] := by
  simp [mrows, List.getD, h]

/-- Numbers as the program lays them. -/
abbrev crow (x : Dy) : List AV := [.v (.bool (sg x)), .sl 1 (u32s (ms x)), .v (.int .i64 (dn x))]
theorem vrow_can (x : Dy) : vrow (can x) = crow x := (rfl)
theorem crows_getD {l : List Dy} {i : Nat} (h : i < l.length) : (vrows (l.map can)).getD i [] = crow (l.getD i Dy.zero) := by
  rw [vrows_getD (by simpa using h)]
  simp [List.getD, h, vrow_can]
theorem crows_length (l : List Dy) : (vrows (l.map can)).length = l.length := by rw [vrows_length, List.length_map]
theorem cmat_length (l : List (List Dy)) : (mrows (l.map fun r => r.map can)).length = l.length := by rw [mrows_length, List.length_map]
theorem cmat_getD {l : List (List Dy)} {i : Nat} (h : i < l.length) : (mrows (l.map fun r => r.map can)).getD i [] = [.sl 3 (vrows ((l.getD i []).map can))] := by
  rw [mrows_getD (by simpa using h)]
  simp [List.getD, h]
theorem take_eq_step {α : Type} {a b : List α} {i : Nat} {d : α} (h1 : i < a.length) (h2 : i < b.length) (h : a.take i = b.take i) (hx : a.getD i d = b.getD i d) : a.take (i + 1) = b.take (i + 1) := by
  rw [List.take_add_one, List.take_add_one, h]
  simp only [List.getD, List.getElem?_eq_getElem h1, List.getElem?_eq_getElem h2, Option.getD_some] at hx
  rw [List.getElem?_eq_getElem h1, List.getElem?_eq_getElem h2, hx]
theorem take_eq_all {α : Type} {a b : List α} {n : Nat} (h1 : a.length = n) (h2 : b.length = n) (h : a.take n = b.take n) : a = b := by
  rw [List.take_of_length_le (by omega), List.take_of_length_le (by omega)] at h; exact h
theorem Cl.vrow {r : RD} : ∀ a ∈ vrow r, Cl a := fun a ha => by
  simp only [Ax.vrow, List.mem_cons, List.not_mem_nil, or_false] at ha
  rcases ha with rfl | rfl | rfl
  · exact Cl.v _
  · exact Cl.u32s
  · exact Cl.v _
theorem Cl.vec {sz : Nat} {l : List RD} : Cl (.sl sz (vrows l)) := Cl.sl (fun r hr a ha => by
  simp only [vrows, List.mem_map] at hr
  obtain ⟨x, _, rfl⟩ := hr
  exact Cl.vrow a ha)
theorem Cl.mat {sz : Nat} {l : List (List RD)} : Cl (.sl sz (mrows l)) := Cl.sl (fun r hr a ha => by
  simp only [mrows, List.mem_map] at hr
  obtain ⟨x, _, rfl⟩ := hr
  simp only [List.mem_cons, List.not_mem_nil, or_false] at ha
  subst ha
  exact Cl.vec)

/-- One slice says no less than another. -/
inductive LeR : List (List AV) → List (List AV) → Prop
  | nil : LeR [] []
  | cons {a b : List AV} {l m : List (List AV)} (h : LeL a b) (t : LeR l m) : LeR (a :: l) (b :: m)
theorem LeR.refl : ∀ l, LeR l l
  | [] => .nil
  | a :: l => .cons (.refl a) (.refl l)
theorem LeR.length {l m : List (List AV)} (h : LeR l m) : l.length = m.length := by
  induction h with
  | nil => rfl
  | cons _ _ ih => simp [ih]
theorem LeR.get {l m : List (List AV)} (h : LeR l m) : ∀ (i : Nat) (b : List AV), m[i]? = some b → ∃ a, l[i]? = some a ∧ LeL a b := by
  induction h with
  | nil => intro i b hb; simp at hb
  | cons h t ih =>
    intro i b hb
    cases i with
    | zero => simp at hb; subst hb; exact ⟨_, rfl, h⟩
    | succ i => simp at hb; simpa using ih i b hb
theorem Le.sl {sz : Nat} {l m : List (List AV)} (h : LeR l m) : Le (.sl sz l) (.sl sz m) := fun σ S w x hx => by
  have hlen := h.length
  cases hx with
  | nil => cases h; exact .nil
  | e => cases h; exact .e
  | @sl k off cap _ _ c hk hc hl hcell hr =>
    rw [hlen]
    refine .sl c hk (by rw [← hlen]; exact hc) (fun r' hr' => ?_) (fun i r' j av' hi hj => ?_) (fun i r' j av' hi hj => ?_)
    · obtain ⟨i, hi⟩ := List.getElem?_of_mem hr'
      obtain ⟨r, q1, q2⟩ := h.get i r' hi
      rw [← q2.length]; exact hl r (List.mem_of_getElem? q1)
    · obtain ⟨r, q1, q2⟩ := h.get i r' hi
      obtain ⟨a, q3, _⟩ := q2.get j av' hj
      exact hcell i r j a q1 q3
    · obtain ⟨r, q1, q2⟩ := h.get i r' hi
      obtain ⟨a, q3, q4⟩ := q2.get j av' hj
      exact q4 _ _ _ _ (hr i r j a q1 q3)
theorem LeL.dy0 : LeL [.v (.bool false), .v (.slice none 0 0), .v (.int .i64 0)] (vrow RD.zero) := .cons (.refl _) (.cons (Le.nil 1) (.cons (.refl _) .nil))
theorem LeR.vzero : ∀ n, LeR (List.replicate n [.v (.bool false), .v (.slice none 0 0), .v (.int .i64 0)]) (vrows (List.replicate n RD.zero))
  | 0 => .nil
  | n + 1 => .cons LeL.dy0 (LeR.vzero n)

theorem nbRows_of {n : Nat} {rows : List (List AV)} (h : ∀ r ∈ rows, ∀ a ∈ r, Cl a) : nbRows n rows := by
  have hl : ∀ l : List AV, (∀ a ∈ l, Cl a) → nbL n l := fun l => by
    induction l with
    | nil => intro _; trivial
    | cons a l ih => intro h; exact ⟨.cl (h a (List.mem_cons_self ..)), ih fun b hb => h b (List.mem_cons_of_mem _ hb)⟩
  induction rows with
  | nil => trivial
  | cons r l ih => exact ⟨hl r (h r (List.mem_cons_self ..)), ih fun r' hr' => h r' (List.mem_cons_of_mem _ hr')⟩
theorem vrows_cl (l : List RD) : ∀ r ∈ vrows l, ∀ a ∈ r, Cl a := fun r hr a ha => by
  simp only [vrows, List.mem_map] at hr
  obtain ⟨x, _, rfl⟩ := hr
  exact Cl.vrow a ha
theorem mrows_cl (l : List (List RD)) : ∀ r ∈ mrows l, ∀ a ∈ r, Cl a := fun r hr a ha => by
  simp only [mrows, List.mem_map] at hr
  obtain ⟨x, _, rfl⟩ := hr
  simp only [List.mem_cons, List.not_mem_nil, or_false] at ha
  subst ha
  exact Cl.vec
theorem nbRows_vrows {n : Nat} {l : List RD} : nbRows n (vrows l) := nbRows_of (vrows_cl l)
theorem nbRows_mrows {n : Nat} {l : List (List RD)} : nbRows n (mrows l) := nbRows_of (mrows_cl l)
theorem noRows_vrows {b : Nat} {l : List RD} : ∀ r ∈ vrows l, ∀ a ∈ r, NO b a := fun r hr a ha => .cl (vrows_cl l r hr a ha)
theorem noRows_mrows {b : Nat} {l : List (List RD)} : ∀ r ∈ mrows l, ∀ a ∈ r, NO b a := fun r hr a ha => .cl (mrows_cl l r hr a ha)
/-- Rows that are written out, to be appended. -/
def okL (b : Nat) : List AV → Prop
  | [] => True
  | a :: l => (a.one = true ∧ NO b a) ∧ okL b l
def okRL (b sz : Nat) : List (List AV) → Prop
  | [] => True
  | r :: l => (r.length = sz ∧ okL b r) ∧ okRL b sz l
theorem okL_mem {b : Nat} : ∀ (l : List AV), okL b l → ∀ a ∈ l, a.one = true ∧ NO b a
  | [], _, a, h => by cases h
  | x :: l, hl, a, h => by
    rcases List.mem_cons.1 h with rfl | h
    · exact hl.1
    · exact okL_mem l hl.2 a h
theorem rowsOK_lit {b sz : Nat} {rows : List (List AV)} (h : okRL b sz rows) : RowsOK b sz rows := by
  induction rows with
  | nil => intro r hr; cases hr
  | cons r0 rows ih =>
    intro r hr
    rcases List.mem_cons.1 hr with rfl | hr
    · exact ⟨h.1.1, okL_mem _ h.1.2⟩
    · exact ih h.2 r hr
theorem rowsOK_vrows {b : Nat} {l : List RD} : RowsOK b 3 (vrows l) := fun r hr => by
  simp only [vrows, List.mem_map] at hr
  obtain ⟨x, _, rfl⟩ := hr
  refine ⟨rfl, fun a ha => ⟨?_, .cl (Cl.vrow a ha)⟩⟩
  simp only [vrow, List.mem_cons, List.not_mem_nil, or_false] at ha
  rcases ha with rfl | rfl | rfl <;> rfl

/-- A number that is written 'Dyadic{}'. -/
abbrev zlit : AV := .agg [.v (.bool false), .v (.slice none 0 0), .v (.int .i64 0)]
theorem Cl.zlit : Cl zlit := Cl.agg (fun a ha => by
  simp only [List.mem_cons, List.not_mem_nil, or_false] at ha
  rcases ha with rfl | rfl | rfl <;> exact Cl.v _)
theorem CallOK.le {P : Program} {G : GL} {f : FuncId} {as as' : List AV} {res : AV} (h : CallOK P G f as' res) (hle : LeL as as') (hcl : ∀ x ∈ as, Cl x) : CallOK P G f as res :=
  ⟨h.enters, hcl, h.clr, fun S w vs hS hg hsz hr => h.runs S w vs hS hg (by rw [hsz, hle.length]) (fun i x av hx hav => by
    obtain ⟨a, ha, hl⟩ := hle.get i av hav
    exact hl _ _ _ _ (hr i x a hx ha))⟩
theorem CallOK.zlit2 {P : Program} {G : GL} {f : FuncId} {a : AV} {res : AV} (h : CallOK P G f [a, .agg [.v (.bool (sg Dy.zero)), .sl 1 (u32s (ms Dy.zero)), .v (.int .i64 (dn Dy.zero))]] res) : CallOK P G f [a, zlit] res :=
  h.le (.cons (.refl _) (.cons Le.dy0 .nil)) (fun x hx => by
    simp only [List.mem_cons, List.not_mem_nil, or_false] at hx
    rcases hx with rfl | rfl
    · exact h.cla _ (by simp)
    · exact Cl.zlit)
theorem CallOK.zlit1 {P : Program} {G : GL} {f : FuncId} {res : AV} (h : CallOK P G f [.agg [.v (.bool (sg Dy.zero)), .sl 1 (u32s (ms Dy.zero)), .v (.int .i64 (dn Dy.zero))]] res) : CallOK P G f [zlit] res :=
  h.le (.cons Le.dy0 .nil) (fun x hx => by
    simp only [List.mem_cons, List.not_mem_nil, or_false] at hx
    subst hx; exact Cl.zlit)

/-! arguments of a statement -/
theorem fit_u32s {rows : List (List AV)} (h : ∀ r ∈ rows, FitL [.int .u32] r) : ∃ ws, Wd ws ∧ rows = u32s ws ∧ rows.length = ws.length := by
  induction rows with
  | nil => exact ⟨[], Wd.nil, rfl, rfl⟩
  | cons r l ih =>
    obtain ⟨ws, h1, h2, h3⟩ := ih (fun r' h' => h r' (List.mem_cons_of_mem _ h'))
    obtain ⟨n, l', rfl, hn, hl⟩ := (h r (List.mem_cons_self ..)).int
    obtain rfl := hl.nil
    have hb : 0 ≤ n ∧ n ≤ 4294967295 := by simpa [Lit.wf, IntKind.min, IntKind.max, IntKind.signed, IntKind.bits] using hn
    refine ⟨n.toNat :: ws, .cons (by omega) h1, ?_, by simp [h3]⟩
    rw [h2]
    show _ = [AV.v (.int .u32 ((n.toNat : Nat) : Int))] :: u32s ws
    rw [Int.toNat_of_nonneg hb.1]
/-- A number as an argument. -/
def RD.arg0 (r : RD) : Prop := Wd r.ws ∧ r.ws.length ≤ maxLen ∧ -9223372036854775808 ≤ r.d ∧ r.d ≤ 9223372036854775807
theorem fit_vrow {l : List AV} (h : FitL [.bool, .sl [.int .u32], .int .i64] l) : ∃ r : RD, r.arg0 ∧ l = vrow r := by
  obtain ⟨b, l1, rfl, q1⟩ := h.bool
  obtain ⟨rows, l2, rfl, hl, hm, q2⟩ := q1.sl
  obtain ⟨n, l3, rfl, hn, q3⟩ := q2.i64
  obtain rfl := q3.nil
  obtain ⟨ws, h1, h2, h3⟩ := fit_u32s hm
  subst h2
  exact ⟨⟨b, ws, n⟩, ⟨h1, by rw [← h3]; exact hl, hn⟩, rfl⟩
theorem fit_vrows {rows : List (List AV)} (h : ∀ r ∈ rows, FitL [.bool, .sl [.int .u32], .int .i64] r) : ∃ l : List RD, (∀ r ∈ l, r.arg0) ∧ rows = vrows l ∧ rows.length = l.length := by
  induction rows with
  | nil => exact ⟨[], fun r hr => by simp at hr, rfl, rfl⟩
  | cons r l ih =>
    obtain ⟨m, h1, h2, h3⟩ := ih (fun r' h' => h r' (List.mem_cons_of_mem _ h'))
    obtain ⟨x, g1, g2⟩ := fit_vrow (h r (List.mem_cons_self ..))
    refine ⟨x :: m, fun y hy => ?_, by rw [h2, g2]; rfl, by simp [h3]⟩
    rcases List.mem_cons.1 hy with rfl | hy
    · exact g1
    · exact h1 y hy
theorem fit_mrows {rows : List (List AV)} (h : ∀ r ∈ rows, FitL [.sl [.bool, .sl [.int .u32], .int .i64]] r) : ∃ l : List (List RD), (∀ r ∈ l, r.length ≤ maxLen ∧ ∀ x ∈ r, x.arg0) ∧ rows = mrows l ∧ rows.length = l.length := by
  induction rows with
  | nil => exact ⟨[], fun r hr => by simp at hr, rfl, rfl⟩
  | cons r l ih =>
    obtain ⟨m, h1, h2, h3⟩ := ih (fun r' h' => h r' (List.mem_cons_of_mem _ h'))
    obtain ⟨rs, l1, rfl, hl, hm, hn⟩ := (h r (List.mem_cons_self ..)).sl
    obtain rfl := hn.nil
    obtain ⟨x, g1, g2, g3⟩ := fit_vrows hm
    refine ⟨x :: m, fun y hy => ?_, by rw [h2, g2]; rfl, by simp [h3]⟩
    rcases List.mem_cons.1 hy with rfl | hy
    · exact ⟨by rw [← g3]; exact hl, g1⟩
    · exact h1 y hy
end Go.Ax

/- Decimal numerals by groups of nine digits. -/
namespace Go.Ax
open Go Go.RowKit

def pdig (k r : Nat) : List UInt8 := List.replicate (k - (Lib.decDigits r).length) 48 ++ Lib.decDigits r
theorem decDigits_small {u : Nat} (h : u < 10) : Lib.decDigits u = [UInt8.ofNat (48 + u)] := by rw [Lib.decDigits, dif_pos h]
theorem decDigits_big {u : Nat} (h : ¬ u < 10) : Lib.decDigits u = Lib.decDigits (u / 10) ++ [UInt8.ofNat (48 + u % 10)] := by rw [Lib.decDigits, dif_neg h]
theorem decDigits_len : ∀ (k u : Nat), u < 10 ^ (k + 1) → (Lib.decDigits u).length ≤ k + 1
  | 0, u, h => by rw [decDigits_small (by simpa using h)]; simp
  | k + 1, u, h => by
    by_cases h0 : u < 10
    · rw [decDigits_small h0]; simp
    · rw [decDigits_big h0, List.length_append]
      have := decDigits_len k (u / 10) (by rw [Nat.pow_succ] at h; omega)
      simp; omega
theorem decDigits_pos (u : Nat) : 0 < (Lib.decDigits u).length := by
  by_cases h0 : u < 10
  · rw [decDigits_small h0]; simp
  · rw [decDigits_big h0, List.length_append]; simp
theorem pdig_succ {k r : Nat} (hk : 0 < k) (h : r < 10 ^ (k + 1)) : pdig (k + 1) r = pdig k (r / 10) ++ [UInt8.ofNat (48 + r % 10)] := by
  unfold pdig
  by_cases h0 : r < 10
  · have e1 : r / 10 = 0 := by omega
    have e2 : r % 10 = r := by omega
    rw [e1, e2, decDigits_small h0, decDigits_small (by omega : (0 : Nat) < 10)]
    simp only [List.length_cons, List.length_nil]
    rw [show k + 1 - (0 + 1) = (k - (0 + 1)) + 1 by omega, List.replicate_succ']
    rfl
  · rw [decDigits_big h0]
    simp only [List.length_append, List.length_cons, List.length_nil]
    rw [show k + 1 - ((Lib.decDigits (r / 10)).length + (0 + 1)) = k - (Lib.decDigits (r / 10)).length by omega, List.append_assoc]
theorem decDigits_split : ∀ (k q r : Nat), 0 < q → r < 10 ^ (k + 1) → Lib.decDigits (q * 10 ^ (k + 1) + r) = Lib.decDigits q ++ pdig (k + 1) r
  | 0, q, r, hq, hr => by
    have hr : r < 10 := by simpa using hr
    rw [Nat.pow_succ, Nat.pow_zero, Nat.one_mul, decDigits_big (by omega), show (q * 10 + r) / 10 = q by omega, show (q * 10 + r) % 10 = r by omega]
    unfold pdig
    rw [decDigits_small hr]; rfl
  | k + 1, q, r, hq, hr => by
    have hp : 0 < 10 ^ (k + 1) := Nat.pow_pos (by omega)
    have h1 : 1 ≤ q * 10 ^ (k + 1) := Nat.mul_pos hq hp
    have e0 : q * 10 ^ (k + 1 + 1) = q * 10 ^ (k + 1) * 10 := by rw [Nat.pow_succ 10 (k + 1), Nat.mul_assoc]
    rw [e0, decDigits_big (by omega), show (q * 10 ^ (k + 1) * 10 + r) / 10 = q * 10 ^ (k + 1) + r / 10 by omega, show (q * 10 ^ (k + 1) * 10 + r) % 10 = r % 10 by omega,
      decDigits_split k q (r / 10) hq (by rw [Nat.pow_succ] at hr; omega), pdig_succ (by omega) hr, List.append_assoc]

/-- The number of groups of nine digits, the least first. -/
def val9 : List Nat → Nat
  | [] => 0
  | g :: l => g + 1000000000 * val9 l
/-- Their text. -/
def txt9 : List Nat → List UInt8
  | [] => []
  | [g] => Lib.decDigits g
  | g :: l => txt9 l ++ pdig 9 g
def Gr : List Nat → Prop
  | [] => True
  | g :: l => g < 1000000000 ∧ Gr l
theorem txt9_cons {g : Nat} {l : List Nat} (h : l ≠ []) : txt9 (g :: l) = txt9 l ++ pdig 9 g := by
  cases l with
  | nil => exact absurd rfl h
  | cons a l => rfl
theorem txt9_val : ∀ (l : List Nat), Gr l → l ≠ [] → (∀ x, l.getLast? = some x → x ≠ 0) → txt9 l = Lib.decDigits (val9 l) ∧ 0 < val9 l
  | [], _, h, _ => absurd rfl h
  | [g], hg, _, h => ⟨by simp [txt9, val9], by have := h g rfl; simp [val9]; omega⟩
  | g :: a :: l, hg, _, h => by
    obtain ⟨h1, h2⟩ := txt9_val (a :: l) hg.2 (by simp) (fun x hx => h x (by simpa using hx))
    refine ⟨?_, by simp only [val9] at h2 ⊢; omega⟩
    rw [txt9_cons (by simp), h1]
    show _ = Lib.decDigits (g + 1000000000 * val9 (a :: l))
    have := decDigits_split 8 (val9 (a :: l)) g h2 (by simpa using hg.1)
    rw [show g + 1000000000 * val9 (a :: l) = val9 (a :: l) * 10 ^ (8 + 1) + g by rw [show (10 : Nat) ^ (8 + 1) = 1000000000 by decide]; omega, this]
theorem val9_append : ∀ (l m : List Nat), val9 (l ++ m) = val9 l + 1000000000 ^ l.length * val9 m
  | [], m => by simp [val9]
  | g :: l, m => by
    simp only [List.cons_append, val9, val9_append l m, List.length_cons, Nat.pow_succ]
    rw [Nat.mul_add, Nat.add_assoc, ← Nat.mul_assoc, Nat.mul_comm 1000000000 (1000000000 ^ l.length)]
theorem Gr.append : ∀ {l m : List Nat}, Gr l → Gr m → Gr (l ++ m)
  | [], _, _, h => h
  | _ :: _, _, h, k => ⟨h.1, Gr.append h.2 k⟩
theorem Gr.get {l : List Nat} (h : Gr l) : ∀ {g : Nat}, g ∈ l → g < 1000000000 := by
  induction l with
  | nil => intro g hg; simp at hg
  | cons a l ih =>
    intro g hg
    rcases List.mem_cons.1 hg with rfl | hg
    · exact h.1
    · exact ih h.2 hg
/-- Written from the top down. -/
theorem txt9_drop {l : List Nat} {i : Nat} (h : i + 1 < l.length) : txt9 (l.drop i) = txt9 (l.drop (i + 1)) ++ pdig 9 (l.getD i 0) := by
  have e : l.drop i = l.getD i 0 :: l.drop (i + 1) := by
    rw [List.drop_eq_getElem_cons (by omega)]
    simp [List.getD, show i < l.length by omega]
  rw [e, txt9_cons (fun h0 => by have := congrArg List.length h0; simp at this; omega)]
theorem txt9_top {l : List Nat} {i : Nat} (h : i + 1 = l.length) : txt9 (l.drop i) = Lib.decDigits (l.getD i 0) := by
  have e : l.drop i = [l.getD i 0] := by
    rw [List.drop_eq_getElem_cons (by omega), List.drop_eq_nil_of_le (by omega)]
    simp [List.getD, show i < l.length by omega]
  rw [e, txt9]

theorem Gr.drop : ∀ {l : List Nat} (n : Nat), Gr l → Gr (l.drop n)
  | _, 0, h => h
  | [], _ + 1, _ => trivial
  | _ :: _, n + 1, h => Gr.drop n h.2
theorem pdig_len {r : Nat} (h : r < 1000000000) : (pdig 9 r).length = 9 := by
  have := decDigits_len 8 r (by simpa using h)
  unfold pdig
  rw [List.length_append, List.length_replicate]; omega
theorem txt9_len : ∀ (l : List Nat), Gr l → (txt9 l).length ≤ 9 * l.length
  | [], _ => by simp [txt9]
  | [g], h => by have := decDigits_len 8 g (by simpa using h.1); simp [txt9]; omega
  | g :: a :: l, h => by
    rw [txt9_cons (by simp), List.length_append, pdig_len h.1]
    have := txt9_len (a :: l) h.2
    simp only [List.length_cons] at this ⊢; omega
/-- A string out of its bytes. -/
def strV (l : List UInt8) : Value := .string ⟨l.toArray⟩
def strs (l : List (List UInt8)) : List (List AV) := l.map fun s => [.v (strV s)]
theorem strs_length (l : List (List UInt8)) : (strs l).length = l.length := by simp [strs]
theorem strs_append (l m : List (List UInt8)) : strs (l ++ m) = strs l ++ strs m := by simp [strs]
theorem strs_getD {l : List (List UInt8)} {i : Nat} (h : i < l.length) : (strs l).getD i [] = [.v (strV (l.getD i []))] := by simp [strs, List.getD, h]
theorem strs_snoc {l : List (List UInt8)} {k : Nat} {s : List UInt8} (h : l.length = k) : (strs l).take k ++ [[.v (.string ⟨s.toArray⟩)]] = strs (l ++ [s]) := by
  rw [List.take_of_length_le (by rw [strs_length]; omega), strs_append]; rfl
theorem Cl.strs {sz : Nat} {l : List (List UInt8)} : Cl (.sl sz (Ax.strs l)) := Cl.sl (fun r hr a ha => by
  simp only [Ax.strs, List.mem_map] at hr
  obtain ⟨s, _, rfl⟩ := hr
  simp only [List.mem_cons, List.not_mem_nil, or_false] at ha
  subst ha; exact Cl.v _)
theorem noRows_strs {b : Nat} {l : List (List UInt8)} : ∀ r ∈ strs l, ∀ a ∈ r, NO b a := fun r hr a ha => by
  simp only [strs, List.mem_map] at hr
  obtain ⟨s, _, rfl⟩ := hr
  simp only [List.mem_cons, List.not_mem_nil, or_false] at ha
  subst ha; exact NO.v
theorem nbRows_strs {n : Nat} {l : List (List UInt8)} : nbRows n (strs l) := by
  induction l with
  | nil => trivial
  | cons s l ih => exact ⟨⟨NB.v, trivial⟩, ih⟩
theorem grp_bd {m k n L : Nat} (h0 : 0 < m) (h : m * 536870912 ^ k ≤ n) (hn : n < 4294967296 ^ L) : k ≤ 2 * L := by
  rcases Nat.lt_or_ge (2 * L) k with h1 | h1
  · exfalso
    have h2 : 536870912 ^ (2 * L) ≤ 536870912 ^ k := Nat.pow_le_pow_right (by omega) (by omega)
    have h3 : 4294967296 ^ L ≤ (536870912 ^ 2) ^ L := Nat.pow_le_pow_left (by decide) L
    rw [← Nat.pow_mul] at h3
    have h4 : 1 * 536870912 ^ k ≤ m * 536870912 ^ k := Nat.mul_le_mul_right _ h0
    omega
  · exact h1
theorem grp_step {m k n : Nat} (h : m * 536870912 ^ k ≤ n) : m / 1000000000 * 536870912 ^ (k + 1) ≤ n := by
  refine Nat.le_trans ?_ h
  rw [Nat.pow_succ, Nat.mul_comm (536870912 ^ k), ← Nat.mul_assoc]
  exact Nat.mul_le_mul_right _ (by omega)
theorem grp_val {m n : Nat} {gs : List Nat} (h : val9 gs + 1000000000 ^ gs.length * m = n) : val9 (gs ++ [m % 1000000000]) + 1000000000 ^ (gs.length + 1) * (m / 1000000000) = n := by
  rw [val9_append, ← h, Nat.pow_succ, Nat.mul_assoc, Nat.add_assoc, ← Nat.mul_add]
  simp only [val9, Nat.mul_zero, Nat.add_zero]
  rw [Nat.mod_add_div]
theorem bytes_append (a b : List UInt8) : (⟨a.toArray⟩ : ByteArray) ++ ⟨b.toArray⟩ = ⟨(a ++ b).toArray⟩ := by
  apply ByteArray.ext
  rw [ByteArray.data_append]
  simp
theorem bytes_eq (a b : List UInt8) : ((⟨a.toArray⟩ : ByteArray) = ⟨b.toArray⟩) = (a = b) := by
  apply propext
  refine ⟨fun h => ?_, fun h => by rw [h]⟩
  have h1 := congrArg (fun x : ByteArray => x.data.toList) h
  simpa using h1
end Go.Ax

/- The abstract executor: append that names its result anew (so it may stand in a region that draws its order); names are turned back. -/
namespace Go.Ax
open Go Go.RowKit

section
variable {P : Program} {ti : Types} {D : Base} {S0 : Nat → Prop} {w0 : World} {σ : Sig} {S : Nat → Prop} {w : World} {mem : List (Nat × MB)} {U : Nat → Prop}

/-- Block b goes on under a new name, with its first rows. -/
theorem Fit.alias (hF : Fit D S0 w0 σ S mem U w) {b next k0 k : Nat} {m : MB} (hid : ¬ U next) (hm : look mem b = some m) (hσ : σ b = some k0) :
    Fit D S0 w0 (upd σ next k0) S ((next, ⟨m.sz, m.rows.take k⟩) :: dropM b mem) (fun c => U c ∨ c = next) w where
  below := hF.below
  dom c k1 hk := by
    unfold upd at hk
    split at hk
    · injection hk with hk; subst hk; rename_i hc; exact ⟨.inr hc, (hF.dom b _ hσ).2⟩
    · have := hF.dom c k1 hk; exact ⟨.inl this.1, this.2⟩
  inj c c' k1 m1 m2 h1 h2 h3 h4 := by
    simp only [look] at h1 h2
    unfold upd at h3 h4
    by_cases e1 : c = next <;> by_cases e2 : c' = next
    · rw [e1, e2]
    · rw [if_pos e1] at h3; rw [if_neg e2] at h4
      rw [if_neg (fun e => e2 e.symm)] at h2
      injection h3 with h3; subst h3
      obtain ⟨n1, n2⟩ := look_dropM _ _ _ h2
      exact (n1 (hF.inj c' b k0 m2 m n2 hm h4 hσ)).elim
    · rw [if_neg e1] at h3; rw [if_pos e2] at h4
      rw [if_neg (fun e => e1 e.symm)] at h1
      injection h4 with h4; subst h4
      obtain ⟨n1, n2⟩ := look_dropM _ _ _ h1
      exact (n1 (hF.inj c b k0 m1 m n2 hm h3 hσ)).elim
    · rw [if_neg e1] at h3; rw [if_neg e2] at h4
      rw [if_neg (fun e => e1 e.symm)] at h1; rw [if_neg (fun e => e2 e.symm)] at h2
      exact hF.inj c c' k1 m1 m2 (look_dropM _ _ _ h1).2 (look_dropM _ _ _ h2).2 h3 h4
  sbd := hF.sbd
  s0 := hF.s0
  s1 := hF.s1
  glob := ⟨hF.glob.1, fun k hk => upd_old hF hid 0 k (hF.glob.2 k hk) _⟩
  mem c mc hmc := by
    have up : ∀ {x : Value} {av : AV}, Rel σ S w x av → Rel (upd σ next k0) S w x av := fun hr => hr.mono (fun b k hb => upd_old hF hid b k hb _) (fun _ h => h) keeps_refl
    simp only [look] at hmc
    split at hmc
    · rename_i hc
      injection hmc with hmc
      subst hmc hc
      obtain ⟨k1, c1, e1, g1, g2, g3, g4, g5, g6, g7⟩ := (hF.mem b m hm).named hσ
      have : k1 = k0 := Option.some.inj (g1.symm.trans hσ)
      subst this
      refine .inr ⟨k1, c1, e1, by simp [upd], g2, g3, g4, fun r hr => g5 r (List.mem_of_mem_take hr), ?_, fun i r j av hi hj => ?_⟩
      · simp only [List.length_take]
        exact Nat.le_trans (Nat.mul_le_mul_right _ (Nat.min_le_right ..)) g6
      · simp only [List.getElem?_take] at hi
        split at hi
        · obtain ⟨x, hx, hr⟩ := g7 i r j av hi hj
          exact ⟨x, hx, up hr⟩
        · cases hi
    · rename_i hc
      obtain ⟨n1, n2⟩ := look_dropM _ _ _ hmc
      rcases hF.mem c mc n2 with ⟨h1, h2⟩ | ⟨k1, c1, e1, g1, g2, g3, g4, g5, g6, g7⟩
      · refine .inl ⟨h1, ?_⟩
        unfold upd; rw [if_neg (fun e => hc e.symm)]; exact h2
      · refine .inr ⟨k1, c1, e1, upd_old hF hid c k1 g1 _, g2, g3, g4, g5, g6, fun i r j av hi hj => ?_⟩
        obtain ⟨x, hx, hr⟩ := g7 i r j av hi hj
        exact ⟨x, hx, up hr⟩

/-- A new name for nothing. -/
theorem Fit.none (hF : Fit D S0 w0 σ S mem U w) {next sz : Nat} (hid : ¬ U next) : Fit D S0 w0 σ S ((next, ⟨sz, []⟩) :: mem) (fun c => U c ∨ c = next) w where
  below := hF.below
  dom c k1 hk := ⟨.inl (hF.dom c k1 hk).1, (hF.dom c k1 hk).2⟩
  inj c c' k1 m1 m2 h1 h2 h3 h4 := by
    have ne : ∀ c, σ c = some k1 → c ≠ next := fun c hc e => hid (e ▸ (hF.dom c k1 hc).1)
    simp only [look] at h1 h2
    rw [if_neg (fun e => ne c h3 e.symm)] at h1
    rw [if_neg (fun e => ne c' h4 e.symm)] at h2
    exact hF.inj c c' k1 m1 m2 h1 h2 h3 h4
  sbd := hF.sbd
  s0 := hF.s0
  s1 := hF.s1
  glob := hF.glob
  mem c mc hmc := by
    simp only [look] at hmc
    split at hmc
    · rename_i hc
      injection hmc with hmc
      subst hmc hc
      refine .inl ⟨rfl, ?_⟩
      cases hs : σ next with
      | none => rfl
      | some k => exact (hid (hF.dom next k hs).1).elim
    · exact hF.mem c mc hmc

def srcY (sz : Nat) : Option AV → Option (List (List AV))
  | some (.sl sz' rows) => if sz' = sz then some rows else none
  | some (.v (.slice none 0 0)) => some []
  | _ => none
theorem srcY_A {sz : Nat} {a : Option AV} {rows : List (List AV)} (h : srcY sz a = some rows) : srcA mem sz a = some (True, rows) := by
  unfold srcY at h
  split at h
  · split at h
    · rename_i sz' rows' hsz; injection h with h; subst h; simp [srcA, hsz]
    · cases h
  · injection h with h; subst h; rfl
  · cases h
end

section
variable {C : Cx} {s : AS} {o : Oper}

theorem opR_app (hT : TypesOK C.P C.ti) {x y : Operand} {t tx e : TypeId} {q1 q2 : Nat} {q3 : List Z} {z : TyI} (ho : o.op = .call ⟨.builtin .append, #[x, y], #[t, tx]⟩) (ht : C.ti t = some ⟨q1, q2, q3, .slc e⟩) (hz : C.ti e = some z) (htx : isSlcT (C.ti tx) = true)
    {b sz k : Nat} {m : MB} {rows : List (List AV)} (hx : ev s x = some (.ps b sz 0 k)) (hm : look s.mem b = some m) (hy : srcY sz (ev s y) = some rows)
    (hc : z.size = sz ∧ m.sz = sz ∧ 0 < sz) (hp : k ≤ m.rows.length ∧ (k + rows.length) * z.bytes ≤ 140737488355328 ∧ k + rows.length ≤ 9223372036854775807)
    (hrows : RowsOK b sz rows) (rd wr : Option Nat) : OpR C s o ⟨.ps s.next sz 0 (k + rows.length), .app b ⟨sz, m.rows.take k ++ rows⟩, rd, wr⟩ := by
  intro D S0 w0 σ S U a w K Q hG hid hF hE hK
  simp only [AS.upd, grown] at hK
  obtain ⟨c1, c2, c3⟩ := hc
  obtain ⟨p2, p3, p4⟩ := hp
  obtain ⟨i, d, h1, h2, h3, h4, h5, h6⟩ := underlying_of hT ht
  have hd := slc_desc h5
  subst hd
  obtain ⟨i', d', g1, g2, g3, g4, g5, ⟨zv, hz1, hz2, hz3⟩, g7⟩ := underlying_of hT hz
  cases hyv : ev s y with
  | none => rw [hyv] at hy; simp [srcY] at hy
  | some av =>
  rw [hyv] at hy
  obtain ⟨news, hs, hn⟩ := src_spec (P := C.P) hT hF htx (size := sz) (b := b) c3 (ev_rel hE hyv) (srcY_A hy) trivial hrows
  have hisz : i'.size = sz := by rw [g3, c1]
  have hnl : news.length = rows.length * sz := hs.newsLen
  have wp : ∀ v w', (Builtin.append_ #[t, tx] o.type #[a.eval x, a.eval y]).run C.P w = .ok v w' → K (a.put o.dst v) w' → o.wp C.P a w K Q := fun v w' hr hk => by
    unfold Oper.wp
    rw [exec_append ho hr]
    exact hk
  have hxr := ev_rel hE hx
  have newlen : (m.rows.take k ++ rows).length = k + rows.length := by simp; omega
  have hFs : Fit D S0 w0 σ S (dropM b s.mem) U w := hF.sub fun c mc h => (look_dropM _ _ _ h).2
  -- the new block
  have grow : ∀ (base : Option Addr) (cap : Nat) (olds : List Value), a.eval x = .slice base k cap → cap < k + rows.length → olds.length = k * sz →
      (Builtin.firstCells sz k (.slice base k cap)).run C.P w.drew = .ok olds.toArray w.drew →
      (∀ (i : Nat) (r : List AV) (j : Nat) (av : AV), (m.rows.take k)[i]? = some r → r[j]? = some av → ∃ v, olds[i * sz + j]? = some v ∧ Rel σ S w v av) →
      (∀ r ∈ m.rows.take k, r.length = sz) → o.wp C.P a w K Q := fun base cap olds hxe hcap hol hfc hor hlr => by
    have hrun := run_append_grow_src (P := C.P) w t tx o.type e i' zv h2 g1 hz1 base k cap olds (by rw [hisz]; exact hfc) (a.eval y) rows.length news (by rw [hisz]; exact hs) hcap (by omega) (growslice_fits hcap (by rw [g4]; exact p3))
    refine wp _ _ (by rw [hxe]; exact hrun) ?_
    have hb : Below w.heap.size w w.drew := (Below.refl _ w).drew
    have hke := hFs.keeps_below hb
    have hFd : Fit D S0 w0 σ S (dropM b s.mem) U w.drew := ⟨hFs.below.then hb, hFs.dom, hFs.inj, hFs.sbd, hFs.s0, hFs.s1, hFs.glob, fun b m hm => by
      rcases hFs.mem b m hm with hn | ⟨k, c, e, h1, h2, h3, h4, h5, h6, h7⟩
      · exact .inl hn
      · exact .inr ⟨k, c, e, h1, h2, h3, h4, h5, h6, fun i r j av hi hj => by
          obtain ⟨x, hx, hr⟩ := h7 i r j av hi hj
          exact ⟨x, hx, Rel.mono (fun _ _ h => h) (fun _ h => h) hke hr⟩⟩⟩
    have hEd : EnvOK σ S w.drew s.env a := EnvOK.mono (fun _ _ h => h) (fun _ h => h) hke hE
    have hcs : ((olds ++ news).toArray ++ Builtin.zeroCells zv.cells (grownCap w (k + rows.length) cap e - (k + rows.length))).size = (k + rows.length) * sz + (grownCap w (k + rows.length) cap e - (k + rows.length)) * sz := by
      rw [Array.size_append, size_zeroCells]
      have : zv.cells.size = sz := by rw [hz2]; simp [g7, c1]
      simp [hol, hnl, this, Nat.add_mul]
    have hcap2 : k + rows.length ≤ grownCap w (k + rows.length) cap e := by simp only [grownCap, Question.cut]; omega
    have hFn := hFd.new (next := s.next) hid ((olds ++ news).toArray ++ Builtin.zeroCells zv.cells (grownCap w (k + rows.length) cap e - (k + rows.length))) e ⟨sz, m.rows.take k ++ rows⟩
      (fun r hr => by
        rcases List.mem_append.1 hr with hr | hr
        · exact hlr r hr
        · exact (hrows r hr).1)
      (by simp only; rw [newlen, hcs]; omega)
      (fun i r j av hi hj => by
        simp only at hi
        rw [List.getElem?_append] at hi
        have hlen : (m.rows.take k).length = k := by simp; omega
        split at hi
        · rename_i hlt
          obtain ⟨v, hv, hvr⟩ := hor i r j av hi hj
          have hvlt := (List.getElem?_eq_some_iff.1 hv).1
          refine ⟨v, ?_, hvr.mono (fun _ _ h => h) (fun _ h => h) hke⟩
          rw [Array.getElem?_append_left (by simp; omega)]
          simp only [List.getElem?_toArray]
          rw [List.getElem?_append_left hvlt]; exact hv
        · rename_i hge
          rw [hlen] at hi hge
          obtain ⟨v, hv, hvr⟩ := hn (i - k) r j av hi hj
          have hvlt := (List.getElem?_eq_some_iff.1 hv).1
          refine ⟨v, ?_, hvr.mono (fun _ _ h => h) (fun _ h => h) hke⟩
          have e1 : i * sz + j = olds.length + ((i - k) * sz + j) := by
            rw [hol, Nat.sub_mul]
            have : k * sz ≤ i * sz := Nat.mul_le_mul_right _ (by omega)
            omega
          simp only [e1]
          rw [Array.getElem?_append_left (by simp; omega)]
          simp only [List.getElem?_toArray]
          rw [List.getElem?_append_right (by omega), Nat.add_sub_cancel_left]; exact hv)
    refine hK _ _ _ S hFn (hEd.new hFd hid _ _) ?_
    refine .ps (k := w.heap.size) (off := 0) (by simp [upd]) hcap2 (.inl (by simp)) ⟨_, e, (0, 0), heap_alloc_new w.drew _, ?_⟩
    rw [hcs, Nat.zero_add, ← Nat.add_mul]
    exact Nat.mul_le_mul_right _ (by omega)
  rcases rel_ps hxr with ⟨hx1, rfl⟩ | ⟨kk, off, cap, f1, f2, f3, f4, f5⟩
  · -- no block yet
    by_cases hr0 : rows = []
    · subst hr0
      have hn0 : news = [] := by simpa using hnl
      subst hn0
      have hrun := run_append_stay (P := C.P) (ty := o.type) h2 g1 none 0 0 (a.eval y) (by rw [hisz]; exact hs) (Nat.le_refl _)
      refine wp _ _ (by rw [hx1]; exact hrun) ?_
      simp only [List.take_zero, List.append_nil] at hK
      exact hK _ w σ S (hFs.none hid) hE .ps0
    · have hlen : 0 < rows.length := by
        rcases Nat.eq_zero_or_pos rows.length with h | h
        · exact (hr0 (List.length_eq_zero_iff.1 h)).elim
        · exact h
      exact grow none 0 [] hx1 (by omega) (by simp) (run_firstCells_none w.drew sz 0 0 0) (fun i r j av hi => by simp at hi) (by simp)
  · obtain ⟨cc, ee, ff, f5, f6⟩ := f5
    obtain ⟨k0, c0, e0, u1, u2, u3, u4, u5, u6, u7⟩ := (hF.mem b m hm).named f1
    have : k0 = kk := Option.some.inj (u1.symm.trans f1)
    subst this
    rw [u4] at f5
    injection f5 with f5
    injection f5 with f5a f5b f5c
    subst f5a f5b f5c
    have hFa := hF.alias (k := k) hid hm f1
    have hEa : EnvOK (upd σ s.next k0) S w s.env a := hE.mono (fun b k hb => upd_old hF hid b k hb _) (fun _ h => h) keeps_refl
    by_cases hroom : k + rows.length ≤ cap
    · -- in place
      by_cases hr0 : rows = []
      · subst hr0
        have hn0 : news = [] := by simpa using hnl
        subst hn0
        have hrun := run_append_stay (P := C.P) (ty := o.type) h2 g1 (some ⟨k0, off, none⟩) k cap (a.eval y) (by rw [hisz]; exact hs) f3
        refine wp _ _ (by rw [f2]; exact hrun) ?_
        simp only [List.append_nil] at hK
        rw [c2] at hFa
        exact hK _ w _ S hFa hEa (.ps (by simp [upd]) (by simpa using f3) f4 ⟨c0, e0, (0, 0), u4, f6⟩)
      · have hlen : 0 < rows.length := by
          rcases Nat.eq_zero_or_pos rows.length with h | h
          · exact (hr0 (List.length_eq_zero_iff.1 h)).elim
          · exact h
        have hoff : off = 0 := by
          rcases f4 with f4 | f4
          · simpa using f4
          · omega
        subst hoff
        have hfit : 0 + k * sz + news.length ≤ c0.size := by
          rw [hnl]
          have : (k + rows.length) * sz ≤ cap * sz := Nat.mul_le_mul_right _ hroom
          rw [Nat.add_mul] at this
          omega
        have hrun := run_append_in (P := C.P) (ty := o.type) h2 g1 k0 0 k cap (a.eval y) rows.length news (by rw [hisz]; exact hs) c0 e0 u4 hroom (by rw [hisz]; exact hfit)
        rw [hisz] at hrun
        simp only [Nat.zero_add] at hrun hfit
        refine wp _ _ (by rw [f2]; exact hrun) ?_
        have up : ∀ {x : Value} {av : AV}, Rel σ S w x av → Rel (upd σ s.next k0) S w x av := fun hr => hr.mono (fun b k hb => upd_old hF hid b k hb _) (fun _ h => h) keeps_refl
        have key := hFa.set (b := s.next) (m := ⟨m.sz, m.rows.take k⟩) (m' := ⟨sz, m.rows.take k ++ rows⟩) (by simp [look]) (by simp [upd] : upd σ s.next k0 s.next = some k0) (c' := (c0.toList.take (k * sz) ++ news ++ c0.toList.drop (k * sz + news.length)).toArray) u4
          (by simp; omega)
          (fun r hr => by
            rcases List.mem_append.1 hr with hr | hr
            · rw [← c2]; exact u5 r (List.mem_of_mem_take hr)
            · exact (hrows r hr).1)
          (by
            simp only [newlen]
            simp
            rw [Nat.add_mul, ← hnl]
            omega)
          (fun i r j av hi hj => by
            simp only at hi
            simp only [List.getElem?_toArray]
            rw [List.getElem?_append] at hi
            have hlen' : (m.rows.take k).length = k := by simp; omega
            have htl : (c0.toList.take (k * sz)).length = k * sz := by simp; omega
            split at hi
            · rename_i hlt
              rw [hlen'] at hlt
              rw [List.getElem?_take, if_pos hlt] at hi
              obtain ⟨v, hv, hvr⟩ := u7 i r j av hi hj
              rw [c2] at hv
              have hj' : j < sz := by rw [← c2, ← u5 r (List.mem_of_getElem? hi)]; exact (List.getElem?_eq_some_iff.1 hj).1
              have hlt2 : i * sz + j < k * sz := by
                have : (i + 1) * sz ≤ k * sz := Nat.mul_le_mul_right _ hlt
                rw [Nat.add_mul, Nat.one_mul] at this
                omega
              refine ⟨v, ?_, up hvr⟩
              rw [List.append_assoc, List.getElem?_append_left (by rw [htl]; exact hlt2), List.getElem?_take, if_pos hlt2]
              simpa using hv
            · rename_i hge
              rw [hlen'] at hi hge
              obtain ⟨v, hv, hvr⟩ := hn (i - k) r j av hi hj
              have hvlt := (List.getElem?_eq_some_iff.1 hv).1
              refine ⟨v, ?_, up hvr⟩
              have e1 : i * sz + j = k * sz + ((i - k) * sz + j) := by
                rw [Nat.sub_mul]
                have : k * sz ≤ i * sz := Nat.mul_le_mul_right _ (by omega)
                omega
              rw [e1, List.append_assoc, List.getElem?_append_right (by rw [htl]; omega), htl, Nat.add_sub_cancel_left, List.getElem?_append_left hvlt]
              exact hv)
        obtain ⟨hF', hke⟩ := key
        refine hK _ _ _ S (hF'.congr (fun c => ?_) (fun _ h => h)) (hEa.mono (fun _ _ h => h) (fun _ h => h) hke) (.ps (by simp [upd]) hroom (.inl (by simp)) ⟨_, e0, (0, 0), setRow_heap w k0 c0 _ e0 (0, 0) u4, ?_⟩)
        · simp only [look]; split <;> rfl
        · simp
          omega
    · have hol := exists_list (Q := fun q v => c0[q]? = some v) (k * sz) (fun q hq => by
        have : k * sz ≤ m.rows.length * m.sz := by rw [c2]; exact Nat.mul_le_mul_right _ p2
        exact ⟨c0[q]'(by omega), by simp [show q < c0.size by omega]⟩)
      obtain ⟨olds, ol1, ol2⟩ := hol
      have hoff : k = 0 ∨ off = 0 := by
        rcases f4 with f4 | f4
        · right; simpa using f4
        · left; omega
      refine grow (some ⟨k0, off, none⟩) cap olds f2 (by omega) ol1 ?_ ?_ (fun r hr => by rw [← c2]; exact u5 r (List.mem_of_mem_take hr))
      · refine run_firstCells_some w.drew sz k _ k cap olds ol1 (fun j v hj => ?_)
        rw [add_addr]
        have hjl : j < k * sz := by rw [← ol1]; exact (List.getElem?_eq_some_iff.1 hj).1
        have hoff' : off = 0 := by
          rcases hoff with h | h
          · rw [h] at hjl; simp at hjl
          · exact h
        subst hoff'
        have : (w.drew).heap[k0]? = some (.cells c0 e0 (0, 0)) := u4
        rw [cell_of_cells this, Nat.zero_add]
        exact ol2 j v hj
      · intro i r j av hi hj
        rw [List.getElem?_take] at hi
        split at hi
        · rename_i hlt
          obtain ⟨v, hv, hvr⟩ := u7 i r j av hi hj
          rw [c2] at hv
          have hj' : j < sz := by rw [← c2, ← u5 r (List.mem_of_getElem? hi)]; exact (List.getElem?_eq_some_iff.1 hj).1
          have hlt2 : i * sz + j < olds.length := by
            rw [ol1]
            have : (i + 1) * sz ≤ k * sz := Nat.mul_le_mul_right _ hlt
            rw [Nat.add_mul, Nat.one_mul] at this
            omega
          have hq := ol2 (i * sz + j) olds[i * sz + j] (by simp [hlt2])
          rw [hv] at hq
          exact ⟨v, by rw [List.getElem?_eq_getElem hlt2]; exact hq.symm, hvr⟩
        · cases hi

theorem own_app (hT : TypesOK C.P C.ti) {x y : Operand} {t tx e : TypeId} {q1 q2 : Nat} {q3 : List Z} {z : TyI} (ho : o.op = .call ⟨.builtin .append, #[x, y], #[t, tx]⟩) (ht : C.ti t = some ⟨q1, q2, q3, .slc e⟩) (hz : C.ti e = some z) (htx : isSlcT (C.ti tx) = true)
    {b sz k : Nat} {m : MB} {rows : List (List AV)} (hx : ev s x = some (.ps b sz 0 k)) (hm : look s.mem b = some m) (hy : srcY sz (ev s y) = some rows)
    (hc : z.size = sz ∧ m.sz = sz ∧ 0 < sz) (hp : k ≤ m.rows.length ∧ (k + rows.length) * z.bytes ≤ 140737488355328 ∧ k + rows.length ≤ 9223372036854775807)
    (hrows : RowsOK b sz rows) : OwnOK C s o ⟨.ps s.next sz 0 (k + rows.length), .app b ⟨sz, m.rows.take k ++ rows⟩, some b, some s.next⟩ where
  nocall := by rw [ho]; rfl
  noop s' := by rw [ho]; rfl
  run s' hA := by
    obtain ⟨h1, h2, h3⟩ := hA
    have hop : o.op.operands.toList = [x, y] := by rw [ho]; rfl
    have := opR_app (s := s') hT ho ht hz htx (by rw [← h1 x (by rw [hop]; simp)]; exact hx) (by rw [← h2 b (.inl rfl)]; exact hm) (by rw [← h1 y (by rw [hop]; simp)]; exact hy) hc hp hrows (some b) (some s'.next)
    rw [← h3] at this; exact this
  tch b' h := by
    simp only [tch, Bool.or_eq_true, beq_iff_eq] at h
    rcases h with h | h
    · exact .inl (by rw [h])
    · exact .inr ⟨by rw [h], by rw [ho]; rfl⟩
theorem drawAfter_app {n : Nat} {r : List It} {Q : Lab → AS → Prop} {all l : List Oper} {fps : List FP} {fp : FP} {d : Option Tmp} {u : TypeId} {pos : String} {af : Array Edge} {g : Option (Nat × Bool)} (hT : TypesOK C.P C.ti) {x y : Operand} {t tx e : TypeId} {q1 q2 : Nat} {q3 : List Z} {z : TyI} (ht : C.ti t = some ⟨q1, q2, q3, .slc e⟩) (hz : C.ti e = some z) (htx : isSlcT (C.ti tx) = true)
    {b sz k : Nat} {m : MB} {rows : List (List AV)} (hx : ev s x = some (.ps b sz 0 k)) (hm : look s.mem b = some m) (hc : z.size = sz ∧ m.sz = sz ∧ 0 < sz) (hy : srcY sz (ev s y) = some rows)
    (hp : True ∧ k ≤ m.rows.length ∧ (k + rows.length) * z.bytes ≤ 140737488355328 ∧ k + rows.length ≤ 9223372036854775807) (hrows : RowsOK b sz rows)
    (kk : drawRun C n r (bump ((⟨s.env, (s.next, ⟨sz, m.rows.take k ++ rows⟩) :: dropM b s.mem, s.next + 1⟩ : AS).put d (.ps s.next sz 0 (k + rows.length))) (s.next + 1)) Q all l ((some b, some s.next) :: fps)) :
    drawAfter C n r s Q all ⟨d, .call ⟨.builtin .append, #[x, y], #[t, tx]⟩, u, pos, af, g⟩ none fp l fps := by
  refine drawAfter_own (own_app hT rfl ht hz htx hx hm hy hc hp.2 hrows) ?_
  cases d <;> exact kk
end

/-! ### a new name is turned back -/
def renV (b' b : Nat) : AV → AV
  | .p c sz row j => bif c == b' then .p b sz row j else bif c == b then .top else .p c sz row j
  | .ps c sz row k => bif c == b' then .ps b sz row k else bif c == b then .top else .ps c sz row k
  | a => a
def renOK (b : Nat) : AV → Prop
  | .p _ _ _ _ => True
  | .ps _ _ _ _ => True
  | a => NO b a
def renE (b' b : Nat) : List (Nat × AV) → List (Nat × AV)
  | [] => []
  | (t, a) :: l => (t, renV b' b a) :: renE b' b l
def renEOK (b : Nat) : List (Nat × AV) → Prop
  | [] => True
  | (_, a) :: l => renOK b a ∧ renEOK b l
def renM (b' b : Nat) : List (Nat × MB) → List (Nat × MB)
  | [] => []
  | (c, m) :: l => bif c == b' then (b, m) :: renM b' b l else bif c == b then renM b' b l else (c, m) :: renM b' b l

def renσ (b' b : Nat) (σ : Sig) : Sig := fun c => if c = b then σ b' else σ c

section
variable {σ : Sig} {S : Nat → Prop} {w : World}
theorem renV_rel {b' b : Nat} {x : Value} {a : AV} (h : renOK b a) (hr : Rel σ S w x a) : Rel (renσ b' b σ) S w x (renV b' b a) := by
  have other : ∀ {a : AV}, NO b a → Rel σ S w x a → Rel (renσ b' b σ) S w x a := fun h hr => h σ _ S w x (fun c k hc hk => by unfold renσ; rw [if_neg hc]; exact hk) hr
  cases a with
  | p c sz row j =>
    simp only [renV]
    cases hr with
    | p hσ =>
      by_cases h1 : c = b'
      · subst h1; simp only [beq_self_eq_true, cond_true]; exact .p (by simp [renσ, hσ])
      · by_cases h2 : c = b
        · subst h2; simp only [beq_eq_false_iff_ne.2 h1, cond_false, beq_self_eq_true, cond_true]; exact .top _
        · simp only [beq_eq_false_iff_ne.2 h1, beq_eq_false_iff_ne.2 h2, cond_false]; exact .p (by simp [renσ, h2, hσ])
  | ps c sz row k =>
    simp only [renV]
    by_cases h1 : c = b'
    · subst h1; simp only [beq_self_eq_true, cond_true]
      cases hr with
      | ps hσ q1 q2 q3 => exact .ps (by simp [renσ, hσ]) q1 q2 q3
      | ps0 => exact .ps0
    · by_cases h2 : c = b
      · subst h2; simp only [beq_eq_false_iff_ne.2 h1, cond_false, beq_self_eq_true, cond_true]; exact .top _
      · simp only [beq_eq_false_iff_ne.2 h1, beq_eq_false_iff_ne.2 h2, cond_false]
        cases hr with
        | ps hσ q1 q2 q3 => exact .ps (by simp [renσ, h2, hσ]) q1 q2 q3
        | ps0 => exact .ps0
  | _ => exact other h hr

theorem renE_look {b' b : Nat} : ∀ (l : List (Nat × AV)), renEOK b l → ∀ t av, look (renE b' b l) t = some av → ∃ a, look l t = some a ∧ renOK b a ∧ av = renV b' b a
  | [], _, t, av, h => by simp [renE, look] at h
  | (t', a') :: l, hl, t, av, h => by
    simp only [renE, look] at h ⊢
    split at h
    · rename_i he; injection h with h; exact ⟨a', by rw [if_pos he], hl.1, h.symm⟩
    · rename_i he
      rw [if_neg he]; exact renE_look l hl.2 t av h
theorem renM_look {b' b : Nat} : ∀ (l : List (Nat × MB)) (c : Nat) (m : MB), look (renM b' b l) c = some m → (c = b ∧ look l b' = some m) ∨ (c ≠ b ∧ c ≠ b' ∧ look l c = some m)
  | [], c, m, h => by simp [renM, look] at h
  | (c', m') :: l, c, m, h => by
    simp only [renM] at h
    by_cases h1 : c' = b'
    · subst h1
      simp only [beq_self_eq_true, cond_true, look] at h
      split at h
      · rename_i he
        injection h with h; subst h
        exact .inl ⟨he.symm, by simp [look]⟩
      · rename_i he
        rcases renM_look l c m h with ⟨q1, q2⟩ | ⟨q1, q2, q3⟩
        · exact (he q1.symm).elim
        · exact .inr ⟨q1, q2, by simp only [look]; rw [if_neg (fun e => q2 e.symm)]; exact q3⟩
    · by_cases h2 : c' = b
      · subst h2
        simp only [beq_eq_false_iff_ne.2 h1, cond_false, beq_self_eq_true, cond_true] at h
        rcases renM_look l c m h with ⟨q1, q2⟩ | ⟨q1, q2, q3⟩
        · exact .inl ⟨q1, by simp only [look]; rw [if_neg h1]; exact q2⟩
        · exact .inr ⟨q1, q2, by simp only [look]; rw [if_neg (fun e => q1 e.symm)]; exact q3⟩
      · simp only [beq_eq_false_iff_ne.2 h1, beq_eq_false_iff_ne.2 h2, cond_false, look] at h
        split at h
        · rename_i he
          subst he
          injection h with h; subst h
          exact .inr ⟨h2, h1, by simp [look]⟩
        · rename_i he
          rcases renM_look l c m h with ⟨q1, q2⟩ | ⟨q1, q2, q3⟩
          · exact .inl ⟨q1, by simp only [look]; rw [if_neg h1]; exact q2⟩
          · exact .inr ⟨q1, q2, by simp only [look]; rw [if_neg he]; exact q3⟩
end

theorem Weak.ren {s : AS} (b' b nx : Nat) (hn : s.next ≤ nx) (hb0 : b ≠ 0) (hb : b < nx) (he : renEOK b s.env) (hm : noMem b s.mem) : Weak s ⟨renE b' b s.env, renM b' b s.mem, nx⟩ := by
  intro D S0 w0 σ S w hF _
  have keep : ∀ c k, c ≠ b → σ c = some k → renσ b' b σ c = some k := fun c k hc hk => by unfold renσ; rw [if_neg hc]; exact hk
  have key : ∀ c m, look (renM b' b s.mem) c = some m → ∃ c0, look s.mem c0 = some m ∧ renσ b' b σ c = σ c0 ∧ ((c = b ∧ c0 = b') ∨ (c ≠ b ∧ c ≠ b' ∧ c0 = c)) := fun c m h => by
    rcases renM_look _ c m h with ⟨q1, q2⟩ | ⟨q1, q2, q3⟩
    · exact ⟨b', q2, by simp [renσ, q1], .inl ⟨q1, rfl⟩⟩
    · exact ⟨c, q3, by simp [renσ, q1], .inr ⟨q1, q2, rfl⟩⟩
  refine ⟨renσ b' b σ, S, ⟨hF.below, fun c k hk => ?_, fun c c' k m m' h1 h2 h3 h4 => ?_, hF.sbd, hF.s0, hF.s1, ⟨hF.glob.1, fun k hk => keep 0 k (fun e => hb0 e.symm) (hF.glob.2 k hk)⟩, fun c m h => ?_⟩, fun a hE t av ht => ?_⟩
  · unfold renσ at hk
    split at hk
    · rename_i hc; exact ⟨by rw [hc]; exact hb, (hF.dom _ k hk).2⟩
    · exact ⟨Nat.lt_of_lt_of_le (hF.dom _ k hk).1 hn, (hF.dom _ k hk).2⟩
  · obtain ⟨d, g1, g2, g3⟩ := key c m h1
    obtain ⟨d', g1', g2', g3'⟩ := key c' m' h2
    have := hF.inj d d' k m m' g1 g1' (g2 ▸ h3) (g2' ▸ h4)
    rcases g3 with ⟨q1, q2⟩ | ⟨q1, q2, q3⟩ <;> rcases g3' with ⟨q1', q2'⟩ | ⟨q1', q2', q3'⟩ <;> omega
  · obtain ⟨d, g1, g2, _⟩ := key c m h
    rcases hF.mem d m g1 with ⟨f1, f2⟩ | ⟨k, c0, e, f1, f2, f3, f4, f5, f6, f7⟩
    · exact .inl ⟨f1, by rw [g2]; exact f2⟩
    · refine .inr ⟨k, c0, e, by rw [g2]; exact f1, f2, f3, f4, f5, f6, fun i r j av hi hj => ?_⟩
      obtain ⟨x, hx, hr⟩ := f7 i r j av hi hj
      exact ⟨x, hx, noMem_look _ hm d m g1 r (List.mem_of_getElem? hi) av (List.mem_of_getElem? hj) σ _ S w x keep hr⟩
  · obtain ⟨a0, h1, h2, h3⟩ := renE_look _ he t av ht
    obtain ⟨x, hx, hr⟩ := hE t a0 h1
    subst h3
    exact ⟨x, hx, renV_rel h2 hr⟩
theorem Weak.trans {s s1 s2 : AS} (h : Weak s s1) (h1 : s.next ≤ s1.next) (k : Weak s1 s2) : Weak s s2 := by
  intro D S0 w0 σ S w hF h0
  obtain ⟨σ', S', g1, g2⟩ := h D S0 w0 σ S w hF (fun hne => by
    cases hk : D.an with
    | none => exact absurd hk hne
    | some k => exact Nat.lt_of_lt_of_le (hF.dom 0 k (hF.glob.2 k hk)).1 h1)
  obtain ⟨σ2, S2, k1, k2⟩ := k D S0 w0 σ' S' w g1 h0
  exact ⟨σ2, S2, k1, fun a ha => k2 a (g2 a ha)⟩
end Go.Ax

/- Side goals that close by themselves. -/
namespace Go.Ax
open Go Go.RowKit

theorem byClL {l : List AV} (h : ∀ x ∈ l, Cl x := by (try simp only [List.mem_cons, List.not_mem_nil, or_false, forall_eq_or_imp, forall_eq]); (repeat' (first | exact Cl.v _ | exact Cl.u32s | exact Cl.vec | exact Cl.mat | exact Cl.strs | exact Cl.i64s | exact Cl.sl (by assumption) | refine And.intro ?_ ?_ | refine Cl.agg ?_ | refine Cl.rp ?_ | refine Cl.sl ?_ | refine Cl.tup ?_ | simp only [List.mem_cons, List.not_mem_nil, or_false, forall_eq_or_imp, forall_eq, false_imp_iff, implies_true]))) : ∀ x ∈ l, Cl x := h
theorem byCl {a : AV} (h : Cl a := by (try simp only [List.mem_cons, List.not_mem_nil, or_false, forall_eq_or_imp, forall_eq]); (repeat' (first | exact Cl.v _ | exact Cl.u32s | exact Cl.vec | exact Cl.mat | exact Cl.strs | exact Cl.i64s | exact Cl.sl (by assumption) | refine And.intro ?_ ?_ | refine Cl.agg ?_ | refine Cl.rp ?_ | refine Cl.sl ?_ | refine Cl.tup ?_ | simp only [List.mem_cons, List.not_mem_nil, or_false, forall_eq_or_imp, forall_eq, false_imp_iff, implies_true]))) : Cl a := h
theorem byClM {rows : List (List AV)} (h : ∀ r ∈ rows, ∀ a ∈ r, Cl a := by intro r hr a ha; first | (obtain ⟨w, _, rfl⟩ := u32s_mem hr; simp only [u32, List.mem_cons, List.not_mem_nil, or_false] at ha; subst ha; exact Cl.v _) | (simp only [List.mem_cons, List.not_mem_nil, or_false] at hr; subst hr; simp only [List.mem_cons, List.not_mem_nil, or_false] at ha; (repeat' (rcases ha with ha | ha)) <;> subst ha <;> first | exact Cl.v _ | exact Cl.u32s | exact Cl.dy | assumption)) : ∀ r ∈ rows, ∀ a ∈ r, Cl a := h
theorem byWeak {s s' : AS} (h : Weak s s' := by (first | exact Weak.of (by (repeat' (first | exact trivial | exact ⟨_, rfl, .refl _⟩ | exact ⟨_, rfl, Le.nil _⟩ | exact ⟨_, rfl, Le.ps0 _ _ _⟩ | exact ⟨_, rfl, Le.top _⟩ | refine And.intro ?_ ?_))) (by (repeat' (first | exact trivial | exact rfl | refine And.intro ?_ ?_))) (by first | exact Nat.le_refl _ | exact Nat.le_of_ble_eq_true rfl) | exact Weak.cut (by (repeat' (first | exact trivial | exact ⟨_, rfl, .refl _⟩ | exact ⟨_, rfl, Le.nil _⟩ | exact ⟨_, rfl, Le.ps0 _ _ _⟩ | exact ⟨_, rfl, Le.top _⟩ | refine And.intro ?_ ?_))) (by (repeat' (first | exact trivial | exact rfl | refine And.intro ?_ ?_))) (by (repeat' (first | exact trivial | exact .v | exact .top | exact .p (Nat.le_of_ble_eq_true rfl) | exact .ps (Nat.le_of_ble_eq_true rfl) | exact nbRows_u32s | exact nbRows_strs | exact nbRows_vrows | exact nbRows_mrows | exact .cl (by (first | exact Cl.v _ | exact Cl.u32s | exact Cl.vec | exact Cl.mat | exact Cl.strs | exact Cl.i64s | exact Cl.sl (by assumption) | assumption | ((first | refine Cl.agg ?_ | refine Cl.rp ?_ | refine Cl.sl ?_ | refine Cl.tup ?_); simp only [List.mem_cons, List.not_mem_nil, or_false, forall_eq_or_imp, forall_eq]; (repeat' (first | exact Cl.v _ | exact Cl.u32s | exact Cl.vec | exact Cl.mat | exact Cl.strs | exact Cl.sl (by assumption) | assumption | refine And.intro ?_ ?_))))) | refine And.intro ?_ ?_))) (by (repeat' (first | exact trivial | exact Nat.le_of_ble_eq_true rfl | exact .v | exact .top | exact .p (Nat.le_of_ble_eq_true rfl) | exact .ps (Nat.le_of_ble_eq_true rfl) | exact nbRows_u32s | exact nbRows_strs | exact nbRows_vrows | exact nbRows_mrows | exact .cl (by (first | exact Cl.v _ | exact Cl.u32s | exact Cl.vec | exact Cl.mat | exact Cl.strs | exact Cl.i64s | exact Cl.sl (by assumption) | assumption | ((first | refine Cl.agg ?_ | refine Cl.rp ?_ | refine Cl.sl ?_ | refine Cl.tup ?_); simp only [List.mem_cons, List.not_mem_nil, or_false, forall_eq_or_imp, forall_eq]; (repeat' (first | exact Cl.v _ | exact Cl.u32s | exact Cl.vec | exact Cl.mat | exact Cl.strs | exact Cl.sl (by assumption) | assumption | refine And.intro ?_ ?_))))) | refine And.intro ?_ ?_))))) : Weak s s' := h
theorem byRows {b sz : Nat} {rows : List (List AV)} (h : RowsOK b sz rows := by (first | exact rowsOK_u32s | exact rowsOK_one (.v) | exact rowsOK_vrows | exact rowsOK_lit (by (repeat' (first | exact trivial | exact rfl | exact .v | exact .cl (by (first | exact Cl.v _ | exact Cl.u32s | exact Cl.vec | exact Cl.mat | exact Cl.strs | exact Cl.i64s | exact Cl.sl (by assumption) | assumption | ((first | refine Cl.agg ?_ | refine Cl.rp ?_ | refine Cl.sl ?_ | refine Cl.tup ?_); simp only [List.mem_cons, List.not_mem_nil, or_false, forall_eq_or_imp, forall_eq]; (repeat' (first | exact Cl.v _ | exact Cl.u32s | exact Cl.vec | exact Cl.mat | exact Cl.strs | exact Cl.sl (by assumption) | assumption | refine And.intro ?_ ?_))))) | refine And.intro ?_ ?_))))) : RowsOK b sz rows := h
theorem byNoE {b : Nat} {l : List (Nat × AV)} (h : noEnv b l := by (repeat' (first | exact trivial | exact .inl rfl | exact .inr .v | exact .inr (.p (by decide)) | exact .inr (.ps (by decide)) | exact .inr .top | exact .inr (.cl (by (first | exact Cl.v _ | exact Cl.u32s | exact Cl.vec | exact Cl.mat | exact Cl.strs | exact Cl.i64s | exact Cl.sl (by assumption) | assumption | ((first | refine Cl.agg ?_ | refine Cl.rp ?_ | refine Cl.sl ?_ | refine Cl.tup ?_); simp only [List.mem_cons, List.not_mem_nil, or_false, forall_eq_or_imp, forall_eq]; (repeat' (first | exact Cl.v _ | exact Cl.u32s | exact Cl.vec | exact Cl.mat | exact Cl.strs | exact Cl.sl (by assumption) | assumption | refine And.intro ?_ ?_)))))) | refine And.intro ?_ ?_))) : noEnv b l := h
theorem byNoM {b : Nat} {l : List (Nat × MB)} (h : noMem b l := by (repeat' (first | exact trivial | exact noRows_u32s | exact noRows_strs | exact noRows_vrows | exact noRows_mrows | exact noRows_lit (by (repeat' (first | exact trivial | exact .v | exact .p (by decide) | exact .ps (by decide) | exact .cl (by (first | exact Cl.v _ | exact Cl.u32s | exact Cl.vec | exact Cl.mat | exact Cl.strs | exact Cl.i64s | exact Cl.sl (by assumption) | assumption | ((first | refine Cl.agg ?_ | refine Cl.rp ?_ | refine Cl.sl ?_ | refine Cl.tup ?_); simp only [List.mem_cons, List.not_mem_nil, or_false, forall_eq_or_imp, forall_eq]; (repeat' (first | exact Cl.v _ | exact Cl.u32s | exact Cl.vec | exact Cl.mat | exact Cl.strs | exact Cl.sl (by assumption) | assumption | refine And.intro ?_ ?_))))) | refine And.intro ?_ ?_))) | refine And.intro ?_ ?_))) : noMem b l := h
theorem byFresh {r : List It} {k : Nat} (h : Ax.fresh r = k := by simp only [Ax.fresh, Nat.max_def, Nat.zero_add, Nat.reduceAdd, Nat.reduceLeDiff, Nat.le_refl, Nat.zero_le, Nat.le_zero_eq, Nat.one_ne_zero, reduceIte, ite_self, if_true, if_false]; rfl) : Ax.fresh r = k := h
end Go.Ax

/- The laws of dyadic numbers. -/
namespace Go.Ax
open Go Go.RowKit

theorem mg_make {n : Int} {d : Nat} (h : -9223372036854775808 ≤ n ∧ n ≤ 9223372036854775807) : Mg 64 (nrm n d) := mg_nrm (Nat.lt_of_lt_of_le (show n.natAbs < 2 ^ 64 by omega) (Nat.pow_le_pow_right (by omega) (Nat.le_add_right _ _)))
theorem Dy.add_comm (x y : Dy) : x.add y = y.add x := Dy.ext_v (by rw [Dy.v_add, Dy.v_add]; grind)
theorem Dy.add_assoc (x y z : Dy) : (x.add y).add z = x.add (y.add z) := Dy.ext_v (by simp only [Dy.v_add]; grind)
theorem Dy.add_sub_cancel (x y : Dy) : (x.add y).sub y = x := Dy.ext_v (by rw [Dy.v_sub, Dy.v_add]; grind)
theorem Dy.mul_comm (x y : Dy) : x.mul y = y.mul x := by unfold Dy.mul; rw [Int.mul_comm, Nat.add_comm]
theorem Dy.mul_assoc {x y z : Dy} (h : x.d + y.d + z.d ≤ 65536) : (x.mul y).mul z = x.mul (y.mul z) := by
  have h1 := Dy.d_mul x y (by omega)
  have h2 := Dy.d_mul y z (by omega)
  apply Dy.ext_v
  rw [Dy.v_mul_of _ _ (by omega), Dy.v_mul_of _ _ (by omega), Dy.v_mul_of _ _ (by omega), Dy.v_mul_of _ _ (by omega)]; grind
theorem Dy.mul_add {x y z : Dy} (h : x.d + y.d + z.d ≤ 65536) : x.mul (y.add z) = (x.mul y).add (x.mul z) := by
  have h1 := Dy.d_add y z
  apply Dy.ext_v
  rw [Dy.v_mul_of _ _ (by omega), Dy.v_add, Dy.v_add, Dy.v_mul_of _ _ (by omega), Dy.v_mul_of _ _ (by omega)]; grind
theorem Dy.shift_back {x : Dy} {j : Nat} (h : x.d + j ≤ 65536) : (x.shift (-(j : Int))).shift (j : Int) = x := by
  apply Dy.ext_v
  rw [v_shift_pos (by omega), v_shift_neg h, Rat.div_mul_cancel (p2ne _)]
theorem cmp_swap (x y : Dy) : y.cmp x = -x.cmp y := by
  unfold Dy.cmp
  by_cases h1 : x.v < y.v
  · rw [if_neg (by grind), if_pos h1, if_pos h1]
    rfl
  · by_cases h2 : y.v < x.v
    · rw [if_pos h2, if_neg h1, if_pos h2]
    · rw [if_neg h2, if_neg h1, if_neg h1, if_neg h2]; rfl
theorem sign_sub (x y : Dy) : (x.sub y).sign = x.cmp y := by
  rw [Dy.sign_v, Dy.v_sub, Dy.cmp]
  by_cases h1 : x.v < y.v
  · rw [if_pos h1, if_pos (by grind)]
  · rw [if_neg h1, if_neg (by grind)]
    by_cases h2 : y.v < x.v
    · rw [if_pos h2, if_neg (by grind)]
    · rw [if_neg h2, if_pos (by grind)]
theorem cmp_add (x y z : Dy) : (x.add z).cmp (y.add z) = x.cmp y := by
  unfold Dy.cmp
  rw [Dy.v_add, Dy.v_add]
  by_cases h1 : x.v < y.v
  · rw [if_pos h1, if_pos (by grind)]
  · rw [if_neg h1, if_neg (by grind)]
    by_cases h2 : y.v < x.v
    · rw [if_pos h2, if_pos (by grind)]
    · rw [if_neg h2, if_neg (by grind)]
theorem cmp_v {x y : Dy} {c : Int} (h1 : x.v < y.v → c = -1) (h2 : x.v = y.v → c = 0) (h3 : y.v < x.v → c = 1) : x.cmp y = c := by
  unfold Dy.cmp
  by_cases k1 : x.v < y.v
  · rw [if_pos k1, h1 k1]
  · rw [if_neg k1]
    by_cases k2 : y.v < x.v
    · rw [if_pos k2, h3 k2]
    · rw [if_neg k2, h2 (by grind)]
theorem cmp_lt_v {x y : Dy} (h : x.v < y.v) : x.cmp y = -1 := cmp_of_lt h
theorem cmp_gt_v {x y : Dy} (h : y.v < x.v) : x.cmp y = 1 := cmp_of_gt h
theorem cmp_eq_v {x y : Dy} (h : x.v = y.v) : x.cmp y = 0 := cmp_v (by grind) (fun _ => rfl) (by grind)
theorem sign_pos_v {x : Dy} (h : 0 < x.v) : x.sign = 1 := by rw [Dy.sign_v, if_neg (by grind), if_neg (by grind)]
theorem sign_neg_v {x : Dy} (h : x.v < 0) : x.sign = -1 := by rw [Dy.sign_v, if_pos h]
theorem sign_zero_v {x : Dy} (h : x.v = 0) : x.sign = 0 := by rw [Dy.sign_v, if_neg (by grind), if_pos h]
theorem mul_lt_right {a b c : Rat} (h : a < b) (hc : 0 < c) : a * c < b * c := Rat.mul_lt_mul_of_pos_right h hc
theorem cmp_mul {x y z : Dy} (h1 : x.d + z.d ≤ 65536) (h2 : y.d + z.d ≤ 65536) : (x.mul z).cmp (y.mul z) = x.cmp y * z.sign := by
  have e1 := Dy.v_mul_of x z h1
  have e2 := Dy.v_mul_of y z h2
  have tri : ∀ a b : Rat, a < b ∨ a = b ∨ b < a := fun a b => by grind
  rcases tri z.v 0 with hz | hz | hz
  · rw [sign_neg_v hz]
    rcases tri x.v y.v with h | h | h
    · rw [cmp_lt_v h, cmp_gt_v (by rw [e1, e2]; have := mul_lt_right h (show 0 < -z.v by grind); grind)]; rfl
    · rw [cmp_eq_v h, cmp_eq_v (by rw [e1, e2, h])]; rfl
    · rw [cmp_gt_v h, cmp_lt_v (by rw [e1, e2]; have := mul_lt_right h (show 0 < -z.v by grind); grind)]; rfl
  · rw [sign_zero_v hz, cmp_eq_v (by rw [e1, e2, hz]; grind)]; omega
  · rw [sign_pos_v hz, Int.mul_one]
    rcases tri x.v y.v with h | h | h
    · rw [cmp_lt_v h, cmp_lt_v (by rw [e1, e2]; exact mul_lt_right h hz)]
    · rw [cmp_eq_v h, cmp_eq_v (by rw [e1, e2, h])]
    · rw [cmp_gt_v h, cmp_gt_v (by rw [e1, e2]; exact mul_lt_right h hz)]
theorem min_add_max (x y : Dy) : (x.min y).add (x.max y) = x.add y := by
  apply Dy.ext_v
  rw [Dy.v_add, Dy.v_add, Dy.v_min, Dy.v_max]
  by_cases h : x.v ≤ y.v
  · rw [if_pos h]
    by_cases h2 : y.v ≤ x.v
    · rw [if_pos h2]; grind
    · rw [if_neg h2]
  · rw [if_neg h, if_pos (by grind)]; grind
theorem min_le_max (x y : Dy) : (x.min y).v ≤ (x.max y).v := by
  rw [Dy.v_min, Dy.v_max]; split <;> split <;> grind
theorem mg_grid {q : Rat} {k den : Nat} (h1 : -2 ^ k < q) (h2 : q < 2 ^ k) : Mg (k + 1) (nrm (q * 2 ^ den).floor den) := by
  refine mg_nrm ?_
  have hp := p2pos den
  have e : (2 : Rat) ^ (k + den) = (((2 ^ (k + den) : Nat) : Int) : Rat) := by rw [p2nat, p2int]
  have h3 : (q * 2 ^ den).floor < ((2 ^ (k + den) : Nat) : Int) := by
    rw [← Rat.intCast_lt_intCast, ← e, p2add]
    have := Rat.floor_le (q * 2 ^ den)
    have := Rat.mul_lt_mul_of_pos_right h2 hp
    grind
  have h4 : -((2 ^ (k + den) : Nat) : Int) ≤ (q * 2 ^ den).floor := by
    rw [Rat.le_floor_iff, Rat.intCast_neg, ← e, p2add]
    have := Rat.mul_lt_mul_of_pos_right h1 hp
    grind
  have h5 : 2 ^ (k + 1 + den) = 2 ^ (k + den) * 2 := by rw [← Nat.pow_succ]; congr 1; omega
  have h6 : 0 < 2 ^ (k + den) := Nat.pow_pos (by omega)
  omega
/-- A number that is not 0 is at least 2^-d. -/
theorem Dy.v_far {y : Dy} (h : y.n ≠ 0) : 1 ≤ y.v * 2 ^ y.d ∨ y.v * 2 ^ y.d ≤ -1 := by
  rw [y.v_mul]
  rcases Int.lt_or_gt_of_ne h with h1 | h1
  · right
    have : y.n ≤ -1 := by omega
    have := Rat.intCast_le_intCast.2 this
    simpa using this
  · left
    have : 1 ≤ y.n := by omega
    have := Rat.intCast_le_intCast.2 this
    simpa using this
theorem quo_bd {q K P xv yv : Rat} (hK : 0 < K) (hP : 0 < P) (hq : q * yv = xv) (h1 : -K < xv) (h2 : xv < K) (hf : 1 ≤ yv * P ∨ yv * P ≤ -1) : -(K * P) < q ∧ q < K * P := by
  have e : q * (yv * P) = xv * P := by rw [← Rat.mul_assoc, hq]
  have a1 : xv * P < K * P := Rat.mul_lt_mul_of_pos_right h2 hP
  have a2 : -K * P < xv * P := Rat.mul_lt_mul_of_pos_right h1 hP
  have a3 : -K * P = -(K * P) := by grind
  rw [a3] at a2
  have hKP := Rat.mul_pos hK hP
  generalize K * P = A at *
  generalize xv * P = B at *
  generalize yv * P = T at *
  clear a3
  rcases hf with hf | hf
  · by_cases h0 : 0 ≤ q
    · have := Rat.mul_le_mul_of_nonneg_left hf h0
      rw [e, Rat.mul_one] at this
      constructor <;> grind
    · have := Rat.mul_le_mul_of_nonneg_left hf (show (0 : Rat) ≤ -q by grind)
      rw [Rat.mul_one, Rat.neg_mul, e] at this
      constructor <;> grind
  · have hf : 1 ≤ -T := by grind
    have e2 : q * -T = -B := by rw [Rat.mul_neg, e]
    by_cases h0 : 0 ≤ q
    · have := Rat.mul_le_mul_of_nonneg_left hf h0
      rw [e2, Rat.mul_one] at this
      constructor <;> grind
    · have := Rat.mul_le_mul_of_nonneg_left hf (show (0 : Rat) ≤ -q by grind)
      rw [Rat.mul_one, Rat.neg_mul, e2] at this
      constructor <;> grind
theorem Mg.quo {k : Nat} {x y : Dy} (gx : Mg k x) (h0 : y.n ≠ 0) {den : Nat} : Mg (k + y.d + 1) (x.quo y den) := by
  have hy : y.v ≠ 0 := fun h => h0 ((Dy.v_zero_iff y).1 h)
  obtain ⟨h1, h2⟩ := quo_bd (p2pos k) (p2pos y.d) (Rat.div_mul_cancel hy : x.v / y.v * y.v = x.v) gx.1 gx.2 (Dy.v_far h0)
  rw [← p2add] at h1 h2
  exact mg_grid h1 h2
end Go.Ax

/- Closed intervals of dyadic numbers in plain form. -/
namespace Go.Ax
open Go Go.RowKit

structure Iv where
  lo : Dy
  hi : Dy
  h : lo.v ≤ hi.v

theorem Iv.eq {a b : Iv} (h1 : a.lo = b.lo) (h2 : a.hi = b.hi) : a = b := by
  cases a; cases b; simp_all
theorem Iv.eq_v {a b : Iv} (h1 : a.lo.v = b.lo.v) (h2 : a.hi.v = b.hi.v) : a = b := Iv.eq (Dy.ext_v h1) (Dy.ext_v h2)
theorem Iv.same {a b : Iv} : (a.lo = b.lo ∧ a.hi = b.hi) ↔ a = b := ⟨fun h => Iv.eq h.1 h.2, fun h => by subst h; exact ⟨rfl, rfl⟩⟩
def Iv.Mg (k : Nat) (a : Iv) : Prop := Ax.Mg k a.lo ∧ Ax.Mg k a.hi
theorem Iv.Mg.mono {k k' : Nat} {a : Iv} (h : a.Mg k) (hk : k ≤ k') : a.Mg k' := ⟨h.1.mono hk, h.2.mono hk⟩

theorem min_le_l (x y : Dy) : (x.min y).v ≤ x.v := by rw [Dy.v_min]; split <;> grind
theorem min_le_r (x y : Dy) : (x.min y).v ≤ y.v := by rw [Dy.v_min]; split <;> grind
theorem le_max_l (x y : Dy) : x.v ≤ (x.max y).v := by rw [Dy.v_max]; split <;> grind
theorem le_max_r (x y : Dy) : y.v ≤ (x.max y).v := by rw [Dy.v_max]; split <;> grind
theorem le_min {x y z : Dy} (h1 : z.v ≤ x.v) (h2 : z.v ≤ y.v) : z.v ≤ (x.min y).v := by rw [Dy.v_min]; split <;> grind
theorem max_le {x y z : Dy} (h1 : x.v ≤ z.v) (h2 : y.v ≤ z.v) : (x.max y).v ≤ z.v := by rw [Dy.v_max]; split <;> grind

def Iv.zero : Iv := ⟨Dy.zero, Dy.zero, by grind⟩
def Iv.pt (x : Dy) : Iv := ⟨x, x, by grind⟩
def Iv.sp2 (x y : Dy) : Iv := ⟨x.min y, x.max y, min_le_max x y⟩
def Iv.sp4 (x y z w : Dy) : Iv := ⟨((x.min y).min z).min w, ((x.max y).max z).max w, by
  have := min_le_r ((x.min y).min z) w; have := le_max_r ((x.max y).max z) w; grind⟩
def Iv.neg (a : Iv) : Iv := ⟨a.hi.neg, a.lo.neg, by rw [Dy.v_neg, Dy.v_neg]; have := a.h; grind⟩
theorem abs_nn (x : Dy) : 0 ≤ x.abs.v := by rw [Dy.v_abs]; split <;> grind
def Iv.abs (a : Iv) : Iv := if a.lo.v < 0 ∧ 0 < a.hi.v then ⟨Dy.zero, a.lo.abs.max a.hi.abs, by rw [Dy.v_zero]; have := abs_nn a.lo; have := le_max_l a.lo.abs a.hi.abs; grind⟩ else Iv.sp2 a.lo.abs a.hi.abs
def Iv.add (a b : Iv) : Iv := ⟨a.lo.add b.lo, a.hi.add b.hi, by rw [Dy.v_add, Dy.v_add]; have := a.h; have := b.h; grind⟩
def Iv.sub (a b : Iv) : Iv := a.add b.neg
def Iv.mul (a b : Iv) : Iv := Iv.sp4 (a.lo.mul b.lo) (a.lo.mul b.hi) (a.hi.mul b.lo) (a.hi.mul b.hi)
def Iv.min (a b : Iv) : Iv := ⟨a.lo.min b.lo, a.hi.min b.hi, le_min (by have := min_le_l a.lo b.lo; have := a.h; grind) (by have := min_le_r a.lo b.lo; have := b.h; grind)⟩
def Iv.max (a b : Iv) : Iv := ⟨a.lo.max b.lo, a.hi.max b.hi, max_le (by have := le_max_l a.hi b.hi; have := a.h; grind) (by have := le_max_r a.hi b.hi; have := b.h; grind)⟩
def Iv.hull (a b : Iv) : Iv := Iv.sp4 a.lo a.hi b.lo b.hi
def Iv.wide (a : Iv) (x : Dy) : Iv := Iv.add a (Iv.sp2 x x.neg)
def Iv.width (a : Iv) : Dy := a.hi.sub a.lo
def Iv.mag (a : Iv) : Dy := a.abs.hi
def Iv.ins (a b : Iv) : Bool := decide (b.lo.v ≤ a.lo.v ∧ a.hi.v ≤ b.hi.v)
def Iv.has (a : Iv) (x : Dy) : Bool := decide (a.lo.v ≤ x.v ∧ x.v ≤ a.hi.v)
theorem Iv.has_pt (a : Iv) (x : Dy) : (Iv.pt x).ins a = a.has x := rfl

theorem Iv.Mg.pt {k : Nat} {x : Dy} (h : Ax.Mg k x) : (Iv.pt x).Mg k := ⟨h, h⟩
theorem Iv.Mg.sp2 {k : Nat} {x y : Dy} (h : Ax.Mg k x) (g : Ax.Mg k y) : (Iv.sp2 x y).Mg k := ⟨h.min g, h.max g⟩
theorem Iv.Mg.sp4 {k : Nat} {x y z w : Dy} (h : Ax.Mg k x) (g : Ax.Mg k y) (i : Ax.Mg k z) (j : Ax.Mg k w) : (Iv.sp4 x y z w).Mg k := ⟨((h.min g).min i).min j, ((h.max g).max i).max j⟩
theorem Iv.Mg.zero (k : Nat) : Iv.zero.Mg k := ⟨Ax.Mg.zero k, Ax.Mg.zero k⟩
theorem Iv.Mg.neg {k : Nat} {a : Iv} (h : a.Mg k) : a.neg.Mg k := ⟨h.2.neg, h.1.neg⟩
theorem Iv.Mg.abs {k : Nat} {a : Iv} (h : a.Mg k) : a.abs.Mg k := by
  unfold Iv.abs; split
  · exact ⟨Ax.Mg.zero k, h.1.abs.max h.2.abs⟩
  · exact .sp2 h.1.abs h.2.abs
theorem Iv.Mg.add {k : Nat} {a b : Iv} (h : a.Mg k) (g : b.Mg k) : (a.add b).Mg (k + 1) := ⟨h.1.add g.1, h.2.add g.2⟩
theorem Iv.Mg.sub {k : Nat} {a b : Iv} (h : a.Mg k) (g : b.Mg k) : (a.sub b).Mg (k + 1) := h.add g.neg
theorem Iv.Mg.mul {k l : Nat} {a b : Iv} (h : a.Mg k) (g : b.Mg l) : (a.mul b).Mg (k + l) := .sp4 (h.1.mul g.1) (h.1.mul g.2) (h.2.mul g.1) (h.2.mul g.2)
theorem Iv.Mg.min {k : Nat} {a b : Iv} (h : a.Mg k) (g : b.Mg k) : (a.min b).Mg k := ⟨h.1.min g.1, h.2.min g.2⟩
theorem Iv.Mg.max {k : Nat} {a b : Iv} (h : a.Mg k) (g : b.Mg k) : (a.max b).Mg k := ⟨h.1.max g.1, h.2.max g.2⟩
theorem Iv.Mg.hull {k : Nat} {a b : Iv} (h : a.Mg k) (g : b.Mg k) : (a.hull b).Mg k := .sp4 h.1 h.2 g.1 g.2

/-- An interval as an argument: what its parts count as (x, y), and it (a). -/
def okI (s : Bool) (ws : List Nat) (d : Int) (s' : Bool) (ws' : List Nat) (d' : Int) (x y : Dy) : Prop := (validR s ws d = true ∧ validR s' ws' d' = true) ∧ x.v ≤ y.v
instance (s : Bool) (ws : List Nat) (d : Int) (s' : Bool) (ws' : List Nat) (d' : Int) (x y : Dy) : Decidable (okI s ws d s' ws' d' x y) := inferInstanceAs (Decidable (_ ∧ _))
structure IArg (s : Bool) (ws : List Nat) (d : Int) (s' : Bool) (ws' : List Nat) (d' : Int) (x y : Dy) (a : Iv) : Prop where
  px : Arg s ws d x
  py : Arg s' ws' d' y
  is : (okI s ws d s' ws' d' x y ∧ a.lo = x ∧ a.hi = y) ∨ (¬ okI s ws d s' ws' d' x y ∧ a = Iv.zero)
theorem Arg.valid_parts {s : Bool} {ws : List Nat} {d : Int} {x : Dy} (h : Arg s ws d x) (hv : validR s ws d = true) : s = sg x ∧ ws = ms x ∧ d = dn x := by
  rcases h.is with ⟨_, h1, h2, h3⟩ | ⟨h1, _⟩
  · exact ⟨h1.symm, h2.symm, h3.symm⟩
  · rw [hv] at h1; cases h1
theorem IArg.get {s : Bool} {ws : List Nat} {d : Int} {s' : Bool} {ws' : List Nat} {d' : Int} {x y : Dy} (h : Arg s ws d x) (g : Arg s' ws' d' y) : ∃ a, IArg s ws d s' ws' d' x y a := by
  by_cases ho : okI s ws d s' ws' d' x y
  · exact ⟨⟨x, y, ho.2⟩, h, g, .inl ⟨ho, rfl, rfl⟩⟩
  · exact ⟨Iv.zero, h, g, .inr ⟨ho, rfl⟩⟩
theorem IArg.of {a : Iv} {k : Nat} (h : a.Mg k) (hk : k ≤ 1099511627776 := by omega) : IArg (sg a.lo) (ms a.lo) (dn a.lo) (sg a.hi) (ms a.hi) (dn a.hi) a.lo a.hi a :=
  ⟨Arg.of h.1 hk, Arg.of h.2 hk, .inl ⟨⟨⟨valid_of _, valid_of _⟩, a.h⟩, rfl, rfl⟩⟩
section
variable {s : Bool} {ws : List Nat} {d : Int} {s' : Bool} {ws' : List Nat} {d' : Int} {x y : Dy} {a : Iv}
theorem IArg.lo (h : IArg s ws d s' ws' d' x y a) : Arg (sg a.lo) (ms a.lo) (dn a.lo) a.lo := by
  rcases h.is with ⟨_, h1, _⟩ | ⟨_, h1⟩
  · rw [h1]; exact ⟨ms_wd x, h.px.mlen, .inl ⟨valid_of x, rfl, rfl, rfl⟩⟩
  · rw [h1]; exact Arg.of (Ax.Mg.zero 1) (by omega)
theorem IArg.hi (h : IArg s ws d s' ws' d' x y a) : Arg (sg a.hi) (ms a.hi) (dn a.hi) a.hi := by
  rcases h.is with ⟨_, _, h1⟩ | ⟨_, h1⟩
  · rw [h1]; exact ⟨ms_wd y, h.py.mlen, .inl ⟨valid_of y, rfl, rfl, rfl⟩⟩
  · rw [h1]; exact Arg.of (Ax.Mg.zero 1) (by omega)
theorem IArg.mg {k : Nat} (h : IArg s ws d s' ws' d' x y a) (gx : Ax.Mg k x) (gy : Ax.Mg k y) : a.Mg k := by
  rcases h.is with ⟨_, h1, h2⟩ | ⟨_, h1⟩
  · unfold Iv.Mg; rw [h1, h2]; exact ⟨gx, gy⟩
  · rw [h1]; exact .zero k
theorem IArg.den {k : Nat} (h : IArg s ws d s' ws' d' x y a) (gx : x.d ≤ k) (gy : y.d ≤ k) : a.lo.d ≤ k ∧ a.hi.d ≤ k := by
  rcases h.is with ⟨_, h1, h2⟩ | ⟨_, h1⟩
  · rw [h1, h2]; exact ⟨gx, gy⟩
  · rw [h1]; exact ⟨Nat.zero_le _, Nat.zero_le _⟩
end
theorem ok_of (a : Iv) : okI (sg a.lo) (ms a.lo) (dn a.lo) (sg a.hi) (ms a.hi) (dn a.hi) a.lo a.hi := ⟨⟨valid_of _, valid_of _⟩, a.h⟩

abbrev ilit : AV := .agg [.v (.bool false), .v (.slice none 0 0), .v (.int .i64 0), .v (.bool false), .v (.slice none 0 0), .v (.int .i64 0)]
theorem Le.iv0 : Le ilit (.agg [.v (.bool (sg Iv.zero.lo)), .sl 1 (u32s (ms Iv.zero.lo)), .v (.int .i64 (dn Iv.zero.lo)), .v (.bool (sg Iv.zero.hi)), .sl 1 (u32s (ms Iv.zero.hi)), .v (.int .i64 (dn Iv.zero.hi))]) := by
  show Le ilit (.agg [.v (.bool (sg Dy.zero)), .sl 1 (u32s (ms Dy.zero)), .v (.int .i64 (dn Dy.zero)), .v (.bool (sg Dy.zero)), .sl 1 (u32s (ms Dy.zero)), .v (.int .i64 (dn Dy.zero))])
  rw [ms_zero]
  exact Le.agg (.cons (.refl _) (.cons (Le.nil _) (.cons (.refl _) (.cons (.refl _) (.cons (Le.nil _) (.cons (.refl _) .nil))))))
theorem Cl.ilit : Cl ilit := Cl.agg (fun a ha => by
  simp only [List.mem_cons, List.not_mem_nil, or_false] at ha
  rcases ha with rfl | rfl | rfl | rfl | rfl | rfl <;> exact Cl.v _)

theorem Arg.can {s : Bool} {ws : List Nat} {d : Int} {x : Dy} (h : Arg s ws d x) : Arg (sg x) (ms x) (dn x) x := ⟨ms_wd x, h.mlen, .inl ⟨valid_of x, rfl, rfl, rfl⟩⟩
theorem Arg.cmin {x y : Dy} (h : Arg (sg x) (ms x) (dn x) x) (g : Arg (sg y) (ms y) (dn y) y) : Arg (sg (x.min y)) (ms (x.min y)) (dn (x.min y)) (x.min y) := by
  unfold Dy.min; split <;> assumption
theorem Arg.cmax {x y : Dy} (h : Arg (sg x) (ms x) (dn x) x) (g : Arg (sg y) (ms y) (dn y) y) : Arg (sg (x.max y)) (ms (x.max y)) (dn (x.max y)) (x.max y) := by
  unfold Dy.max; split <;> assumption
theorem Arg.cabs {x : Dy} (h : Arg (sg x) (ms x) (dn x) x) : Arg (sg x.abs) (ms x.abs) (dn x.abs) x.abs :=
  ⟨ms_wd _, by
    have e : ms x.abs = ms x := by show words (x.n.natAbs : Int).natAbs = words x.n.natAbs; rw [Int.natAbs_natCast]
    rw [e]; exact h.mlen, .inl ⟨valid_of _, rfl, rfl, rfl⟩⟩
theorem IArg.mk' {a : Iv} (h : Arg (sg a.lo) (ms a.lo) (dn a.lo) a.lo) (g : Arg (sg a.hi) (ms a.hi) (dn a.hi) a.hi) : IArg (sg a.lo) (ms a.lo) (dn a.lo) (sg a.hi) (ms a.hi) (dn a.hi) a.lo a.hi a :=
  ⟨h, g, .inl ⟨ok_of a, rfl, rfl⟩⟩
theorem Arg.cpt {s : Bool} {ws : List Nat} {d : Int} {x : Dy} (h : Arg s ws d x) : IArg (sg (Iv.pt x).lo) (ms (Iv.pt x).lo) (dn (Iv.pt x).lo) (sg (Iv.pt x).hi) (ms (Iv.pt x).hi) (dn (Iv.pt x).hi) (Iv.pt x).lo (Iv.pt x).hi (Iv.pt x) := .mk' h.can h.can
section
variable {s : Bool} {ws : List Nat} {d : Int} {s' : Bool} {ws' : List Nat} {d' : Int} {x y : Dy} {a : Iv}
theorem IArg.cneg (h : IArg s ws d s' ws' d' x y a) : IArg (sg a.neg.lo) (ms a.neg.lo) (dn a.neg.lo) (sg a.neg.hi) (ms a.neg.hi) (dn a.neg.hi) a.neg.lo a.neg.hi a.neg := .mk' h.hi.neg_of h.lo.neg_of
theorem IArg.can (h : IArg s ws d s' ws' d' x y a) : IArg (sg a.lo) (ms a.lo) (dn a.lo) (sg a.hi) (ms a.hi) (dn a.hi) a.lo a.hi a := .mk' h.lo h.hi
variable {s2 : Bool} {ws2 : List Nat} {d2 : Int} {s2' : Bool} {ws2' : List Nat} {d2' : Int} {x2 y2 : Dy} {b : Iv}
theorem IArg.cmax (h : IArg s ws d s' ws' d' x y a) (g : IArg s2 ws2 d2 s2' ws2' d2' x2 y2 b) : IArg (sg (a.max b).lo) (ms (a.max b).lo) (dn (a.max b).lo) (sg (a.max b).hi) (ms (a.max b).hi) (dn (a.max b).hi) (a.max b).lo (a.max b).hi (a.max b) := .mk' (h.lo.cmax g.lo) (h.hi.cmax g.hi)
theorem IArg.cmin (h : IArg s ws d s' ws' d' x y a) (g : IArg s2 ws2 d2 s2' ws2' d2' x2 y2 b) : IArg (sg (a.min b).lo) (ms (a.min b).lo) (dn (a.min b).lo) (sg (a.min b).hi) (ms (a.min b).hi) (dn (a.min b).hi) (a.min b).lo (a.min b).hi (a.min b) := .mk' (h.lo.cmin g.lo) (h.hi.cmin g.hi)
end
theorem Arg.czero : Arg (sg Dy.zero) (ms Dy.zero) (dn Dy.zero) Dy.zero := Arg.of (Ax.Mg.zero 1) (by omega)
theorem neg_zero : Dy.zero.neg = Dy.zero := Dy.eq rfl rfl
theorem sign_lt0 (x : Dy) : x.sign < 0 ↔ x.v < 0 := by rw [Dy.sign_v]; split <;> (try split) <;> grind
theorem sign_gt0 (x : Dy) : 0 < x.sign ↔ 0 < x.v := by rw [Dy.sign_v]; split <;> (try split) <;> grind
theorem sign_eq0 (x : Dy) : x.sign = 0 ↔ x.v = 0 := by rw [Dy.sign_v]; split <;> (try split) <;> grind
theorem mg_i64 {n : Int} (h : -9223372036854775808 ≤ n ∧ n ≤ 9223372036854775807) : Mg 64 (Dy.int n) := Mg.int (Nat.lt_of_le_of_lt (show n.natAbs ≤ 9223372036854775808 by omega) (by decide))
theorem Le.lo0 {A B C : AV} : Le (.agg [.v (.bool false), .v (.slice none 0 0), .v (.int .i64 0), A, B, C]) (.agg [.v (.bool (sg Dy.zero)), .sl 1 (u32s (ms Dy.zero)), .v (.int .i64 (dn Dy.zero)), A, B, C]) := by
  rw [ms_zero]
  exact Le.agg (.cons (.refl _) (.cons (Le.nil _) (.cons (.refl _) (.cons (.refl _) (.cons (.refl _) (.cons (.refl _) .nil))))))

/-! ### the reference's formulas -/
theorem Iv.abs_ref (a : Iv) : a.abs = if a.lo.v ≤ 0 ∧ 0 ≤ a.hi.v then ⟨Dy.zero, a.lo.abs.max a.hi.abs, by rw [Dy.v_zero]; have := abs_nn a.lo; have := le_max_l a.lo.abs a.hi.abs; grind⟩ else Iv.sp2 a.lo.abs a.hi.abs := by
  have h0 := Dy.v_zero
  have h1 := a.h
  have e1 := Dy.v_abs a.lo
  have e2 := Dy.v_abs a.hi
  unfold Iv.abs
  by_cases c1 : a.lo.v < 0 ∧ 0 < a.hi.v
  · rw [if_pos c1, if_pos (by grind)]
  · rw [if_neg c1]
    by_cases c2 : a.lo.v ≤ 0 ∧ 0 ≤ a.hi.v
    · rw [if_pos c2]
      refine Iv.eq_v ?_ rfl
      show (a.lo.abs.min a.hi.abs).v = Dy.zero.v
      rw [Dy.v_min]; split <;> split at e1 <;> split at e2 <;> grind
    · rw [if_neg c2]
theorem sp2_of_le {x y : Dy} (h : x.v ≤ y.v) : Iv.sp2 x y = ⟨x, y, h⟩ := Iv.eq_v (by show (x.min y).v = x.v; rw [Dy.v_min, if_pos h]) (by show (x.max y).v = y.v; rw [Dy.v_max]; split <;> grind)
theorem Iv.neg_ref (a : Iv) : Iv.sp2 a.lo.neg a.hi.neg = a.neg := Iv.eq_v (by
    show (a.lo.neg.min a.hi.neg).v = a.hi.neg.v
    have := a.h; rw [Dy.v_min, Dy.v_neg, Dy.v_neg]; split <;> grind) (by
    show (a.lo.neg.max a.hi.neg).v = a.lo.neg.v
    have := a.h; rw [Dy.v_max, Dy.v_neg, Dy.v_neg]; split <;> grind)
theorem Iv.add_ref (a b : Iv) : Iv.sp2 (a.lo.add b.lo) (a.hi.add b.hi) = a.add b := sp2_of_le (a.add b).h
theorem Iv.wide_of (a : Iv) (x : Dy) (h : 0 ≤ x.v) : (a.wide x).lo = a.lo.sub x ∧ (a.wide x).hi = a.hi.add x := by
  have e : Iv.sp2 x x.neg = ⟨x.neg, x, by rw [Dy.v_neg]; grind⟩ := Iv.eq_v (by
    show (x.min x.neg).v = x.neg.v
    rw [Dy.v_min, Dy.v_neg]; split <;> grind) (by
    show (x.max x.neg).v = x.v
    rw [Dy.v_max, Dy.v_neg]; split <;> grind)
  unfold Iv.wide
  rw [e]
  exact ⟨rfl, rfl⟩
theorem Iv.clip_ref (a : Iv) {lo hi : Dy} (h : lo.v ≤ hi.v) : (a.max (Iv.pt lo)).min (Iv.pt hi) = (Iv.pt lo).max ((Iv.pt hi).min a) := by
  have := a.h
  refine Iv.eq_v ?_ ?_
  · show ((a.lo.max lo).min hi).v = (lo.max (hi.min a.lo)).v
    rw [Dy.v_min, Dy.v_max, Dy.v_max, Dy.v_min]; repeat' split
    all_goals grind
  · show ((a.hi.max lo).min hi).v = (lo.max (hi.min a.hi)).v
    rw [Dy.v_min, Dy.v_max, Dy.v_max, Dy.v_min]; repeat' split
    all_goals grind
theorem Iv.ins_ref (a b : Iv) : a.ins b = (b.has a.lo && b.has a.hi) := by
  have := a.h
  have := b.h
  unfold Iv.ins Iv.has
  rw [← Bool.decide_and]
  exact decide_eq_decide.2 (by grind)
end Go.Ax

/- The laws of intervals. -/
namespace Go.Ax
open Go Go.RowKit

theorem min_v_cases (x y : Dy) : (x.min y).v = x.v ∨ (x.min y).v = y.v := by rw [Dy.v_min]; split <;> simp
theorem max_v_cases (x y : Dy) : (x.max y).v = x.v ∨ (x.max y).v = y.v := by rw [Dy.v_max]; split <;> simp
/-- A number lies in an interval. -/
def Iv.On (a : Iv) (x : Dy) : Prop := a.lo.v ≤ x.v ∧ x.v ≤ a.hi.v
theorem Iv.On.has {a : Iv} {x : Dy} (h : a.On x) : a.has x = true := decide_eq_true h
theorem Iv.on_lo (a : Iv) : a.On a.lo := ⟨by grind, a.h⟩
theorem Iv.on_hi (a : Iv) : a.On a.hi := ⟨a.h, by grind⟩
theorem Iv.ins_on {a b : Iv} (h : b.On a.lo) (g : b.On a.hi) : a.ins b = true := decide_eq_true ⟨h.1, g.2⟩
theorem sp4_on1 (x y z w : Dy) : (Iv.sp4 x y z w).On x := by
  have h1 := min_le_l x y; have h2 := min_le_l (x.min y) z; have h3 := min_le_l ((x.min y).min z) w
  have g1 := le_max_l x y; have g2 := le_max_l (x.max y) z; have g3 := le_max_l ((x.max y).max z) w
  exact ⟨Rat.le_trans h3 (Rat.le_trans h2 h1), Rat.le_trans g1 (Rat.le_trans g2 g3)⟩
theorem sp4_on2 (x y z w : Dy) : (Iv.sp4 x y z w).On y := by
  have h1 := min_le_r x y; have h2 := min_le_l (x.min y) z; have h3 := min_le_l ((x.min y).min z) w
  have g1 := le_max_r x y; have g2 := le_max_l (x.max y) z; have g3 := le_max_l ((x.max y).max z) w
  exact ⟨Rat.le_trans h3 (Rat.le_trans h2 h1), Rat.le_trans g1 (Rat.le_trans g2 g3)⟩
theorem sp4_on3 (x y z w : Dy) : (Iv.sp4 x y z w).On z := by
  have h2 := min_le_r (x.min y) z; have h3 := min_le_l ((x.min y).min z) w
  have g2 := le_max_r (x.max y) z; have g3 := le_max_l ((x.max y).max z) w
  exact ⟨Rat.le_trans h3 h2, Rat.le_trans g2 g3⟩
theorem sp4_on4 (x y z w : Dy) : (Iv.sp4 x y z w).On w := ⟨min_le_r ((x.min y).min z) w, le_max_r ((x.max y).max z) w⟩
theorem sp4_least {x y z w : Dy} {c : Iv} (h1 : c.On x) (h2 : c.On y) (h3 : c.On z) (h4 : c.On w) : (Iv.sp4 x y z w).ins c = true := by
  refine decide_eq_true ⟨?_, ?_⟩
  · exact le_min (le_min (le_min h1.1 h2.1) h3.1) h4.1
  · exact max_le (max_le (max_le h1.2 h2.2) h3.2) h4.2
theorem on_neg {a : Iv} {x : Dy} (h : a.On x) : a.neg.On x.neg := by
  unfold Iv.On Iv.neg at *; simp only [Dy.v_neg] at *; grind
theorem on_abs {a : Iv} {x : Dy} (h : a.On x) : a.abs.On x.abs := by
  have e1 := Dy.v_abs a.lo
  have e2 := Dy.v_abs a.hi
  have e3 := Dy.v_abs x
  have h1 := a.h
  obtain ⟨h2, h3⟩ := h
  have m1 := le_max_l a.lo.abs a.hi.abs
  have m2 := le_max_r a.lo.abs a.hi.abs
  have n1 := min_le_l a.lo.abs a.hi.abs
  have n2 := min_le_r a.lo.abs a.hi.abs
  have up : x.abs.v ≤ (a.lo.abs.max a.hi.abs).v := by
    split at e1 <;> split at e2 <;> split at e3 <;> grind
  unfold Iv.abs
  split
  · exact ⟨by show Dy.zero.v ≤ _; rw [Dy.v_zero]; exact abs_nn x, up⟩
  · rename_i c
    refine ⟨?_, up⟩
    show (a.lo.abs.min a.hi.abs).v ≤ _
    split at e1 <;> split at e2 <;> split at e3 <;> grind
theorem on_add {a b : Iv} {x y : Dy} (h : a.On x) (g : b.On y) : (a.add b).On (x.add y) := by
  unfold Iv.On Iv.add at *; simp only [Dy.v_add] at *; grind
theorem on_sub {a b : Iv} {x y : Dy} (h : a.On x) (g : b.On y) : (a.sub b).On (x.sub y) := on_add h (on_neg g)
theorem on_min {a b : Iv} {x y : Dy} (h : a.On x) (g : b.On y) : (a.min b).On (x.min y) := by
  unfold Iv.On Iv.min at *; simp only [Dy.v_min] at *; obtain ⟨h1, h2⟩ := h; obtain ⟨g1, g2⟩ := g
  constructor <;> (repeat' split) <;> grind
theorem on_max {a b : Iv} {x y : Dy} (h : a.On x) (g : b.On y) : (a.max b).On (x.max y) := by
  unfold Iv.On Iv.max at *; simp only [Dy.v_max] at *; obtain ⟨h1, h2⟩ := h; obtain ⟨g1, g2⟩ := g
  constructor <;> (repeat' split) <;> grind
theorem on_hull1 {a b : Iv} {x : Dy} (h : a.On x) : (a.hull b).On x := by
  have h1 := sp4_on1 a.lo a.hi b.lo b.hi
  have h2 := sp4_on2 a.lo a.hi b.lo b.hi
  exact ⟨Rat.le_trans h1.1 h.1, Rat.le_trans h.2 h2.2⟩
theorem on_hull2 {a b : Iv} {x : Dy} (h : b.On x) : (a.hull b).On x := by
  have h1 := sp4_on3 a.lo a.hi b.lo b.hi
  have h2 := sp4_on4 a.lo a.hi b.lo b.hi
  exact ⟨Rat.le_trans h1.1 h.1, Rat.le_trans h.2 h2.2⟩

/-- Between two numbers, multiplied by a third one. -/
theorem lin_lo {a b x y L : Rat} (h1 : a ≤ x) (h2 : x ≤ b) (g1 : L ≤ a * y) (g2 : L ≤ b * y) : L ≤ x * y := by
  by_cases hy : 0 ≤ y
  · have := Rat.mul_le_mul_of_nonneg_right h1 hy; grind
  · have := Rat.mul_le_mul_of_nonneg_right h2 (show (0 : Rat) ≤ -y by grind)
    rw [Rat.mul_neg, Rat.mul_neg] at this; grind
theorem lin_hi {a b x y L : Rat} (h1 : a ≤ x) (h2 : x ≤ b) (g1 : a * y ≤ L) (g2 : b * y ≤ L) : x * y ≤ L := by
  by_cases hy : 0 ≤ y
  · have := Rat.mul_le_mul_of_nonneg_right h2 hy; grind
  · have := Rat.mul_le_mul_of_nonneg_right h1 (show (0 : Rat) ≤ -y by grind)
    rw [Rat.mul_neg, Rat.mul_neg] at this; grind
/-- Denominators that are small. -/
def Iv.Dn (k : Nat) (a : Iv) : Prop := a.lo.d ≤ k ∧ a.hi.d ≤ k
theorem on_mul {a b : Iv} {x y : Dy} {k : Nat} (hk : k ≤ 32768) (h : a.On x) (g : b.On y) (da : a.Dn k) (db : b.Dn k) (dx : x.d ≤ k) (dy : y.d ≤ k) : (a.mul b).On (x.mul y) := by
  obtain ⟨da1, da2⟩ := da
  obtain ⟨db1, db2⟩ := db
  have e1 := Dy.v_mul_of a.lo b.lo (by omega)
  have e2 := Dy.v_mul_of a.lo b.hi (by omega)
  have e3 := Dy.v_mul_of a.hi b.lo (by omega)
  have e4 := Dy.v_mul_of a.hi b.hi (by omega)
  have e5 := Dy.v_mul_of x y (by omega)
  obtain ⟨p1, p2⟩ := sp4_on1 (a.lo.mul b.lo) (a.lo.mul b.hi) (a.hi.mul b.lo) (a.hi.mul b.hi)
  obtain ⟨p3, p4⟩ := sp4_on2 (a.lo.mul b.lo) (a.lo.mul b.hi) (a.hi.mul b.lo) (a.hi.mul b.hi)
  obtain ⟨p5, p6⟩ := sp4_on3 (a.lo.mul b.lo) (a.lo.mul b.hi) (a.hi.mul b.lo) (a.hi.mul b.hi)
  obtain ⟨p7, p8⟩ := sp4_on4 (a.lo.mul b.lo) (a.lo.mul b.hi) (a.hi.mul b.lo) (a.hi.mul b.hi)
  obtain ⟨h1, h2⟩ := h
  obtain ⟨g1, g2⟩ := g
  rw [e1] at p1 p2
  rw [e2] at p3 p4
  rw [e3] at p5 p6
  rw [e4] at p7 p8
  show (a.mul b).lo.v ≤ _ ∧ _ ≤ (a.mul b).hi.v
  rw [e5]
  change (a.mul b).lo.v ≤ _ at p1 p3 p5 p7
  change _ ≤ (a.mul b).hi.v at p2 p4 p6 p8
  generalize (a.mul b).lo.v = L at *
  generalize (a.mul b).hi.v = H at *
  constructor
  · refine lin_lo h1 h2 ?_ ?_
    · rw [Rat.mul_comm]; refine lin_lo g1 g2 ?_ ?_ <;> rw [Rat.mul_comm] <;> assumption
    · rw [Rat.mul_comm]; refine lin_lo g1 g2 ?_ ?_ <;> rw [Rat.mul_comm] <;> assumption
  · refine lin_hi h1 h2 ?_ ?_
    · rw [Rat.mul_comm]; refine lin_hi g1 g2 ?_ ?_ <;> rw [Rat.mul_comm] <;> assumption
    · rw [Rat.mul_comm]; refine lin_hi g1 g2 ?_ ?_ <;> rw [Rat.mul_comm] <;> assumption

/-- The part that lies i/16 of the way from one end to the other. -/
def pickD (a : Iv) (i : Nat) : Dy := a.lo.add ((nrm i 4).mul (a.hi.sub a.lo))
theorem pick_dn {a : Iv} {k i : Nat} (h : a.Dn k) (hk : k ≤ 32768) : (pickD a i).d ≤ k + 4 := by
  have h1 := Dy.d_add a.lo ((nrm i 4).mul (a.hi.sub a.lo))
  have h2 := Dy.d_nrm (z := i) (d := 4) (by omega)
  have h3 := Dy.d_add a.hi a.lo.neg
  have h5 : a.lo.neg.d = a.lo.d := rfl
  have h6 : (a.hi.sub a.lo).d ≤ k := by obtain ⟨q1, q2⟩ := h; unfold Dy.sub; omega
  have h4 := Dy.d_mul (nrm i 4) (a.hi.sub a.lo) (by omega)
  obtain ⟨q1, q2⟩ := h
  unfold pickD; omega
theorem pick_mg {a : Iv} {k i : Nat} (h : a.Mg k) (hi : i ≤ 16) (hk : 1 ≤ k) : Mg (k + 7) (pickD a i) := by
  have h1 : Mg 5 (nrm i 4) := mg_nrm (Nat.lt_of_le_of_lt (show (i : Int).natAbs ≤ 16 by omega) (by decide))
  have h2 := h1.mul (h.2.sub h.1)
  exact (((h.1.mono (show k ≤ 5 + (k + 1) by omega)).add h2).mono (by omega))
theorem pick_on {a : Iv} {k i : Nat} (h : a.Dn k) (hk : k ≤ 32768) (hi : i ≤ 16) : a.On (pickD a i) := by
  have h2 := Dy.d_nrm (z := i) (d := 4) (by omega)
  have h3 := Dy.d_add a.hi a.lo.neg
  have h5 : a.lo.neg.d = a.lo.d := rfl
  have h6 : (a.hi.sub a.lo).d ≤ k := by obtain ⟨q1, q2⟩ := h; unfold Dy.sub; omega
  have e : (pickD a i).v = a.lo.v + (nrm i 4).v * (a.hi.v - a.lo.v) := by
    unfold pickD; rw [Dy.v_add, Dy.v_mul_of _ _ (by omega), Dy.v_sub]
  have e2 : (nrm i 4).v * 2 ^ 4 = ((i : Int) : Rat) := v_nrm_mul (by omega)
  have i0 : (0 : Rat) ≤ ((i : Int) : Rat) := by
    have := Rat.intCast_le_intCast.2 (show (0 : Int) ≤ i by omega); simpa using this
  have i1 : ((i : Int) : Rat) ≤ 16 := by
    have := Rat.intCast_le_intCast.2 (show (i : Int) ≤ 16 by omega); simpa using this
  have c16 : (2 : Rat) ^ 4 = 16 := by grind
  rw [c16] at e2
  have f0 : 0 ≤ (nrm i 4).v := by grind
  have f1 : (nrm i 4).v ≤ 1 := by grind
  have w := a.h
  have w0 : 0 ≤ a.hi.v - a.lo.v := by grind
  have k1 := Rat.mul_nonneg f0 w0
  have k2 := Rat.mul_le_mul_of_nonneg_right f1 w0
  unfold Iv.On
  rw [e]
  constructor <;> grind

/-! ### hulls and what is in both -/
theorem hull_ins_l (a b : Iv) : a.ins (a.hull b) = true := Iv.ins_on (on_hull1 a.on_lo) (on_hull1 a.on_hi)
theorem hull_ins_r (a b : Iv) : b.ins (a.hull b) = true := Iv.ins_on (on_hull2 b.on_lo) (on_hull2 b.on_hi)
theorem hull_least {a b c : Iv} (h : a.ins c = true) : b.ins c = (a.hull b).ins c := by
  have h0 := of_decide_eq_true h
  have h3 := a.h
  have h4 := b.h
  cases hb : b.ins c with
  | true =>
    have h1 := of_decide_eq_true hb
    symm
    exact sp4_least ⟨h0.1, by grind⟩ ⟨by grind, h0.2⟩ ⟨h1.1, by grind⟩ ⟨by grind, h1.2⟩
  | false =>
    have h1 := of_decide_eq_false hb
    symm
    refine decide_eq_false fun h2 => h1 ?_
    have q1 := sp4_on3 a.lo a.hi b.lo b.hi
    have q2 := sp4_on4 a.lo a.hi b.lo b.hi
    exact ⟨Rat.le_trans h2.1 q1.1, Rat.le_trans q2.2 h2.2⟩
def Iv.meet (a b : Iv) (h : (a.lo.max b.lo).v ≤ (a.hi.min b.hi).v) : Iv := ⟨a.lo.max b.lo, a.hi.min b.hi, h⟩
theorem meet_ins_l {a b : Iv} (h) : (a.meet b h).ins a = true := decide_eq_true ⟨le_max_l _ _, min_le_l _ _⟩
theorem meet_ins_r {a b : Iv} (h) : (a.meet b h).ins b = true := decide_eq_true ⟨le_max_r _ _, min_le_r _ _⟩
theorem meet_most {a b c : Iv} (h) : (c.ins a && c.ins b) = c.ins (a.meet b h) := by
  unfold Iv.ins
  rw [← Bool.decide_and]
  refine decide_eq_decide.2 ⟨fun g => ⟨max_le g.1.1 g.2.1, le_min g.1.2 g.2.2⟩, fun g => ?_⟩
  have q1 := le_max_l a.lo b.lo
  have q2 := le_max_r a.lo b.lo
  have q3 := min_le_l a.hi b.hi
  have q4 := min_le_r a.hi b.hi
  exact ⟨⟨Rat.le_trans q1 g.1, Rat.le_trans g.2 q3⟩, ⟨Rat.le_trans q2 g.1, Rat.le_trans g.2 q4⟩⟩
theorem apart_iff (a b : Iv) : (a.hi.v < b.lo.v ∨ b.hi.v < a.lo.v) ↔ ¬ (a.lo.max b.lo).v ≤ (a.hi.min b.hi).v := by
  have := a.h
  have := b.h
  rw [Dy.v_max, Dy.v_min]
  split <;> split <;> grind
theorem width_le {a b : Iv} (h1 : b.On a.lo) (h2 : b.On a.hi) : (a.width).cmp b.width ≤ 0 := by
  rw [cmp_le]
  unfold Iv.width
  rw [Dy.v_sub, Dy.v_sub]
  have := h1.1; have := h2.2; grind
theorem mag_le {a : Iv} {x : Dy} (h : a.On x) : x.abs.cmp a.mag ≤ 0 := by
  rw [cmp_le]; exact (on_abs h).2
theorem sp2_on {a : Iv} {x y : Dy} (h : a.On x) (g : a.On y) : a.On (Iv.sp2 x y).lo ∧ a.On (Iv.sp2 x y).hi := by
  have h1 := min_v_cases x y
  have h2 := max_v_cases x y
  unfold Iv.On Iv.sp2 at *
  dsimp only
  obtain ⟨g1, g2⟩ := g
  obtain ⟨k1, k2⟩ := h
  refine ⟨⟨?_, ?_⟩, ⟨?_, ?_⟩⟩ <;> grind
theorem add_ins {a b c e : Iv} (h1 : c.On a.lo) (h2 : c.On a.hi) (g1 : e.On b.lo) (g2 : e.On b.hi) : (a.add b).ins (c.add e) = true := Iv.ins_on (on_add h1 g1) (on_add h2 g2)
theorem sub_ins {a b c e : Iv} (h1 : c.On a.lo) (h2 : c.On a.hi) (g1 : e.On b.lo) (g2 : e.On b.hi) : (a.sub b).ins (c.sub e) = true := Iv.ins_on (on_add h1 (on_neg g2)) (on_add h2 (on_neg g1))
theorem min_ins {a b c e : Iv} (h1 : c.On a.lo) (h2 : c.On a.hi) (g1 : e.On b.lo) (g2 : e.On b.hi) : (a.min b).ins (c.min e) = true := Iv.ins_on (on_min h1 g1) (on_min h2 g2)
theorem max_ins {a b c e : Iv} (h1 : c.On a.lo) (h2 : c.On a.hi) (g1 : e.On b.lo) (g2 : e.On b.hi) : (a.max b).ins (c.max e) = true := Iv.ins_on (on_max h1 g1) (on_max h2 g2)
theorem hull_ins {a b c e : Iv} (h1 : c.On a.lo) (h2 : c.On a.hi) (g1 : e.On b.lo) (g2 : e.On b.hi) : (a.hull b).ins (c.hull e) = true := sp4_least (on_hull1 h1) (on_hull1 h2) (on_hull2 g1) (on_hull2 g2)
theorem mul_ins {a b c e : Iv} {k : Nat} (hk : k ≤ 32768) (h1 : c.On a.lo) (h2 : c.On a.hi) (g1 : e.On b.lo) (g2 : e.On b.hi) (dc : c.Dn k) (de : e.Dn k) (da : a.Dn k) (db : b.Dn k) : (a.mul b).ins (c.mul e) = true :=
  sp4_least (on_mul hk h1 g1 dc de da.1 db.1) (on_mul hk h1 g2 dc de da.1 db.2) (on_mul hk h2 g1 dc de da.2 db.1) (on_mul hk h2 g2 dc de da.2 db.2)
theorem abs_ins {a c : Iv} (h1 : c.On a.lo) (h2 : c.On a.hi) : a.abs.ins c.abs = true := by
  have k1 := on_abs h1
  have k2 := on_abs h2
  have hz : c.abs.lo.v ≤ a.abs.lo.v := by
    unfold Iv.abs at *
    by_cases q : a.lo.v < 0 ∧ 0 < a.hi.v
    · have q2 : c.lo.v < 0 ∧ 0 < c.hi.v := ⟨by have := h1.1; grind, by have := h2.2; grind⟩
      rw [if_pos q, if_pos q2]; show Dy.zero.v ≤ Dy.zero.v; grind
    · rw [if_neg q]; exact le_min k1.1 k2.1
  have hw : a.abs.hi.v ≤ c.abs.hi.v := by
    have e : a.abs.hi = a.lo.abs.max a.hi.abs := by unfold Iv.abs; split <;> rfl
    rw [e]; exact max_le k1.2 k2.2
  exact decide_eq_true ⟨hz, hw⟩
/-- Rounded outwards. -/
theorem floor_le_v {x : Dy} {n : Nat} (h : n ≤ 65536) : (x.floor n).v ≤ x.v := by
  have hp := p2pos n
  have e := v_nrm_mul (z := (x.v * 2 ^ n).floor) h
  have := Rat.floor_le (x.v * 2 ^ n)
  rw [← e] at this
  exact Rat.le_of_mul_le_mul_right this hp
theorem le_ceil_v {x : Dy} {n : Nat} (h : n ≤ 65536) : x.v ≤ (x.ceil n).v := by
  have := floor_le_v (x := x.neg) h
  unfold Dy.ceil
  rw [Dy.v_neg] at *
  grind
def rnd (a : Iv) (n : Nat) {k : Nat} (_ : a.Dn k) (h : n ≤ 65536) : Iv := ⟨a.lo.floor n, a.hi.ceil n, Rat.le_trans (floor_le_v h) (Rat.le_trans a.h (le_ceil_v h))⟩
theorem u8_of {n : Int} (h : (Lit.int .u8 n).wf = true) : 0 ≤ n ∧ n ≤ 255 := by simpa [Lit.wf, IntKind.min, IntKind.max, IntKind.signed, IntKind.bits] using h
end Go.Ax

/- The abstract executor: an empty literal in a region that draws its order; several blocks frozen at once. -/
namespace Go.Ax
open Go Go.RowKit

section
variable {C : Cx} {s : AS} {o : Oper}
theorem own_lit0 (hT : TypesOK C.P C.ti) {t e : TypeId} {q1 q2 : Nat} {q3 : List Z} {z : TyI} (ho : o.op = .buildSlice t 0 #[]) (ht : C.ti t = some ⟨q1, q2, q3, .slc e⟩) (hz : C.ti e = some z) :
    OwnOK C s o ⟨.ps s.next z.size 0 0, .new ⟨z.size, []⟩, none, some s.next⟩ where
  nocall := by rw [ho]; rfl
  noop s' := by rw [ho]; rfl
  run s' hA := by
    rw [hA.2.2]
    intro D S0 w0 σ S U a w K Q hG hid hF hE hK
    obtain ⟨i, d, h1, h2, h3, h4, h5, h6⟩ := underlying_of hT ht
    have hd := slc_desc h5
    subst hd
    obtain ⟨i', d', g1, g2, g3, g4, g5, ⟨zv, hz1, hz2, hz3⟩, g7⟩ := underlying_of hT hz
    have hrun : (execOp a.eval o).run C.P w = .ok (.value (.slice (some ⟨w.heap.size, 0, none⟩) 0 0)) (w.alloc (.cells #[] e)) := by
      simp [execOp, ho, Instr.buildSlice, run_underlying h2, run_sizeOf_of g1, Instr.fill, newRow]
      have e0 : (Array.range 0).map (fun (_ : Nat) => (default : Value)) = #[] := by simp [Array.range]
      rw [e0]
    unfold Oper.wp
    rw [hrun]
    have hFn := hF.new (next := s'.next) hid #[] e ⟨z.size, []⟩ (fun r hr => by cases hr) (by simp) (fun i r j av hi => by simp at hi)
    exact hK _ _ _ S hFn (hE.new hF hid _ _) (.ps (k := w.heap.size) (off := 0) (by simp [Ax.upd]) (Nat.le_refl _) (.inl (by simp)) ⟨_, e, (0, 0), heap_alloc_new w _, by simp⟩)
  tch b h := by
    simp only [tch, beq_iff_eq] at h
    exact .inl (by rw [h])
end
section
variable {C : Cx} {s : AS} {n : Nat} {r : List It} {Q : Lab → AS → Prop}
theorem drawAfter_lit0 {all l : List Oper} {fps : List FP} {fp : FP} {d : Option Tmp} {u : TypeId} {pos : String} {af : Array Edge} {g : Option (Nat × Bool)} (hT : TypesOK C.P C.ti) {t e : TypeId} {q1 q2 : Nat} {q3 : List Z} {z : TyI} (ht : C.ti t = some ⟨q1, q2, q3, .slc e⟩) (hz : C.ti e = some z)
    (kk : drawRun C n r (bump ((⟨s.env, (s.next, ⟨z.size, []⟩) :: s.mem, s.next + 1⟩ : AS).put d (.ps s.next z.size 0 0)) (s.next + 1)) Q all l ((none, some s.next) :: fps)) :
    drawAfter C n r s Q all ⟨d, .buildSlice t 0 #[], u, pos, af, g⟩ none fp l fps := by
  refine drawAfter_own (own_lit0 hT rfl ht hz) ?_
  cases d <;> exact kk

/-! several blocks are frozen -/
def thawL : List Nat → AS → AS
  | [], s => s
  | b :: l, s => match look s.mem b with
    | some m => thawL l (thawS b m s)
    | none => s
def thawLOK : List Nat → AS → Prop
  | [], _ => True
  | b :: l, s => match look s.mem b with
    | some m => thawEOK b m s.env ∧ thawLOK l (thawS b m s)
    | none => True
attribute [go_sem] Ax.thawL
theorem thawL_next : ∀ (l : List Nat) (s : AS), (thawL l s).next = s.next
  | [], s => rfl
  | b :: l, s => by
    simp only [thawL]
    split
    · rw [thawL_next l]; rfl
    · rfl
theorem Weak.thaws : ∀ (l : List Nat) (s : AS), thawLOK l s → Weak s (thawL l s)
  | [], s, _ => fun D S0 w0 σ S w hF _ => ⟨σ, S, hF, fun a hE => hE⟩
  | b :: l, s, h => by
    simp only [thawL]
    simp only [thawLOK] at h
    split
    · rename_i m hm
      rw [hm] at h
      exact Weak.trans (Weak.thaw b hm h.1) (Nat.le_refl _) (Weak.thaws l _ h.2)
    · exact fun D S0 w0 σ S w hF _ => ⟨σ, S, hF, fun a hE => hE⟩
theorem after_thaws (hT : TypesOK C.P C.ti) {o : Oper} (l : List Nat) (h : thawLOK l s) (hc : isCall o.op = false) {e : Eff} (he : aop C.ti (thawL l s) o.op = some e) (hn : e.need) (k : ex C n r (((thawL l s).upd e.upd).put o.dst e.val) Q) : after C n r s Q o none :=
  after_weak hT (Weak.thaws l s h) (by rw [thawL_next]; exact Nat.le_refl _) hc he hn k
end
end Go.Ax

/- A loop that is entered in a state which says less. -/
namespace Go.Ax
open Go Go.RowKit
section
variable {C : Cx} {n : Nat} {r : List It} {s s' : AS} {Q : Lab → AS → Prop}
theorem loop_weak {c : Code} (hw : Weak s s') (hle : s.next ≤ s'.next) (h : loopThen C n r s' Q c) : loopThen C n r s Q c := by
  obtain ⟨I, ⟨m0, s0, hI, hw0, ha⟩, hstep⟩ := h
  exact ⟨I, ⟨m0, s0, hI, Weak.trans hw hle hw0, fun h1 h2 => ha h1 (Nat.lt_of_lt_of_le h2 hle)⟩, hstep⟩
end
theorem mem_take_succ {α : Type} {l : List α} {x d : α} {k : Nat} (h : k < l.length) : x ∈ l.take (k + 1) ↔ x ∈ l.take k ∨ l.getD k d = x := by
  rw [List.take_add_one, List.getElem?_eq_getElem h]
  simp only [Option.toList_some, List.mem_append, List.mem_singleton]
  rw [List.getD, List.getElem?_eq_getElem h, Option.getD_some]
  constructor
  · rintro (h | h)
    · exact .inl h
    · exact .inr h.symm
  · rintro (h | h)
    · exact .inl h
    · exact .inr h.symm
end Go.Ax

/- Package variables that a row lists, as the executor's. -/
namespace Go.Ax
open Go Go.RowKit

theorem laidVars_mem {P : Program} {w : World} : ∀ {laid : List (String × DataW Unit)} {ps : List MemPlace} {n : String} {d : DataW Unit}, DataW.LaidVars P w laid ps → (n, d) ∈ laid →
    ∃ g t cs fuel p, P.globalNamed n = some g ∧ (P.globals[g]?).map (·.type) = some t ∧ w.var? P n = some cs ∧ DataW.trod (fun _ => ()) P w 0 (fun _ => true) false fuel t cs.toList = some (d, p)
  | [], _, _, _, _, h => by cases h
  | (n', d') :: laid, ps, n, d, h, hm => by
    obtain ⟨g, t, cs, fuel, p, q, h1, h2, h3, h4, h5, _⟩ := h
    rcases List.mem_cons.1 hm with he | hm
    · injection he with e1 e2
      subst e1 e2
      exact ⟨g, t, cs, fuel, p, h1, h2, h3, h4⟩
    · exact laidVars_mem h5 hm

theorem gh_of_laid {α : Type} {P : Program} {w : World} {laid : List (String × DataW Unit)} (h : laidMetH P laid w) (hp : (laid.all fun x => x.2.handleName?.isNone) = true) {n : String} {d : DataW Unit} (hm : (n, d) ∈ laid) {g N : Nat} {t e : TypeId} {k : IntKind}
    (hg : P.globalNamed n = some g) (ht : (P.globals[g]?).map (·.type) = some t) (hu : P.underlying t = some (.array N e)) (hc : P.cellsOf e = 1) (hct : P.cellsOf t = N) (he : P.underlying e = some (.int k)) (ds : List α) (f : α → Int)
    (hd : d = .agg (ds.map fun x => .lit (.int k (f x)))) (hN : ds.length = N) : GH w g (ds.map fun x => Value.int k (f x)) := by
  rw [MakeChecks.laidMetH_plain _ _ _ hp] at h
  obtain ⟨ps, hv, _⟩ := h
  obtain ⟨g', t', cs, fuel, p, h1, h2, h3, h4⟩ := laidVars_mem hv hm
  obtain rfl := Option.some.inj (hg.symm.trans h1)
  obtain rfl := Option.some.inj (ht.symm.trans h2)
  obtain ⟨c, ty, fr, hb, hcs⟩ : ∃ c ty fr, w.heap[g]? = some (.cells c ty fr) ∧ cs = c := by
    simp only [World.var?, hg, Option.bind_some] at h3
    split at h3
    · rename_i c t' fr hb
      injection h3 with h3
      exact ⟨c, t', fr, hb, h3.symm⟩
    · cases h3
  subst hcs
  have hcs := Lib.cells_of_tab (zs := ds.map f) hu he hc hct (by rw [hd] at h4; rw [show Lib.tabData k (ds.map f) = (.agg (ds.map fun x => .lit (.int k (f x))) : DataW Unit) by simp [Lib.tabData, Function.comp_def]]; exact h4)
  have e1 : cs = (ds.map fun x => Value.int k (f x)).toArray := by
    apply Array.toList_inj.1
    rw [hcs]
    simp [Function.comp_def]
  refine ⟨cs, ty, fr, hb, fun j x hj => ?_, by rw [e1]; simp⟩
  rw [e1]
  simpa using hj
theorem wf64 {n : Int} (h : (Lit.int .i64 n).wf = true) : -9223372036854775808 ≤ n ∧ n ≤ 9223372036854775807 := by
  simpa [Lit.wf, IntKind.min, IntKind.max, IntKind.signed, IntKind.bits] using h
end Go.Ax

