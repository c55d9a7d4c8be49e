/- The abstract executor and plain facts, part 4 (of several texts, laid together). -/
import Derived.Test.YtfmgfjmfogmeeaaGreatDoorU1
import Derived.Test.YtfmgfjmfogmeeaaGreatDoorU2
import Derived.Test.YtfmgfjmfogmeeaaGreatDoorU3
import Derived.Laws.BytesArg
set_option linter.unusedSimpArgs false
set_option linter.unusedVariables false
set_option linter.deprecated false
namespace Go.Ax
open Go Go.RowKit
structure Iv where
  lo : Dy
  hi : Dy
  h : lo.v ≤ hi.v
theorem Iv.eq {a b : Iv} (h1 : a.lo = b.lo) (h2 : a.hi = b.hi) : a = b := by
  cases a; cases b; simp_all
theorem Iv.same {a b : Iv} : (a.lo = b.lo ∧ a.hi = b.hi) ↔ a = b := ⟨fun h => Iv.eq h.1 h.2, fun h => by subst h; exact ⟨rfl, rfl⟩⟩
def Iv.Mg (k : Nat) (a : Iv) : Prop := Ax.Mg k a.lo ∧ Ax.Mg k a.hi
theorem Iv.Mg.mono {k k' : Nat} {a : Iv} (h : a.Mg k) (hk : k ≤ k') : a.Mg k' := ⟨h.1.mono hk, h.2.mono hk⟩
theorem min_le_l (x y : Dy) : (x.min y).v ≤ x.v := by rw [Dy.v_min]; split <;> grind
theorem min_le_r (x y : Dy) : (x.min y).v ≤ y.v := by rw [Dy.v_min]; split <;> grind
theorem le_max_l (x y : Dy) : x.v ≤ (x.max y).v := by rw [Dy.v_max]; split <;> grind
theorem le_max_r (x y : Dy) : y.v ≤ (x.max y).v := by rw [Dy.v_max]; split <;> grind
theorem le_min {x y z : Dy} (h1 : z.v ≤ x.v) (h2 : z.v ≤ y.v) : z.v ≤ (x.min y).v := by rw [Dy.v_min]; split <;> grind
theorem max_le {x y z : Dy} (h1 : x.v ≤ z.v) (h2 : y.v ≤ z.v) : (x.max y).v ≤ z.v := by rw [Dy.v_max]; split <;> grind
def Iv.zero : Iv := ⟨Dy.zero, Dy.zero, by grind⟩
def Iv.pt (x : Dy) : Iv := ⟨x, x, by grind⟩
def Iv.sp2 (x y : Dy) : Iv := ⟨x.min y, x.max y, min_le_max x y⟩
def Iv.sp4 (x y z w : Dy) : Iv := ⟨((x.min y).min z).min w, ((x.max y).max z).max w, by
  have := min_le_r ((x.min y).min z) w; have := le_max_r ((x.max y).max z) w; grind⟩
def Iv.neg (a : Iv) : Iv := ⟨a.hi.neg, a.lo.neg, by rw [Dy.v_neg, Dy.v_neg]; have := a.h; grind⟩
theorem abs_nn (x : Dy) : 0 ≤ x.abs.v := by rw [Dy.v_abs]; split <;> grind
def Iv.abs (a : Iv) : Iv := if a.lo.v < 0 ∧ 0 < a.hi.v then ⟨Dy.zero, a.lo.abs.max a.hi.abs, by rw [Dy.v_zero]; have := abs_nn a.lo; have := le_max_l a.lo.abs a.hi.abs; grind⟩ else Iv.sp2 a.lo.abs a.hi.abs
def Iv.add (a b : Iv) : Iv := ⟨a.lo.add b.lo, a.hi.add b.hi, by rw [Dy.v_add, Dy.v_add]; have := a.h; have := b.h; grind⟩
def Iv.sub (a b : Iv) : Iv := a.add b.neg
def Iv.mul (a b : Iv) : Iv := Iv.sp4 (a.lo.mul b.lo) (a.lo.mul b.hi) (a.hi.mul b.lo) (a.hi.mul b.hi)
def Iv.min (a b : Iv) : Iv := ⟨a.lo.min b.lo, a.hi.min b.hi, le_min (by have := min_le_l a.lo b.lo; have := a.h; grind) (by have := min_le_r a.lo b.lo; have := b.h; grind)⟩
def Iv.max (a b : Iv) : Iv := ⟨a.lo.max b.lo, a.hi.max b.hi, max_le (by have := le_max_l a.hi b.hi; have := a.h; grind) (by have := le_max_r a.hi b.hi; have := b.h; grind)⟩
def Iv.wide (a : Iv) (x : Dy) : Iv := Iv.add a (Iv.sp2 x x.neg)
def Iv.ins (a b : Iv) : Bool := decide (b.lo.v ≤ a.lo.v ∧ a.hi.v ≤ b.hi.v)
def Iv.has (a : Iv) (x : Dy) : Bool := decide (a.lo.v ≤ x.v ∧ x.v ≤ a.hi.v)
theorem Iv.has_pt (a : Iv) (x : Dy) : (Iv.pt x).ins a = a.has x := rfl
theorem Iv.Mg.pt {k : Nat} {x : Dy} (h : Ax.Mg k x) : (Iv.pt x).Mg k := ⟨h, h⟩
theorem Iv.Mg.sp2 {k : Nat} {x y : Dy} (h : Ax.Mg k x) (g : Ax.Mg k y) : (Iv.sp2 x y).Mg k := ⟨h.min g, h.max g⟩
theorem Iv.Mg.sp4 {k : Nat} {x y z w : Dy} (h : Ax.Mg k x) (g : Ax.Mg k y) (i : Ax.Mg k z) (j : Ax.Mg k w) : (Iv.sp4 x y z w).Mg k := ⟨((h.min g).min i).min j, ((h.max g).max i).max j⟩
theorem Iv.Mg.zero (k : Nat) : Iv.zero.Mg k := ⟨Ax.Mg.zero k, Ax.Mg.zero k⟩
theorem Iv.Mg.neg {k : Nat} {a : Iv} (h : a.Mg k) : a.neg.Mg k := ⟨h.2.neg, h.1.neg⟩
theorem Iv.Mg.abs {k : Nat} {a : Iv} (h : a.Mg k) : a.abs.Mg k := by
  unfold Iv.abs; split
  · exact ⟨Ax.Mg.zero k, h.1.abs.max h.2.abs⟩
  · exact .sp2 h.1.abs h.2.abs
theorem Iv.Mg.add {k : Nat} {a b : Iv} (h : a.Mg k) (g : b.Mg k) : (a.add b).Mg (k + 1) := ⟨h.1.add g.1, h.2.add g.2⟩
theorem Iv.Mg.sub {k : Nat} {a b : Iv} (h : a.Mg k) (g : b.Mg k) : (a.sub b).Mg (k + 1) := h.add g.neg
theorem Iv.Mg.mul {k l : Nat} {a b : Iv} (h : a.Mg k) (g : b.Mg l) : (a.mul b).Mg (k + l) := .sp4 (h.1.mul g.1) (h.1.mul g.2) (h.2.mul g.1) (h.2.mul g.2)
theorem Iv.Mg.min {k : Nat} {a b : Iv} (h : a.Mg k) (g : b.Mg k) : (a.min b).Mg k := ⟨h.1.min g.1, h.2.min g.2⟩
theorem Iv.Mg.max {k : Nat} {a b : Iv} (h : a.Mg k) (g : b.Mg k) : (a.max b).Mg k := ⟨h.1.max g.1, h.2.max g.2⟩
def okI (s : Bool) (ws : List Nat) (d : Int) (s' : Bool) (ws' : List Nat) (d' : Int) (x y : Dy) : Prop := (validR s ws d = true ∧ validR s' ws' d' = true) ∧ x.v ≤ y.v
instance (s : Bool) (ws : List Nat) (d : Int) (s' : Bool) (ws' : List Nat) (d' : Int) (x y : Dy) : Decidable (okI s ws d s' ws' d' x y) := inferInstanceAs (Decidable (_ ∧ _))
structure IArg (s : Bool) (ws : List Nat) (d : Int) (s' : Bool) (ws' : List Nat) (d' : Int) (x y : Dy) (a : Iv) : Prop where
  px : Arg s ws d x
  py : Arg s' ws' d' y
  is : (okI s ws d s' ws' d' x y ∧ a.lo = x ∧ a.hi = y) ∨ (¬ okI s ws d s' ws' d' x y ∧ a = Iv.zero)
theorem IArg.get {s : Bool} {ws : List Nat} {d : Int} {s' : Bool} {ws' : List Nat} {d' : Int} {x y : Dy} (h : Arg s ws d x) (g : Arg s' ws' d' y) : ∃ a, IArg s ws d s' ws' d' x y a := by
  by_cases ho : okI s ws d s' ws' d' x y
  · exact ⟨⟨x, y, ho.2⟩, h, g, .inl ⟨ho, rfl, rfl⟩⟩
  · exact ⟨Iv.zero, h, g, .inr ⟨ho, rfl⟩⟩
theorem IArg.of {a : Iv} {k : Nat} (h : a.Mg k) (hk : k ≤ 1099511627776 := by omega) : IArg (sg a.lo) (ms a.lo) (dn a.lo) (sg a.hi) (ms a.hi) (dn a.hi) a.lo a.hi a :=
  ⟨Arg.of h.1 hk, Arg.of h.2 hk, .inl ⟨⟨⟨valid_of _, valid_of _⟩, a.h⟩, rfl, rfl⟩⟩
section
variable {s : Bool} {ws : List Nat} {d : Int} {s' : Bool} {ws' : List Nat} {d' : Int} {x y : Dy} {a : Iv}
theorem IArg.lo (h : IArg s ws d s' ws' d' x y a) : Arg (sg a.lo) (ms a.lo) (dn a.lo) a.lo := by
  rcases h.is with ⟨_, h1, _⟩ | ⟨_, h1⟩
  · rw [h1]; exact ⟨ms_wd x, h.px.mlen, .inl ⟨valid_of x, rfl, rfl, rfl⟩⟩
  · rw [h1]; exact Arg.of (Ax.Mg.zero 1) (by omega)
theorem IArg.hi (h : IArg s ws d s' ws' d' x y a) : Arg (sg a.hi) (ms a.hi) (dn a.hi) a.hi := by
  rcases h.is with ⟨_, _, h1⟩ | ⟨_, h1⟩
  · rw [h1]; exact ⟨ms_wd y, h.py.mlen, .inl ⟨valid_of y, rfl, rfl, rfl⟩⟩
  · rw [h1]; exact Arg.of (Ax.Mg.zero 1) (by omega)
theorem IArg.mg {k : Nat} (h : IArg s ws d s' ws' d' x y a) (gx : Ax.Mg k x) (gy : Ax.Mg k y) : a.Mg k := by
  rcases h.is with ⟨_, h1, h2⟩ | ⟨_, h1⟩
  · unfold Iv.Mg; rw [h1, h2]; exact ⟨gx, gy⟩
  · rw [h1]; exact .zero k
theorem IArg.den {k : Nat} (h : IArg s ws d s' ws' d' x y a) (gx : x.d ≤ k) (gy : y.d ≤ k) : a.lo.d ≤ k ∧ a.hi.d ≤ k := by
  rcases h.is with ⟨_, h1, h2⟩ | ⟨_, h1⟩
  · rw [h1, h2]; exact ⟨gx, gy⟩
  · rw [h1]; exact ⟨Nat.zero_le _, Nat.zero_le _⟩
end
theorem ok_of (a : Iv) : okI (sg a.lo) (ms a.lo) (dn a.lo) (sg a.hi) (ms a.hi) (dn a.hi) a.lo a.hi := ⟨⟨valid_of _, valid_of _⟩, a.h⟩
abbrev ilit : AV := .agg [.v (.bool false), .v (.slice none 0 0), .v (.int .i64 0), .v (.bool false), .v (.slice none 0 0), .v (.int .i64 0)]
theorem Le.iv0 : Le ilit (.agg [.v (.bool (sg Iv.zero.lo)), .sl 1 (u32s (ms Iv.zero.lo)), .v (.int .i64 (dn Iv.zero.lo)), .v (.bool (sg Iv.zero.hi)), .sl 1 (u32s (ms Iv.zero.hi)), .v (.int .i64 (dn Iv.zero.hi))]) := by
  show Le ilit (.agg [.v (.bool (sg Dy.zero)), .sl 1 (u32s (ms Dy.zero)), .v (.int .i64 (dn Dy.zero)), .v (.bool (sg Dy.zero)), .sl 1 (u32s (ms Dy.zero)), .v (.int .i64 (dn Dy.zero))])
  rw [ms_zero]
  exact Le.agg (.cons (.refl _) (.cons (Le.nil _) (.cons (.refl _) (.cons (.refl _) (.cons (Le.nil _) (.cons (.refl _) .nil))))))
theorem Cl.ilit : Cl ilit := Cl.agg (fun a ha => by
  simp only [List.mem_cons, List.not_mem_nil, or_false] at ha
  rcases ha with rfl | rfl | rfl | rfl | rfl | rfl <;> exact Cl.v _)
theorem Arg.can {s : Bool} {ws : List Nat} {d : Int} {x : Dy} (h : Arg s ws d x) : Arg (sg x) (ms x) (dn x) x := ⟨ms_wd x, h.mlen, .inl ⟨valid_of x, rfl, rfl, rfl⟩⟩
theorem IArg.mk' {a : Iv} (h : Arg (sg a.lo) (ms a.lo) (dn a.lo) a.lo) (g : Arg (sg a.hi) (ms a.hi) (dn a.hi) a.hi) : IArg (sg a.lo) (ms a.lo) (dn a.lo) (sg a.hi) (ms a.hi) (dn a.hi) a.lo a.hi a :=
  ⟨h, g, .inl ⟨ok_of a, rfl, rfl⟩⟩
theorem Arg.cpt {s : Bool} {ws : List Nat} {d : Int} {x : Dy} (h : Arg s ws d x) : IArg (sg (Iv.pt x).lo) (ms (Iv.pt x).lo) (dn (Iv.pt x).lo) (sg (Iv.pt x).hi) (ms (Iv.pt x).hi) (dn (Iv.pt x).hi) (Iv.pt x).lo (Iv.pt x).hi (Iv.pt x) := .mk' h.can h.can
section
variable {s : Bool} {ws : List Nat} {d : Int} {s' : Bool} {ws' : List Nat} {d' : Int} {x y : Dy} {a : Iv}
theorem IArg.can (h : IArg s ws d s' ws' d' x y a) : IArg (sg a.lo) (ms a.lo) (dn a.lo) (sg a.hi) (ms a.hi) (dn a.hi) a.lo a.hi a := .mk' h.lo h.hi
variable {s2 : Bool} {ws2 : List Nat} {d2 : Int} {s2' : Bool} {ws2' : List Nat} {d2' : Int} {x2 y2 : Dy} {b : Iv}
end
end Go.Ax

namespace Go.Ax
open Go Go.RowKit
def Iv.On (a : Iv) (x : Dy) : Prop := a.lo.v ≤ x.v ∧ x.v ≤ a.hi.v
theorem Iv.On.has {a : Iv} {x : Dy} (h : a.On x) : a.has x = true := decide_eq_true h
end Go.Ax

namespace Go.Ax
open Go Go.RowKit
section
variable {C : Cx} {s : AS} {o : Oper}
end
section
variable {C : Cx} {s : AS} {n : Nat} {r : List It} {Q : Lab → AS → Prop}
def thawL : List Nat → AS → AS
  | [], s => s
  | b :: l, s => match look s.mem b with
    | some m => thawL l (thawS b m s)
    | none => s
def thawLOK : List Nat → AS → Prop
  | [], _ => True
  | b :: l, s => match look s.mem b with
    | some m => thawEOK b m s.env ∧ thawLOK l (thawS b m s)
    | none => True
attribute [go_sem] Ax.thawL
theorem thawL_next : ∀ (l : List Nat) (s : AS), (thawL l s).next = s.next
  | [], s => rfl
  | b :: l, s => by
    simp only [thawL]
    split
    · rw [thawL_next l]; rfl
    · rfl
theorem Weak.thaws : ∀ (l : List Nat) (s : AS), thawLOK l s → Weak s (thawL l s)
  | [], s, _ => fun D S0 w0 σ S w hF _ => ⟨σ, S, hF, fun a hE => hE⟩
  | b :: l, s, h => by
    simp only [thawL]
    simp only [thawLOK] at h
    split
    · rename_i m hm
      rw [hm] at h
      exact Weak.trans (Weak.thaw b hm h.1) (Nat.le_refl _) (Weak.thaws l _ h.2)
    · exact fun D S0 w0 σ S w hF _ => ⟨σ, S, hF, fun a hE => hE⟩
theorem after_thaws (hT : TypesOK C.P C.ti) {o : Oper} (l : List Nat) (h : thawLOK l s) (hc : isCall o.op = false) {e : Eff} (he : aop C.ti (thawL l s) o.op = some e) (hn : e.need) (k : ex C n r (((thawL l s).upd e.upd).put o.dst e.val) Q) : after C n r s Q o none :=
  after_weak hT (Weak.thaws l s h) (by rw [thawL_next]; exact Nat.le_refl _) hc he hn k
end
end Go.Ax

namespace Go.Ax
open Go Go.RowKit
section
variable {C : Cx} {n : Nat} {r : List It} {s s' : AS} {Q : Lab → AS → Prop}
end
end Go.Ax

namespace Go.Ax
open Go Go.RowKit
theorem Dy.int_mul (a b : Int) : (Dy.int a).mul (Dy.int b) = Dy.int (a * b) := by
  show nrm (a * b) (0 + 0) = _
  exact nrm_self (Dy.int (a * b))
theorem Dy.int_neg (a : Int) : (Dy.int a).neg = Dy.int (-a) := rfl
theorem Dy.int_add (a b : Int) : (Dy.int a).add (Dy.int b) = Dy.int (a + b) := by
  refine Dy.ext_v ?_
  rw [Dy.v_add, Dy.v_int, Dy.v_int, Dy.v_int, Rat.intCast_add]
theorem Dy.int_sub (a b : Int) : (Dy.int a).sub (Dy.int b) = Dy.int (a - b) := by
  rw [Dy.sub, Dy.int_neg, Dy.int_add, Int.sub_eq_add_neg]
theorem Dy.int_cmp (a b : Int) : (Dy.int a).cmp (Dy.int b) = if a < b then -1 else if b < a then 1 else 0 := by
  unfold Dy.cmp
  simp only [Dy.v_int, Rat.intCast_lt_intCast]
theorem int_cmp_lt (a b : Int) : (Dy.int a).cmp (Dy.int b) < 0 ↔ a < b := by rw [Dy.int_cmp]; split <;> (try split) <;> omega
structure BS where
  ln : Int
  ld : Int
  hn : Int
  hd : Int
  hl : Bool
  hh : Bool
  no : Bool
def BS.zero : BS := ⟨0, 0, 0, 0, false, false, false⟩
def BS.add (b : BS) (k c : Int) : BS :=
  if k = 0 then ⟨b.ln, b.ld, b.hn, b.hd, b.hl, b.hh, b.no || decide (c < 0)⟩
  else if 0 < k then (if b.hh = false ∨ c * b.hd < b.hn * k then ⟨b.ln, b.ld, c, k, b.hl, true, b.no⟩ else b)
  else (if b.hl = false ∨ b.ln * -k < -c * b.ld then ⟨-c, -k, b.hn, b.hd, true, b.hh, b.no⟩ else b)
def BS.of (C : List (Int × Int)) : BS := C.foldl (fun b p => b.add p.1 p.2) BS.zero
theorem BS.of_snoc (C : List (Int × Int)) (k c : Int) : BS.of (C ++ [(k, c)]) = (BS.of C).add k c := by simp [BS.of, List.foldl_append]
def BS.Sm (m : Nat) (b : BS) : Prop := b.ln.natAbs < 2 ^ m ∧ b.ld.natAbs < 2 ^ m ∧ b.hn.natAbs < 2 ^ m ∧ b.hd.natAbs < 2 ^ m
theorem BS.Sm.add {m : Nat} {b : BS} {k c : Int} (h : b.Sm m) (hk : k.natAbs < 2 ^ m) (hc : c.natAbs < 2 ^ m) : (b.add k c).Sm m := by
  obtain ⟨h1, h2, h3, h4⟩ := h
  unfold BS.add
  split
  · exact ⟨h1, h2, h3, h4⟩
  · split
    · split
      · exact ⟨h1, h2, hc, hk⟩
      · exact ⟨h1, h2, h3, h4⟩
    · split
      · exact ⟨by show (-c).natAbs < _; rw [Int.natAbs_neg]; exact hc, by show (-k).natAbs < _; rw [Int.natAbs_neg]; exact hk, h3, h4⟩
      · exact ⟨h1, h2, h3, h4⟩
theorem BS.Sm.zero (m : Nat) : BS.zero.Sm m := by have : 0 < 2 ^ m := Nat.pow_pos (by omega); exact ⟨this, this, this, this⟩
theorem BS.Sm.of {m : Nat} {C : List (Int × Int)} (h : ∀ p ∈ C, p.1.natAbs < 2 ^ m ∧ p.2.natAbs < 2 ^ m) : (BS.of C).Sm m := by
  have : ∀ (C : List (Int × Int)) (b : BS), b.Sm m → (∀ p ∈ C, p.1.natAbs < 2 ^ m ∧ p.2.natAbs < 2 ^ m) → (C.foldl (fun b p => b.add p.1 p.2) b).Sm m := by
    intro C
    induction C with
    | nil => intro b hb _; exact hb
    | cons p C ih => intro b hb hC; exact ih _ (hb.add (hC p (List.mem_cons_self ..)).1 (hC p (List.mem_cons_self ..)).2) (fun q hq => hC q (List.mem_cons_of_mem _ hq))
  exact this C _ (.zero m) h
structure BInv (C : List (Int × Int)) (b : BS) : Prop where
  no : b.no = true ↔ ∃ c, (0, c) ∈ C ∧ c < 0
  hh : b.hh = true ↔ ∃ k c, (k, c) ∈ C ∧ 0 < k
  hl : b.hl = true ↔ ∃ k c, (k, c) ∈ C ∧ k < 0
  hi : b.hh = true → 0 < b.hd ∧ (b.hd, b.hn) ∈ C ∧ ∀ k c, (k, c) ∈ C → 0 < k → b.hn * k ≤ c * b.hd
  lo : b.hl = true → 0 < b.ld ∧ (-b.ld, -b.ln) ∈ C ∧ ∀ k c, (k, c) ∈ C → k < 0 → -c * b.ld ≤ b.ln * -k
theorem BInv.zero : BInv [] BS.zero := ⟨by simp [BS.zero], by simp [BS.zero], by simp [BS.zero], by simp [BS.zero], by simp [BS.zero]⟩
theorem cross_trans {a b c d e f : Int} (hb : 0 < b) (hd : 0 < d) (hf : 0 < f) (h1 : a * d ≤ c * b) (h2 : c * f ≤ e * d) : a * f ≤ e * b := by
  have q1 : a * d * f ≤ c * b * f := Int.mul_le_mul_of_nonneg_right h1 (by omega)
  have q2 : c * f * b ≤ e * d * b := Int.mul_le_mul_of_nonneg_right h2 (by omega)
  have e1 : a * d * f = a * f * d := by rw [Int.mul_right_comm]
  have e2 : c * b * f = c * f * b := by rw [Int.mul_right_comm]
  have e3 : e * d * b = e * b * d := by rw [Int.mul_right_comm]
  rw [e1, e2] at q1
  rw [e3] at q2
  exact Int.le_of_mul_le_mul_right (Int.le_trans q1 q2) hd
theorem BInv.add {C : List (Int × Int)} {b : BS} (h : BInv C b) (k c : Int) : BInv (C ++ [(k, c)]) (b.add k c) := by
  obtain ⟨i1, i2, i3, i4, i5⟩ := h
  have mem : ∀ p, p ∈ C ++ [(k, c)] ↔ p ∈ C ∨ p = (k, c) := fun p => by simp
  unfold BS.add
  rcases Int.lt_trichotomy k 0 with hk | hk | hk
  · rw [if_neg (by omega), if_neg (by omega)]
    have j1 : (∃ c', (0, c') ∈ C ++ [(k, c)] ∧ c' < 0) ↔ ∃ c', (0, c') ∈ C ∧ c' < 0 := by
      constructor
      · rintro ⟨c', h1, h2⟩
        rcases (mem _).1 h1 with h1 | h1
        · exact ⟨c', h1, h2⟩
        · injection h1 with h1; omega
      · rintro ⟨c', h1, h2⟩; exact ⟨c', (mem _).2 (.inl h1), h2⟩
    have j2 : (∃ k' c', (k', c') ∈ C ++ [(k, c)] ∧ 0 < k') ↔ ∃ k' c', (k', c') ∈ C ∧ 0 < k' := by
      constructor
      · rintro ⟨k', c', h1, h2⟩
        rcases (mem _).1 h1 with h1 | h1
        · exact ⟨k', c', h1, h2⟩
        · injection h1 with h1; omega
      · rintro ⟨k', c', h1, h2⟩; exact ⟨k', c', (mem _).2 (.inl h1), h2⟩
    have j3 : ∃ k' c', (k', c') ∈ C ++ [(k, c)] ∧ k' < 0 := ⟨k, c, (mem _).2 (.inr rfl), hk⟩
    have j4 : b.hh = true → 0 < b.hd ∧ (b.hd, b.hn) ∈ C ++ [(k, c)] ∧ ∀ k' c', (k', c') ∈ C ++ [(k, c)] → 0 < k' → b.hn * k' ≤ c' * b.hd := fun h => by
      obtain ⟨q1, q2, q3⟩ := i4 h
      refine ⟨q1, (mem _).2 (.inl q2), fun k' c' h1 h2 => ?_⟩
      rcases (mem _).1 h1 with h1 | h1
      · exact q3 k' c' h1 h2
      · injection h1 with h1; omega
    split
    · rename_i hc
      refine ⟨i1.trans j1.symm, i2.trans j2.symm, ⟨fun _ => j3, fun _ => rfl⟩, j4, fun _ => ⟨by show 0 < -k; omega, ?_, fun k' c' h1 h2 => ?_⟩⟩
      · show (- -k, - -c) ∈ _
        rw [Int.neg_neg, Int.neg_neg]; exact (mem _).2 (.inr rfl)
      · show -c' * -k ≤ -c * -k'
        rcases (mem _).1 h1 with h1 | h1
        · have hb : b.hl = true := i3.2 ⟨k', c', h1, h2⟩
          obtain ⟨q1, q2, q3⟩ := i5 hb
          have q4 := q3 k' c' h1 h2
          rcases hc with hc | hc
          · rw [hb] at hc; cases hc
          · exact cross_trans (b := -k') (d := b.ld) (f := -k) (c := b.ln) (e := -c) (by omega) q1 (by omega) q4 (by omega)
        · injection h1 with h1 h3; subst h1 h3; exact Int.le_refl _
    · rename_i hc
      have hb : b.hl = true := by
        cases hb : b.hl
        · exact absurd (.inl hb) hc
        · rfl
      have hc2 : ¬ b.ln * -k < -c * b.ld := fun h => hc (.inr h)
      refine ⟨i1.trans j1.symm, i2.trans j2.symm, ⟨fun _ => j3, fun _ => hb⟩, j4, fun _ => ?_⟩
      obtain ⟨q1, q2, q3⟩ := i5 hb
      refine ⟨q1, (mem _).2 (.inl q2), fun k' c' h1 h2 => ?_⟩
      rcases (mem _).1 h1 with h1 | h1
      · exact q3 k' c' h1 h2
      · injection h1 with h1 h3; subst h1 h3; omega
  · subst hk
    rw [if_pos rfl]
    have j1 : (∃ c', (0, c') ∈ C ++ [(0, c)] ∧ c' < 0) ↔ (∃ c', (0, c') ∈ C ∧ c' < 0) ∨ c < 0 := by
      constructor
      · rintro ⟨c', h1, h2⟩
        rcases (mem _).1 h1 with h1 | h1
        · exact .inl ⟨c', h1, h2⟩
        · injection h1 with h1 h3; subst h3; exact .inr h2
      · rintro (⟨c', h1, h2⟩ | h)
        · exact ⟨c', (mem _).2 (.inl h1), h2⟩
        · exact ⟨c, (mem _).2 (.inr rfl), h⟩
    have j2 : (∃ k' c', (k', c') ∈ C ++ [(0, c)] ∧ 0 < k') ↔ ∃ k' c', (k', c') ∈ C ∧ 0 < k' := by
      constructor
      · rintro ⟨k', c', h1, h2⟩
        rcases (mem _).1 h1 with h1 | h1
        · exact ⟨k', c', h1, h2⟩
        · injection h1 with h1; omega
      · rintro ⟨k', c', h1, h2⟩; exact ⟨k', c', (mem _).2 (.inl h1), h2⟩
    have j3 : (∃ k' c', (k', c') ∈ C ++ [(0, c)] ∧ k' < 0) ↔ ∃ k' c', (k', c') ∈ C ∧ k' < 0 := by
      constructor
      · rintro ⟨k', c', h1, h2⟩
        rcases (mem _).1 h1 with h1 | h1
        · exact ⟨k', c', h1, h2⟩
        · injection h1 with h1; omega
      · rintro ⟨k', c', h1, h2⟩; exact ⟨k', c', (mem _).2 (.inl h1), h2⟩
    refine ⟨?_, i2.trans j2.symm, i3.trans j3.symm, fun h => ?_, fun h => ?_⟩
    · show (b.no || decide (c < 0)) = true ↔ _
      rw [Bool.or_eq_true, decide_eq_true_eq, j1, i1]
    · obtain ⟨q1, q2, q3⟩ := i4 h
      refine ⟨q1, (mem _).2 (.inl q2), fun k' c' h1 h2 => ?_⟩
      rcases (mem _).1 h1 with h1 | h1
      · exact q3 k' c' h1 h2
      · injection h1 with h1; omega
    · obtain ⟨q1, q2, q3⟩ := i5 h
      refine ⟨q1, (mem _).2 (.inl q2), fun k' c' h1 h2 => ?_⟩
      rcases (mem _).1 h1 with h1 | h1
      · exact q3 k' c' h1 h2
      · injection h1 with h1; omega
  · rw [if_neg (by omega), if_pos hk]
    have j1 : (∃ c', (0, c') ∈ C ++ [(k, c)] ∧ c' < 0) ↔ ∃ c', (0, c') ∈ C ∧ c' < 0 := by
      constructor
      · rintro ⟨c', h1, h2⟩
        rcases (mem _).1 h1 with h1 | h1
        · exact ⟨c', h1, h2⟩
        · injection h1 with h1; omega
      · rintro ⟨c', h1, h2⟩; exact ⟨c', (mem _).2 (.inl h1), h2⟩
    have j2 : ∃ k' c', (k', c') ∈ C ++ [(k, c)] ∧ 0 < k' := ⟨k, c, (mem _).2 (.inr rfl), hk⟩
    have j3 : (∃ k' c', (k', c') ∈ C ++ [(k, c)] ∧ k' < 0) ↔ ∃ k' c', (k', c') ∈ C ∧ k' < 0 := by
      constructor
      · rintro ⟨k', c', h1, h2⟩
        rcases (mem _).1 h1 with h1 | h1
        · exact ⟨k', c', h1, h2⟩
        · injection h1 with h1; omega
      · rintro ⟨k', c', h1, h2⟩; exact ⟨k', c', (mem _).2 (.inl h1), h2⟩
    have j5 : b.hl = true → 0 < b.ld ∧ (-b.ld, -b.ln) ∈ C ++ [(k, c)] ∧ ∀ k' c', (k', c') ∈ C ++ [(k, c)] → k' < 0 → -c' * b.ld ≤ b.ln * -k' := fun h => by
      obtain ⟨q1, q2, q3⟩ := i5 h
      refine ⟨q1, (mem _).2 (.inl q2), fun k' c' h1 h2 => ?_⟩
      rcases (mem _).1 h1 with h1 | h1
      · exact q3 k' c' h1 h2
      · injection h1 with h1; omega
    split
    · rename_i hc
      refine ⟨i1.trans j1.symm, ⟨fun _ => j2, fun _ => rfl⟩, i3.trans j3.symm, fun _ => ⟨hk, (mem _).2 (.inr rfl), fun k' c' h1 h2 => ?_⟩, j5⟩
      show c * k' ≤ c' * k
      rcases (mem _).1 h1 with h1 | h1
      · have hb : b.hh = true := i2.2 ⟨k', c', h1, h2⟩
        obtain ⟨q1, q2, q3⟩ := i4 hb
        have q4 := q3 k' c' h1 h2
        rcases hc with hc | hc
        · rw [hb] at hc; cases hc
        · exact cross_trans (b := k) (d := b.hd) (f := k') (c := b.hn) (e := c') hk q1 h2 (by omega) q4
      · injection h1 with h1 h3; subst h1 h3; exact Int.le_refl _
    · rename_i hc
      have hb : b.hh = true := by
        cases hb : b.hh
        · exact absurd (.inl hb) hc
        · rfl
      have hc2 : ¬ c * b.hd < b.hn * k := fun h => hc (.inr h)
      refine ⟨i1.trans j1.symm, ⟨fun _ => j2, fun _ => hb⟩, i3.trans j3.symm, fun _ => ?_, j5⟩
      obtain ⟨q1, q2, q3⟩ := i4 hb
      refine ⟨q1, (mem _).2 (.inl q2), fun k' c' h1 h2 => ?_⟩
      rcases (mem _).1 h1 with h1 | h1
      · exact q3 k' c' h1 h2
      · injection h1 with h1 h3; subst h1 h3; omega
theorem BInv.of (C : List (Int × Int)) : BInv C (BS.of C) := by
  have : ∀ (l C0 : List (Int × Int)) (b : BS), BInv C0 b → BInv (C0 ++ l) (l.foldl (fun b p => b.add p.1 p.2) b) := by
    intro l
    induction l with
    | nil => intro C0 b h; simpa using h
    | cons p l ih =>
      intro C0 b h
      have := ih (C0 ++ [p]) _ (h.add p.1 p.2)
      rwa [List.append_assoc] at this
  have h := this C [] _ .zero
  rwa [List.nil_append] at h
def Fit1 (C : List (Int × Int)) (u : Rat) : Prop := ∀ k c, (k, c) ∈ C → (k : Rat) * u ≤ c
inductive Out where
  | bad
  | wide
  | iv (ln ld hn hd : Int)
inductive OutOK (F : Rat → Prop) : Out → Prop
  | bad (h : ∀ u, ¬ F u) : OutOK F .bad
  | wide (h : ∃ u, F u) (g : ∀ lo hi : Rat, ∃ u, F u ∧ (u < lo ∨ hi < u)) : OutOK F .wide
  | iv {ln ld hn hd : Int} (h1 : 0 < ld) (h2 : 0 < hd) (h3 : ln * hd ≤ hn * ld) (h : ∀ u, F u ↔ (ln : Rat) ≤ u * ld ∧ u * hd ≤ (hn : Rat)) : OutOK F (.iv ln ld hn hd)
def BS.out (b : BS) : Out := if b.no = true ∨ (b.hl = true ∧ b.hh = true ∧ b.hn * b.ld < b.ln * b.hd) then .bad else if b.hl = true ∧ b.hh = true then .iv b.ln b.ld b.hn b.hd else .wide
theorem icast_le {a b : Int} : ((a : Int) : Rat) ≤ (b : Rat) ↔ a ≤ b := Rat.intCast_le_intCast
theorem icast_lt {a b : Int} : ((a : Int) : Rat) < (b : Rat) ↔ a < b := Rat.intCast_lt_intCast
theorem icast_pos {a : Int} (h : 0 < a) : (0 : Rat) < (a : Rat) := by have := icast_lt.2 h; simpa using this
theorem le_of_mul_pos {a b c : Rat} (hc : 0 < c) (h : a * c ≤ b * c) : a ≤ b := Rat.le_of_mul_le_mul_right h hc
theorem mul_le_pos {a b c : Rat} (hc : 0 < c) (h : a ≤ b) : a * c ≤ b * c := Rat.mul_le_mul_of_nonneg_right h (Rat.le_of_lt hc)
theorem fit_iff {C : List (Int × Int)} {b : BS} (h : BInv C b) (hn : ¬ b.no = true) (u : Rat) : Fit1 C u ↔ (b.hl = true → (b.ln : Rat) ≤ u * b.ld) ∧ (b.hh = true → u * b.hd ≤ (b.hn : Rat)) := by
  constructor
  · intro hf
    refine ⟨fun hl => ?_, fun hh => ?_⟩
    · obtain ⟨q1, q2, q3⟩ := h.lo hl
      have := hf _ _ q2
      rw [Rat.intCast_neg, Rat.intCast_neg] at this
      grind
    · obtain ⟨q1, q2, q3⟩ := h.hi hh
      have := hf _ _ q2
      grind
  · rintro ⟨h1, h2⟩ k c hm
    rcases Int.lt_trichotomy k 0 with hk | hk | hk
    · have hl := h.hl.2 ⟨k, c, hm, hk⟩
      obtain ⟨q1, q2, q3⟩ := h.lo hl
      have q4 := icast_le.2 (q3 k c hm hk)
      simp only [Rat.intCast_mul, Rat.intCast_neg] at q4
      have q5 := h1 hl
      have hk' : (0 : Rat) < -(k : Rat) := by have := icast_pos (show 0 < -k by omega); rwa [Rat.intCast_neg] at this
      have q6 := mul_le_pos hk' q5
      refine le_of_mul_pos (icast_pos q1) ?_
      grind
    · subst hk
      have : ¬ c < 0 := fun hc => hn (h.no.2 ⟨c, hm, hc⟩)
      have := icast_le.2 (show (0 : Int) ≤ c by omega)
      simp only [Rat.intCast_zero, Rat.zero_mul] at this ⊢
      exact this
    · have hh := h.hh.2 ⟨k, c, hm, hk⟩
      obtain ⟨q1, q2, q3⟩ := h.hi hh
      have q4 := icast_le.2 (q3 k c hm hk)
      simp only [Rat.intCast_mul] at q4
      have q5 := h2 hh
      have q6 := mul_le_pos (icast_pos hk) q5
      refine le_of_mul_pos (icast_pos q1) ?_
      grind
theorem div_mul_pos {n d : Rat} (hd : 0 < d) : n / d * d = n := Rat.div_mul_cancel (by grind)
theorem out_ok {C : List (Int × Int)} {b : BS} (h : BInv C b) : OutOK (Fit1 C) b.out := by
  unfold BS.out
  by_cases hno : b.no = true
  · rw [if_pos (.inl hno)]
    obtain ⟨c, h1, h2⟩ := h.no.1 hno
    refine .bad fun u hu => ?_
    have := hu _ _ h1
    have h3 := icast_lt.2 h2
    simp only [Rat.intCast_zero, Rat.zero_mul] at this h3
    grind
  · have key := fit_iff h hno
    by_cases hb : b.hl = true ∧ b.hh = true ∧ b.hn * b.ld < b.ln * b.hd
    · rw [if_pos (.inr hb)]
      obtain ⟨h1, h2, h3⟩ := hb
      have p1 := icast_pos (h.lo h1).1
      have p2 := icast_pos (h.hi h2).1
      have h4 := icast_lt.2 h3
      simp only [Rat.intCast_mul] at h4
      refine .bad fun u hu => ?_
      obtain ⟨q1, q2⟩ := (key u).1 hu
      have q3 := mul_le_pos p2 (q1 h1)
      have q4 := mul_le_pos p1 (q2 h2)
      grind
    · rw [if_neg (fun hh => hh.elim hno hb)]
      by_cases hc : b.hl = true ∧ b.hh = true
      · rw [if_pos hc]
        refine .iv (h.lo hc.1).1 (h.hi hc.2).1 (by have : ¬ b.hn * b.ld < b.ln * b.hd := fun h => hb ⟨hc.1, hc.2, h⟩; omega) fun u => ?_
        rw [key u]
        exact ⟨fun q => ⟨q.1 hc.1, q.2 hc.2⟩, fun q => ⟨fun _ => q.1, fun _ => q.2⟩⟩
      · rw [if_neg hc]
        have mk : ∀ lo hi : Rat, ∃ u, Fit1 C u ∧ (u < lo ∨ hi < u) := fun lo hi => by
          by_cases hl : b.hl = true
          · have hh : ¬ b.hh = true := fun h => hc ⟨hl, h⟩
            have p1 := icast_pos (h.lo hl).1
            have e1 := div_mul_pos (n := (b.ln : Rat)) p1
            by_cases g : (b.ln : Rat) / b.ld ≤ hi
            · refine ⟨hi + 1, (key _).2 ⟨fun _ => ?_, fun q => absurd q hh⟩, .inr (by grind)⟩
              have := mul_le_pos p1 (show (b.ln : Rat) / b.ld ≤ hi + 1 by grind)
              grind
            · refine ⟨(b.ln : Rat) / b.ld, (key _).2 ⟨fun _ => ?_, fun q => absurd q hh⟩, .inr (by grind)⟩
              rw [e1]; grind
          · by_cases hh : b.hh = true
            · have p1 := icast_pos (h.hi hh).1
              have e1 := div_mul_pos (n := (b.hn : Rat)) p1
              by_cases g : lo ≤ (b.hn : Rat) / b.hd
              · refine ⟨lo - 1, (key _).2 ⟨fun q => absurd q hl, fun _ => ?_⟩, .inl (by grind)⟩
                have := mul_le_pos p1 (show lo - 1 ≤ (b.hn : Rat) / b.hd by grind)
                grind
              · refine ⟨(b.hn : Rat) / b.hd, (key _).2 ⟨fun q => absurd q hl, fun _ => ?_⟩, .inl (by grind)⟩
                rw [e1]; grind
            · exact ⟨hi + 1, (key _).2 ⟨fun q => absurd q hl, fun q => absurd q hh⟩, .inr (by grind)⟩
        obtain ⟨u, hu, _⟩ := mk 0 0
        exact .wide ⟨u, hu⟩ mk
def qd (n d : Int) : Dy := (Dy.int n).quo (Dy.int d) 16
def Out.err : Out → Int
  | .bad => 23
  | .wide => 22
  | .iv _ _ _ _ => 0
def Out.lo : Out → Dy
  | .iv ln ld _ _ => qd ln ld
  | _ => Dy.zero
def Out.hi : Out → Dy
  | .iv _ _ hn hd => (qd (-hn) hd).neg
  | _ => Dy.zero
theorem out_iv_iff {F : Rat → Prop} {ln ld hn hd : Int} (h1 : 0 < ld) (h2 : 0 < hd) (h : ∀ u, F u ↔ (ln : Rat) ≤ u * ld ∧ u * hd ≤ (hn : Rat)) (u : Rat) : F u ↔ (ln : Rat) / ld ≤ u ∧ u ≤ (hn : Rat) / hd := by
  have p1 := icast_pos h1
  have p2 := icast_pos h2
  have e1 := div_mul_pos (n := (ln : Rat)) p1
  have e2 := div_mul_pos (n := (hn : Rat)) p2
  rw [h u]
  constructor
  · rintro ⟨q1, q2⟩
    exact ⟨le_of_mul_pos p1 (by rw [e1]; exact q1), le_of_mul_pos p2 (by rw [e2]; exact q2)⟩
  · rintro ⟨q1, q2⟩
    have q3 := mul_le_pos p1 q1
    have q4 := mul_le_pos p2 q2
    rw [e1] at q3
    rw [e2] at q4
    exact ⟨q3, q4⟩
theorem out_le {ln ld hn hd : Int} (h1 : 0 < ld) (h2 : 0 < hd) (h3 : ln * hd ≤ hn * ld) : (ln : Rat) / ld ≤ (hn : Rat) / hd := by
  have p1 := icast_pos h1
  have p2 := icast_pos h2
  have e1 := div_mul_pos (n := (ln : Rat)) p1
  have e2 := div_mul_pos (n := (hn : Rat)) p2
  have h4 := icast_le.2 h3
  simp only [Rat.intCast_mul] at h4
  generalize (ln : Rat) / ld = L at *
  generalize (hn : Rat) / hd = H at *
  refine le_of_mul_pos p1 (le_of_mul_pos p2 ?_)
  have e3 : H * hd * ld = H * ld * hd := by rw [Rat.mul_assoc, Rat.mul_comm (hd : Rat) ld, ← Rat.mul_assoc]
  rw [e1, ← e3, e2]
  exact h4
theorem OutOK.congr {F G : Rat → Prop} {o : Out} (h : OutOK F o) (hfg : ∀ u, F u ↔ G u) : OutOK G o := by
  have : F = G := funext fun u => propext (hfg u)
  rw [← this]; exact h
end Go.Ax

namespace Go.Ax
open Go Go.RowKit
theorem byRenE {b : Nat} {l : List (Nat × AV)} (h : renEOK b l := by (repeat' (first | exact trivial | exact .v | exact .top | exact .cl (Cl.fn (fun a ha => by cases ha)) | exact .cl (by (first | exact Cl.v _ | exact Cl.u32s | exact Cl.vec | exact Cl.rws clrow_p | exact Cl.rws clrow_i | exact Cl.rws clrow_t | exact Cl.rws clrow_l | exact Cl.rws (by assumption) | exact Cl.mat | exact Cl.strs | exact Cl.i64s | exact Cl.sl (by assumption) | assumption | ((first | refine Cl.agg ?_ | refine Cl.rp ?_ | refine Cl.sl ?_ | refine Cl.tup ?_); simp only [List.mem_cons, List.not_mem_nil, or_false, forall_eq_or_imp, forall_eq]; (repeat' (first | exact Cl.v _ | exact Cl.u32s | exact Cl.vec | exact Cl.mat | exact Cl.strs | exact Cl.rws clrow_i | exact Cl.sl (by assumption) | assumption | refine And.intro ?_ ?_))))) | refine And.intro ?_ ?_))) : renEOK b l := h
theorem Weak.ren2 {s s' : AS} (b' b nx : Nat) (hn : s.next ≤ nx) (hb0 : b ≠ 0) (hb : b < nx) (he : renEOK b s.env) (hm : noMem b s.mem) (h : Weak ⟨renE b' b s.env, renM b' b s.mem, nx⟩ s') : Weak s s' := Weak.trans (Weak.ren b' b nx hn hb0 hb he hm) hn h
def clL : List AV → Prop
  | [] => True
  | a :: l => Cl a ∧ clL l
theorem clL_mem : ∀ {l : List AV}, clL l → ∀ a ∈ l, Cl a
  | [], _, a, h => by cases h
  | x :: l, hl, a, h => by
    rcases List.mem_cons.1 h with rfl | h
    · exact hl.1
    · exact clL_mem hl.2 a h
theorem byClMx {l : List AV} (h : clL l := by (repeat' (first | exact trivial | exact Cl.v _ | exact Cl.u32s | refine And.intro ?_ ?_))) : ∀ r ∈ [l], ∀ a ∈ r, Cl a := fun r hr a ha => by
  simp only [List.mem_cons, List.not_mem_nil, or_false] at hr
  subst hr; exact clL_mem h a ha
theorem prow_mk (x y : Int) : prow (x, y) = [.v (.int .i64 x), .v (.int .i64 y)] := (rfl)
theorem trow_mk (x y z : Int) : trow (x, y, z) = [.v (.int .i64 x), .v (.int .i64 y), .v (.int .i64 z)] := (rfl)
end Go.Ax

namespace Go.Ax
open Go Go.RowKit
theorem MemAt.mle {σ : Sig} {S F : Nat → Prop} {w : World} {b : Nat} {m m' : MB} (h : MemAt σ S F w b m) (hm : MLe m m') : MemAt σ S F w b m' := by
  obtain ⟨k, c, e, h1, h2, h3, h4, h5, h6, h7⟩ := h
  obtain ⟨q1, q2, q3⟩ := hm
  refine ⟨k, c, e, h1, h2, h3, h4, fun r hr => ?_, by rw [q1, q2]; exact h6, fun i r j av hi hj => ?_⟩
  · obtain ⟨i, hi⟩ := List.getElem?_of_mem hr
    obtain ⟨r0, g1, g2, _⟩ := q3 i r hi
    rw [q1, g2]; exact h5 r0 (List.mem_of_getElem? g1)
  · obtain ⟨r0, g1, g2, g3⟩ := q3 i r hi
    obtain ⟨a0, g4, g5⟩ := g3 j av hj
    obtain ⟨x, hx, hr⟩ := h7 i r0 j a0 g1 g4
    exact ⟨x, by rw [q1]; exact hx, g5 _ _ _ _ hr⟩
theorem Weak.mle {s : AS} (b : Nat) {m : MB} (m' : MB) (hb : look s.mem b = some m) (hm : MLe m m') : Weak s ⟨s.env, (b, m') :: s.mem, s.next⟩ := by
  intro D S0 w0 σ S w hF _
  have names : ∀ c mc, look ((b, m') :: s.mem) c = some mc → (c = b ∧ mc = m') ∨ (c ≠ b ∧ look s.mem c = some mc) := fun c mc hl => by
    simp only [look] at hl
    split at hl
    · rename_i he; injection hl with hl; exact .inl ⟨he.symm, hl.symm⟩
    · rename_i he; exact .inr ⟨fun e => he e.symm, hl⟩
  have old : ∀ c mc, look ((b, m') :: s.mem) c = some mc → ∃ mc0, look s.mem c = some mc0 := fun c mc hl => by
    rcases names c mc hl with ⟨rfl, _⟩ | ⟨_, h⟩
    · exact ⟨m, hb⟩
    · exact ⟨mc, h⟩
  refine ⟨σ, S, ⟨hF.below, hF.dom, fun b1 b2 k m1 m2 h1 h2 h3 h4 => ?_, hF.sbd, hF.s0, hF.s1, hF.glob, fun c mc hl => ?_⟩, fun a hE => hE⟩
  · obtain ⟨n1, g1⟩ := old _ _ h1
    obtain ⟨n2, g2⟩ := old _ _ h2
    exact hF.inj b1 b2 k n1 n2 g1 g2 h3 h4
  · rcases names c mc hl with ⟨rfl, rfl⟩ | ⟨hne, hl⟩
    · rcases hF.mem c m hb with ⟨h1, h2⟩ | h
      · refine .inl ⟨?_, h2⟩
        have := hm.2.1
        rw [h1] at this
        exact List.length_eq_zero_iff.1 this
      · exact .inr (h.mle hm)
    · exact hF.mem c mc hl
theorem MLe.one {sz : Nat} {l l' : List AV} (h : LeL l l') : MLe ⟨sz, [l]⟩ ⟨sz, [l']⟩ := ⟨rfl, rfl, fun i r' hi => by
  cases i with
  | zero =>
    simp at hi; subst hi
    refine ⟨l, rfl, h.length.symm, fun j a' hj => h.get j a' hj⟩
  | succ i => simp at hi⟩
theorem Le.int0 : Le (.v (.slice none 0 0)) (.sl 1 (u32s (ms (Dy.int 0)))) := by
  show Le _ (.sl 1 (u32s (ms Dy.zero)))
  rw [ms_zero]; exact Le.nil 1
end Go.Ax
namespace Go.Ax
open Go Go.RowKit
theorem byRenL {b : Nat} {l l' : List AV} (h : RenL b l l' := by (repeat' (first | exact RenL.nil | refine RenL.cons ?_ ?_ | exact Ren.p _ _ _ _ | exact Ren.ps _ _ _ _ | exact Ren.cl byCl))) : RenL b l l' := h
theorem byThaw {b : Nat} {m : MB} {l : List (Nat × AV)} (h : thawEOK b m l := by (repeat' (first | exact trivial | exact fun _ => ⟨rfl, Nat.le_of_ble_eq_true rfl⟩ | exact fun h => absurd h (by decide) | refine And.intro ?_ ?_))) : thawEOK b m l := h
abbrev Hf := Int × Int × Int
def E0 (l : List Hf) (k : Nat) : List (Int × Int) := ((l.take k).filter fun p => decide (p.2.1 = 0)).map fun p => (p.1, p.2.2)
def joinC (x y : Hf) : List (Int × Int) := if 0 < x.2.1 ∧ y.2.1 < 0 then [(y.1 * x.2.1 - x.1 * y.2.1, y.2.2 * x.2.1 - x.2.2 * y.2.1)] else []
def E2 (x : Hf) (l : List Hf) (j : Nat) : List (Int × Int) := (l.take j).flatMap (joinC x)
def E1 (l : List Hf) (i : Nat) : List (Int × Int) := (l.take i).flatMap fun x => E2 x l l.length
def elimC (l : List Hf) : List (Int × Int) := E0 l l.length ++ E1 l l.length
theorem take_succ_gd {α : Type} {l : List α} {k : Nat} (d : α) (h : k < l.length) : l.take (k + 1) = l.take k ++ [l.getD k d] := by
  rw [List.take_add_one, List.getElem?_eq_getElem h]
  simp [List.getD, h]
theorem E0_yes {l : List Hf} {k : Nat} {a b c : Int} (h : k < l.length) (he : l.getD k (0, 0, 0) = (a, b, c)) (hb : b = 0) : E0 l (k + 1) = E0 l k ++ [(a, c)] := by
  unfold E0
  rw [take_succ_gd (0, 0, 0) h, he, List.filter_append]
  simp [hb]
theorem E0_no {l : List Hf} {k : Nat} {a b c : Int} (h : k < l.length) (he : l.getD k (0, 0, 0) = (a, b, c)) (hb : ¬ b = 0) : E0 l (k + 1) = E0 l k := by
  unfold E0
  rw [take_succ_gd (0, 0, 0) h, he, List.filter_append]
  simp [hb]
theorem E2_succ {x : Hf} {l : List Hf} {j : Nat} {y : Hf} (h : j < l.length) (he : l.getD j (0, 0, 0) = y) : E2 x l (j + 1) = E2 x l j ++ joinC x y := by
  unfold E2
  rw [take_succ_gd (0, 0, 0) h, he, List.flatMap_append]
  simp
theorem E1_succ {l : List Hf} {i : Nat} {x : Hf} (h : i < l.length) (he : l.getD i (0, 0, 0) = x) : E1 l (i + 1) = E1 l i ++ E2 x l l.length := by
  unfold E1
  rw [take_succ_gd (0, 0, 0) h, he, List.flatMap_append]
  simp
theorem BS.of_add (C : List (Int × Int)) (k c : Int) : (BS.of C).add k c = BS.of (C ++ [(k, c)]) := (BS.of_snoc C k c).symm
theorem join_lt {p q x y : Int} (hp : p.natAbs < 2 ^ 60) (hq : q.natAbs < 2 ^ 60) (hx : x.natAbs < 2 ^ 60) (hy : y.natAbs < 2 ^ 60) : (q * x - p * y).natAbs < 2 ^ 200 := by
  have h1 : (q * x).natAbs < 2 ^ 120 := by rw [Int.natAbs_mul, show 120 = 60 + 60 by rfl, Nat.pow_add]; exact Nat.mul_lt_mul'' hq hx
  have h2 : (p * y).natAbs < 2 ^ 120 := by rw [Int.natAbs_mul, show 120 = 60 + 60 by rfl, Nat.pow_add]; exact Nat.mul_lt_mul'' hp hy
  have h3 : (2 : Nat) ^ 120 + 2 ^ 120 ≤ 2 ^ 200 := by decide
  generalize q * x = a at *
  generalize p * y = b at *
  omega
end Go.Ax
namespace Go.Ax
open Go Go.RowKit
def hv2 (f g : Int × Int → Int) (n : Int) (s : Int × Int) : List Hf := [(f s, g s, s.2 + n), (0 - f s, 0 - g s, n - s.2)]
def hv (f g : Int × Int → Int) (n : Int) (l : List (Int × Int)) : List Hf := l.flatMap (hv2 f g n)
theorem hv_length (f g : Int × Int → Int) (n : Int) (l : List (Int × Int)) : (hv f g n l).length = 2 * l.length := by
  induction l with
  | nil => rfl
  | cons s l ih => unfold hv at *; rw [List.flatMap_cons, List.length_append, ih]; simp [hv2]; omega
theorem hv_succ {f g : Int × Int → Int} {n : Int} {l : List (Int × Int)} {k : Nat} {s : Int × Int} (h : k < l.length) (he : l.getD k (0, 0) = s) : hv f g n (l.take (k + 1)) = hv f g n (l.take k) ++ hv2 f g n s := by
  unfold hv
  rw [take_succ_gd (0, 0) h, he, List.flatMap_append]
  simp
def gainF : (Int × Int → Int) × (Int × Int → Int) := (fun s => s.1, fun _ => 0)
def conds (f : (Int × Int → Int) × (Int × Int → Int)) (n : Int) (l : List (Int × Int)) : List (Int × Int) := elimC (hv f.1 f.2 n l)
def outOf (f : (Int × Int → Int) × (Int × Int → Int)) (n : Int) (l : List (Int × Int)) : Out := (BS.of (conds f n l)).out
theorem hv_sm {f g : Int × Int → Int} {n : Int} {l : List (Int × Int)} (hn : 0 ≤ n ∧ n ≤ 1099511627776) (hl : ∀ s ∈ l, (-1099511627776 ≤ s.2 ∧ s.2 ≤ 1099511627776) ∧ (-1099511627776 ≤ f s ∧ f s ≤ 1099511627776) ∧ (-1099511627776 ≤ g s ∧ g s ≤ 1099511627776)) :
    ∀ p ∈ hv f g n l, p.1.natAbs < 2 ^ 60 ∧ p.2.1.natAbs < 2 ^ 60 ∧ p.2.2.natAbs < 2 ^ 60 := by
  intro p hp
  have e60 : (2 : Nat) ^ 60 = 1152921504606846976 := by decide
  unfold hv at hp
  rw [List.mem_flatMap] at hp
  obtain ⟨s, hs, hp⟩ := hp
  obtain ⟨h1, h2, h3⟩ := hl s hs
  simp only [hv2, List.mem_cons, List.not_mem_nil, or_false] at hp
  rcases hp with rfl | rfl
  · simp only; omega
  · simp only; omega
theorem elim_sm {l : List Hf} (hB : ∀ p ∈ l, p.1.natAbs < 2 ^ 60 ∧ p.2.1.natAbs < 2 ^ 60 ∧ p.2.2.natAbs < 2 ^ 60) : ∀ p ∈ elimC l, p.1.natAbs < 2 ^ 200 ∧ p.2.natAbs < 2 ^ 200 := by
  intro p hp
  have e200 : (2 : Nat) ^ 60 ≤ 2 ^ 200 := by decide
  unfold elimC at hp
  rw [List.mem_append] at hp
  rcases hp with hp | hp
  · unfold E0 at hp
    rw [List.mem_map] at hp
    obtain ⟨x, hx, rfl⟩ := hp
    rw [List.mem_filter] at hx
    have := hB x (List.mem_of_mem_take hx.1)
    exact ⟨Nat.lt_of_lt_of_le this.1 e200, Nat.lt_of_lt_of_le this.2.2 e200⟩
  · unfold E1 E2 at hp
    rw [List.mem_flatMap] at hp
    obtain ⟨x, hx, hp⟩ := hp
    rw [List.mem_flatMap] at hp
    obtain ⟨y, hy, hp⟩ := hp
    have bx := hB x (List.mem_of_mem_take hx)
    have bY := hB y (List.mem_of_mem_take hy)
    unfold joinC at hp
    split at hp
    · simp only [List.mem_cons, List.not_mem_nil, or_false] at hp
      subst hp
      exact ⟨join_lt bx.1 bY.1 bx.2.1 bY.2.1, join_lt bx.2.2 bY.2.2 bx.2.1 bY.2.1⟩
    · cases hp
end Go.Ax
namespace Go.Ax
open Go Go.RowKit
theorem byClF {l : List AV} (h : ∀ x ∈ l, Cl x := by (try simp only [List.mem_cons, List.not_mem_nil, or_false, forall_eq_or_imp, forall_eq]); (repeat' (first | exact Cl.v _ | exact Cl.rws clrow_p | exact Cl.fn (fun a ha => by cases ha) | refine And.intro ?_ ?_))) : ∀ x ∈ l, Cl x := h
end Go.Ax
namespace Go.Ax
open Go Go.RowKit
theorem byWeakF {s s' : AS} (h : Weak s s' := by exact Weak.cut (by (repeat' (first | exact trivial | exact ⟨_, rfl, .refl _⟩ | exact ⟨_, rfl, Le.nil _⟩ | exact ⟨_, rfl, Le.ps0 _ _ _⟩ | exact ⟨_, rfl, Le.top _⟩ | refine And.intro ?_ ?_))) (by (repeat' (first | exact trivial | exact rfl | refine And.intro ?_ ?_))) (by (repeat' (first | exact trivial | exact .v | exact .top | exact .p (Nat.le_of_ble_eq_true rfl) | exact .ps (Nat.le_of_ble_eq_true rfl) | exact Nat.le_of_ble_eq_true rfl | exact nbRows_rws clrow_p | exact nbRows_rws clrow_t | exact nbRows_rws clrow_l | exact nbRows_rws clrow_i | exact .cl (Cl.fn (fun a ha => by cases ha)) | exact .cl (Cl.rws clrow_p) | exact .cl (Cl.rws clrow_i) | exact .cl (Cl.rws clrow_t) | exact .cl (Cl.rws clrow_l) | exact .cl Cl.u32s | exact .cl Cl.vec | refine And.intro ?_ ?_))) (by (repeat' (first | exact trivial | exact .v | exact .top | exact .p (Nat.le_of_ble_eq_true rfl) | exact .ps (Nat.le_of_ble_eq_true rfl) | exact Nat.le_of_ble_eq_true rfl | exact nbRows_rws clrow_p | exact nbRows_rws clrow_t | exact nbRows_rws clrow_l | exact nbRows_rws clrow_i | exact .cl (Cl.fn (fun a ha => by cases ha)) | exact .cl (Cl.rws clrow_p) | exact .cl (Cl.rws clrow_i) | exact .cl (Cl.rws clrow_t) | exact .cl (Cl.rws clrow_l) | exact .cl Cl.u32s | exact .cl Cl.vec | refine And.intro ?_ ?_)))) : Weak s s' := h
end Go.Ax

namespace Go.Ax
open Go Go.RowKit
theorem mem_elimC {l : List Hf} {k c : Int} : (k, c) ∈ elimC l ↔ (∃ h ∈ l, h.2.1 = 0 ∧ k = h.1 ∧ c = h.2.2) ∨ (∃ x ∈ l, ∃ y ∈ l, (0 < x.2.1 ∧ y.2.1 < 0) ∧ k = y.1 * x.2.1 - x.1 * y.2.1 ∧ c = y.2.2 * x.2.1 - x.2.2 * y.2.1) := by
  unfold elimC E0 E1 E2
  rw [List.take_length, List.mem_append, List.mem_map, List.mem_flatMap]
  constructor
  · rintro (⟨h, h1, h2⟩ | ⟨x, hx, h⟩)
    · rw [List.mem_filter] at h1
      injection h2 with h2 h3
      exact .inl ⟨h, h1.1, by simpa using h1.2, h2.symm, h3.symm⟩
    · rw [List.mem_flatMap] at h
      obtain ⟨y, hy, h⟩ := h
      unfold joinC at h
      split at h
      · rename_i hc
        simp only [List.mem_cons, List.not_mem_nil, or_false] at h
        injection h with h1 h2
        exact .inr ⟨x, hx, y, hy, hc, h1, h2⟩
      · cases h
  · rintro (⟨h, h1, h2, rfl, rfl⟩ | ⟨x, hx, y, hy, hc, rfl, rfl⟩)
    · exact .inl ⟨h, by rw [List.mem_filter]; exact ⟨h1, by simpa using h2⟩, rfl⟩
    · refine .inr ⟨x, hx, ?_⟩
      rw [List.mem_flatMap]
      refine ⟨y, hy, ?_⟩
      unfold joinC
      rw [if_pos hc]
      simp
theorem mem_hv {f g : Int × Int → Int} {n : Int} {l : List (Int × Int)} {h : Hf} : h ∈ hv f g n l ↔ ∃ s ∈ l, h = (f s, g s, s.2 + n) ∨ h = (0 - f s, 0 - g s, n - s.2) := by
  unfold hv
  rw [List.mem_flatMap]
  simp only [hv2, List.mem_cons, List.not_mem_nil, or_false]
theorem fit_halves {l : List Hf} {u v : Rat} (h : ∀ p ∈ l, (p.1 : Rat) * u + (p.2.1 : Rat) * v ≤ (p.2.2 : Rat)) : Fit1 (elimC l) u := by
  intro k c hm
  rcases mem_elimC.1 hm with ⟨p, hp, h0, rfl, rfl⟩ | ⟨x, hx, y, hy, ⟨h1, h2⟩, rfl, rfl⟩
  · have := h p hp
    rw [h0] at this
    simp only [Rat.intCast_zero, Rat.zero_mul] at this
    grind
  · have q1 := h x hx
    have q2 := h y hy
    have p1 := icast_pos h1
    have p2 : (0 : Rat) < -(y.2.1 : Rat) := by have := icast_pos (show 0 < -y.2.1 by omega); rwa [Rat.intCast_neg] at this
    have q3 := mul_le_pos p1 q2
    have q4 := mul_le_pos p2 q1
    rw [Rat.intCast_sub, Rat.intCast_sub, Rat.intCast_mul, Rat.intCast_mul, Rat.intCast_mul, Rat.intCast_mul]
    grind
theorem fit_mono {l l' : List Hf} {u : Rat} (h : ∀ p ∈ l', ∃ q ∈ l, q.1 = p.1 ∧ q.2.1 = p.2.1 ∧ q.2.2 ≤ p.2.2) (hf : Fit1 (elimC l) u) : Fit1 (elimC l') u := by
  intro k c hm
  rcases mem_elimC.1 hm with ⟨p, hp, h0, rfl, rfl⟩ | ⟨x, hx, y, hy, ⟨h1, h2⟩, rfl, rfl⟩
  · obtain ⟨q, hq, g1, g2, g3⟩ := h p hp
    have := hf p.1 q.2.2 (mem_elimC.2 (.inl ⟨q, hq, by rw [g2]; exact h0, g1.symm, rfl⟩))
    exact Rat.le_trans this (icast_le.2 g3)
  · obtain ⟨x0, hx0, a1, a2, a3⟩ := h x hx
    obtain ⟨y0, hy0, b1, b2, b3⟩ := h y hy
    have := hf (y.1 * x.2.1 - x.1 * y.2.1) (y0.2.2 * x.2.1 - x0.2.2 * y.2.1) (mem_elimC.2 (.inr ⟨x0, hx0, y0, hy0, ⟨by rw [a2]; exact h1, by rw [b2]; exact h2⟩, by rw [a1, a2, b1, b2], by rw [a2, b2]⟩))
    refine Rat.le_trans this (icast_le.2 ?_)
    have q1 := Int.mul_le_mul_of_nonneg_right b3 (show 0 ≤ x.2.1 by omega)
    have q2 := Int.mul_le_mul_of_nonneg_right a3 (show 0 ≤ -y.2.1 by omega)
    rw [Int.mul_neg, Int.mul_neg] at q2
    omega
theorem conds_mono {f : (Int × Int → Int) × (Int × Int → Int)} {n n' : Int} {l l' : List (Int × Int)} (hl : ∀ s ∈ l', s ∈ l) (hn : n ≤ n') {u : Rat} (hf : Fit1 (conds f n l) u) : Fit1 (conds f n' l') u := by
  refine fit_mono (fun p hp => ?_) hf
  obtain ⟨s, hs, h⟩ := mem_hv.1 hp
  rcases h with rfl | rfl
  · exact ⟨_, mem_hv.2 ⟨s, hl s hs, .inl rfl⟩, rfl, rfl, by show s.2 + n ≤ s.2 + n'; omega⟩
  · exact ⟨_, mem_hv.2 ⟨s, hl s hs, .inr rfl⟩, rfl, rfl, by show n - s.2 ≤ n' - s.2; omega⟩
theorem outOf_ok (f : (Int × Int → Int) × (Int × Int → Int)) (n : Int) (l : List (Int × Int)) : OutOK (Fit1 (conds f n l)) (outOf f n l) := out_ok (BInv.of _)
theorem qd_le {n d : Int} (h : 0 < d) : (qd n d).v ≤ (n : Rat) / d := by
  unfold qd Dy.quo
  rw [Dy.v_int, Dy.v_int]
  have hp := p2pos 16
  have e := v_nrm_mul (z := ((n : Rat) / d * 2 ^ 16).floor) (d := 16) (by omega)
  have := Rat.floor_le ((n : Rat) / d * 2 ^ 16)
  rw [← e] at this
  exact Rat.le_of_mul_le_mul_right this hp
theorem qd_ge {n d : Int} (h : 0 < d) : (n : Rat) / d ≤ (qd (-n) d).neg.v := by
  have := qd_le (n := -n) h
  rw [Dy.v_neg]
  rw [Rat.intCast_neg, Rat.div_def, Rat.neg_mul, ← Rat.div_def] at this
  grind
theorem qd_ends {ln ld hn hd : Int} (h1 : 0 < ld) (h2 : 0 < hd) (h3 : ln * hd ≤ hn * ld) : (qd ln ld).v ≤ (qd (-hn) hd).neg.v := Rat.le_trans (qd_le h1) (Rat.le_trans (out_le h1 h2 h3) (qd_ge h2))
theorem out_ends {F : Rat → Prop} {o : Out} (h : OutOK F o) : o.lo.v ≤ o.hi.v := by
  cases h with
  | bad => exact Rat.le_refl
  | wide => exact Rat.le_refl
  | iv h1 h2 h3 _ => exact qd_ends h1 h2 h3
theorem out_in {F : Rat → Prop} {o : Out} (h : OutOK F o) {u : Rat} (hu : F u) : o.err = 22 ∨ (o.err = 0 ∧ o.lo.v ≤ u ∧ u ≤ o.hi.v) := by
  cases h with
  | bad h => exact absurd hu (h u)
  | wide => exact .inl rfl
  | iv h1 h2 h3 h4 =>
    have := (out_iv_iff h1 h2 h4 u).1 hu
    exact .inr ⟨rfl, Rat.le_trans (qd_le h1) this.1, Rat.le_trans this.2 (qd_ge h2)⟩
theorem out_mg {b : BS} (h : b.Sm 200) {C : List (Int × Int)} (hC : BInv C b) : Mg 201 b.out.lo ∧ Mg 201 b.out.hi := by
  have key := out_ok hC
  obtain ⟨h1, h2, h3, h4⟩ := h
  generalize ho : b.out = o at *
  unfold BS.out at ho
  split at ho
  · subst ho; exact ⟨.zero _, .zero _⟩
  · split at ho
    · subst ho
      cases key with
      | iv g1 g2 _ _ =>
        refine ⟨((Mg.int h1).quo (y := Dy.int b.ld) (show (Dy.int b.ld).n ≠ 0 by show b.ld ≠ 0; omega)), ((Mg.int (show (-b.hn).natAbs < 2 ^ 200 by rw [Int.natAbs_neg]; exact h3)).quo (y := Dy.int b.hd) (show (Dy.int b.hd).n ≠ 0 by show b.hd ≠ 0; omega)).neg⟩
    · subst ho; exact ⟨.zero _, .zero _⟩
end Go.Ax

namespace Go.Ax
open Go Go.RowKit
theorem qd_mono {n d n' d' : Int} (h : (n : Rat) / d ≤ (n' : Rat) / d') : (qd n d).v ≤ (qd n' d').v := by
  unfold qd Dy.quo
  rw [Dy.v_int, Dy.v_int, Dy.v_int, Dy.v_int]
  have hp := p2pos 16
  have e1 := v_nrm_mul (z := ((n : Rat) / d * 2 ^ 16).floor) (d := 16) (by omega)
  have e2 := v_nrm_mul (z := ((n' : Rat) / d' * 2 ^ 16).floor) (d := 16) (by omega)
  refine Rat.le_of_mul_le_mul_right (c := (2 : Rat) ^ 16) ?_ hp
  rw [e1, e2]
  refine icast_le.2 (Rat.le_floor_iff.2 ?_)
  have h1 := Rat.floor_le ((n : Rat) / d * 2 ^ 16)
  exact Rat.le_trans h1 (mul_le_pos hp h)
theorem out_wider {F G : Rat → Prop} {o o' : Out} (h : OutOK F o) (g : OutOK G o') (hfg : ∀ u, F u → G u) : o.err = 23 ∨ o'.err = 22 ∨ (o'.err = 0 ∧ o.err = 0 ∧ o'.lo.v ≤ o.lo.v ∧ o.hi.v ≤ o'.hi.v) := by
  cases h with
  | bad => exact .inl rfl
  | wide h k =>
    cases g with
    | bad g => obtain ⟨u, hu⟩ := h; exact absurd (hfg u hu) (g u)
    | wide => exact .inr (.inl rfl)
    | @iv ln ld hn hd g1 g2 g3 g4 =>
      obtain ⟨u, hu, h1⟩ := k ((ln : Rat) / ld) ((hn : Rat) / hd)
      have := (out_iv_iff g1 g2 g4 u).1 (hfg u hu)
      rcases h1 with h1 | h1 <;> grind
  | @iv ln ld hn hd h1 h2 h3 h4 =>
    have a1 := out_le h1 h2 h3
    have f1 := (out_iv_iff h1 h2 h4 _).2 ⟨Rat.le_refl, a1⟩
    have f2 := (out_iv_iff h1 h2 h4 _).2 ⟨a1, Rat.le_refl⟩
    cases g with
    | bad g => exact absurd (hfg _ f1) (g _)
    | wide => exact .inr (.inl rfl)
    | @iv ln' ld' hn' hd' g1 g2 g3 g4 =>
      have i1 := (out_iv_iff g1 g2 g4 _).1 (hfg _ f1)
      have i2 := (out_iv_iff g1 g2 g4 _).1 (hfg _ f2)
      refine .inr (.inr ⟨rfl, rfl, qd_mono i1.1, ?_⟩)
      show (qd (-hn) hd).neg.v ≤ (qd (-hn') hd').neg.v
      rw [Dy.v_neg, Dy.v_neg]
      have := qd_mono (n := -hn') (d := hd') (n' := -hn) (d' := hd) (by
        rw [Rat.intCast_neg, Rat.intCast_neg, Rat.div_def, Rat.div_def, Rat.neg_mul, Rat.neg_mul, ← Rat.div_def, ← Rat.div_def]
        have := i2.2; grind)
      grind
def oIv (f : (Int × Int → Int) × (Int × Int → Int)) (n : Int) (l : List (Int × Int)) : Iv := ⟨(outOf f n l).lo, (outOf f n l).hi, out_ends (outOf_ok f n l)⟩
def oErr (f : (Int × Int → Int) × (Int × Int → Int)) (n : Int) (l : List (Int × Int)) : Int := (outOf f n l).err
theorem more_wider (f : (Int × Int → Int) × (Int × Int → Int)) {n n' : Int} {l l' : List (Int × Int)} (hl : ∀ s ∈ l', s ∈ l) (hn : n ≤ n') : oErr f n l = 23 ∨ oErr f n' l' = 22 ∨ (oErr f n' l' = 0 ∧ oErr f n l = 0 ∧ (oIv f n l).ins (oIv f n' l') = true) := by
  rcases out_wider (outOf_ok f n l) (outOf_ok f n' l') (fun u => conds_mono hl hn) with h | h | ⟨h1, h2, h3, h4⟩
  · exact .inl h
  · exact .inr (.inl h)
  · exact .inr (.inr ⟨h1, h2, decide_eq_true ⟨h3, h4⟩⟩)
def fitD (p q : Dy) (n : Int) (s : Int × Int) : Prop := (((Dy.int s.2).sub (p.mul (Dy.int s.1))).sub q).abs.cmp (Dy.int n) ≤ 0
instance (p q : Dy) (n : Int) (s : Int × Int) : Decidable (fitD p q n s) := inferInstanceAs (Decidable (_ ≤ _))
def fitAll (p q : Dy) (n : Int) (l : List (Int × Int)) : Prop := ∀ i, i < l.length → fitD p q n (l.getD i (0, 0))
instance (p q : Dy) (n : Int) (l : List (Int × Int)) : Decidable (fitAll p q n l) := inferInstanceAs (Decidable (∀ i, i < l.length → fitD p q n (l.getD i (0, 0))))
theorem abs_le_iff (x : Dy) (n : Int) : x.abs.cmp (Dy.int n) ≤ 0 ↔ -(n : Rat) ≤ x.v ∧ x.v ≤ n := by
  rw [cmp_le, Dy.v_abs, Dy.v_int]
  split <;> constructor <;> grind
theorem fitD_iff (p q : Dy) (n : Int) (s : Int × Int) : fitD p q n s ↔ -(n : Rat) ≤ (s.2 : Rat) - p.v * (s.1 : Rat) - q.v ∧ (s.2 : Rat) - p.v * (s.1 : Rat) - q.v ≤ n := by
  have hp := p.ok.1
  have hd : (Dy.int s.1).d = 0 := rfl
  unfold fitD
  rw [abs_le_iff, Dy.v_sub, Dy.v_sub, Dy.v_mul_of _ _ (by omega), Dy.v_int, Dy.v_int]
theorem fitAll_iff (p q : Dy) (n : Int) (l : List (Int × Int)) : fitAll p q n l ↔ ∀ s ∈ l, -(n : Rat) ≤ (s.2 : Rat) - p.v * (s.1 : Rat) - q.v ∧ (s.2 : Rat) - p.v * (s.1 : Rat) - q.v ≤ n := by
  constructor
  · intro h s hs
    obtain ⟨i, hi⟩ := List.getElem?_of_mem hs
    have hlt := (List.getElem?_eq_some_iff.1 hi).1
    have := h i hlt
    rw [List.getD, hi] at this
    exact (fitD_iff _ _ _ _).1 this
  · intro h i hi
    refine (fitD_iff _ _ _ _).2 (h _ ?_)
    rw [List.getD, List.getElem?_eq_getElem hi]; exact List.getElem_mem _
theorem gain_fit (p : Dy) (n : Int) (l : List (Int × Int)) : Fit1 (conds gainF n l) p.v ↔ fitAll p Dy.zero n l := by
  rw [fitAll_iff]
  constructor
  · intro h s hs
    have h1 := h s.1 (s.2 + n) (mem_elimC.2 (.inl ⟨_, mem_hv.2 ⟨s, hs, .inl rfl⟩, rfl, rfl, rfl⟩))
    have h2 := h (0 - s.1) (n - s.2) (mem_elimC.2 (.inl ⟨_, mem_hv.2 ⟨s, hs, .inr rfl⟩, rfl, rfl, rfl⟩))
    rw [Rat.intCast_add] at h1
    rw [Rat.intCast_sub, Rat.intCast_sub] at h2
    simp only [Rat.intCast_zero] at h2
    rw [Dy.v_zero]
    constructor <;> grind
  · intro h
    refine fit_halves (v := 0) fun x hx => ?_
    obtain ⟨s, hs, rfl | rfl⟩ := mem_hv.1 hx
    · have := h s hs
      rw [Dy.v_zero] at this
      show (s.1 : Rat) * p.v + _ ≤ ((s.2 + n : Int) : Rat)
      rw [Rat.intCast_add]; grind
    · have := h s hs
      rw [Dy.v_zero] at this
      show ((0 - s.1 : Int) : Rat) * p.v + _ ≤ ((n - s.2 : Int) : Rat)
      rw [Rat.intCast_sub, Rat.intCast_sub]
      simp only [Rat.intCast_zero]
      grind
end Go.Ax

namespace Go.Ax
open Go Go.RowKit
theorem tmod_bd2 {a m : Int} (hm : 0 < m) : -m < a.tmod m ∧ a.tmod m < m := by
  refine ⟨?_, Int.tmod_lt_of_pos a hm⟩
  have h := Int.tmod_lt_of_pos (-a) hm
  rw [Int.neg_tmod] at h
  omega
end Go.Ax

namespace Go.Ax
open Go Go.RowKit
theorem NO.sl {b sz : Nat} {rows : List (List AV)} (h : ∀ r ∈ rows, ∀ a ∈ r, NO b a) : NO b (.sl sz rows) := fun _ _ _ _ _ hs hx => by
  cases hx with
  | nil => exact .nil
  | e => exact .e
  | sl c hk hc hl hcell hr => exact .sl c hk hc hl hcell (fun i r j av h1 h2 => h r (List.mem_of_getElem? h1) av (List.mem_of_getElem? h2) _ _ _ _ _ hs (hr i r j av h1 h2))
section
variable {C : Cx} {n : Nat} {r : List It} {s : AS} {Q : Lab → AS → Prop}
theorem opG_box {o : Oper} {t : TypeId} {x : Operand} {av : AV} (ho : o.op = .box t x) (hx : ev s x = some av) (h1 : av.cells.all AV.one = true) : OpG C s o ⟨s.env, (s.next, ⟨av.cells.length, [av.cells]⟩) :: s.mem, s.next + 1⟩ (.p s.next av.cells.length 0 0) := by
  intro D S0 w0 σ S a w K R hG hF hE hK
  obtain ⟨y, w', σ', g1, g2, g3, g4⟩ := s_box0 (P := C.P) (U := fun b => b < s.next) (Nat.lt_irrefl _) hF hE ho (e := ⟨True, .p s.next av.cells.length 0 0, .new ⟨av.cells.length, [av.cells]⟩⟩) (by unfold aBox0; rw [hx]; simp only [h1, if_true])
  unfold Oper.wp
  rw [g1]
  refine hK σ' S y w' (g2.congr (fun _ => rfl) (fun b hb => ?_)) g3 g4
  show b < s.next + 1
  rcases hb with hb | hb <;> omega
theorem opG_boxF {o : Oper} {t : TypeId} {x : Operand} {av : AV} (ho : o.op = .box t x) (hx : ev s x = some av) (h1 : av.cells.all AV.one = true) : OpG C s o ⟨s.env, dropM s.next s.mem, s.next + 1⟩ (.rp av.cells) := by
  intro D S0 w0 σ S a w K R hG hF hE hK
  refine opG_box ho hx h1 D S0 w0 σ S a w K R hG hF hE fun σ' S' y w' g1 g2 g3 => ?_
  have hm : look ((s.next, (⟨av.cells.length, [av.cells]⟩ : MB)) :: s.mem) s.next = some ⟨av.cells.length, [av.cells]⟩ := by simp [look]
  have hF2 := g1.frz hm
  refine hK σ' _ y w' ((hF2.sub fun c mc h => ?_).congr (fun _ => rfl) (fun b hb => hb)) (fun t' a' ht' => ?_) (frz_rel g1 hm g3 (frz_p (j := 0) rfl (by simp)))
  · obtain ⟨h2, h3⟩ := look_dropM _ _ _ h
    have : dropM s.next ((s.next, (⟨av.cells.length, [av.cells]⟩ : MB)) :: s.mem) = dropM s.next s.mem := by simp [dropM]
    show look (dropM s.next ((s.next, (⟨av.cells.length, [av.cells]⟩ : MB)) :: s.mem)) c = some mc
    rw [this]; exact h
  · obtain ⟨z, q1, q2⟩ := g2 t' a' ht'
    exact ⟨z, q1, q2.more⟩
theorem after_boxF {t : TypeId} {x : Operand} {d : Option Tmp} {u : TypeId} {pos : String} {af : Array Edge} {g : Option (Nat × Bool)} {av : AV} (hx : ev s x = some av) (h1 : av.cells.all AV.one = true)
    (k : ex C n r ((⟨s.env, dropM s.next s.mem, s.next + 1⟩ : AS).put d (.rp av.cells)) Q) : after C n r s Q ⟨d, .box t x, u, pos, af, g⟩ none := after_big (opG_boxF rfl hx h1) k
end
end Go.Ax

namespace Go.Ax
open Go Go.RowKit
def nbOf (m1' : Option MB) : Nat := match m1' with
  | none => 1
  | some _ => 2
structure CallV (P : Program) (G : GL) (f : FuncId) (args : List AV) (m0 m1 : MB) (res : AV) (m0' : MB) (m1' : Option MB) : Prop where
  enters : Enters P f
  nor : NB (nbOf m1') res
  nom0 : ∀ r ∈ m0'.rows, ∀ a ∈ r, NB (nbOf m1') a
  nom1 : ∀ m, m1' = some m → ∀ r ∈ m.rows, ∀ a ∈ r, NB (nbOf m1') a
  runs : ∀ (S : Nat → Prop) (w : World) (vs : Array Value) (k0 : Nat) (σ : Sig), σ 0 = some k0 → (∀ b k, σ b = some k → b < 2 ∧ k < w.heap.size) → (∀ k, σ 1 = some k → k ≠ k0) → (∀ k, S k → k < w.heap.size) → GS G S w → vs.size = args.length →
    MemAt σ S (fun _ => True) w 0 m0 → MemOK σ S (fun _ => True) w 1 m1 → (∀ k, σ 1 = some k → ¬ S k) → (∀ (i : Nat) (x : Value) (av : AV), vs[i]? = some x → args[i]? = some av → Rel σ S w x av) →
    Calls P f vs w fun e w' => Bel ⟨fun k => k = k0 ∨ σ 1 = some k, G, some k0⟩ w w' ∧ ∃ x σ' S', e = .returned x ∧ σ' 0 = some k0 ∧ (∀ b k, σ' b = some k → b < nbOf m1' ∧ k < w'.heap.size) ∧
      (∀ k, σ' 1 = some k → k ≠ k0 ∧ (σ 1 = some k ∨ w.heap.size ≤ k)) ∧ (∀ k, S k → S' k) ∧ (∀ k, S' k → k < w'.heap.size ∧ (S k ∨ w.heap.size ≤ k ∨ σ 1 = some k)) ∧ Rel σ' S' w' x res ∧ MemAt σ' S' (fun _ => True) w' 0 m0' ∧
      ∀ m, m1' = some m → MemOK σ' S' (fun _ => True) w' 1 m
def drop2 (mem : List (Nat × MB)) : List (Nat × MB) := dropM 1 (dropM 0 mem)
def FinV (mem : List (Nat × MB)) (r : Option (Prop × List AV)) (res : AV) (m1' : Option MB) : Prop := ∃ p l b, r = some (p, l) ∧ p ∧ Pub (if m1' = none then dropM 0 mem else drop2 mem) (one l) b ∧ Le b res
def EndsV (ti : Types) (rs : List ResultVar) (res : AV) (m0' : MB) (m1' : Option MB) (l : Lab) (s : AS) : Prop :=
  (l = .normal ∨ l = .ret) ∧ FinV s.mem (resL ti s rs) res m1' ∧ (∃ m, look s.mem 0 = some m ∧ MLe m m0') ∧ ∀ m, m1' = some m → ∃ q, look s.mem 1 = some q ∧ MLe q m
def entryV (args : List AV) (m0 m1 : MB) : AS := ⟨entryEnv 0 args, [(0, m0), (1, m1)], 2⟩
theorem MemOK.more {σ : Sig} {S S' F F' : Nat → Prop} {w : World} {b : Nat} {m : MB} (h : MemOK σ S F w b m) (hS : ∀ k, S k → S' k) (hn : ∀ k, σ b = some k → ¬ S' k) (hF : ∀ k, F k → F' k) : MemOK σ S' F' w b m := by
  rcases h with h | ⟨k, c, e, g1, g2, g3, g4, g5, g6, g7⟩
  · exact .inl h
  · refine .inr ⟨k, c, e, g1, hF _ g2, hn k g1, g4, g5, g6, fun i r j av hi hj => ?_⟩
    obtain ⟨x, hx, hr⟩ := g7 i r j av hi hj
    exact ⟨x, hx, hr.mono (fun _ _ h => h) hS keeps_refl⟩
inductive Rn (b0 b1 : Nat) : AV → AV → Prop
  | p0 (sz row j : Nat) : Rn b0 b1 (.p b0 sz row j) (.p 0 sz row j)
  | ps0 (sz row n : Nat) : Rn b0 b1 (.ps b0 sz row n) (.ps 0 sz row n)
  | p1 (sz row j : Nat) : Rn b0 b1 (.p b1 sz row j) (.p 1 sz row j)
  | ps1 (sz row n : Nat) : Rn b0 b1 (.ps b1 sz row n) (.ps 1 sz row n)
  | cl {a a' : AV} (h : Cl a') (k : Le a a') : Rn b0 b1 a a'
inductive Rb (b0 b1 : Nat) : AV → AV → Prop
  | p0 (sz row j : Nat) : Rb b0 b1 (.p 0 sz row j) (.p b0 sz row j)
  | ps0 (sz row n : Nat) : Rb b0 b1 (.ps 0 sz row n) (.ps b0 sz row n)
  | p1 (sz row j : Nat) : Rb b0 b1 (.p 1 sz row j) (.p b1 sz row j)
  | ps1 (sz row n : Nat) : Rb b0 b1 (.ps 1 sz row n) (.ps b1 sz row n)
  | cl {a : AV} (h : Cl a) : Rb b0 b1 a a
def MR (R : AV → AV → Prop) (m m' : MB) : Prop := m'.sz = m.sz ∧ PubL (PubL R) m.rows m'.rows
section
variable {C : Cx} {n : Nat} {r : List It} {s : AS} {Q : Lab → AS → Prop} {d : Option Tmp}
theorem endsV_ret {ti : Types} {rs : List ResultVar} {res : AV} {m0' : MB} {m1' : Option MB} : EndsV ti rs res m0' m1' .ret s = (FinV s.mem (resL ti s rs) res m1' ∧ (∃ m, look s.mem 0 = some m ∧ MLe m m0') ∧ ∀ m, m1' = some m → ∃ q, look s.mem 1 = some q ∧ MLe q m) := by simp [EndsV]
theorem endsV_normal {ti : Types} {rs : List ResultVar} {res : AV} {m0' : MB} {m1' : Option MB} : EndsV ti rs res m0' m1' .normal s = (FinV s.mem (resL ti s rs) res m1' ∧ (∃ m, look s.mem 0 = some m ∧ MLe m m0') ∧ ∀ m, m1' = some m → ∃ q, look s.mem 1 = some q ∧ MLe q m) := by simp [EndsV]
end
end Go.Ax

namespace Go.Ax
open Go Go.RowKit
section
variable {C : Cx} {s : AS} {n : Nat} {r : List It} {Q : Lab → AS → Prop} {d : Option Tmp}
end
end Go.Ax

namespace Go.Ax
open Go Go.RowKit
attribute [go_sem] Ax.endsV_ret Ax.endsV_normal Ax.entryV
theorem MR.cl {R : AV → AV → Prop} {m : MB} (h : ∀ r ∈ m.rows, ∀ a ∈ r, R a a) : MR R m m := by
  refine ⟨rfl, ?_⟩
  have hl : ∀ l : List AV, (∀ a ∈ l, R a a) → PubL R l l := fun l => by
    induction l with
    | nil => intro _; exact .nil
    | cons a l ih => intro h; exact .cons (h a (List.mem_cons_self ..)) (ih fun b hb => h b (List.mem_cons_of_mem _ hb))
  have : ∀ rows : List (List AV), (∀ r ∈ rows, ∀ a ∈ r, R a a) → PubL (PubL R) rows rows := fun rows => by
    induction rows with
    | nil => intro _; exact .nil
    | cons r l ih => intro h; exact .cons (hl r (h r (List.mem_cons_self ..))) (ih fun b hb => h b (List.mem_cons_of_mem _ hb))
  exact this m.rows h
section
variable {C : Cx} {s : AS} {n : Nat} {r : List It} {Q : Lab → AS → Prop} {d : Option Tmp}
end
end Go.Ax

namespace Go.Ax
open Go Go.RowKit
section
variable {P : Program} {w : World}
end
section
variable {C : Cx} {s : AS} {o : Oper}
end
section
variable {C : Cx} {s : AS} {n : Nat} {r : List It} {Q : Lab → AS → Prop}
end
end Go.Ax

namespace Go.Ax
open Go Go.RowKit
section
variable {C : Cx} {s : AS} {o : Oper}
end
section
variable {C : Cx} {s : AS} {o : Oper}
end
section
variable {C : Cx} {n : Nat} {r : List It} {s : AS} {Q : Lab → AS → Prop} {d : Option Tmp} {t u : TypeId} {len : Nat} {parts : List (Nat × Operand)} {pos : String} {af : Array Edge} {g : Option (Nat × Bool)}
end
end Go.Ax

namespace Go.Ax
open Go Go.RowKit
theorem MemAt.cut {σ : Sig} {S F : Nat → Prop} {w : World} {b : Nat} {m : MB} (k : Nat) (h : MemAt σ S F w b m) : MemAt σ S F w b ⟨m.sz, m.rows.take k⟩ := by
  obtain ⟨k0, c, e, h1, h2, h3, h4, h5, h6, h7⟩ := h
  refine ⟨k0, c, e, h1, h2, h3, h4, fun r hr => h5 r (List.mem_of_mem_take hr), ?_, fun i r j av hi hj => ?_⟩
  · exact Nat.le_trans (Nat.mul_le_mul_right _ (by show (m.rows.take k).length ≤ _; rw [List.length_take]; omega)) h6
  · change (m.rows.take k)[i]? = some r at hi
    rw [List.getElem?_take] at hi
    split at hi
    · exact h7 i r j av hi hj
    · cases hi
end Go.Ax

namespace Go.Ax
open Go Go.RowKit
def genA (ρ : Nat → Option Nat) (a c : AV) : Prop :=
  (∃ b' b sz row n, a = .ps b' sz row n ∧ c = .ps b sz row n ∧ ρ b = some b') ∨ (∃ b sz row, a = .v (.slice none 0 0) ∧ c = .ps b sz row 0) ∨ (Le a c ∧ Cl c)
def genR (ρ : Nat → Option Nat) (rows rows' : List (List AV)) : Prop :=
  rows'.length = rows.length ∧ ∀ (i : Nat) (r' : List AV), rows'[i]? = some r' → ∃ r, rows[i]? = some r ∧ r'.length = r.length ∧ ∀ (j : Nat) (c : AV), r'[j]? = some c → ∃ a, r[j]? = some a ∧ genA ρ a c
def genσ (ρ : Nat → Option Nat) (σ : Sig) : Sig := fun b => (ρ b).bind σ
theorem genA_rel {ρ : Nat → Option Nat} {σ : Sig} {S : Nat → Prop} {w : World} {x : Value} {a c : AV} (h : genA ρ a c) (hr : Rel σ S w x a) : Rel (genσ ρ σ) S w x c := by
  rcases h with ⟨b', b, sz, row, n, rfl, rfl, h⟩ | ⟨b, sz, row, rfl, rfl⟩ | ⟨h, hc⟩
  · cases hr with
    | ps hσ q1 q2 q3 => exact .ps (by simp [genσ, h, hσ]) q1 q2 q3
    | ps0 => exact .ps0
  · cases hr; exact .ps0
  · exact (hc _ _ _ _ (h _ _ _ _ hr)).mono (fun _ _ h => by cases h) (fun _ h => h) keeps_refl
theorem Weak.gen {s s' : AS} (ρ : Nat → Option Nat) (h0 : ρ 0 = some 0) (hd : ∀ b k, ρ b = some k → b < s'.next)
    (hi : ∀ b b' m m' k, look s'.mem b = some m → look s'.mem b' = some m' → ρ b = some k → ρ b' = some k → b = b')
    (he : ∀ t c, look s'.env t = some c → ∃ a, look s.env t = some a ∧ genA ρ a c)
    (hm : ∀ k m', look s'.mem k = some m' → (m'.rows = [] ∧ ρ k = none) ∨ ∃ k0 m0, ρ k = some k0 ∧ look s.mem k0 = some m0 ∧ m'.sz = m0.sz ∧ genR ρ m0.rows m'.rows) : Weak s s' := by
  intro D S0 w0 σ S w hF _
  have un : ∀ b k, genσ ρ σ b = some k → ∃ b0, ρ b = some b0 ∧ σ b0 = some k := fun b k h => by
    unfold genσ at h
    cases hb : ρ b with
    | none => rw [hb] at h; cases h
    | some b0 => rw [hb] at h; exact ⟨b0, rfl, h⟩
  refine ⟨genσ ρ σ, S, ⟨hF.below, fun b k hk => ?_, fun b b' k m m' h1 h2 h3 h4 => ?_, hF.sbd, hF.s0, hF.s1, ⟨hF.glob.1, fun k hk => by simp [genσ, h0, hF.glob.2 k hk]⟩, fun b m' h => ?_⟩, fun a hE t c ht => ?_⟩
  · obtain ⟨b0, q1, q2⟩ := un b k hk
    exact ⟨hd b b0 q1, (hF.dom b0 k q2).2⟩
  · obtain ⟨b0, q1, q2⟩ := un b k h3
    obtain ⟨b1, q3, q4⟩ := un b' k h4
    rcases hm b m h1 with ⟨_, g⟩ | ⟨k0, m0, g1, g2, _⟩
    · rw [g] at q1; cases q1
    rcases hm b' m' h2 with ⟨_, g⟩ | ⟨k1, m1, g3, g4, _⟩
    · rw [g] at q3; cases q3
    have e0 : k0 = b0 := Option.some.inj (g1.symm.trans q1)
    have e1 : k1 = b1 := Option.some.inj (g3.symm.trans q3)
    subst e0 e1
    have := hF.inj k0 k1 k m0 m1 g2 g4 q2 q4
    subst this
    exact hi b b' m m' k0 h1 h2 q1 q3
  · rcases hm b m' h with ⟨g1, g2⟩ | ⟨k0, m0, g1, g2, g3, g4, g5⟩
    · exact .inl ⟨g1, by simp [genσ, g2]⟩
    · rcases hF.mem k0 m0 g2 with ⟨f1, f2⟩ | ⟨k, c0, e, f1, f2, f3, f4, f5, f6, f7⟩
      · refine .inl ⟨?_, by simp [genσ, g1, f2]⟩
        rw [f1] at g4; exact List.length_eq_zero_iff.1 g4
      · refine .inr ⟨k, c0, e, by simp [genσ, g1, f1], f2, f3, f4, fun r' hr' => ?_, by rw [g3, g4]; exact f6, fun i r' j c hi' hj => ?_⟩
        · obtain ⟨i, hi'⟩ := List.getElem?_of_mem hr'
          obtain ⟨r, q1, q2, _⟩ := g5 i r' hi'
          rw [q2, g3]; exact f5 r (List.mem_of_getElem? q1)
        · obtain ⟨r, q1, q2, q3⟩ := g5 i r' hi'
          obtain ⟨a0, q4, q5⟩ := q3 j c hj
          obtain ⟨x, hx, hr⟩ := f7 i r j a0 q1 q4
          exact ⟨x, by rw [g3]; exact hx, genA_rel q5 hr⟩
  · obtain ⟨a0, h1, h2⟩ := he t c ht
    obtain ⟨x, hx, hr⟩ := hE t a0 h1
    exact ⟨x, hx, genA_rel h2 hr⟩
theorem genR.refl {ρ : Nat → Option Nat} {rows : List (List AV)} (h : ∀ r ∈ rows, ∀ a ∈ r, genA ρ a a) : genR ρ rows rows :=
  ⟨rfl, fun i r hr => ⟨r, hr, rfl, fun j c hc => ⟨c, hc, h r (List.mem_of_getElem? hr) c (List.mem_of_getElem? hc)⟩⟩⟩
theorem genR.append {ρ : Nat → Option Nat} {a b c d : List (List AV)} (h : genR ρ a b) (k : genR ρ c d) : genR ρ (a ++ c) (b ++ d) := by
  obtain ⟨h1, h2⟩ := h
  obtain ⟨k1, k2⟩ := k
  refine ⟨by simp [h1, k1], fun i r hr => ?_⟩
  by_cases hi : i < b.length
  · rw [List.getElem?_append_left hi] at hr
    obtain ⟨r0, q1, q2⟩ := h2 i r hr
    exact ⟨r0, by rw [List.getElem?_append_left (by omega)]; exact q1, q2⟩
  · rw [List.getElem?_append_right (by omega)] at hr
    obtain ⟨r0, q1, q2⟩ := k2 _ r hr
    exact ⟨r0, by rw [List.getElem?_append_right (by omega), ← h1]; exact q1, q2⟩
theorem genR.one {ρ : Nat → Option Nat} {a c : AV} {R R' : List (List AV)} (h : genA ρ a c) (k : genR ρ R R') : genR ρ ([a] :: R) ([c] :: R') :=
  genR.append (a := [[a]]) (b := [[c]]) ⟨rfl, fun i r hr => by
    match i with
    | 0 =>
      simp at hr; subst hr
      exact ⟨[a], rfl, rfl, fun j c' hc => by
        match j with
        | 0 => simp at hc; subst hc; exact ⟨a, rfl, h⟩
        | j + 1 => simp at hc⟩
    | i + 1 => simp at hr⟩ k
theorem genR.rows {ρ : Nat → Option Nat} {rows : List (List AV)} (h : ∀ r ∈ rows, ∀ a ∈ r, Cl a) : genR ρ rows rows := .refl fun r hr a ha => .inr (.inr ⟨.refl _, h r hr a ha⟩)
end Go.Ax

namespace Go.Ax
open Go Go.RowKit
structure CallN (P : Program) (G : GL) (f : FuncId) (args : List AV) (res : AV) (mem : List (Nat × MB)) (nx : Nat) : Prop where
  enters : Enters P f
  cla : ∀ x ∈ args, Cl x
  runs : ∀ (S : Nat → Prop) (w : World) (vs : Array Value), (∀ k, S k → k < w.heap.size) → GS G S w → vs.size = args.length →
    (∀ (i : Nat) (x : Value) (av : AV), vs[i]? = some x → args[i]? = some av → Rel nσ S w x av) →
    Calls P f vs w fun e w' => ∃ x σ S', e = .returned x ∧ Fit ⟨fun _ => False, G, none⟩ S w σ S' mem (fun b => b < nx) w' ∧ Rel σ S' w' x res
end Go.Ax

namespace Go.Ax
def sumD : Nat → (Nat → Dy) → Dy
  | 0, _ => Dy.zero
  | n + 1, f => (sumD n f).add (f n)
def sumQ : Nat → (Nat → Rat) → Rat
  | 0, _ => 0
  | n + 1, f => sumQ n f + f n
theorem sumQ_congr {f g : Nat → Rat} : ∀ {n : Nat}, (∀ i, i < n → f i = g i) → sumQ n f = sumQ n g
  | 0, _ => rfl
  | n + 1, h => by simp only [sumQ]; rw [sumQ_congr (fun i hi => h i (by omega)), h n (by omega)]
theorem v_sumD (f : Nat → Dy) : ∀ n, (sumD n f).v = sumQ n fun i => (f i).v
  | 0 => Dy.v_zero
  | n + 1 => by simp only [sumD, sumQ]; rw [Dy.v_add, v_sumD f n]
theorem sumQ_add (f g : Nat → Rat) : ∀ n, sumQ n (fun i => f i + g i) = sumQ n f + sumQ n g
  | 0 => by simp only [sumQ]; grind
  | n + 1 => by simp only [sumQ]; rw [sumQ_add f g n]; grind
theorem sumQ_mul (c : Rat) (f : Nat → Rat) : ∀ n, sumQ n (fun i => f i * c) = sumQ n f * c
  | 0 => by simp only [sumQ]; grind
  | n + 1 => by simp only [sumQ]; rw [sumQ_mul c f n]; grind
theorem sumQ_mul' (c : Rat) (f : Nat → Rat) : ∀ n, sumQ n (fun i => c * f i) = c * sumQ n f
  | 0 => by simp only [sumQ]; grind
  | n + 1 => by simp only [sumQ]; rw [sumQ_mul' c f n]; grind
theorem sumQ_zero : ∀ n, sumQ n (fun _ => 0) = 0
  | 0 => rfl
  | n + 1 => by simp only [sumQ]; rw [sumQ_zero n]; grind
theorem sumQ_comm (f : Nat → Nat → Rat) (m : Nat) : ∀ n, sumQ n (fun i => sumQ m fun j => f i j) = sumQ m fun j => sumQ n fun i => f i j
  | 0 => by simp only [sumQ]; rw [sumQ_zero]
  | n + 1 => by simp only [sumQ]; rw [sumQ_comm f m n, ← sumQ_add]
theorem sumQ_le {f g : Nat → Rat} : ∀ {n : Nat}, (∀ i, i < n → f i ≤ g i) → sumQ n f ≤ sumQ n g
  | 0, _ => Rat.le_refl
  | n + 1, h => by
    simp only [sumQ]
    have h1 := sumQ_le (n := n) (fun i hi => h i (by omega))
    have h2 := h n (by omega)
    grind
theorem sumQ_nonneg {f : Nat → Rat} {n : Nat} (h : ∀ i, i < n → 0 ≤ f i) : 0 ≤ sumQ n f := by
  have := sumQ_le (f := fun _ => 0) (g := f) (n := n) h
  rwa [sumQ_zero] at this
def absQ (x : Rat) : Rat := if x < 0 then -x else x
theorem absQ_nn (x : Rat) : 0 ≤ absQ x := by unfold absQ; split <;> grind
theorem absQ_le {x y : Rat} : absQ x ≤ y ↔ x ≤ y ∧ -x ≤ y := by unfold absQ; split <;> constructor <;> intro h <;> grind
theorem le_absQ (x : Rat) : x ≤ absQ x ∧ -x ≤ absQ x := absQ_le.1 Rat.le_refl
theorem absQ_mul (x y : Rat) : absQ (x * y) = absQ x * absQ y := by
  unfold absQ
  by_cases hx : x < 0 <;> by_cases hy : y < 0
  · rw [if_pos hx, if_pos hy, if_neg (by have := Rat.mul_pos (show (0 : Rat) < -x by grind) (show 0 < -y by grind); grind)]; grind
  · rw [if_pos hx, if_neg hy]
    have h1 := Rat.mul_nonneg (show (0 : Rat) ≤ -x by grind) (show 0 ≤ y by grind)
    split <;> grind
  · rw [if_neg hx, if_pos hy]
    have h1 := Rat.mul_nonneg (show (0 : Rat) ≤ x by grind) (show 0 ≤ -y by grind)
    split <;> grind
  · rw [if_neg hx, if_neg hy]
    have h1 := Rat.mul_nonneg (show (0 : Rat) ≤ x by grind) (show 0 ≤ y by grind)
    split <;> grind
theorem absQ_sum (f : Nat → Rat) : ∀ n, absQ (sumQ n f) ≤ sumQ n fun i => absQ (f i)
  | 0 => by simp only [sumQ]; unfold absQ; split <;> grind
  | n + 1 => by
    simp only [sumQ]
    have h1 := absQ_sum f n
    rw [absQ_le] at h1 ⊢
    have h2 := le_absQ (f n)
    constructor <;> grind
def el (a : List (List Dy)) (i j : Nat) : Dy := (a.getD i []).getD j Dy.zero
def tabV (m : Nat) (f : Nat → Dy) : List Dy := (List.range m).map f
def tabD (n m : Nat) (f : Nat → Nat → Dy) : List (List Dy) := (List.range n).map fun i => tabV m (f i)
def rect (n m : Nat) (a : List (List Dy)) : Prop := a.length = n ∧ ∀ i, i < n → (a.getD i []).length = m
theorem tabV_len {m : Nat} {f : Nat → Dy} : (tabV m f).length = m := by simp [tabV]
theorem tabV_get {m : Nat} {f : Nat → Dy} {j : Nat} (h : j < m) : (tabV m f).getD j Dy.zero = f j := by simp [tabV, List.getD, h]
theorem tabD_len {n m : Nat} {f : Nat → Nat → Dy} : (tabD n m f).length = n := by simp [tabD]
theorem tabD_row {n m : Nat} {f : Nat → Nat → Dy} {i : Nat} (h : i < n) : (tabD n m f).getD i [] = tabV m (f i) := by simp [tabD, List.getD, h]
theorem tabD_rect {n m : Nat} {f : Nat → Nat → Dy} : rect n m (tabD n m f) := ⟨tabD_len, fun i h => by rw [tabD_row h, tabV_len]⟩
theorem tabD_el {n m : Nat} {f : Nat → Nat → Dy} {i j : Nat} (h : i < n) (k : j < m) : el (tabD n m f) i j = f i j := by unfold el; rw [tabD_row h, tabV_get k]
theorem list_ext {α : Type} {a b : List α} {d : α} (h : a.length = b.length) (k : ∀ i, i < a.length → a.getD i d = b.getD i d) : a = b :=
  List.ext_getElem h fun i h1 h2 => by
    have := k i h1
    simpa [List.getD, h1, h2] using this
theorem rect_ext {n m : Nat} {a b : List (List Dy)} (ha : rect n m a) (hb : rect n m b) (h : ∀ i j, i < n → j < m → (el a i j).v = (el b i j).v) : a = b :=
  list_ext (d := []) (by rw [ha.1, hb.1]) fun i hi => by
    rw [ha.1] at hi
    exact list_ext (d := Dy.zero) (by rw [ha.2 i hi, hb.2 i hi]) fun j hj => by
      rw [ha.2 i hi] at hj
      exact Dy.ext_v (h i j hi hj)
def dotD (x : List Dy) (f : Nat → Dy) : Dy := sumD x.length fun k => (x.getD k Dy.zero).mul (f k)
def unitD (n : Nat) : List (List Dy) := tabD n n fun i j => if i = j then Dy.int 1 else Dy.zero
def addD (a b : List (List Dy)) : List (List Dy) := tabD a.length (a.getD 0 []).length fun i j => (el a i j).add (el b i j)
def mulD (a b : List (List Dy)) : List (List Dy) := tabD a.length (b.getD 0 []).length fun i j => dotD (a.getD i []) fun k => el b k j
def powD (a : List (List Dy)) : Nat → List (List Dy)
  | 0 => unitD a.length
  | k + 1 => mulD (powD a k) a
def absD (a : List (List Dy)) : List (List Dy) := tabD a.length (a.getD 0 []).length fun i j => (el a i j).abs
def appD (a : List (List Dy)) (x : List Dy) : List Dy := tabV a.length fun i => dotD (a.getD i []) fun k => x.getD k Dy.zero
def fine (k : Nat) (a : List (List Dy)) : Prop := ∀ i j, (el a i j).d ≤ k
theorem el_out {n m : Nat} {a : List (List Dy)} (h : rect n m a) {i j : Nat} (k : ¬ (i < n ∧ j < m)) : el a i j = Dy.zero := by
  unfold el
  by_cases hi : i < n
  · have hl := h.2 i hi
    rw [List.getD, List.getElem?_eq_none (by omega)]; rfl
  · have : a.getD i [] = [] := by rw [List.getD, List.getElem?_eq_none (by have := h.1; omega)]; rfl
    rw [this]; rfl
theorem fine_of {n m k : Nat} {a : List (List Dy)} (h : rect n m a) (f : ∀ i j, i < n → j < m → (el a i j).d ≤ k) : fine k a := fun i j => by
  by_cases hij : i < n ∧ j < m
  · exact f i j hij.1 hij.2
  · rw [el_out h hij]; exact Nat.zero_le _
theorem d_sumD {f : Nat → Dy} {k : Nat} : ∀ {n : Nat}, (∀ i, i < n → (f i).d ≤ k) → (sumD n f).d ≤ k
  | 0, _ => Nat.zero_le _
  | n + 1, h => by
    have h1 := d_sumD (n := n) (fun i hi => h i (by omega))
    have h2 := h n (by omega)
    have := Dy.d_add (sumD n f) (f n)
    simp only [sumD]; omega
theorem Dy.d_mul_le (a b : Dy) (h : a.d + b.d ≤ 65536) : (a.mul b).d ≤ a.d + b.d := Dy.d_nrm h
theorem rect_mul {n m l : Nat} {a b : List (List Dy)} (ha : rect n m a) (hb : rect m l b) (hm : 0 < m) : rect n l (mulD a b) := by
  unfold mulD
  rw [ha.1, hb.2 0 hm]; exact tabD_rect
theorem el_mul {n m l : Nat} {a b : List (List Dy)} (ha : rect n m a) (hb : rect m l b) (hm : 0 < m) {i j : Nat} (hi : i < n) (hj : j < l) : el (mulD a b) i j = sumD m fun k => (el a i k).mul (el b k j) := by
  unfold mulD
  rw [ha.1, hb.2 0 hm, tabD_el hi hj]
  unfold dotD
  rw [ha.2 i hi]; rfl
theorem v_mul_el {n m l p q : Nat} {a b : List (List Dy)} (ha : rect n m a) (hb : rect m l b) (hm : 0 < m) (fa : fine p a) (fb : fine q b) (h : p + q ≤ 65536) {i j : Nat} (hi : i < n) (hj : j < l) :
    (el (mulD a b) i j).v = sumQ m fun k => (el a i k).v * (el b k j).v := by
  rw [el_mul ha hb hm hi hj, v_sumD]
  exact sumQ_congr fun k _ => Dy.v_mul_of _ _ (by have := fa i k; have := fb k j; omega)
theorem fine_mul {n m l p q : Nat} {a b : List (List Dy)} (ha : rect n m a) (hb : rect m l b) (hm : 0 < m) (fa : fine p a) (fb : fine q b) (h : p + q ≤ 65536) : fine (p + q) (mulD a b) :=
  fine_of (rect_mul ha hb hm) fun i j hi hj => by
    rw [el_mul ha hb hm hi hj]
    exact d_sumD fun k _ => by
      have h1 := fa i k; have h2 := fb k j
      have := Dy.d_mul_le (el a i k) (el b k j) (by omega)
      omega
theorem unit_rect (n : Nat) : rect n n (unitD n) := tabD_rect
theorem unit_fine (n : Nat) : fine 0 (unitD n) := fine_of (unit_rect n) fun i j hi hj => by
  unfold unitD; rw [tabD_el hi hj]; split
  · exact Nat.le_refl _
  · exact Nat.le_refl _
theorem sumQ_delta {f : Nat → Rat} {j : Nat} : ∀ {n : Nat}, sumQ n (fun k => f k * (if k = j then 1 else 0)) = if j < n then f j else 0
  | 0 => rfl
  | n + 1 => by
    simp only [sumQ]
    rw [sumQ_delta]
    by_cases h : n = j
    · subst h; rw [if_neg (Nat.lt_irrefl _), if_pos rfl, if_pos (by omega)]; grind
    · by_cases h2 : j < n
      · rw [if_pos h2, if_neg h, if_pos (by omega)]; grind
      · rw [if_neg h2, if_neg h, if_neg (by omega)]; grind
theorem v_int1 : (Dy.int 1).v = 1 := by rw [Dy.v_int]; rfl
theorem pow_rect {n : Nat} {a : List (List Dy)} (ha : rect n n a) (hn : 0 < n) : ∀ k, rect n n (powD a k)
  | 0 => by simp only [powD]; rw [ha.1]; exact unit_rect n
  | k + 1 => rect_mul (pow_rect ha hn k) ha hn
theorem pow_fine {n p : Nat} {a : List (List Dy)} (ha : rect n n a) (hn : 0 < n) (fa : fine p a) : ∀ k, p * k ≤ 65536 → fine (p * k) (powD a k)
  | 0, _ => by simp only [powD]; rw [ha.1]; exact unit_fine n
  | k + 1, h => by rw [Nat.mul_succ] at h ⊢; exact fine_mul (pow_rect ha hn k) ha hn (pow_fine ha hn fa k (by omega)) fa (by omega)
theorem rect_add {n m : Nat} {a b : List (List Dy)} (ha : rect n m a) (hn : 0 < n) : rect n m (addD a b) := by unfold addD; rw [ha.1, ha.2 0 hn]; exact tabD_rect
theorem el_add {n m : Nat} {a b : List (List Dy)} (ha : rect n m a) (hn : 0 < n) {i j : Nat} (hi : i < n) (hj : j < m) : el (addD a b) i j = (el a i j).add (el b i j) := by unfold addD; rw [ha.1, ha.2 0 hn, tabD_el hi hj]
theorem fine_add {n m p : Nat} {a b : List (List Dy)} (ha : rect n m a) (hn : 0 < n) (fa : fine p a) (fb : fine p b) : fine p (addD a b) :=
  fine_of (rect_add ha hn) fun i j hi hj => by
    rw [el_add ha hn hi hj]
    have := Dy.d_add (el a i j) (el b i j); have := fa i j; have := fb i j; omega
def fineV (k : Nat) (x : List Dy) : Prop := ∀ i, (x.getD i Dy.zero).d ≤ k
theorem fineV_of {n k : Nat} {x : List Dy} (h : x.length = n) (f : ∀ i, i < n → (x.getD i Dy.zero).d ≤ k) : fineV k x := fun i => by
  by_cases hi : i < n
  · exact f i hi
  · rw [List.getD, List.getElem?_eq_none (by omega)]; exact Nat.zero_le _
theorem app_len {a : List (List Dy)} {x : List Dy} : (appD a x).length = a.length := tabV_len
theorem el_app {n m : Nat} {a : List (List Dy)} {x : List Dy} (ha : rect n m a) {i : Nat} (hi : i < n) : (appD a x).getD i Dy.zero = sumD m fun k => (el a i k).mul (x.getD k Dy.zero) := by
  unfold appD
  rw [ha.1, tabV_get hi]; unfold dotD; rw [ha.2 i hi]; rfl
theorem v_app {n m p q : Nat} {a : List (List Dy)} {x : List Dy} (ha : rect n m a) (fa : fine p a) (fx : fineV q x) (h : p + q ≤ 65536) {i : Nat} (hi : i < n) : ((appD a x).getD i Dy.zero).v = sumQ m fun k => (el a i k).v * (x.getD k Dy.zero).v := by
  rw [el_app ha hi, v_sumD]
  exact sumQ_congr fun k _ => Dy.v_mul_of _ _ (by have := fa i k; have := fx k; omega)
theorem fine_app {n m p q : Nat} {a : List (List Dy)} {x : List Dy} (ha : rect n m a) (fa : fine p a) (fx : fineV q x) (h : p + q ≤ 65536) : fineV (p + q) (appD a x) :=
  fineV_of (by rw [app_len, ha.1]) fun i hi => by
    rw [el_app ha hi]
    exact d_sumD fun k _ => by
      have h1 := fa i k; have h2 := fx k
      have := Dy.d_mul_le (el a i k) (x.getD k Dy.zero) (by omega)
      omega
end Go.Ax

namespace Go.Ax
open Go Go.RowKit
theorem MLe.dy0 : MLe ⟨3, [[.v (.bool false), .v (.slice none 0 0), .v (.int .i64 0)]]⟩ ⟨3, [crow Dy.zero]⟩ := ⟨rfl, rfl, fun i r' h => by
  match i with
  | 0 =>
    simp at h; subst h
    exact ⟨_, rfl, rfl, fun j a hj => LeL.dy0.get j a (by rw [← can_zero]; exact hj)⟩
  | i + 1 => simp at h⟩
def okR (k : Nat) (x : RD) : Prop := x.ok ∧ Mg k x.dy
def okV (k : Nat) (l : List RD) : Prop := ∀ i, okR k (l.getD i RD.zero)
def okM (k : Nat) (a : List (List RD)) : Prop := ∀ i, okV k (a.getD i [])
theorem okR.mono {k m : Nat} {x : RD} (h : okR k x) (hk : k ≤ m) : okR m x := ⟨h.1, h.2.mono hk⟩
theorem okM.mono {k m : Nat} {a : List (List RD)} (h : okM k a) (hk : k ≤ m) : okM m a := fun i j => (h i j).mono hk
end Go.Ax

namespace Go.Ax
open Go Go.RowKit
theorem genR.mle {ρ : Nat → Option Nat} {z L : List (List AV)} (h : MLe ⟨3, z⟩ ⟨3, L⟩) (hL : ∀ r ∈ L, ∀ a ∈ r, Cl a) : genR ρ z L :=
  ⟨h.2.1, fun i r' hr => by
    obtain ⟨r, q1, q2, q3⟩ := h.2.2 i r' hr
    exact ⟨r, q1, q2, fun j c hc => by
      obtain ⟨a, g1, g2⟩ := q3 j c hc
      exact ⟨a, g1, .inr (.inr ⟨g2, hL r' (List.mem_of_getElem? hr) c (List.mem_of_getElem? hc)⟩)⟩⟩⟩
section
variable {C : Cx} {n' : Nat} {r : List It} {s : AS} {Q : Lab → AS → Prop} {d : Option Tmp}
end
end Go.Ax

namespace Go.Ax
theorem sumQ_delta' {f : Nat → Rat} {j n : Nat} : sumQ n (fun k => (if j = k then 1 else 0) * f k) = if j < n then f j else 0 := by
  rw [← sumQ_delta (f := f) (j := j) (n := n)]
  exact sumQ_congr fun k _ => by
    by_cases h : k = j
    · rw [if_pos h, if_pos h.symm]; grind
    · rw [if_neg h, if_neg (fun e => h e.symm)]; grind
theorem unit_mulD {n m p : Nat} {a : List (List Dy)} (ha : rect n m a) (hn : 0 < n) (fa : fine p a) (h : p ≤ 65536) : mulD (unitD n) a = a := by
  refine rect_ext (rect_mul (unit_rect n) ha hn) ha fun i j hi hj => ?_
  rw [v_mul_el (unit_rect n) ha hn (unit_fine n) fa (by omega) hi hj]
  rw [sumQ_congr (g := fun k => (if i = k then 1 else 0) * (el a k j).v) (fun k hk => by
    unfold unitD; rw [tabD_el hi hk]
    by_cases e : i = k
    · rw [if_pos e, if_pos e, v_int1]
    · rw [if_neg e, if_neg e, Dy.v_zero]), sumQ_delta' (f := fun k => (el a k j).v), if_pos hi]
theorem pow_one {n p : Nat} {a : List (List Dy)} (ha : rect n n a) (hn : 0 < n) (fa : fine p a) (h : p ≤ 65536) : powD a 1 = a := by
  show mulD (unitD a.length) a = a
  rw [ha.1]; exact unit_mulD ha hn fa h
theorem v_abs (x : Dy) : x.abs.v = absQ x.v := by
  unfold absQ
  exact Dy.v_abs x
theorem rect_abs {n m : Nat} {a : List (List Dy)} (ha : rect n m a) (hn : 0 < n) : rect n m (absD a) := by unfold absD; rw [ha.1, ha.2 0 hn]; exact tabD_rect
theorem el_abs {n m : Nat} {a : List (List Dy)} (ha : rect n m a) (hn : 0 < n) {i j : Nat} (hi : i < n) (hj : j < m) : el (absD a) i j = (el a i j).abs := by unfold absD; rw [ha.1, ha.2 0 hn, tabD_el hi hj]
theorem fine_abs {n m p : Nat} {a : List (List Dy)} (ha : rect n m a) (hn : 0 < n) (fa : fine p a) : fine p (absD a) :=
  fine_of (rect_abs ha hn) fun i j hi hj => by rw [el_abs ha hn hi hj]; exact fa i j
end Go.Ax

namespace Go.Ax
open Go Go.RowKit
def sumV (x y : List Dy) : List Dy := tabV x.length fun i => (x.getD i Dy.zero).add (y.getD i Dy.zero)
theorem sumV_len (x y : List Dy) : (sumV x y).length = x.length := tabV_len
theorem sumV_get {x y : List Dy} {i : Nat} (h : i < x.length) : (sumV x y).getD i Dy.zero = (x.getD i Dy.zero).add (y.getD i Dy.zero) := tabV_get h
def zeroV (n : Nat) : List Dy := List.replicate n Dy.zero
def pushD (dv : List (List Dy)) (w outer : List Dy) : List Dy := sumV (appD dv outer) w
def driftD (a : List (List Dy)) (push : List Dy) : Nat → List Dy
  | 0 => zeroV a.length
  | j + 1 => sumV (driftD a push j) (appD (absD (powD a j)) push)
def reachD (a dv : List (List Dy)) (w inner outer : List Dy) (j : Nat) : List Dy := sumV (appD (absD (powD a j)) inner) (driftD a (pushD dv w outer) j)
def withinD (x box : List Dy) : Bool := decide (∀ i, i < x.length → (x.getD i Dy.zero).abs.cmp (box.getD i Dy.zero) ≤ 0)
end Go.Ax

namespace Go.Ax
open Go Go.RowKit
def genP (ρ : Nat → Option Nat) (a c : AV) : Prop := genA ρ a c ∨ ∃ b' b sz row j, a = .p b' sz row j ∧ c = .p b sz row j ∧ ρ b = some b'
theorem genP_rel {ρ : Nat → Option Nat} {σ : Sig} {S : Nat → Prop} {w : World} {x : Value} {a c : AV} (h : genP ρ a c) (hr : Rel σ S w x a) : Rel (genσ ρ σ) S w x c := by
  rcases h with h | ⟨b', b, sz, row, j, rfl, rfl, h⟩
  · exact genA_rel h hr
  · cases hr with
    | p hσ => exact .p (by simp [genσ, h, hσ])
theorem Weak.genE {s s' : AS} (ρ : Nat → Option Nat) (h0 : ρ 0 = some 0) (hd : ∀ b k, ρ b = some k → b < s'.next)
    (hi : ∀ b b' m m' k, look s'.mem b = some m → look s'.mem b' = some m' → ρ b = some k → ρ b' = some k → b = b')
    (he : ∀ t c, look s'.env t = some c → ∃ a, look s.env t = some a ∧ genP ρ a c)
    (hm : ∀ k m', look s'.mem k = some m' → (m'.rows = [] ∧ ρ k = none) ∨ ∃ k0 m0, ρ k = some k0 ∧ look s.mem k0 = some m0 ∧ m'.sz = m0.sz ∧ genR ρ m0.rows m'.rows) : Weak s s' := by
  intro D S0 w0 σ S w hF hn
  obtain ⟨σ', S', g1, g2⟩ := Weak.gen (s := ⟨[], s.mem, s.next⟩) (s' := ⟨[], s'.mem, s'.next⟩) ρ h0 hd hi (fun t c h => by cases h) hm D S0 w0 σ S w hF hn
  have un : ∀ b k, genσ ρ σ b = some k → ∃ b0, ρ b = some b0 ∧ σ b0 = some k := fun b k h => by
    unfold genσ at h
    cases hb : ρ b with
    | none => rw [hb] at h; cases h
    | some b0 => rw [hb] at h; exact ⟨b0, rfl, h⟩
  refine ⟨genσ ρ σ, S, ⟨hF.below, fun b k hk => ?_, fun b b' k m m' h1 h2 h3 h4 => ?_, hF.sbd, hF.s0, hF.s1, ⟨hF.glob.1, fun k hk => by simp [genσ, h0, hF.glob.2 k hk]⟩, fun b m' h => ?_⟩, fun a hE t c ht => ?_⟩
  · obtain ⟨b0, q1, q2⟩ := un b k hk
    exact ⟨hd b b0 q1, (hF.dom b0 k q2).2⟩
  · obtain ⟨b0, q1, q2⟩ := un b k h3
    obtain ⟨b1, q3, q4⟩ := un b' k h4
    rcases hm b m h1 with ⟨_, g⟩ | ⟨k0, m0, g1, g2, _⟩
    · rw [g] at q1; cases q1
    rcases hm b' m' h2 with ⟨_, g⟩ | ⟨k1, m1, g3, g4, _⟩
    · rw [g] at q3; cases q3
    have e0 : k0 = b0 := Option.some.inj (g1.symm.trans q1)
    have e1 : k1 = b1 := Option.some.inj (g3.symm.trans q3)
    subst e0 e1
    have := hF.inj k0 k1 k m0 m1 g2 g4 q2 q4
    subst this
    exact hi b b' m m' k0 h1 h2 q1 q3
  · rcases hm b m' h with ⟨g1, g2⟩ | ⟨k0, m0, g1, g2, g3, g4, g5⟩
    · exact .inl ⟨g1, by simp [genσ, g2]⟩
    · rcases hF.mem k0 m0 g2 with ⟨f1, f2⟩ | ⟨k, c0, e, f1, f2, f3, f4, f5, f6, f7⟩
      · refine .inl ⟨?_, by simp [genσ, g1, f2]⟩
        rw [f1] at g4; exact List.length_eq_zero_iff.1 g4
      · refine .inr ⟨k, c0, e, by simp [genσ, g1, f1], f2, f3, f4, fun r' hr' => ?_, by rw [g3, g4]; exact f6, fun i r' j c hi' hj => ?_⟩
        · obtain ⟨i, hi'⟩ := List.getElem?_of_mem hr'
          obtain ⟨r, q1, q2, _⟩ := g5 i r' hi'
          rw [q2, g3]; exact f5 r (List.mem_of_getElem? q1)
        · obtain ⟨r, q1, q2, q3⟩ := g5 i r' hi'
          obtain ⟨a0, q4, q5⟩ := q3 j c hj
          obtain ⟨x, hx, hr⟩ := f7 i r j a0 q1 q4
          exact ⟨x, by rw [g3]; exact hx, genA_rel q5 hr⟩
  · obtain ⟨a0, h1, h2⟩ := he t c ht
    obtain ⟨x, hx, hr⟩ := hE t a0 h1
    exact ⟨x, hx, genP_rel h2 hr⟩
def gEnv (ρ : Nat → Option Nat) (env : List (Nat × AV)) : List (Nat × AV) → Prop
  | [] => True
  | (t, x) :: l => (∃ a, look env t = some a ∧ genP ρ a x) ∧ gEnv ρ env l
theorem gEnv_look {ρ : Nat → Option Nat} {env : List (Nat × AV)} : ∀ (l : List (Nat × AV)), gEnv ρ env l → ∀ t x, look l t = some x → ∃ a, look env t = some a ∧ genP ρ a x
  | [], _, t, x, h => by cases h
  | (t', x') :: l, hl, t, x, h => by
    simp only [look] at h
    split at h
    · rename_i he; injection h with h; subst he h; exact hl.1
    · exact gEnv_look l hl.2 t x h
def gMem (ρ : Nat → Option Nat) (mem : List (Nat × MB)) : List (Nat × MB) → Prop
  | [] => True
  | (k, m') :: l => ((m'.rows = [] ∧ ρ k = none) ∨ ∃ k0 m0, ρ k = some k0 ∧ look mem k0 = some m0 ∧ m'.sz = m0.sz ∧ genR ρ m0.rows m'.rows) ∧ gMem ρ mem l
theorem gMem_look {ρ : Nat → Option Nat} {mem : List (Nat × MB)} : ∀ (l : List (Nat × MB)), gMem ρ mem l → ∀ k m', look l k = some m' → (m'.rows = [] ∧ ρ k = none) ∨ ∃ k0 m0, ρ k = some k0 ∧ look mem k0 = some m0 ∧ m'.sz = m0.sz ∧ genR ρ m0.rows m'.rows
  | [], _, k, m', h => by cases h
  | (k', m1) :: l, hl, k, m', h => by
    simp only [look] at h
    split at h
    · rename_i he; injection h with h; subst he h; exact hl.1
    · exact gMem_look l hl.2 k m' h
theorem look_mem {α : Type} : ∀ {l : List (Nat × α)} {k : Nat} {x : α}, look l k = some x → (k, x) ∈ l
  | (k', x') :: l, k, x, h => by
    simp only [look] at h
    split at h
    · rename_i he; injection h with h; subst he h; exact List.Mem.head _
    · exact List.Mem.tail _ (look_mem h)
theorem Weak.map {s : AS} (l : List (Nat × Nat)) {E : List (Nat × AV)} {M : List (Nat × MB)} {nx : Nat} (h0 : look l 0 = some 0) (hd : ∀ p ∈ l, p.1 < nx) (hi : ∀ p ∈ l, ∀ q ∈ l, p.2 = q.2 → p.1 = q.1)
    (he : gEnv (look l) s.env E) (hm : gMem (look l) s.mem M) : Weak s ⟨E, M, nx⟩ :=
  Weak.genE (look l) h0 (fun b k h => hd _ (look_mem h)) (fun b b' _ _ k _ _ h1 h2 => hi _ (look_mem h1) _ (look_mem h2) rfl) (gEnv_look E he) (gMem_look M hm)
def frzR (b : Nat) (m : MB) : List AV → List AV → Prop
  | [], [] => True
  | a :: l, c :: l' => (∃ x, Pub [(b, m)] a x ∧ Le x c) ∧ frzR b m l l'
  | _, _ => False
theorem frzR_get {b : Nat} {m : MB} : ∀ {l l' : List AV}, frzR b m l l' → l'.length = l.length ∧ ∀ (j : Nat) (c : AV), l'[j]? = some c → ∃ a x, l[j]? = some a ∧ Pub [(b, m)] a x ∧ Le x c
  | [], [], _ => ⟨rfl, fun j c h => by simp at h⟩
  | a :: l, c :: l', h => by
    obtain ⟨h1, h2⟩ := frzR_get (l := l) (l' := l') h.2
    refine ⟨by simp [h1], fun j c' hj => ?_⟩
    match j with
    | 0 => simp at hj; subst hj; obtain ⟨x, q1, q2⟩ := h.1; exact ⟨a, x, rfl, q1, q2⟩
    | j + 1 => simp at hj; obtain ⟨a', x, q1, q2⟩ := h2 j c' hj; exact ⟨a', x, by simpa using q1, q2⟩
theorem MBle.row {b sz : Nat} {m : MB} {r r' : List AV} (h : frzR b m r r') : MBle b m ⟨sz, [r]⟩ ⟨sz, [r']⟩ := by
  obtain ⟨h1, h2⟩ := frzR_get h
  refine ⟨rfl, rfl, fun i x hx => ?_⟩
  match i with
  | 0 => simp at hx; subst hx; exact ⟨r, rfl, h1, fun j av hj => h2 j av hj⟩
  | i + 1 => simp at hx
end Go.Ax

namespace Go.Ax
def mkL (q : Dy) : Dy := (Dy.int 1).sub q
def mkH (s d : Dy) : Dy := (Dy.int 1).sub (s.mul d)
def mkG (q c s d : Dy) : Dy := ((mkL q).mul (mkH s d)).sub ((s.mul d).mul c)
def mkBad (q c s d : Dy) : Prop := (mkL q).sign ≤ 0 ∨ (mkH s d).sign ≤ 0 ∨ (mkG q c s d).sign ≤ 0
instance (q c s d : Dy) : Decidable (mkBad q c s d) := inferInstanceAs (Decidable (_ ∨ _ ∨ _))
def acceptsD (K : Nat) (a dv : List (List Dy)) (w inner outer : List Dy) : Bool := decide (∀ j, j < K + 1 → withinD (reachD a dv w inner outer j) (if j = K then inner else outer) = true)
end Go.Ax

namespace Go.Ax
def powQ (n : Nat) (A : Nat → Nat → Rat) : Nat → Nat → Nat → Rat
  | 0, i, k => if i = k then 1 else 0
  | j + 1, i, k => sumQ n fun m => powQ n A j i m * A m k
def pushQ (n : Nat) (D : Nat → Nat → Rat) (w y : Nat → Rat) (i : Nat) : Rat := sumQ n (fun k => D i k * y k) + w i
def driftQ (n : Nat) (A : Nat → Nat → Rat) (p : Nat → Rat) (j i : Nat) : Rat := sumQ j fun l => sumQ n fun k => absQ (powQ n A l i k) * p k
def reachQ (n : Nat) (A D : Nat → Nat → Rat) (w x y : Nat → Rat) (j i : Nat) : Rat :=
  sumQ n (fun k => absQ (powQ n A j i k) * x k) + driftQ n A (pushQ n D w y) j i
theorem pushQ_nn {n : Nat} {D : Nat → Nat → Rat} {w y : Nat → Rat} (hD : ∀ i k, i < n → k < n → 0 ≤ D i k) (hw : ∀ i, i < n → 0 ≤ w i) (hy : ∀ i, i < n → 0 ≤ y i) {i : Nat} (hi : i < n) : 0 ≤ pushQ n D w y i := by
  have h1 : 0 ≤ sumQ n fun k => D i k * y k := sumQ_nonneg fun k hk => Rat.mul_nonneg (hD i k hi hk) (hy k hk)
  have h2 := hw i hi
  unfold pushQ; grind
theorem driftQ_nn {n : Nat} {A : Nat → Nat → Rat} {p : Nat → Rat} (hp : ∀ i, i < n → 0 ≤ p i) (j i : Nat) : 0 ≤ driftQ n A p j i :=
  sumQ_nonneg fun l _ => sumQ_nonneg fun k hk => Rat.mul_nonneg (absQ_nn _) (hp k hk)
theorem reachQ_nn {n : Nat} {A D : Nat → Nat → Rat} {w x y : Nat → Rat} (hD : ∀ i k, i < n → k < n → 0 ≤ D i k) (hw : ∀ i, i < n → 0 ≤ w i) (hx : ∀ i, i < n → 0 ≤ x i) (hy : ∀ i, i < n → 0 ≤ y i) (j i : Nat) : 0 ≤ reachQ n A D w x y j i := by
  have h1 : 0 ≤ sumQ n fun k => absQ (powQ n A j i k) * x k := sumQ_nonneg fun k hk => Rat.mul_nonneg (absQ_nn _) (hx k hk)
  have h2 := driftQ_nn (A := A) (fun i hi => pushQ_nn hD hw hy hi) j i
  unfold reachQ; grind
theorem driftQ_mul {n : Nat} {A : Nat → Nat → Rat} {p p' : Nat → Rat} {c : Rat} (h : ∀ i, i < n → p' i = c * p i) (j i : Nat) : driftQ n A p' j i = c * driftQ n A p j i := by
  unfold driftQ
  rw [← sumQ_mul']
  refine sumQ_congr fun l _ => ?_
  rw [← sumQ_mul']
  refine sumQ_congr fun k hk => ?_
  rw [h k hk]; grind
def elQ (a : List (List Dy)) (i k : Nat) : Rat := (el a i k).v
def vQ (x : List Dy) (k : Nat) : Rat := (x.getD k Dy.zero).v
theorem v_pow {n p : Nat} {a : List (List Dy)} (ha : rect n n a) (hn : 0 < n) (fa : fine p a) : ∀ j, p * j ≤ 65536 → ∀ i k, i < n → k < n → (el (powD a j) i k).v = powQ n (elQ a) j i k
  | 0, _, i, k, hi, hk => by
    simp only [powD, powQ]
    rw [ha.1]; unfold unitD
    rw [tabD_el hi hk]
    split
    · exact v_int1
    · exact Dy.v_zero
  | j + 1, h, i, k, hi, hk => by
    rw [Nat.mul_succ] at h
    simp only [powD, powQ]
    rw [v_mul_el (pow_rect ha hn j) ha hn (pow_fine ha hn fa j (by omega)) fa (by omega) hi hk]
    exact sumQ_congr fun m hm => by rw [v_pow ha hn fa j (by omega) i m hi hm]; rfl
theorem v_push {n p q : Nat} {dv : List (List Dy)} {w y : List Dy} (hd : rect n n dv) (fd : fine p dv) (fy : fineV q y) (h : p + q ≤ 65536) {i : Nat} (hi : i < n) : vQ (pushD dv w y) i = pushQ n (elQ dv) (vQ w) (vQ y) i := by
  unfold vQ pushD pushQ
  rw [sumV_get (by rw [app_len, hd.1]; exact hi), Dy.v_add, v_app hd fd fy h hi]; rfl
theorem fine_sumV {k : Nat} {x y : List Dy} (hx : fineV k x) (hy : fineV k y) : fineV k (sumV x y) :=
  fineV_of (n := x.length) (sumV_len x y) fun i hi => by
    rw [sumV_get hi]
    have h1 := hx i
    have h2 := hy i
    have := Dy.d_add (x.getD i Dy.zero) (y.getD i Dy.zero)
    omega
theorem fineV.mono {k m : Nat} {x : List Dy} (h : fineV k x) (hk : k ≤ m) : fineV m x := fun i => Nat.le_trans (h i) hk
theorem fine_push {n p q : Nat} {dv : List (List Dy)} {w y : List Dy} (hd : rect n n dv) (fd : fine p dv) (fy : fineV q y) (fw : fineV q w) (h : p + q ≤ 65536) : fineV (p + q) (pushD dv w y) :=
  fine_sumV (fine_app hd fd fy h) (fw.mono (by omega))
theorem v_absP {n p : Nat} {a : List (List Dy)} (ha : rect n n a) (hn : 0 < n) (fa : fine p a) {j : Nat} (hj : p * j ≤ 65536) {i k : Nat} (hi : i < n) (hk : k < n) : (el (absD (powD a j)) i k).v = absQ (powQ n (elQ a) j i k) := by
  rw [el_abs (pow_rect ha hn j) hn hi hk, v_abs, v_pow ha hn fa j hj i k hi hk]
theorem v_appP {n p q : Nat} {a : List (List Dy)} {x : List Dy} (ha : rect n n a) (hn : 0 < n) (fa : fine p a) (fx : fineV q x) {j : Nat} (hj : p * j + q ≤ 65536) {i : Nat} (hi : i < n) : vQ (appD (absD (powD a j)) x) i = sumQ n fun k => absQ (powQ n (elQ a) j i k) * vQ x k := by
  unfold vQ
  rw [v_app (rect_abs (pow_rect ha hn j) hn) (fine_abs (pow_rect ha hn j) hn (pow_fine ha hn fa j (by omega))) fx hj hi]
  exact sumQ_congr fun k hk => by rw [v_absP ha hn fa (by omega) hi hk]
theorem drift_lenD {n : Nat} {a : List (List Dy)} {x : List Dy} (ha : rect n n a) : ∀ j, (driftD a x j).length = n
  | 0 => by simp [driftD, zeroV, ha.1]
  | j + 1 => by simp only [driftD]; rw [sumV_len]; exact drift_lenD ha j
theorem v_drift {n p q : Nat} {a : List (List Dy)} {x : List Dy} (ha : rect n n a) (hn : 0 < n) (fa : fine p a) (fx : fineV q x) {i : Nat} (hi : i < n) : ∀ j, p * j + q ≤ 65536 → vQ (driftD a x j) i = driftQ n (elQ a) (vQ x) j i
  | 0, _ => by
    unfold vQ driftQ
    simp only [driftD, zeroV, sumQ]
    rw [List.getD, List.getElem?_replicate]
    split <;> exact Dy.v_zero
  | j + 1, h => by
    rw [Nat.mul_succ] at h
    have h1 := v_drift ha hn fa fx hi j (by omega)
    have h2 := v_appP ha hn fa fx (j := j) (by omega) hi
    unfold vQ at h1 h2 ⊢
    simp only [driftD]
    rw [sumV_get (by rw [drift_lenD ha]; exact hi), Dy.v_add, h1, h2]; rfl
theorem v_reach {n p q : Nat} {a dv : List (List Dy)} {w x y : List Dy} (ha : rect n n a) (hn : 0 < n) (hd : rect n n dv) (fa : fine p a) (fd : fine p dv) (fw : fineV q w) (fx : fineV q x) (fy : fineV q y) {j : Nat} (hj : p * j + (p + q) ≤ 65536) {i : Nat} (hi : i < n) :
    vQ (reachD a dv w x y j) i = reachQ n (elQ a) (elQ dv) (vQ w) (vQ x) (vQ y) j i := by
  have h1 := v_appP ha hn fa fx (j := j) (by omega) hi
  have h2 := v_drift ha hn fa (fine_push hd fd fy fw (by omega)) hi j (by omega)
  unfold vQ at h1 h2
  unfold vQ reachD reachQ
  rw [sumV_get (by rw [app_len, (rect_abs (pow_rect ha hn j) hn).1]; exact hi), Dy.v_add, h1, h2]
  refine congrArg _ ?_
  have := driftQ_mul (A := elQ a) (p' := fun k => ((pushD dv w y).getD k Dy.zero).v) (p := pushQ n (elQ dv) (vQ w) (vQ y)) (c := 1) (fun k hk => by
    have := v_push (w := w) hd fd fy (by omega) hk
    unfold vQ at this
    show _ = (1 : Rat) * pushQ n (elQ dv) (vQ w) (vQ y) k
    unfold vQ
    rw [this]; grind) j i
  rw [this]; unfold vQ; grind
theorem reach_lenD {n : Nat} {a dv : List (List Dy)} {w x y : List Dy} (ha : rect n n a) (hn : 0 < n) (j : Nat) : (reachD a dv w x y j).length = n := by
  unfold reachD; rw [sumV_len, app_len, (rect_abs (pow_rect ha hn j) hn).1]
structure TubeD (n p q : Nat) (a dv : List (List Dy)) (w x y : List Dy) : Prop where
  ha : rect n n a
  hn : 0 < n
  hd : rect n n dv
  fa : fine p a
  fd : fine p dv
  fw : fineV q w
  fx : fineV q x
  fy : fineV q y
  nd : ∀ i k, i < n → k < n → 0 ≤ elQ dv i k
  nw : ∀ i, i < n → 0 ≤ vQ w i
  nx : ∀ i, i < n → 0 ≤ vQ x i
  ny : ∀ i, i < n → 0 ≤ vQ y i
section
variable {n p q : Nat} {a dv : List (List Dy)} {w x y : List Dy}
theorem TubeD.reach (T : TubeD n p q a dv w x y) {j : Nat} (hj : p * j + (p + q) ≤ 65536) {i : Nat} (hi : i < n) : vQ (reachD a dv w x y j) i = reachQ n (elQ a) (elQ dv) (vQ w) (vQ x) (vQ y) j i := v_reach T.ha T.hn T.hd T.fa T.fd T.fw T.fx T.fy hj hi
theorem TubeD.nn (T : TubeD n p q a dv w x y) {j : Nat} (hj : p * j + (p + q) ≤ 65536) {i : Nat} (hi : i < n) : 0 ≤ vQ (reachD a dv w x y j) i := by
  rw [T.reach hj hi]; exact reachQ_nn T.nd T.nw T.nx T.ny j i
theorem vQ_mk (x : List Dy) (i : Nat) : (x.getD i Dy.zero).v = vQ x i := rfl
theorem absQ_of_nn {x : Rat} (h : 0 ≤ x) : absQ x = x := by unfold absQ; rw [if_neg (Rat.not_lt.2 h)]
theorem TubeD.within (T : TubeD n p q a dv w x y) {j : Nat} (hj : p * j + (p + q) ≤ 65536) (b : List Dy) : withinD (reachD a dv w x y j) b = true ↔ ∀ i, i < n → vQ (reachD a dv w x y j) i ≤ vQ b i := by
  unfold withinD
  rw [decide_eq_true_iff, reach_lenD T.ha T.hn]
  constructor
  · intro h i hi
    have := (cmp_le _ _).1 (h i hi)
    rw [v_abs, vQ_mk, absQ_of_nn (T.nn hj hi)] at this
    exact this
  · intro h i hi
    refine (cmp_le _ _).2 ?_
    rw [v_abs, vQ_mk, absQ_of_nn (T.nn hj hi)]
    exact h i hi
theorem TubeD.accepts (T : TubeD n p q a dv w x y) {K : Nat} (hK : p * K + (p + q) ≤ 65536) : acceptsD K a dv w x y = true ↔ ∀ j, j ≤ K → ∀ i, i < n → reachQ n (elQ a) (elQ dv) (vQ w) (vQ x) (vQ y) j i ≤ if j = K then vQ x i else vQ y i := by
  have hj : ∀ j, j ≤ K → p * j + (p + q) ≤ 65536 := fun j h => by
    have := Nat.mul_le_mul_left p h
    omega
  unfold acceptsD
  rw [decide_eq_true_iff]
  constructor
  · intro h j hjK i hi
    have h1 := (T.within (hj j hjK) _).1 (h j (by omega)) i hi
    rw [T.reach (hj j hjK) hi] at h1
    by_cases e : j = K
    · rw [if_pos e] at h1 ⊢; exact h1
    · rw [if_neg e] at h1 ⊢; exact h1
  · intro h j hjK
    refine (T.within (hj j (by omega)) _).2 fun i hi => ?_
    have h1 := h j (by omega) i hi
    rw [T.reach (hj j (by omega)) hi]
    by_cases e : j = K
    · rw [if_pos e] at h1 ⊢; exact h1
    · rw [if_neg e] at h1 ⊢; exact h1
end
theorem sumQ_first (f : Nat → Rat) : ∀ n, sumQ (n + 1) f = f 0 + sumQ n fun i => f (i + 1)
  | 0 => by simp only [sumQ]; grind
  | n + 1 => by
    have := sumQ_first f n
    simp only [sumQ] at this ⊢
    rw [this]; grind
def repQ (n : Nat) (A D : Nat → Nat → Rat) (w x y : Nat → Rat) (j : Nat) (s : Nat → Rat) : Prop :=
  ∀ l i, i < n → absQ (sumQ n fun k => powQ n A l i k * s k) ≤ sumQ n (fun k => absQ (powQ n A (l + j) i k) * x k) + sumQ j fun m => sumQ n fun k => absQ (powQ n A (l + m) i k) * pushQ n D w y k
theorem absQ_add (x y : Rat) : absQ (x + y) ≤ absQ x + absQ y := by
  rw [absQ_le]; have := le_absQ x; have := le_absQ y; constructor <;> grind
theorem rep_zero {n : Nat} {A D : Nat → Nat → Rat} {w x y s : Nat → Rat} (h : ∀ i, i < n → absQ (s i) ≤ x i) : repQ n A D w x y 0 s := fun l i hi => by
  have h1 : absQ (sumQ n fun k => powQ n A l i k * s k) ≤ sumQ n fun k => absQ (powQ n A l i k) * x k := by
    refine Rat.le_trans (absQ_sum _ _) (sumQ_le fun k hk => ?_)
    rw [absQ_mul]
    exact Rat.mul_le_mul_of_nonneg_left (h k hk) (absQ_nn _)
  simp only [sumQ, Nat.add_zero]
  grind
theorem pow_back (n : Nat) (A : Nat → Nat → Rat) (s : Nat → Rat) (l i : Nat) : sumQ n (fun k => powQ n A l i k * sumQ n fun m => A k m * s m) = sumQ n fun m => powQ n A (l + 1) i m * s m := by
  have h1 : sumQ n (fun k => powQ n A l i k * sumQ n fun m => A k m * s m) = sumQ n fun k => sumQ n fun m => powQ n A l i k * A k m * s m := sumQ_congr fun k _ => by
    rw [← sumQ_mul']; exact sumQ_congr fun m _ => by grind
  rw [h1, sumQ_comm]
  refine sumQ_congr fun m _ => ?_
  rw [show powQ n A (l + 1) i m = sumQ n fun k => powQ n A l i k * A k m from rfl, ← sumQ_mul]
theorem rep_step {n : Nat} {A D : Nat → Nat → Rat} {w x y s p s' : Nat → Rat} {j : Nat} (h : repQ n A D w x y j s) (hp : ∀ i, i < n → absQ (p i) ≤ pushQ n D w y i) (hs : ∀ i, i < n → s' i = sumQ n (fun k => A i k * s k) + p i) : repQ n A D w x y (j + 1) s' := fun l i hi => by
  have e1 : sumQ n (fun k => powQ n A l i k * s' k) = sumQ n (fun m => powQ n A (l + 1) i m * s m) + sumQ n fun k => powQ n A l i k * p k := by
    rw [← pow_back, ← sumQ_add]
    exact sumQ_congr fun k hk => by rw [hs k hk]; grind
  have h1 := h (l + 1) i hi
  have h2 : absQ (sumQ n fun k => powQ n A l i k * p k) ≤ sumQ n fun k => absQ (powQ n A l i k) * pushQ n D w y k := by
    refine Rat.le_trans (absQ_sum _ _) (sumQ_le fun k hk => ?_)
    rw [absQ_mul]
    exact Rat.mul_le_mul_of_nonneg_left (hp k hk) (absQ_nn _)
  have h3 := absQ_add (sumQ n (fun m => powQ n A (l + 1) i m * s m)) (sumQ n fun k => powQ n A l i k * p k)
  have e2 := sumQ_first (fun m => sumQ n fun k => absQ (powQ n A (l + m) i k) * pushQ n D w y k) j
  have e3 : sumQ j (fun m => sumQ n fun k => absQ (powQ n A (l + (m + 1)) i k) * pushQ n D w y k) = sumQ j fun m => sumQ n fun k => absQ (powQ n A (l + 1 + m) i k) * pushQ n D w y k := sumQ_congr fun m _ => by rw [show l + (m + 1) = l + 1 + m by omega]
  have e4 : sumQ n (fun k => absQ (powQ n A (l + (j + 1)) i k) * x k) = sumQ n fun k => absQ (powQ n A (l + 1 + j) i k) * x k := by rw [show l + (j + 1) = l + 1 + j by omega]
  rw [e1, e2, e3, e4, Nat.add_zero]
  grind
theorem rep_reach {n : Nat} {A D : Nat → Nat → Rat} {w x y s : Nat → Rat} {j : Nat} (h : repQ n A D w x y j s) {i : Nat} (hi : i < n) : absQ (s i) ≤ reachQ n A D w x y j i := by
  have h1 := h 0 i hi
  have e : sumQ n (fun k => powQ n A 0 i k * s k) = s i := by
    have := sumQ_delta' (f := s) (j := i) (n := n)
    rw [if_pos hi] at this
    exact this
  rw [e] at h1
  unfold reachQ driftQ
  simp only [Nat.zero_add] at h1
  exact h1
theorem push_in {n : Nat} {D d : Nat → Nat → Rat} {w v y s : Nat → Rat} (hd : ∀ i k, i < n → k < n → absQ (d i k) ≤ D i k) (hv : ∀ i, i < n → absQ (v i) ≤ w i) (hs : ∀ i, i < n → absQ (s i) ≤ y i) {i : Nat} (hi : i < n) : absQ (sumQ n (fun k => d i k * s k) + v i) ≤ pushQ n D w y i := by
  have h1 : absQ (sumQ n fun k => d i k * s k) ≤ sumQ n fun k => D i k * y k := by
    refine Rat.le_trans (absQ_sum _ _) (sumQ_le fun k hk => ?_)
    rw [absQ_mul]
    have h2 := Rat.mul_le_mul_of_nonneg_right (hd i k hi hk) (absQ_nn (s k))
    have h3 := Rat.mul_le_mul_of_nonneg_left (hs k hk) (Rat.le_trans (absQ_nn _) (hd i k hi hk))
    exact Rat.le_trans h2 h3
  have h4 := absQ_add (sumQ n fun k => d i k * s k) (v i)
  have h5 := hv i hi
  unfold pushQ; grind
end Go.Ax

namespace Go.Ax
end Go.Ax

namespace Go.Ax
structure HInv (n K : Nat) (a dv : List (List Dy)) (w inn out : List Dy) (k : Nat) (x : List Dy) : Prop where
  len : x.length = n
  fin : fineV 247 x
  rep : repQ n (elQ a) (elQ dv) (vQ w) (vQ inn) (vQ out) (k % K) (vQ x)
  low : k % K = 0 → ∀ i, i < n → absQ (vQ x i) ≤ vQ inn i
section
variable {n K k : Nat} {a dv : List (List Dy)} {w inn out x : List Dy}
theorem HInv.high (T : TubeD n 40 40 a dv w inn out) (h1 : 1 ≤ K) (h8 : K ≤ 8) (acc : acceptsD K a dv w inn out = true) (H : HInv n K a dv w inn out k x) {i : Nat} (hi : i < n) : absQ (vQ x i) ≤ vQ out i := by
  have hm : k % K < K := Nat.mod_lt _ (by omega)
  have h := (T.accepts (by omega)).1 acc (k % K) (by omega) i hi
  rw [if_neg (by omega)] at h
  exact Rat.le_trans (rep_reach H.rep hi) h
theorem HInv.next (T : TubeD n 40 40 a dv w inn out) (h1 : 1 ≤ K) (h8 : K ≤ 8) (acc : acceptsD K a dv w inn out = true) (H : HInv n K a dv w inn out k x) (hx : fineV 200 x) {d : List (List Dy)} {v : List Dy}
    (rd : rect n n d) (fd : fine 47 d) (hd : ∀ i j, i < n → j < n → absQ (elQ d i j) ≤ elQ dv i j) (fv : fineV 47 v) (hv : ∀ i, i < n → absQ (vQ v i) ≤ vQ w i) : HInv n K a dv w inn out (k + 1) (sumV (appD (addD a d) x) v) := by
  have rA := rect_add (b := d) T.ha T.hn
  have fA : fine 47 (addD a d) := fine_add T.ha T.hn (fun i j => Nat.le_trans (T.fa i j) (by omega)) fd
  have hm : k % K < K := Nat.mod_lt _ (by omega)
  have hy : ∀ i, i < n → vQ (sumV (appD (addD a d) x) v) i = sumQ n (fun j => elQ a i j * vQ x j) + (sumQ n (fun j => elQ d i j * vQ x j) + vQ v i) := fun i hi => by
    unfold vQ
    rw [sumV_get (by rw [app_len, rA.1]; exact hi), Dy.v_add, v_app rA fA hx (by omega) hi]
    have e : sumQ n (fun k => (el (addD a d) i k).v * (x.getD k Dy.zero).v) = sumQ n (fun k => elQ a i k * vQ x k) + sumQ n fun k => elQ d i k * vQ x k := by
      rw [← sumQ_add]
      refine sumQ_congr fun j hj => ?_
      rw [el_add T.ha T.hn hi hj, Dy.v_add]
      show (elQ a i j + elQ d i j) * vQ x j = _
      grind
    rw [e]
    show _ + vQ v i = _ + (_ + vQ v i)
    unfold vQ
    grind
  have hrep := rep_step H.rep (fun i hi => push_in hd hv (fun j hj => H.high T h1 h8 acc hj) hi) hy
  refine ⟨by rw [sumV_len, app_len, rA.1], fine_sumV (fine_app rA fA hx (by omega)) (fv.mono (by omega)), ?_, ?_⟩
  · by_cases e : k % K + 1 = K
    · have e2 : (k + 1) % K = 0 := by
        by_cases hK1 : K = 1
        · subst hK1; exact Nat.mod_one _
        · rw [Nat.add_mod, Nat.mod_eq_of_lt (show 1 < K by omega), e, Nat.mod_self]
      rw [e2]
      rw [e] at hrep
      refine rep_zero fun i hi => ?_
      have h := (T.accepts (by omega)).1 acc K (Nat.le_refl _) i hi
      rw [if_pos rfl] at h
      exact Rat.le_trans (rep_reach hrep hi) h
    · have e2 : (k + 1) % K = k % K + 1 := by
        have hK1 : 1 < K := by omega
        rw [Nat.add_mod, Nat.mod_eq_of_lt hK1, Nat.mod_eq_of_lt (by omega)]
      rw [e2]; exact hrep
  · intro h0 i hi
    have e : k % K + 1 = K := by
      apply Decidable.byContradiction
      intro hne
      have hK1 : 1 < K := by omega
      rw [Nat.add_mod, Nat.mod_eq_of_lt hK1, Nat.mod_eq_of_lt (by omega)] at h0
      omega
    rw [e] at hrep
    have h := (T.accepts (by omega)).1 acc K (Nat.le_refl _) i hi
    rw [if_pos rfl] at h
    exact Rat.le_trans (rep_reach hrep hi) h
end
end Go.Ax

namespace Go.Ax
open Go Go.RowKit
theorem Le.takeN {sz k : Nat} {rows : List (List AV)} (h : rows.length ≤ k) : Le (.sl sz ((rows.drop 0).take k)) (.sl sz rows) := by
  rw [List.drop_zero, List.take_of_length_le h]; exact .refl _
theorem Weak.frzA {s s' : AS} (b : Nat) (m : MB) (n : Nat) (hl : m.rows.length = n) (hm : look s.mem b = some m := by rfl)
    (he : frzEnv b m s.env s'.env := by (repeat' (first | exact trivial | exact ⟨_, _, rfl, .same, .refl _⟩ | exact ⟨_, _, rfl, frz_ps rfl (by rw [Nat.zero_add]; exact Nat.le_of_eq (Eq.symm (by assumption))), Le.takeN (Nat.le_of_eq (by assumption))⟩ | refine And.intro ?_ ?_)))
    (hmem : frzMem b m s.mem s'.mem := by (repeat' (first | exact trivial | exact ⟨by decide, _, rfl, .refl _ _ _⟩ | refine ⟨by decide, _, rfl, .row ?_⟩ | exact ⟨_, .same, .refl _⟩ | exact ⟨_, frz_ps rfl (by rw [Nat.zero_add]; exact Nat.le_of_eq (Eq.symm (by assumption))), Le.takeN (Nat.le_of_eq (by assumption))⟩ | refine And.intro ?_ ?_)))
    (hn : s.next ≤ s'.next := by exact Nat.le_refl _) : Weak s s' := Weak.frz b m hm he hmem hn
end Go.Ax

