/- The abstract executor and plain facts, part 4 (of several texts, laid together). -/
import Derived.Test.YtkdpaoicekgalaaGreatDoorU1
import Derived.Test.YtkdpaoicekgalaaGreatDoorU2
import Derived.Test.YtkdpaoicekgalaaGreatDoorU3

set_option linter.unusedSimpArgs false
set_option linter.unusedVariables false
set_option linter.deprecated false
namespace Go.Ax
open Go Go.RowKit
structure Iv where
  lo : Dy
  hi : Dy
  h : lo.v ≤ hi.v
theorem Iv.eq {a b : Iv} (h1 : a.lo = b.lo) (h2 : a.hi = b.hi) : a = b := by
  cases a; cases b; simp_all
theorem Iv.eq_v {a b : Iv} (h1 : a.lo.v = b.lo.v) (h2 : a.hi.v = b.hi.v) : a = b := Iv.eq (Dy.ext_v h1) (Dy.ext_v h2)
theorem Iv.same {a b : Iv} : (a.lo = b.lo ∧ a.hi = b.hi) ↔ a = b := ⟨fun h => Iv.eq h.1 h.2, fun h => by subst h; exact ⟨rfl, rfl⟩⟩
def Iv.Mg (k : Nat) (a : Iv) : Prop := Ax.Mg k a.lo ∧ Ax.Mg k a.hi
theorem Iv.Mg.mono {k k' : Nat} {a : Iv} (h : a.Mg k) (hk : k ≤ k') : a.Mg k' := ⟨h.1.mono hk, h.2.mono hk⟩
theorem min_le_l (x y : Dy) : (x.min y).v ≤ x.v := by rw [Dy.v_min]; split <;> grind
theorem min_le_r (x y : Dy) : (x.min y).v ≤ y.v := by rw [Dy.v_min]; split <;> grind
theorem le_max_l (x y : Dy) : x.v ≤ (x.max y).v := by rw [Dy.v_max]; split <;> grind
theorem le_max_r (x y : Dy) : y.v ≤ (x.max y).v := by rw [Dy.v_max]; split <;> grind
theorem le_min {x y z : Dy} (h1 : z.v ≤ x.v) (h2 : z.v ≤ y.v) : z.v ≤ (x.min y).v := by rw [Dy.v_min]; split <;> grind
theorem max_le {x y z : Dy} (h1 : x.v ≤ z.v) (h2 : y.v ≤ z.v) : (x.max y).v ≤ z.v := by rw [Dy.v_max]; split <;> grind
def Iv.zero : Iv := ⟨Dy.zero, Dy.zero, by grind⟩
def Iv.pt (x : Dy) : Iv := ⟨x, x, by grind⟩
def Iv.sp2 (x y : Dy) : Iv := ⟨x.min y, x.max y, min_le_max x y⟩
def Iv.sp4 (x y z w : Dy) : Iv := ⟨((x.min y).min z).min w, ((x.max y).max z).max w, by
  have := min_le_r ((x.min y).min z) w; have := le_max_r ((x.max y).max z) w; grind⟩
def Iv.neg (a : Iv) : Iv := ⟨a.hi.neg, a.lo.neg, by rw [Dy.v_neg, Dy.v_neg]; have := a.h; grind⟩
theorem abs_nn (x : Dy) : 0 ≤ x.abs.v := by rw [Dy.v_abs]; split <;> grind
def Iv.abs (a : Iv) : Iv := if a.lo.v < 0 ∧ 0 < a.hi.v then ⟨Dy.zero, a.lo.abs.max a.hi.abs, by rw [Dy.v_zero]; have := abs_nn a.lo; have := le_max_l a.lo.abs a.hi.abs; grind⟩ else Iv.sp2 a.lo.abs a.hi.abs
def Iv.add (a b : Iv) : Iv := ⟨a.lo.add b.lo, a.hi.add b.hi, by rw [Dy.v_add, Dy.v_add]; have := a.h; have := b.h; grind⟩
def Iv.sub (a b : Iv) : Iv := a.add b.neg
def Iv.mul (a b : Iv) : Iv := Iv.sp4 (a.lo.mul b.lo) (a.lo.mul b.hi) (a.hi.mul b.lo) (a.hi.mul b.hi)
def Iv.min (a b : Iv) : Iv := ⟨a.lo.min b.lo, a.hi.min b.hi, le_min (by have := min_le_l a.lo b.lo; have := a.h; grind) (by have := min_le_r a.lo b.lo; have := b.h; grind)⟩
def Iv.max (a b : Iv) : Iv := ⟨a.lo.max b.lo, a.hi.max b.hi, max_le (by have := le_max_l a.hi b.hi; have := a.h; grind) (by have := le_max_r a.hi b.hi; have := b.h; grind)⟩
def Iv.hull (a b : Iv) : Iv := Iv.sp4 a.lo a.hi b.lo b.hi
def Iv.wide (a : Iv) (x : Dy) : Iv := Iv.add a (Iv.sp2 x x.neg)
def Iv.width (a : Iv) : Dy := a.hi.sub a.lo
def Iv.mag (a : Iv) : Dy := a.abs.hi
def Iv.ins (a b : Iv) : Bool := decide (b.lo.v ≤ a.lo.v ∧ a.hi.v ≤ b.hi.v)
def Iv.has (a : Iv) (x : Dy) : Bool := decide (a.lo.v ≤ x.v ∧ x.v ≤ a.hi.v)
theorem Iv.has_pt (a : Iv) (x : Dy) : (Iv.pt x).ins a = a.has x := rfl
theorem Iv.Mg.pt {k : Nat} {x : Dy} (h : Ax.Mg k x) : (Iv.pt x).Mg k := ⟨h, h⟩
theorem Iv.Mg.sp2 {k : Nat} {x y : Dy} (h : Ax.Mg k x) (g : Ax.Mg k y) : (Iv.sp2 x y).Mg k := ⟨h.min g, h.max g⟩
theorem Iv.Mg.sp4 {k : Nat} {x y z w : Dy} (h : Ax.Mg k x) (g : Ax.Mg k y) (i : Ax.Mg k z) (j : Ax.Mg k w) : (Iv.sp4 x y z w).Mg k := ⟨((h.min g).min i).min j, ((h.max g).max i).max j⟩
theorem Iv.Mg.zero (k : Nat) : Iv.zero.Mg k := ⟨Ax.Mg.zero k, Ax.Mg.zero k⟩
theorem Iv.Mg.neg {k : Nat} {a : Iv} (h : a.Mg k) : a.neg.Mg k := ⟨h.2.neg, h.1.neg⟩
theorem Iv.Mg.abs {k : Nat} {a : Iv} (h : a.Mg k) : a.abs.Mg k := by
  unfold Iv.abs; split
  · exact ⟨Ax.Mg.zero k, h.1.abs.max h.2.abs⟩
  · exact .sp2 h.1.abs h.2.abs
theorem Iv.Mg.add {k : Nat} {a b : Iv} (h : a.Mg k) (g : b.Mg k) : (a.add b).Mg (k + 1) := ⟨h.1.add g.1, h.2.add g.2⟩
theorem Iv.Mg.sub {k : Nat} {a b : Iv} (h : a.Mg k) (g : b.Mg k) : (a.sub b).Mg (k + 1) := h.add g.neg
theorem Iv.Mg.mul {k l : Nat} {a b : Iv} (h : a.Mg k) (g : b.Mg l) : (a.mul b).Mg (k + l) := .sp4 (h.1.mul g.1) (h.1.mul g.2) (h.2.mul g.1) (h.2.mul g.2)
theorem Iv.Mg.min {k : Nat} {a b : Iv} (h : a.Mg k) (g : b.Mg k) : (a.min b).Mg k := ⟨h.1.min g.1, h.2.min g.2⟩
theorem Iv.Mg.max {k : Nat} {a b : Iv} (h : a.Mg k) (g : b.Mg k) : (a.max b).Mg k := ⟨h.1.max g.1, h.2.max g.2⟩
theorem Iv.Mg.hull {k : Nat} {a b : Iv} (h : a.Mg k) (g : b.Mg k) : (a.hull b).Mg k := .sp4 h.1 h.2 g.1 g.2
def okI (s : Bool) (ws : List Nat) (d : Int) (s' : Bool) (ws' : List Nat) (d' : Int) (x y : Dy) : Prop := (validR s ws d = true ∧ validR s' ws' d' = true) ∧ x.v ≤ y.v
instance (s : Bool) (ws : List Nat) (d : Int) (s' : Bool) (ws' : List Nat) (d' : Int) (x y : Dy) : Decidable (okI s ws d s' ws' d' x y) := inferInstanceAs (Decidable (_ ∧ _))
structure IArg (s : Bool) (ws : List Nat) (d : Int) (s' : Bool) (ws' : List Nat) (d' : Int) (x y : Dy) (a : Iv) : Prop where
  px : Arg s ws d x
  py : Arg s' ws' d' y
  is : (okI s ws d s' ws' d' x y ∧ a.lo = x ∧ a.hi = y) ∨ (¬ okI s ws d s' ws' d' x y ∧ a = Iv.zero)
theorem Arg.valid_parts {s : Bool} {ws : List Nat} {d : Int} {x : Dy} (h : Arg s ws d x) (hv : validR s ws d = true) : s = sg x ∧ ws = ms x ∧ d = dn x := by
  rcases h.is with ⟨_, h1, h2, h3⟩ | ⟨h1, _⟩
  · exact ⟨h1.symm, h2.symm, h3.symm⟩
  · rw [hv] at h1; cases h1
theorem IArg.get {s : Bool} {ws : List Nat} {d : Int} {s' : Bool} {ws' : List Nat} {d' : Int} {x y : Dy} (h : Arg s ws d x) (g : Arg s' ws' d' y) : ∃ a, IArg s ws d s' ws' d' x y a := by
  by_cases ho : okI s ws d s' ws' d' x y
  · exact ⟨⟨x, y, ho.2⟩, h, g, .inl ⟨ho, rfl, rfl⟩⟩
  · exact ⟨Iv.zero, h, g, .inr ⟨ho, rfl⟩⟩
theorem IArg.of {a : Iv} {k : Nat} (h : a.Mg k) (hk : k ≤ 1099511627776 := by omega) : IArg (sg a.lo) (ms a.lo) (dn a.lo) (sg a.hi) (ms a.hi) (dn a.hi) a.lo a.hi a :=
  ⟨Arg.of h.1 hk, Arg.of h.2 hk, .inl ⟨⟨⟨valid_of _, valid_of _⟩, a.h⟩, rfl, rfl⟩⟩
section
variable {s : Bool} {ws : List Nat} {d : Int} {s' : Bool} {ws' : List Nat} {d' : Int} {x y : Dy} {a : Iv}
theorem IArg.lo (h : IArg s ws d s' ws' d' x y a) : Arg (sg a.lo) (ms a.lo) (dn a.lo) a.lo := by
  rcases h.is with ⟨_, h1, _⟩ | ⟨_, h1⟩
  · rw [h1]; exact ⟨ms_wd x, h.px.mlen, .inl ⟨valid_of x, rfl, rfl, rfl⟩⟩
  · rw [h1]; exact Arg.of (Ax.Mg.zero 1) (by omega)
theorem IArg.hi (h : IArg s ws d s' ws' d' x y a) : Arg (sg a.hi) (ms a.hi) (dn a.hi) a.hi := by
  rcases h.is with ⟨_, _, h1⟩ | ⟨_, h1⟩
  · rw [h1]; exact ⟨ms_wd y, h.py.mlen, .inl ⟨valid_of y, rfl, rfl, rfl⟩⟩
  · rw [h1]; exact Arg.of (Ax.Mg.zero 1) (by omega)
theorem IArg.mg {k : Nat} (h : IArg s ws d s' ws' d' x y a) (gx : Ax.Mg k x) (gy : Ax.Mg k y) : a.Mg k := by
  rcases h.is with ⟨_, h1, h2⟩ | ⟨_, h1⟩
  · unfold Iv.Mg; rw [h1, h2]; exact ⟨gx, gy⟩
  · rw [h1]; exact .zero k
theorem IArg.den {k : Nat} (h : IArg s ws d s' ws' d' x y a) (gx : x.d ≤ k) (gy : y.d ≤ k) : a.lo.d ≤ k ∧ a.hi.d ≤ k := by
  rcases h.is with ⟨_, h1, h2⟩ | ⟨_, h1⟩
  · rw [h1, h2]; exact ⟨gx, gy⟩
  · rw [h1]; exact ⟨Nat.zero_le _, Nat.zero_le _⟩
end
theorem ok_of (a : Iv) : okI (sg a.lo) (ms a.lo) (dn a.lo) (sg a.hi) (ms a.hi) (dn a.hi) a.lo a.hi := ⟨⟨valid_of _, valid_of _⟩, a.h⟩
abbrev ilit : AV := .agg [.v (.bool false), .v (.slice none 0 0), .v (.int .i64 0), .v (.bool false), .v (.slice none 0 0), .v (.int .i64 0)]
theorem Le.iv0 : Le ilit (.agg [.v (.bool (sg Iv.zero.lo)), .sl 1 (u32s (ms Iv.zero.lo)), .v (.int .i64 (dn Iv.zero.lo)), .v (.bool (sg Iv.zero.hi)), .sl 1 (u32s (ms Iv.zero.hi)), .v (.int .i64 (dn Iv.zero.hi))]) := by
  show Le ilit (.agg [.v (.bool (sg Dy.zero)), .sl 1 (u32s (ms Dy.zero)), .v (.int .i64 (dn Dy.zero)), .v (.bool (sg Dy.zero)), .sl 1 (u32s (ms Dy.zero)), .v (.int .i64 (dn Dy.zero))])
  rw [ms_zero]
  exact Le.agg (.cons (.refl _) (.cons (Le.nil _) (.cons (.refl _) (.cons (.refl _) (.cons (Le.nil _) (.cons (.refl _) .nil))))))
theorem Cl.ilit : Cl ilit := Cl.agg (fun a ha => by
  simp only [List.mem_cons, List.not_mem_nil, or_false] at ha
  rcases ha with rfl | rfl | rfl | rfl | rfl | rfl <;> exact Cl.v _)
theorem Arg.can {s : Bool} {ws : List Nat} {d : Int} {x : Dy} (h : Arg s ws d x) : Arg (sg x) (ms x) (dn x) x := ⟨ms_wd x, h.mlen, .inl ⟨valid_of x, rfl, rfl, rfl⟩⟩
theorem Arg.cmin {x y : Dy} (h : Arg (sg x) (ms x) (dn x) x) (g : Arg (sg y) (ms y) (dn y) y) : Arg (sg (x.min y)) (ms (x.min y)) (dn (x.min y)) (x.min y) := by
  unfold Dy.min; split <;> assumption
theorem Arg.cmax {x y : Dy} (h : Arg (sg x) (ms x) (dn x) x) (g : Arg (sg y) (ms y) (dn y) y) : Arg (sg (x.max y)) (ms (x.max y)) (dn (x.max y)) (x.max y) := by
  unfold Dy.max; split <;> assumption
theorem Arg.cabs {x : Dy} (h : Arg (sg x) (ms x) (dn x) x) : Arg (sg x.abs) (ms x.abs) (dn x.abs) x.abs :=
  ⟨ms_wd _, by
    have e : ms x.abs = ms x := by show words (x.n.natAbs : Int).natAbs = words x.n.natAbs; rw [Int.natAbs_natCast]
    rw [e]; exact h.mlen, .inl ⟨valid_of _, rfl, rfl, rfl⟩⟩
theorem IArg.mk' {a : Iv} (h : Arg (sg a.lo) (ms a.lo) (dn a.lo) a.lo) (g : Arg (sg a.hi) (ms a.hi) (dn a.hi) a.hi) : IArg (sg a.lo) (ms a.lo) (dn a.lo) (sg a.hi) (ms a.hi) (dn a.hi) a.lo a.hi a :=
  ⟨h, g, .inl ⟨ok_of a, rfl, rfl⟩⟩
theorem Arg.cpt {s : Bool} {ws : List Nat} {d : Int} {x : Dy} (h : Arg s ws d x) : IArg (sg (Iv.pt x).lo) (ms (Iv.pt x).lo) (dn (Iv.pt x).lo) (sg (Iv.pt x).hi) (ms (Iv.pt x).hi) (dn (Iv.pt x).hi) (Iv.pt x).lo (Iv.pt x).hi (Iv.pt x) := .mk' h.can h.can
section
variable {s : Bool} {ws : List Nat} {d : Int} {s' : Bool} {ws' : List Nat} {d' : Int} {x y : Dy} {a : Iv}
theorem IArg.cneg (h : IArg s ws d s' ws' d' x y a) : IArg (sg a.neg.lo) (ms a.neg.lo) (dn a.neg.lo) (sg a.neg.hi) (ms a.neg.hi) (dn a.neg.hi) a.neg.lo a.neg.hi a.neg := .mk' h.hi.neg_of h.lo.neg_of
theorem IArg.can (h : IArg s ws d s' ws' d' x y a) : IArg (sg a.lo) (ms a.lo) (dn a.lo) (sg a.hi) (ms a.hi) (dn a.hi) a.lo a.hi a := .mk' h.lo h.hi
variable {s2 : Bool} {ws2 : List Nat} {d2 : Int} {s2' : Bool} {ws2' : List Nat} {d2' : Int} {x2 y2 : Dy} {b : Iv}
theorem IArg.cmax (h : IArg s ws d s' ws' d' x y a) (g : IArg s2 ws2 d2 s2' ws2' d2' x2 y2 b) : IArg (sg (a.max b).lo) (ms (a.max b).lo) (dn (a.max b).lo) (sg (a.max b).hi) (ms (a.max b).hi) (dn (a.max b).hi) (a.max b).lo (a.max b).hi (a.max b) := .mk' (h.lo.cmax g.lo) (h.hi.cmax g.hi)
theorem IArg.cmin (h : IArg s ws d s' ws' d' x y a) (g : IArg s2 ws2 d2 s2' ws2' d2' x2 y2 b) : IArg (sg (a.min b).lo) (ms (a.min b).lo) (dn (a.min b).lo) (sg (a.min b).hi) (ms (a.min b).hi) (dn (a.min b).hi) (a.min b).lo (a.min b).hi (a.min b) := .mk' (h.lo.cmin g.lo) (h.hi.cmin g.hi)
end
theorem Arg.czero : Arg (sg Dy.zero) (ms Dy.zero) (dn Dy.zero) Dy.zero := Arg.of (Ax.Mg.zero 1) (by omega)
theorem neg_zero : Dy.zero.neg = Dy.zero := Dy.eq rfl rfl
theorem sign_lt0 (x : Dy) : x.sign < 0 ↔ x.v < 0 := by rw [Dy.sign_v]; split <;> (try split) <;> grind
theorem sign_gt0 (x : Dy) : 0 < x.sign ↔ 0 < x.v := by rw [Dy.sign_v]; split <;> (try split) <;> grind
theorem sign_eq0 (x : Dy) : x.sign = 0 ↔ x.v = 0 := by rw [Dy.sign_v]; split <;> (try split) <;> grind
theorem mg_i64 {n : Int} (h : -9223372036854775808 ≤ n ∧ n ≤ 9223372036854775807) : Mg 64 (Dy.int n) := Mg.int (Nat.lt_of_le_of_lt (show n.natAbs ≤ 9223372036854775808 by omega) (by decide))
theorem Le.lo0 {A B C : AV} : Le (.agg [.v (.bool false), .v (.slice none 0 0), .v (.int .i64 0), A, B, C]) (.agg [.v (.bool (sg Dy.zero)), .sl 1 (u32s (ms Dy.zero)), .v (.int .i64 (dn Dy.zero)), A, B, C]) := by
  rw [ms_zero]
  exact Le.agg (.cons (.refl _) (.cons (Le.nil _) (.cons (.refl _) (.cons (.refl _) (.cons (.refl _) (.cons (.refl _) .nil))))))
theorem Iv.abs_ref (a : Iv) : a.abs = if a.lo.v ≤ 0 ∧ 0 ≤ a.hi.v then ⟨Dy.zero, a.lo.abs.max a.hi.abs, by rw [Dy.v_zero]; have := abs_nn a.lo; have := le_max_l a.lo.abs a.hi.abs; grind⟩ else Iv.sp2 a.lo.abs a.hi.abs := by
  have h0 := Dy.v_zero
  have h1 := a.h
  have e1 := Dy.v_abs a.lo
  have e2 := Dy.v_abs a.hi
  unfold Iv.abs
  by_cases c1 : a.lo.v < 0 ∧ 0 < a.hi.v
  · rw [if_pos c1, if_pos (by grind)]
  · rw [if_neg c1]
    by_cases c2 : a.lo.v ≤ 0 ∧ 0 ≤ a.hi.v
    · rw [if_pos c2]
      refine Iv.eq_v ?_ rfl
      show (a.lo.abs.min a.hi.abs).v = Dy.zero.v
      rw [Dy.v_min]; split <;> split at e1 <;> split at e2 <;> grind
    · rw [if_neg c2]
theorem sp2_of_le {x y : Dy} (h : x.v ≤ y.v) : Iv.sp2 x y = ⟨x, y, h⟩ := Iv.eq_v (by show (x.min y).v = x.v; rw [Dy.v_min, if_pos h]) (by show (x.max y).v = y.v; rw [Dy.v_max]; split <;> grind)
theorem Iv.neg_ref (a : Iv) : Iv.sp2 a.lo.neg a.hi.neg = a.neg := Iv.eq_v (by
    show (a.lo.neg.min a.hi.neg).v = a.hi.neg.v
    have := a.h; rw [Dy.v_min, Dy.v_neg, Dy.v_neg]; split <;> grind) (by
    show (a.lo.neg.max a.hi.neg).v = a.lo.neg.v
    have := a.h; rw [Dy.v_max, Dy.v_neg, Dy.v_neg]; split <;> grind)
theorem Iv.add_ref (a b : Iv) : Iv.sp2 (a.lo.add b.lo) (a.hi.add b.hi) = a.add b := sp2_of_le (a.add b).h
theorem Iv.wide_of (a : Iv) (x : Dy) (h : 0 ≤ x.v) : (a.wide x).lo = a.lo.sub x ∧ (a.wide x).hi = a.hi.add x := by
  have e : Iv.sp2 x x.neg = ⟨x.neg, x, by rw [Dy.v_neg]; grind⟩ := Iv.eq_v (by
    show (x.min x.neg).v = x.neg.v
    rw [Dy.v_min, Dy.v_neg]; split <;> grind) (by
    show (x.max x.neg).v = x.v
    rw [Dy.v_max, Dy.v_neg]; split <;> grind)
  unfold Iv.wide
  rw [e]
  exact ⟨rfl, rfl⟩
theorem Iv.clip_ref (a : Iv) {lo hi : Dy} (h : lo.v ≤ hi.v) : (a.max (Iv.pt lo)).min (Iv.pt hi) = (Iv.pt lo).max ((Iv.pt hi).min a) := by
  have := a.h
  refine Iv.eq_v ?_ ?_
  · show ((a.lo.max lo).min hi).v = (lo.max (hi.min a.lo)).v
    rw [Dy.v_min, Dy.v_max, Dy.v_max, Dy.v_min]; repeat' split
    all_goals grind
  · show ((a.hi.max lo).min hi).v = (lo.max (hi.min a.hi)).v
    rw [Dy.v_min, Dy.v_max, Dy.v_max, Dy.v_min]; repeat' split
    all_goals grind
theorem Iv.ins_ref (a b : Iv) : a.ins b = (b.has a.lo && b.has a.hi) := by
  have := a.h
  have := b.h
  unfold Iv.ins Iv.has
  rw [← Bool.decide_and]
  exact decide_eq_decide.2 (by grind)
end Go.Ax

namespace Go.Ax
open Go Go.RowKit
theorem min_v_cases (x y : Dy) : (x.min y).v = x.v ∨ (x.min y).v = y.v := by rw [Dy.v_min]; split <;> simp
theorem max_v_cases (x y : Dy) : (x.max y).v = x.v ∨ (x.max y).v = y.v := by rw [Dy.v_max]; split <;> simp
def Iv.On (a : Iv) (x : Dy) : Prop := a.lo.v ≤ x.v ∧ x.v ≤ a.hi.v
theorem Iv.On.has {a : Iv} {x : Dy} (h : a.On x) : a.has x = true := decide_eq_true h
theorem Iv.on_lo (a : Iv) : a.On a.lo := ⟨by grind, a.h⟩
theorem Iv.on_hi (a : Iv) : a.On a.hi := ⟨a.h, by grind⟩
theorem Iv.ins_on {a b : Iv} (h : b.On a.lo) (g : b.On a.hi) : a.ins b = true := decide_eq_true ⟨h.1, g.2⟩
theorem sp4_on1 (x y z w : Dy) : (Iv.sp4 x y z w).On x := by
  have h1 := min_le_l x y; have h2 := min_le_l (x.min y) z; have h3 := min_le_l ((x.min y).min z) w
  have g1 := le_max_l x y; have g2 := le_max_l (x.max y) z; have g3 := le_max_l ((x.max y).max z) w
  exact ⟨Rat.le_trans h3 (Rat.le_trans h2 h1), Rat.le_trans g1 (Rat.le_trans g2 g3)⟩
theorem sp4_on2 (x y z w : Dy) : (Iv.sp4 x y z w).On y := by
  have h1 := min_le_r x y; have h2 := min_le_l (x.min y) z; have h3 := min_le_l ((x.min y).min z) w
  have g1 := le_max_r x y; have g2 := le_max_l (x.max y) z; have g3 := le_max_l ((x.max y).max z) w
  exact ⟨Rat.le_trans h3 (Rat.le_trans h2 h1), Rat.le_trans g1 (Rat.le_trans g2 g3)⟩
theorem sp4_on3 (x y z w : Dy) : (Iv.sp4 x y z w).On z := by
  have h2 := min_le_r (x.min y) z; have h3 := min_le_l ((x.min y).min z) w
  have g2 := le_max_r (x.max y) z; have g3 := le_max_l ((x.max y).max z) w
  exact ⟨Rat.le_trans h3 h2, Rat.le_trans g2 g3⟩
theorem sp4_on4 (x y z w : Dy) : (Iv.sp4 x y z w).On w := ⟨min_le_r ((x.min y).min z) w, le_max_r ((x.max y).max z) w⟩
theorem sp4_least {x y z w : Dy} {c : Iv} (h1 : c.On x) (h2 : c.On y) (h3 : c.On z) (h4 : c.On w) : (Iv.sp4 x y z w).ins c = true := by
  refine decide_eq_true ⟨?_, ?_⟩
  · exact le_min (le_min (le_min h1.1 h2.1) h3.1) h4.1
  · exact max_le (max_le (max_le h1.2 h2.2) h3.2) h4.2
theorem on_neg {a : Iv} {x : Dy} (h : a.On x) : a.neg.On x.neg := by
  unfold Iv.On Iv.neg at *; simp only [Dy.v_neg] at *; grind
theorem on_abs {a : Iv} {x : Dy} (h : a.On x) : a.abs.On x.abs := by
  have e1 := Dy.v_abs a.lo
  have e2 := Dy.v_abs a.hi
  have e3 := Dy.v_abs x
  have h1 := a.h
  obtain ⟨h2, h3⟩ := h
  have m1 := le_max_l a.lo.abs a.hi.abs
  have m2 := le_max_r a.lo.abs a.hi.abs
  have n1 := min_le_l a.lo.abs a.hi.abs
  have n2 := min_le_r a.lo.abs a.hi.abs
  have up : x.abs.v ≤ (a.lo.abs.max a.hi.abs).v := by
    split at e1 <;> split at e2 <;> split at e3 <;> grind
  unfold Iv.abs
  split
  · exact ⟨by show Dy.zero.v ≤ _; rw [Dy.v_zero]; exact abs_nn x, up⟩
  · rename_i c
    refine ⟨?_, up⟩
    show (a.lo.abs.min a.hi.abs).v ≤ _
    split at e1 <;> split at e2 <;> split at e3 <;> grind
theorem on_add {a b : Iv} {x y : Dy} (h : a.On x) (g : b.On y) : (a.add b).On (x.add y) := by
  unfold Iv.On Iv.add at *; simp only [Dy.v_add] at *; grind
theorem on_sub {a b : Iv} {x y : Dy} (h : a.On x) (g : b.On y) : (a.sub b).On (x.sub y) := on_add h (on_neg g)
theorem on_min {a b : Iv} {x y : Dy} (h : a.On x) (g : b.On y) : (a.min b).On (x.min y) := by
  unfold Iv.On Iv.min at *; simp only [Dy.v_min] at *; obtain ⟨h1, h2⟩ := h; obtain ⟨g1, g2⟩ := g
  constructor <;> (repeat' split) <;> grind
theorem on_max {a b : Iv} {x y : Dy} (h : a.On x) (g : b.On y) : (a.max b).On (x.max y) := by
  unfold Iv.On Iv.max at *; simp only [Dy.v_max] at *; obtain ⟨h1, h2⟩ := h; obtain ⟨g1, g2⟩ := g
  constructor <;> (repeat' split) <;> grind
theorem on_hull1 {a b : Iv} {x : Dy} (h : a.On x) : (a.hull b).On x := by
  have h1 := sp4_on1 a.lo a.hi b.lo b.hi
  have h2 := sp4_on2 a.lo a.hi b.lo b.hi
  exact ⟨Rat.le_trans h1.1 h.1, Rat.le_trans h.2 h2.2⟩
theorem on_hull2 {a b : Iv} {x : Dy} (h : b.On x) : (a.hull b).On x := by
  have h1 := sp4_on3 a.lo a.hi b.lo b.hi
  have h2 := sp4_on4 a.lo a.hi b.lo b.hi
  exact ⟨Rat.le_trans h1.1 h.1, Rat.le_trans h.2 h2.2⟩
theorem lin_lo {a b x y L : Rat} (h1 : a ≤ x) (h2 : x ≤ b) (g1 : L ≤ a * y) (g2 : L ≤ b * y) : L ≤ x * y := by
  by_cases hy : 0 ≤ y
  · have := Rat.mul_le_mul_of_nonneg_right h1 hy; grind
  · have := Rat.mul_le_mul_of_nonneg_right h2 (show (0 : Rat) ≤ -y by grind)
    rw [Rat.mul_neg, Rat.mul_neg] at this; grind
theorem lin_hi {a b x y L : Rat} (h1 : a ≤ x) (h2 : x ≤ b) (g1 : a * y ≤ L) (g2 : b * y ≤ L) : x * y ≤ L := by
  by_cases hy : 0 ≤ y
  · have := Rat.mul_le_mul_of_nonneg_right h2 hy; grind
  · have := Rat.mul_le_mul_of_nonneg_right h1 (show (0 : Rat) ≤ -y by grind)
    rw [Rat.mul_neg, Rat.mul_neg] at this; grind
def Iv.Dn (k : Nat) (a : Iv) : Prop := a.lo.d ≤ k ∧ a.hi.d ≤ k
theorem on_mul {a b : Iv} {x y : Dy} {k : Nat} (hk : k ≤ 32768) (h : a.On x) (g : b.On y) (da : a.Dn k) (db : b.Dn k) (dx : x.d ≤ k) (dy : y.d ≤ k) : (a.mul b).On (x.mul y) := by
  obtain ⟨da1, da2⟩ := da
  obtain ⟨db1, db2⟩ := db
  have e1 := Dy.v_mul_of a.lo b.lo (by omega)
  have e2 := Dy.v_mul_of a.lo b.hi (by omega)
  have e3 := Dy.v_mul_of a.hi b.lo (by omega)
  have e4 := Dy.v_mul_of a.hi b.hi (by omega)
  have e5 := Dy.v_mul_of x y (by omega)
  obtain ⟨p1, p2⟩ := sp4_on1 (a.lo.mul b.lo) (a.lo.mul b.hi) (a.hi.mul b.lo) (a.hi.mul b.hi)
  obtain ⟨p3, p4⟩ := sp4_on2 (a.lo.mul b.lo) (a.lo.mul b.hi) (a.hi.mul b.lo) (a.hi.mul b.hi)
  obtain ⟨p5, p6⟩ := sp4_on3 (a.lo.mul b.lo) (a.lo.mul b.hi) (a.hi.mul b.lo) (a.hi.mul b.hi)
  obtain ⟨p7, p8⟩ := sp4_on4 (a.lo.mul b.lo) (a.lo.mul b.hi) (a.hi.mul b.lo) (a.hi.mul b.hi)
  obtain ⟨h1, h2⟩ := h
  obtain ⟨g1, g2⟩ := g
  rw [e1] at p1 p2
  rw [e2] at p3 p4
  rw [e3] at p5 p6
  rw [e4] at p7 p8
  show (a.mul b).lo.v ≤ _ ∧ _ ≤ (a.mul b).hi.v
  rw [e5]
  change (a.mul b).lo.v ≤ _ at p1 p3 p5 p7
  change _ ≤ (a.mul b).hi.v at p2 p4 p6 p8
  generalize (a.mul b).lo.v = L at *
  generalize (a.mul b).hi.v = H at *
  constructor
  · refine lin_lo h1 h2 ?_ ?_
    · rw [Rat.mul_comm]; refine lin_lo g1 g2 ?_ ?_ <;> rw [Rat.mul_comm] <;> assumption
    · rw [Rat.mul_comm]; refine lin_lo g1 g2 ?_ ?_ <;> rw [Rat.mul_comm] <;> assumption
  · refine lin_hi h1 h2 ?_ ?_
    · rw [Rat.mul_comm]; refine lin_hi g1 g2 ?_ ?_ <;> rw [Rat.mul_comm] <;> assumption
    · rw [Rat.mul_comm]; refine lin_hi g1 g2 ?_ ?_ <;> rw [Rat.mul_comm] <;> assumption
def pickD (a : Iv) (i : Nat) : Dy := a.lo.add ((nrm i 4).mul (a.hi.sub a.lo))
theorem pick_dn {a : Iv} {k i : Nat} (h : a.Dn k) (hk : k ≤ 32768) : (pickD a i).d ≤ k + 4 := by
  have h1 := Dy.d_add a.lo ((nrm i 4).mul (a.hi.sub a.lo))
  have h2 := Dy.d_nrm (z := i) (d := 4) (by omega)
  have h3 := Dy.d_add a.hi a.lo.neg
  have h5 : a.lo.neg.d = a.lo.d := rfl
  have h6 : (a.hi.sub a.lo).d ≤ k := by obtain ⟨q1, q2⟩ := h; unfold Dy.sub; omega
  have h4 := Dy.d_mul (nrm i 4) (a.hi.sub a.lo) (by omega)
  obtain ⟨q1, q2⟩ := h
  unfold pickD; omega
theorem pick_mg {a : Iv} {k i : Nat} (h : a.Mg k) (hi : i ≤ 16) (hk : 1 ≤ k) : Mg (k + 7) (pickD a i) := by
  have h1 : Mg 5 (nrm i 4) := mg_nrm (Nat.lt_of_le_of_lt (show (i : Int).natAbs ≤ 16 by omega) (by decide))
  have h2 := h1.mul (h.2.sub h.1)
  exact (((h.1.mono (show k ≤ 5 + (k + 1) by omega)).add h2).mono (by omega))
theorem pick_on {a : Iv} {k i : Nat} (h : a.Dn k) (hk : k ≤ 32768) (hi : i ≤ 16) : a.On (pickD a i) := by
  have h2 := Dy.d_nrm (z := i) (d := 4) (by omega)
  have h3 := Dy.d_add a.hi a.lo.neg
  have h5 : a.lo.neg.d = a.lo.d := rfl
  have h6 : (a.hi.sub a.lo).d ≤ k := by obtain ⟨q1, q2⟩ := h; unfold Dy.sub; omega
  have e : (pickD a i).v = a.lo.v + (nrm i 4).v * (a.hi.v - a.lo.v) := by
    unfold pickD; rw [Dy.v_add, Dy.v_mul_of _ _ (by omega), Dy.v_sub]
  have e2 : (nrm i 4).v * 2 ^ 4 = ((i : Int) : Rat) := v_nrm_mul (by omega)
  have i0 : (0 : Rat) ≤ ((i : Int) : Rat) := by
    have := Rat.intCast_le_intCast.2 (show (0 : Int) ≤ i by omega); simpa using this
  have i1 : ((i : Int) : Rat) ≤ 16 := by
    have := Rat.intCast_le_intCast.2 (show (i : Int) ≤ 16 by omega); simpa using this
  have c16 : (2 : Rat) ^ 4 = 16 := by grind
  rw [c16] at e2
  have f0 : 0 ≤ (nrm i 4).v := by grind
  have f1 : (nrm i 4).v ≤ 1 := by grind
  have w := a.h
  have w0 : 0 ≤ a.hi.v - a.lo.v := by grind
  have k1 := Rat.mul_nonneg f0 w0
  have k2 := Rat.mul_le_mul_of_nonneg_right f1 w0
  unfold Iv.On
  rw [e]
  constructor <;> grind
theorem hull_ins_l (a b : Iv) : a.ins (a.hull b) = true := Iv.ins_on (on_hull1 a.on_lo) (on_hull1 a.on_hi)
theorem hull_ins_r (a b : Iv) : b.ins (a.hull b) = true := Iv.ins_on (on_hull2 b.on_lo) (on_hull2 b.on_hi)
theorem hull_least {a b c : Iv} (h : a.ins c = true) : b.ins c = (a.hull b).ins c := by
  have h0 := of_decide_eq_true h
  have h3 := a.h
  have h4 := b.h
  cases hb : b.ins c with
  | true =>
    have h1 := of_decide_eq_true hb
    symm
    exact sp4_least ⟨h0.1, by grind⟩ ⟨by grind, h0.2⟩ ⟨h1.1, by grind⟩ ⟨by grind, h1.2⟩
  | false =>
    have h1 := of_decide_eq_false hb
    symm
    refine decide_eq_false fun h2 => h1 ?_
    have q1 := sp4_on3 a.lo a.hi b.lo b.hi
    have q2 := sp4_on4 a.lo a.hi b.lo b.hi
    exact ⟨Rat.le_trans h2.1 q1.1, Rat.le_trans q2.2 h2.2⟩
def Iv.meet (a b : Iv) (h : (a.lo.max b.lo).v ≤ (a.hi.min b.hi).v) : Iv := ⟨a.lo.max b.lo, a.hi.min b.hi, h⟩
theorem meet_ins_l {a b : Iv} (h) : (a.meet b h).ins a = true := decide_eq_true ⟨le_max_l _ _, min_le_l _ _⟩
theorem meet_ins_r {a b : Iv} (h) : (a.meet b h).ins b = true := decide_eq_true ⟨le_max_r _ _, min_le_r _ _⟩
theorem meet_most {a b c : Iv} (h) : (c.ins a && c.ins b) = c.ins (a.meet b h) := by
  unfold Iv.ins
  rw [← Bool.decide_and]
  refine decide_eq_decide.2 ⟨fun g => ⟨max_le g.1.1 g.2.1, le_min g.1.2 g.2.2⟩, fun g => ?_⟩
  have q1 := le_max_l a.lo b.lo
  have q2 := le_max_r a.lo b.lo
  have q3 := min_le_l a.hi b.hi
  have q4 := min_le_r a.hi b.hi
  exact ⟨⟨Rat.le_trans q1 g.1, Rat.le_trans g.2 q3⟩, ⟨Rat.le_trans q2 g.1, Rat.le_trans g.2 q4⟩⟩
theorem apart_iff (a b : Iv) : (a.hi.v < b.lo.v ∨ b.hi.v < a.lo.v) ↔ ¬ (a.lo.max b.lo).v ≤ (a.hi.min b.hi).v := by
  have := a.h
  have := b.h
  rw [Dy.v_max, Dy.v_min]
  split <;> split <;> grind
theorem width_le {a b : Iv} (h1 : b.On a.lo) (h2 : b.On a.hi) : (a.width).cmp b.width ≤ 0 := by
  rw [cmp_le]
  unfold Iv.width
  rw [Dy.v_sub, Dy.v_sub]
  have := h1.1; have := h2.2; grind
theorem mag_le {a : Iv} {x : Dy} (h : a.On x) : x.abs.cmp a.mag ≤ 0 := by
  rw [cmp_le]; exact (on_abs h).2
theorem sp2_on {a : Iv} {x y : Dy} (h : a.On x) (g : a.On y) : a.On (Iv.sp2 x y).lo ∧ a.On (Iv.sp2 x y).hi := by
  have h1 := min_v_cases x y
  have h2 := max_v_cases x y
  unfold Iv.On Iv.sp2 at *
  dsimp only
  obtain ⟨g1, g2⟩ := g
  obtain ⟨k1, k2⟩ := h
  refine ⟨⟨?_, ?_⟩, ⟨?_, ?_⟩⟩ <;> grind
theorem add_ins {a b c e : Iv} (h1 : c.On a.lo) (h2 : c.On a.hi) (g1 : e.On b.lo) (g2 : e.On b.hi) : (a.add b).ins (c.add e) = true := Iv.ins_on (on_add h1 g1) (on_add h2 g2)
theorem sub_ins {a b c e : Iv} (h1 : c.On a.lo) (h2 : c.On a.hi) (g1 : e.On b.lo) (g2 : e.On b.hi) : (a.sub b).ins (c.sub e) = true := Iv.ins_on (on_add h1 (on_neg g2)) (on_add h2 (on_neg g1))
theorem min_ins {a b c e : Iv} (h1 : c.On a.lo) (h2 : c.On a.hi) (g1 : e.On b.lo) (g2 : e.On b.hi) : (a.min b).ins (c.min e) = true := Iv.ins_on (on_min h1 g1) (on_min h2 g2)
theorem max_ins {a b c e : Iv} (h1 : c.On a.lo) (h2 : c.On a.hi) (g1 : e.On b.lo) (g2 : e.On b.hi) : (a.max b).ins (c.max e) = true := Iv.ins_on (on_max h1 g1) (on_max h2 g2)
theorem hull_ins {a b c e : Iv} (h1 : c.On a.lo) (h2 : c.On a.hi) (g1 : e.On b.lo) (g2 : e.On b.hi) : (a.hull b).ins (c.hull e) = true := sp4_least (on_hull1 h1) (on_hull1 h2) (on_hull2 g1) (on_hull2 g2)
theorem mul_ins {a b c e : Iv} {k : Nat} (hk : k ≤ 32768) (h1 : c.On a.lo) (h2 : c.On a.hi) (g1 : e.On b.lo) (g2 : e.On b.hi) (dc : c.Dn k) (de : e.Dn k) (da : a.Dn k) (db : b.Dn k) : (a.mul b).ins (c.mul e) = true :=
  sp4_least (on_mul hk h1 g1 dc de da.1 db.1) (on_mul hk h1 g2 dc de da.1 db.2) (on_mul hk h2 g1 dc de da.2 db.1) (on_mul hk h2 g2 dc de da.2 db.2)
theorem abs_ins {a c : Iv} (h1 : c.On a.lo) (h2 : c.On a.hi) : a.abs.ins c.abs = true := by
  have k1 := on_abs h1
  have k2 := on_abs h2
  have hz : c.abs.lo.v ≤ a.abs.lo.v := by
    unfold Iv.abs at *
    by_cases q : a.lo.v < 0 ∧ 0 < a.hi.v
    · have q2 : c.lo.v < 0 ∧ 0 < c.hi.v := ⟨by have := h1.1; grind, by have := h2.2; grind⟩
      rw [if_pos q, if_pos q2]; show Dy.zero.v ≤ Dy.zero.v; grind
    · rw [if_neg q]; exact le_min k1.1 k2.1
  have hw : a.abs.hi.v ≤ c.abs.hi.v := by
    have e : a.abs.hi = a.lo.abs.max a.hi.abs := by unfold Iv.abs; split <;> rfl
    rw [e]; exact max_le k1.2 k2.2
  exact decide_eq_true ⟨hz, hw⟩
theorem floor_le_v {x : Dy} {n : Nat} (h : n ≤ 65536) : (x.floor n).v ≤ x.v := by
  have hp := p2pos n
  have e := v_nrm_mul (z := (x.v * 2 ^ n).floor) h
  have := Rat.floor_le (x.v * 2 ^ n)
  rw [← e] at this
  exact Rat.le_of_mul_le_mul_right this hp
theorem le_ceil_v {x : Dy} {n : Nat} (h : n ≤ 65536) : x.v ≤ (x.ceil n).v := by
  have := floor_le_v (x := x.neg) h
  unfold Dy.ceil
  rw [Dy.v_neg] at *
  grind
def rnd (a : Iv) (n : Nat) {k : Nat} (_ : a.Dn k) (h : n ≤ 65536) : Iv := ⟨a.lo.floor n, a.hi.ceil n, Rat.le_trans (floor_le_v h) (Rat.le_trans a.h (le_ceil_v h))⟩
theorem u8_of {n : Int} (h : (Lit.int .u8 n).wf = true) : 0 ≤ n ∧ n ≤ 255 := by simpa [Lit.wf, IntKind.min, IntKind.max, IntKind.signed, IntKind.bits] using h
end Go.Ax

namespace Go.Ax
open Go Go.RowKit
section
variable {C : Cx} {s : AS} {o : Oper}
theorem own_lit0 (hT : TypesOK C.P C.ti) {t e : TypeId} {q1 q2 : Nat} {q3 : List Z} {z : TyI} (ho : o.op = .buildSlice t 0 #[]) (ht : C.ti t = some ⟨q1, q2, q3, .slc e⟩) (hz : C.ti e = some z) :
    OwnOK C s o ⟨.ps s.next z.size 0 0, .new ⟨z.size, []⟩, none, some s.next⟩ where
  nocall := by rw [ho]; rfl
  noop s' := by rw [ho]; rfl
  run s' hA := by
    rw [hA.2.2]
    intro D S0 w0 σ S U a w K Q hG hid hF hE hK
    obtain ⟨i, d, h1, h2, h3, h4, h5, h6⟩ := underlying_of hT ht
    have hd := slc_desc h5
    subst hd
    obtain ⟨i', d', g1, g2, g3, g4, g5, ⟨zv, hz1, hz2, hz3⟩, g7⟩ := underlying_of hT hz
    have hrun : (execOp a.eval o).run C.P w = .ok (.value (.slice (some ⟨w.heap.size, 0, none⟩) 0 0)) (w.alloc (.cells #[] e)) := by
      simp [execOp, ho, Instr.buildSlice, run_underlying h2, run_sizeOf_of g1, Instr.fill, newRow]
      have e0 : (Array.range 0).map (fun (_ : Nat) => (default : Value)) = #[] := by simp [Array.range]
      rw [e0]
    unfold Oper.wp
    rw [hrun]
    have hFn := hF.new (next := s'.next) hid #[] e ⟨z.size, []⟩ (fun r hr => by cases hr) (by simp) (fun i r j av hi => by simp at hi)
    exact hK _ _ _ S hFn (hE.new hF hid _ _) (.ps (k := w.heap.size) (off := 0) (by simp [Ax.upd]) (Nat.le_refl _) (.inl (by simp)) ⟨_, e, (0, 0), heap_alloc_new w _, by simp⟩)
  tch b h := by
    simp only [tch, beq_iff_eq] at h
    exact .inl (by rw [h])
end
section
variable {C : Cx} {s : AS} {n : Nat} {r : List It} {Q : Lab → AS → Prop}
theorem drawAfter_lit0 {all l : List Oper} {fps : List FP} {fp : FP} {d : Option Tmp} {u : TypeId} {pos : String} {af : Array Edge} {g : Option (Nat × Bool)} (hT : TypesOK C.P C.ti) {t e : TypeId} {q1 q2 : Nat} {q3 : List Z} {z : TyI} (ht : C.ti t = some ⟨q1, q2, q3, .slc e⟩) (hz : C.ti e = some z)
    (kk : drawRun C n r (bump ((⟨s.env, (s.next, ⟨z.size, []⟩) :: s.mem, s.next + 1⟩ : AS).put d (.ps s.next z.size 0 0)) (s.next + 1)) Q all l ((none, some s.next) :: fps)) :
    drawAfter C n r s Q all ⟨d, .buildSlice t 0 #[], u, pos, af, g⟩ none fp l fps := by
  refine drawAfter_own (own_lit0 hT rfl ht hz) ?_
  cases d <;> exact kk
def thawL : List Nat → AS → AS
  | [], s => s
  | b :: l, s => match look s.mem b with
    | some m => thawL l (thawS b m s)
    | none => s
def thawLOK : List Nat → AS → Prop
  | [], _ => True
  | b :: l, s => match look s.mem b with
    | some m => thawEOK b m s.env ∧ thawLOK l (thawS b m s)
    | none => True
attribute [go_sem] Ax.thawL
theorem thawL_next : ∀ (l : List Nat) (s : AS), (thawL l s).next = s.next
  | [], s => rfl
  | b :: l, s => by
    simp only [thawL]
    split
    · rw [thawL_next l]; rfl
    · rfl
theorem Weak.thaws : ∀ (l : List Nat) (s : AS), thawLOK l s → Weak s (thawL l s)
  | [], s, _ => fun D S0 w0 σ S w hF _ => ⟨σ, S, hF, fun a hE => hE⟩
  | b :: l, s, h => by
    simp only [thawL]
    simp only [thawLOK] at h
    split
    · rename_i m hm
      rw [hm] at h
      exact Weak.trans (Weak.thaw b hm h.1) (Nat.le_refl _) (Weak.thaws l _ h.2)
    · exact fun D S0 w0 σ S w hF _ => ⟨σ, S, hF, fun a hE => hE⟩
theorem after_thaws (hT : TypesOK C.P C.ti) {o : Oper} (l : List Nat) (h : thawLOK l s) (hc : isCall o.op = false) {e : Eff} (he : aop C.ti (thawL l s) o.op = some e) (hn : e.need) (k : ex C n r (((thawL l s).upd e.upd).put o.dst e.val) Q) : after C n r s Q o none :=
  after_weak hT (Weak.thaws l s h) (by rw [thawL_next]; exact Nat.le_refl _) hc he hn k
end
end Go.Ax

namespace Go.Ax
open Go Go.RowKit
section
variable {C : Cx} {n : Nat} {r : List It} {s s' : AS} {Q : Lab → AS → Prop}
theorem loop_weak {c : Code} (hw : Weak s s') (hle : s.next ≤ s'.next) (h : loopThen C n r s' Q c) : loopThen C n r s Q c := by
  obtain ⟨I, ⟨m0, s0, hI, hw0, ha⟩, hstep⟩ := h
  exact ⟨I, ⟨m0, s0, hI, Weak.trans hw hle hw0, fun h1 h2 => ha h1 (Nat.lt_of_lt_of_le h2 hle)⟩, hstep⟩
end
theorem mem_take_succ {α : Type} {l : List α} {x d : α} {k : Nat} (h : k < l.length) : x ∈ l.take (k + 1) ↔ x ∈ l.take k ∨ l.getD k d = x := by
  rw [List.take_add_one, List.getElem?_eq_getElem h]
  simp only [Option.toList_some, List.mem_append, List.mem_singleton]
  rw [List.getD, List.getElem?_eq_getElem h, Option.getD_some]
  constructor
  · rintro (h | h)
    · exact .inl h
    · exact .inr h.symm
  · rintro (h | h)
    · exact .inl h
    · exact .inr h.symm
end Go.Ax

namespace Go.Ax
open Go Go.RowKit
theorem Dy.int_mul (a b : Int) : (Dy.int a).mul (Dy.int b) = Dy.int (a * b) := by
  show nrm (a * b) (0 + 0) = _
  exact nrm_self (Dy.int (a * b))
theorem Dy.int_neg (a : Int) : (Dy.int a).neg = Dy.int (-a) := rfl
theorem Dy.int_abs (a : Int) : (Dy.int a).abs = Dy.int a.natAbs := rfl
theorem Dy.int_add (a b : Int) : (Dy.int a).add (Dy.int b) = Dy.int (a + b) := by
  refine Dy.ext_v ?_
  rw [Dy.v_add, Dy.v_int, Dy.v_int, Dy.v_int, Rat.intCast_add]
theorem Dy.int_sub (a b : Int) : (Dy.int a).sub (Dy.int b) = Dy.int (a - b) := by
  rw [Dy.sub, Dy.int_neg, Dy.int_add, Int.sub_eq_add_neg]
theorem Dy.int_sign (a : Int) : (Dy.int a).sign = if a < 0 then -1 else if a = 0 then 0 else 1 := rfl
theorem Dy.int_cmp (a b : Int) : (Dy.int a).cmp (Dy.int b) = if a < b then -1 else if b < a then 1 else 0 := by
  unfold Dy.cmp
  simp only [Dy.v_int, Rat.intCast_lt_intCast]
theorem mg_intB {k : Nat} {n : Int} (h : n.natAbs < 2 ^ k) : Mg k (Dy.int n) := Mg.int h
theorem int_cmp_lt (a b : Int) : (Dy.int a).cmp (Dy.int b) < 0 ↔ a < b := by rw [Dy.int_cmp]; split <;> (try split) <;> omega
theorem int_cmp_gt (a b : Int) : 0 < (Dy.int a).cmp (Dy.int b) ↔ b < a := by rw [Dy.int_cmp]; split <;> (try split) <;> omega
structure BS where
  ln : Int
  ld : Int
  hn : Int
  hd : Int
  hl : Bool
  hh : Bool
  no : Bool
def BS.zero : BS := ⟨0, 0, 0, 0, false, false, false⟩
def BS.add (b : BS) (k c : Int) : BS :=
  if k = 0 then ⟨b.ln, b.ld, b.hn, b.hd, b.hl, b.hh, b.no || decide (c < 0)⟩
  else if 0 < k then (if b.hh = false ∨ c * b.hd < b.hn * k then ⟨b.ln, b.ld, c, k, b.hl, true, b.no⟩ else b)
  else (if b.hl = false ∨ b.ln * -k < -c * b.ld then ⟨-c, -k, b.hn, b.hd, true, b.hh, b.no⟩ else b)
def BS.of (C : List (Int × Int)) : BS := C.foldl (fun b p => b.add p.1 p.2) BS.zero
theorem BS.of_snoc (C : List (Int × Int)) (k c : Int) : BS.of (C ++ [(k, c)]) = (BS.of C).add k c := by simp [BS.of, List.foldl_append]
def BS.Sm (m : Nat) (b : BS) : Prop := b.ln.natAbs < 2 ^ m ∧ b.ld.natAbs < 2 ^ m ∧ b.hn.natAbs < 2 ^ m ∧ b.hd.natAbs < 2 ^ m
theorem BS.Sm.add {m : Nat} {b : BS} {k c : Int} (h : b.Sm m) (hk : k.natAbs < 2 ^ m) (hc : c.natAbs < 2 ^ m) : (b.add k c).Sm m := by
  obtain ⟨h1, h2, h3, h4⟩ := h
  unfold BS.add
  split
  · exact ⟨h1, h2, h3, h4⟩
  · split
    · split
      · exact ⟨h1, h2, hc, hk⟩
      · exact ⟨h1, h2, h3, h4⟩
    · split
      · exact ⟨by show (-c).natAbs < _; rw [Int.natAbs_neg]; exact hc, by show (-k).natAbs < _; rw [Int.natAbs_neg]; exact hk, h3, h4⟩
      · exact ⟨h1, h2, h3, h4⟩
theorem BS.Sm.zero (m : Nat) : BS.zero.Sm m := by have : 0 < 2 ^ m := Nat.pow_pos (by omega); exact ⟨this, this, this, this⟩
theorem BS.Sm.of {m : Nat} {C : List (Int × Int)} (h : ∀ p ∈ C, p.1.natAbs < 2 ^ m ∧ p.2.natAbs < 2 ^ m) : (BS.of C).Sm m := by
  have : ∀ (C : List (Int × Int)) (b : BS), b.Sm m → (∀ p ∈ C, p.1.natAbs < 2 ^ m ∧ p.2.natAbs < 2 ^ m) → (C.foldl (fun b p => b.add p.1 p.2) b).Sm m := by
    intro C
    induction C with
    | nil => intro b hb _; exact hb
    | cons p C ih => intro b hb hC; exact ih _ (hb.add (hC p (List.mem_cons_self ..)).1 (hC p (List.mem_cons_self ..)).2) (fun q hq => hC q (List.mem_cons_of_mem _ hq))
  exact this C _ (.zero m) h
structure BInv (C : List (Int × Int)) (b : BS) : Prop where
  no : b.no = true ↔ ∃ c, (0, c) ∈ C ∧ c < 0
  hh : b.hh = true ↔ ∃ k c, (k, c) ∈ C ∧ 0 < k
  hl : b.hl = true ↔ ∃ k c, (k, c) ∈ C ∧ k < 0
  hi : b.hh = true → 0 < b.hd ∧ (b.hd, b.hn) ∈ C ∧ ∀ k c, (k, c) ∈ C → 0 < k → b.hn * k ≤ c * b.hd
  lo : b.hl = true → 0 < b.ld ∧ (-b.ld, -b.ln) ∈ C ∧ ∀ k c, (k, c) ∈ C → k < 0 → -c * b.ld ≤ b.ln * -k
theorem BInv.zero : BInv [] BS.zero := ⟨by simp [BS.zero], by simp [BS.zero], by simp [BS.zero], by simp [BS.zero], by simp [BS.zero]⟩
theorem cross_trans {a b c d e f : Int} (hb : 0 < b) (hd : 0 < d) (hf : 0 < f) (h1 : a * d ≤ c * b) (h2 : c * f ≤ e * d) : a * f ≤ e * b := by
  have q1 : a * d * f ≤ c * b * f := Int.mul_le_mul_of_nonneg_right h1 (by omega)
  have q2 : c * f * b ≤ e * d * b := Int.mul_le_mul_of_nonneg_right h2 (by omega)
  have e1 : a * d * f = a * f * d := by rw [Int.mul_right_comm]
  have e2 : c * b * f = c * f * b := by rw [Int.mul_right_comm]
  have e3 : e * d * b = e * b * d := by rw [Int.mul_right_comm]
  rw [e1, e2] at q1
  rw [e3] at q2
  exact Int.le_of_mul_le_mul_right (Int.le_trans q1 q2) hd
theorem BInv.add {C : List (Int × Int)} {b : BS} (h : BInv C b) (k c : Int) : BInv (C ++ [(k, c)]) (b.add k c) := by
  obtain ⟨i1, i2, i3, i4, i5⟩ := h
  have mem : ∀ p, p ∈ C ++ [(k, c)] ↔ p ∈ C ∨ p = (k, c) := fun p => by simp
  unfold BS.add
  rcases Int.lt_trichotomy k 0 with hk | hk | hk
  · rw [if_neg (by omega), if_neg (by omega)]
    have j1 : (∃ c', (0, c') ∈ C ++ [(k, c)] ∧ c' < 0) ↔ ∃ c', (0, c') ∈ C ∧ c' < 0 := by
      constructor
      · rintro ⟨c', h1, h2⟩
        rcases (mem _).1 h1 with h1 | h1
        · exact ⟨c', h1, h2⟩
        · injection h1 with h1; omega
      · rintro ⟨c', h1, h2⟩; exact ⟨c', (mem _).2 (.inl h1), h2⟩
    have j2 : (∃ k' c', (k', c') ∈ C ++ [(k, c)] ∧ 0 < k') ↔ ∃ k' c', (k', c') ∈ C ∧ 0 < k' := by
      constructor
      · rintro ⟨k', c', h1, h2⟩
        rcases (mem _).1 h1 with h1 | h1
        · exact ⟨k', c', h1, h2⟩
        · injection h1 with h1; omega
      · rintro ⟨k', c', h1, h2⟩; exact ⟨k', c', (mem _).2 (.inl h1), h2⟩
    have j3 : ∃ k' c', (k', c') ∈ C ++ [(k, c)] ∧ k' < 0 := ⟨k, c, (mem _).2 (.inr rfl), hk⟩
    have j4 : b.hh = true → 0 < b.hd ∧ (b.hd, b.hn) ∈ C ++ [(k, c)] ∧ ∀ k' c', (k', c') ∈ C ++ [(k, c)] → 0 < k' → b.hn * k' ≤ c' * b.hd := fun h => by
      obtain ⟨q1, q2, q3⟩ := i4 h
      refine ⟨q1, (mem _).2 (.inl q2), fun k' c' h1 h2 => ?_⟩
      rcases (mem _).1 h1 with h1 | h1
      · exact q3 k' c' h1 h2
      · injection h1 with h1; omega
    split
    · rename_i hc
      refine ⟨i1.trans j1.symm, i2.trans j2.symm, ⟨fun _ => j3, fun _ => rfl⟩, j4, fun _ => ⟨by show 0 < -k; omega, ?_, fun k' c' h1 h2 => ?_⟩⟩
      · show (- -k, - -c) ∈ _
        rw [Int.neg_neg, Int.neg_neg]; exact (mem _).2 (.inr rfl)
      · show -c' * -k ≤ -c * -k'
        rcases (mem _).1 h1 with h1 | h1
        · have hb : b.hl = true := i3.2 ⟨k', c', h1, h2⟩
          obtain ⟨q1, q2, q3⟩ := i5 hb
          have q4 := q3 k' c' h1 h2
          rcases hc with hc | hc
          · rw [hb] at hc; cases hc
          · exact cross_trans (b := -k') (d := b.ld) (f := -k) (c := b.ln) (e := -c) (by omega) q1 (by omega) q4 (by omega)
        · injection h1 with h1 h3; subst h1 h3; exact Int.le_refl _
    · rename_i hc
      have hb : b.hl = true := by
        cases hb : b.hl
        · exact absurd (.inl hb) hc
        · rfl
      have hc2 : ¬ b.ln * -k < -c * b.ld := fun h => hc (.inr h)
      refine ⟨i1.trans j1.symm, i2.trans j2.symm, ⟨fun _ => j3, fun _ => hb⟩, j4, fun _ => ?_⟩
      obtain ⟨q1, q2, q3⟩ := i5 hb
      refine ⟨q1, (mem _).2 (.inl q2), fun k' c' h1 h2 => ?_⟩
      rcases (mem _).1 h1 with h1 | h1
      · exact q3 k' c' h1 h2
      · injection h1 with h1 h3; subst h1 h3; omega
  · subst hk
    rw [if_pos rfl]
    have j1 : (∃ c', (0, c') ∈ C ++ [(0, c)] ∧ c' < 0) ↔ (∃ c', (0, c') ∈ C ∧ c' < 0) ∨ c < 0 := by
      constructor
      · rintro ⟨c', h1, h2⟩
        rcases (mem _).1 h1 with h1 | h1
        · exact .inl ⟨c', h1, h2⟩
        · injection h1 with h1 h3; subst h3; exact .inr h2
      · rintro (⟨c', h1, h2⟩ | h)
        · exact ⟨c', (mem _).2 (.inl h1), h2⟩
        · exact ⟨c, (mem _).2 (.inr rfl), h⟩
    have j2 : (∃ k' c', (k', c') ∈ C ++ [(0, c)] ∧ 0 < k') ↔ ∃ k' c', (k', c') ∈ C ∧ 0 < k' := by
      constructor
      · rintro ⟨k', c', h1, h2⟩
        rcases (mem _).1 h1 with h1 | h1
        · exact ⟨k', c', h1, h2⟩
        · injection h1 with h1; omega
      · rintro ⟨k', c', h1, h2⟩; exact ⟨k', c', (mem _).2 (.inl h1), h2⟩
    have j3 : (∃ k' c', (k', c') ∈ C ++ [(0, c)] ∧ k' < 0) ↔ ∃ k' c', (k', c') ∈ C ∧ k' < 0 := by
      constructor
      · rintro ⟨k', c', h1, h2⟩
        rcases (mem _).1 h1 with h1 | h1
        · exact ⟨k', c', h1, h2⟩
        · injection h1 with h1; omega
      · rintro ⟨k', c', h1, h2⟩; exact ⟨k', c', (mem _).2 (.inl h1), h2⟩
    refine ⟨?_, i2.trans j2.symm, i3.trans j3.symm, fun h => ?_, fun h => ?_⟩
    · show (b.no || decide (c < 0)) = true ↔ _
      rw [Bool.or_eq_true, decide_eq_true_eq, j1, i1]
    · obtain ⟨q1, q2, q3⟩ := i4 h
      refine ⟨q1, (mem _).2 (.inl q2), fun k' c' h1 h2 => ?_⟩
      rcases (mem _).1 h1 with h1 | h1
      · exact q3 k' c' h1 h2
      · injection h1 with h1; omega
    · obtain ⟨q1, q2, q3⟩ := i5 h
      refine ⟨q1, (mem _).2 (.inl q2), fun k' c' h1 h2 => ?_⟩
      rcases (mem _).1 h1 with h1 | h1
      · exact q3 k' c' h1 h2
      · injection h1 with h1; omega
  · rw [if_neg (by omega), if_pos hk]
    have j1 : (∃ c', (0, c') ∈ C ++ [(k, c)] ∧ c' < 0) ↔ ∃ c', (0, c') ∈ C ∧ c' < 0 := by
      constructor
      · rintro ⟨c', h1, h2⟩
        rcases (mem _).1 h1 with h1 | h1
        · exact ⟨c', h1, h2⟩
        · injection h1 with h1; omega
      · rintro ⟨c', h1, h2⟩; exact ⟨c', (mem _).2 (.inl h1), h2⟩
    have j2 : ∃ k' c', (k', c') ∈ C ++ [(k, c)] ∧ 0 < k' := ⟨k, c, (mem _).2 (.inr rfl), hk⟩
    have j3 : (∃ k' c', (k', c') ∈ C ++ [(k, c)] ∧ k' < 0) ↔ ∃ k' c', (k', c') ∈ C ∧ k' < 0 := by
      constructor
      · rintro ⟨k', c', h1, h2⟩
        rcases (mem _).1 h1 with h1 | h1
        · exact ⟨k', c', h1, h2⟩
        · injection h1 with h1; omega
      · rintro ⟨k', c', h1, h2⟩; exact ⟨k', c', (mem _).2 (.inl h1), h2⟩
    have j5 : b.hl = true → 0 < b.ld ∧ (-b.ld, -b.ln) ∈ C ++ [(k, c)] ∧ ∀ k' c', (k', c') ∈ C ++ [(k, c)] → k' < 0 → -c' * b.ld ≤ b.ln * -k' := fun h => by
      obtain ⟨q1, q2, q3⟩ := i5 h
      refine ⟨q1, (mem _).2 (.inl q2), fun k' c' h1 h2 => ?_⟩
      rcases (mem _).1 h1 with h1 | h1
      · exact q3 k' c' h1 h2
      · injection h1 with h1; omega
    split
    · rename_i hc
      refine ⟨i1.trans j1.symm, ⟨fun _ => j2, fun _ => rfl⟩, i3.trans j3.symm, fun _ => ⟨hk, (mem _).2 (.inr rfl), fun k' c' h1 h2 => ?_⟩, j5⟩
      show c * k' ≤ c' * k
      rcases (mem _).1 h1 with h1 | h1
      · have hb : b.hh = true := i2.2 ⟨k', c', h1, h2⟩
        obtain ⟨q1, q2, q3⟩ := i4 hb
        have q4 := q3 k' c' h1 h2
        rcases hc with hc | hc
        · rw [hb] at hc; cases hc
        · exact cross_trans (b := k) (d := b.hd) (f := k') (c := b.hn) (e := c') hk q1 h2 (by omega) q4
      · injection h1 with h1 h3; subst h1 h3; exact Int.le_refl _
    · rename_i hc
      have hb : b.hh = true := by
        cases hb : b.hh
        · exact absurd (.inl hb) hc
        · rfl
      have hc2 : ¬ c * b.hd < b.hn * k := fun h => hc (.inr h)
      refine ⟨i1.trans j1.symm, ⟨fun _ => j2, fun _ => hb⟩, i3.trans j3.symm, fun _ => ?_, j5⟩
      obtain ⟨q1, q2, q3⟩ := i4 hb
      refine ⟨q1, (mem _).2 (.inl q2), fun k' c' h1 h2 => ?_⟩
      rcases (mem _).1 h1 with h1 | h1
      · exact q3 k' c' h1 h2
      · injection h1 with h1 h3; subst h1 h3; omega
theorem BInv.of (C : List (Int × Int)) : BInv C (BS.of C) := by
  have : ∀ (l C0 : List (Int × Int)) (b : BS), BInv C0 b → BInv (C0 ++ l) (l.foldl (fun b p => b.add p.1 p.2) b) := by
    intro l
    induction l with
    | nil => intro C0 b h; simpa using h
    | cons p l ih =>
      intro C0 b h
      have := ih (C0 ++ [p]) _ (h.add p.1 p.2)
      rwa [List.append_assoc] at this
  have h := this C [] _ .zero
  rwa [List.nil_append] at h
def Fit1 (C : List (Int × Int)) (u : Rat) : Prop := ∀ k c, (k, c) ∈ C → (k : Rat) * u ≤ c
inductive Out where
  | bad
  | wide
  | iv (ln ld hn hd : Int)
inductive OutOK (F : Rat → Prop) : Out → Prop
  | bad (h : ∀ u, ¬ F u) : OutOK F .bad
  | wide (h : ∃ u, F u) (g : ∀ lo hi : Rat, ∃ u, F u ∧ (u < lo ∨ hi < u)) : OutOK F .wide
  | iv {ln ld hn hd : Int} (h1 : 0 < ld) (h2 : 0 < hd) (h3 : ln * hd ≤ hn * ld) (h : ∀ u, F u ↔ (ln : Rat) ≤ u * ld ∧ u * hd ≤ (hn : Rat)) : OutOK F (.iv ln ld hn hd)
def BS.out (b : BS) : Out := if b.no = true ∨ (b.hl = true ∧ b.hh = true ∧ b.hn * b.ld < b.ln * b.hd) then .bad else if b.hl = true ∧ b.hh = true then .iv b.ln b.ld b.hn b.hd else .wide
theorem icast_le {a b : Int} : ((a : Int) : Rat) ≤ (b : Rat) ↔ a ≤ b := Rat.intCast_le_intCast
theorem icast_lt {a b : Int} : ((a : Int) : Rat) < (b : Rat) ↔ a < b := Rat.intCast_lt_intCast
theorem icast_pos {a : Int} (h : 0 < a) : (0 : Rat) < (a : Rat) := by have := icast_lt.2 h; simpa using this
theorem le_of_mul_pos {a b c : Rat} (hc : 0 < c) (h : a * c ≤ b * c) : a ≤ b := Rat.le_of_mul_le_mul_right h hc
theorem mul_le_pos {a b c : Rat} (hc : 0 < c) (h : a ≤ b) : a * c ≤ b * c := Rat.mul_le_mul_of_nonneg_right h (Rat.le_of_lt hc)
theorem fit_iff {C : List (Int × Int)} {b : BS} (h : BInv C b) (hn : ¬ b.no = true) (u : Rat) : Fit1 C u ↔ (b.hl = true → (b.ln : Rat) ≤ u * b.ld) ∧ (b.hh = true → u * b.hd ≤ (b.hn : Rat)) := by
  constructor
  · intro hf
    refine ⟨fun hl => ?_, fun hh => ?_⟩
    · obtain ⟨q1, q2, q3⟩ := h.lo hl
      have := hf _ _ q2
      rw [Rat.intCast_neg, Rat.intCast_neg] at this
      grind
    · obtain ⟨q1, q2, q3⟩ := h.hi hh
      have := hf _ _ q2
      grind
  · rintro ⟨h1, h2⟩ k c hm
    rcases Int.lt_trichotomy k 0 with hk | hk | hk
    · have hl := h.hl.2 ⟨k, c, hm, hk⟩
      obtain ⟨q1, q2, q3⟩ := h.lo hl
      have q4 := icast_le.2 (q3 k c hm hk)
      simp only [Rat.intCast_mul, Rat.intCast_neg] at q4
      have q5 := h1 hl
      have hk' : (0 : Rat) < -(k : Rat) := by have := icast_pos (show 0 < -k by omega); rwa [Rat.intCast_neg] at this
      have q6 := mul_le_pos hk' q5
      refine le_of_mul_pos (icast_pos q1) ?_
      grind
    · subst hk
      have : ¬ c < 0 := fun hc => hn (h.no.2 ⟨c, hm, hc⟩)
      have := icast_le.2 (show (0 : Int) ≤ c by omega)
      simp only [Rat.intCast_zero, Rat.zero_mul] at this ⊢
      exact this
    · have hh := h.hh.2 ⟨k, c, hm, hk⟩
      obtain ⟨q1, q2, q3⟩ := h.hi hh
      have q4 := icast_le.2 (q3 k c hm hk)
      simp only [Rat.intCast_mul] at q4
      have q5 := h2 hh
      have q6 := mul_le_pos (icast_pos hk) q5
      refine le_of_mul_pos (icast_pos q1) ?_
      grind
theorem div_mul_pos {n d : Rat} (hd : 0 < d) : n / d * d = n := Rat.div_mul_cancel (by grind)
theorem out_ok {C : List (Int × Int)} {b : BS} (h : BInv C b) : OutOK (Fit1 C) b.out := by
  unfold BS.out
  by_cases hno : b.no = true
  · rw [if_pos (.inl hno)]
    obtain ⟨c, h1, h2⟩ := h.no.1 hno
    refine .bad fun u hu => ?_
    have := hu _ _ h1
    have h3 := icast_lt.2 h2
    simp only [Rat.intCast_zero, Rat.zero_mul] at this h3
    grind
  · have key := fit_iff h hno
    by_cases hb : b.hl = true ∧ b.hh = true ∧ b.hn * b.ld < b.ln * b.hd
    · rw [if_pos (.inr hb)]
      obtain ⟨h1, h2, h3⟩ := hb
      have p1 := icast_pos (h.lo h1).1
      have p2 := icast_pos (h.hi h2).1
      have h4 := icast_lt.2 h3
      simp only [Rat.intCast_mul] at h4
      refine .bad fun u hu => ?_
      obtain ⟨q1, q2⟩ := (key u).1 hu
      have q3 := mul_le_pos p2 (q1 h1)
      have q4 := mul_le_pos p1 (q2 h2)
      grind
    · rw [if_neg (fun hh => hh.elim hno hb)]
      by_cases hc : b.hl = true ∧ b.hh = true
      · rw [if_pos hc]
        refine .iv (h.lo hc.1).1 (h.hi hc.2).1 (by have : ¬ b.hn * b.ld < b.ln * b.hd := fun h => hb ⟨hc.1, hc.2, h⟩; omega) fun u => ?_
        rw [key u]
        exact ⟨fun q => ⟨q.1 hc.1, q.2 hc.2⟩, fun q => ⟨fun _ => q.1, fun _ => q.2⟩⟩
      · rw [if_neg hc]
        have mk : ∀ lo hi : Rat, ∃ u, Fit1 C u ∧ (u < lo ∨ hi < u) := fun lo hi => by
          by_cases hl : b.hl = true
          · have hh : ¬ b.hh = true := fun h => hc ⟨hl, h⟩
            have p1 := icast_pos (h.lo hl).1
            have e1 := div_mul_pos (n := (b.ln : Rat)) p1
            by_cases g : (b.ln : Rat) / b.ld ≤ hi
            · refine ⟨hi + 1, (key _).2 ⟨fun _ => ?_, fun q => absurd q hh⟩, .inr (by grind)⟩
              have := mul_le_pos p1 (show (b.ln : Rat) / b.ld ≤ hi + 1 by grind)
              grind
            · refine ⟨(b.ln : Rat) / b.ld, (key _).2 ⟨fun _ => ?_, fun q => absurd q hh⟩, .inr (by grind)⟩
              rw [e1]; grind
          · by_cases hh : b.hh = true
            · have p1 := icast_pos (h.hi hh).1
              have e1 := div_mul_pos (n := (b.hn : Rat)) p1
              by_cases g : lo ≤ (b.hn : Rat) / b.hd
              · refine ⟨lo - 1, (key _).2 ⟨fun q => absurd q hl, fun _ => ?_⟩, .inl (by grind)⟩
                have := mul_le_pos p1 (show lo - 1 ≤ (b.hn : Rat) / b.hd by grind)
                grind
              · refine ⟨(b.hn : Rat) / b.hd, (key _).2 ⟨fun q => absurd q hl, fun _ => ?_⟩, .inl (by grind)⟩
                rw [e1]; grind
            · exact ⟨hi + 1, (key _).2 ⟨fun q => absurd q hl, fun q => absurd q hh⟩, .inr (by grind)⟩
        obtain ⟨u, hu, _⟩ := mk 0 0
        exact .wide ⟨u, hu⟩ mk
def qd (n d : Int) : Dy := (Dy.int n).quo (Dy.int d) 16
def Out.err : Out → Int
  | .bad => 23
  | .wide => 22
  | .iv _ _ _ _ => 0
def Out.lo : Out → Dy
  | .iv ln ld _ _ => qd ln ld
  | _ => Dy.zero
def Out.hi : Out → Dy
  | .iv _ _ hn hd => (qd (-hn) hd).neg
  | _ => Dy.zero
theorem qd_eq {n d n' d' : Int} (h : (n : Rat) / d = (n' : Rat) / d') : qd n d = qd n' d' := by
  unfold qd Dy.quo
  rw [Dy.v_int, Dy.v_int, Dy.v_int, Dy.v_int, h]
theorem out_iv_iff {F : Rat → Prop} {ln ld hn hd : Int} (h1 : 0 < ld) (h2 : 0 < hd) (h : ∀ u, F u ↔ (ln : Rat) ≤ u * ld ∧ u * hd ≤ (hn : Rat)) (u : Rat) : F u ↔ (ln : Rat) / ld ≤ u ∧ u ≤ (hn : Rat) / hd := by
  have p1 := icast_pos h1
  have p2 := icast_pos h2
  have e1 := div_mul_pos (n := (ln : Rat)) p1
  have e2 := div_mul_pos (n := (hn : Rat)) p2
  rw [h u]
  constructor
  · rintro ⟨q1, q2⟩
    exact ⟨le_of_mul_pos p1 (by rw [e1]; exact q1), le_of_mul_pos p2 (by rw [e2]; exact q2)⟩
  · rintro ⟨q1, q2⟩
    have q3 := mul_le_pos p1 q1
    have q4 := mul_le_pos p2 q2
    rw [e1] at q3
    rw [e2] at q4
    exact ⟨q3, q4⟩
theorem out_le {ln ld hn hd : Int} (h1 : 0 < ld) (h2 : 0 < hd) (h3 : ln * hd ≤ hn * ld) : (ln : Rat) / ld ≤ (hn : Rat) / hd := by
  have p1 := icast_pos h1
  have p2 := icast_pos h2
  have e1 := div_mul_pos (n := (ln : Rat)) p1
  have e2 := div_mul_pos (n := (hn : Rat)) p2
  have h4 := icast_le.2 h3
  simp only [Rat.intCast_mul] at h4
  generalize (ln : Rat) / ld = L at *
  generalize (hn : Rat) / hd = H at *
  refine le_of_mul_pos p1 (le_of_mul_pos p2 ?_)
  have e3 : H * hd * ld = H * ld * hd := by rw [Rat.mul_assoc, Rat.mul_comm (hd : Rat) ld, ← Rat.mul_assoc]
  rw [e1, ← e3, e2]
  exact h4
theorem out_uniq {F : Rat → Prop} {o o' : Out} (h : OutOK F o) (g : OutOK F o') : o.err = o'.err ∧ o.lo = o'.lo ∧ o.hi = o'.hi := by
  cases h with
  | bad h =>
    cases g with
    | bad _ => exact ⟨rfl, rfl, rfl⟩
    | wide g _ => obtain ⟨u, hu⟩ := g; exact absurd hu (h u)
    | iv g1 g2 g3 g4 => exact absurd ((out_iv_iff g1 g2 g4 _).2 ⟨Rat.le_refl, out_le g1 g2 g3⟩) (h _)
  | wide h k =>
    cases g with
    | bad g => obtain ⟨u, hu⟩ := h; exact absurd hu (g u)
    | wide _ _ => exact ⟨rfl, rfl, rfl⟩
    | @iv ln ld hn hd g1 g2 g3 g4 =>
      obtain ⟨u, hu, h1⟩ := k ((ln : Rat) / ld) ((hn : Rat) / hd)
      have := (out_iv_iff g1 g2 g4 u).1 hu
      rcases h1 with h1 | h1 <;> grind
  | @iv ln ld hn hd h1 h2 h3 h4 =>
    cases g with
    | bad g => exact absurd ((out_iv_iff h1 h2 h4 _).2 ⟨Rat.le_refl, out_le h1 h2 h3⟩) (g _)
    | wide g k =>
      obtain ⟨u, hu, h5⟩ := k ((ln : Rat) / ld) ((hn : Rat) / hd)
      have := (out_iv_iff h1 h2 h4 u).1 hu
      rcases h5 with h5 | h5 <;> grind
    | @iv ln' ld' hn' hd' g1 g2 g3 g4 =>
      have a1 := out_le h1 h2 h3
      have a2 := out_le g1 g2 g3
      have i1 := (out_iv_iff g1 g2 g4 _).1 ((out_iv_iff h1 h2 h4 _).2 ⟨Rat.le_refl, a1⟩)
      have i2 := (out_iv_iff h1 h2 h4 _).1 ((out_iv_iff g1 g2 g4 _).2 ⟨Rat.le_refl, a2⟩)
      have i3 := (out_iv_iff g1 g2 g4 _).1 ((out_iv_iff h1 h2 h4 _).2 ⟨a1, Rat.le_refl⟩)
      have i4 := (out_iv_iff h1 h2 h4 _).1 ((out_iv_iff g1 g2 g4 _).2 ⟨a2, Rat.le_refl⟩)
      have q1 : (ln : Rat) / ld = (ln' : Rat) / ld' := by grind
      have q2 : (hn : Rat) / hd = (hn' : Rat) / hd' := by grind
      refine ⟨rfl, qd_eq q1, ?_⟩
      show (qd (-hn) hd).neg = (qd (-hn') hd').neg
      rw [qd_eq (n := -hn) (n' := -hn')]
      rw [Rat.intCast_neg, Rat.intCast_neg, Rat.div_def, Rat.div_def, Rat.neg_mul, Rat.neg_mul, ← Rat.div_def, ← Rat.div_def, q2]
theorem OutOK.congr {F G : Rat → Prop} {o : Out} (h : OutOK F o) (hfg : ∀ u, F u ↔ G u) : OutOK G o := by
  have : F = G := funext fun u => propext (hfg u)
  rw [← this]; exact h
end Go.Ax

namespace Go.Ax
open Go Go.RowKit
theorem byRenE {b : Nat} {l : List (Nat × AV)} (h : renEOK b l := by (repeat' (first | exact trivial | exact .v | exact .top | exact .cl (Cl.fn (fun a ha => by cases ha)) | exact .cl (by (first | exact Cl.v _ | exact Cl.u32s | exact Cl.vec | exact Cl.rws clrow_p | exact Cl.rws clrow_i | exact Cl.rws clrow_t | exact Cl.rws clrow_l | exact Cl.rws (by assumption) | exact Cl.mat | exact Cl.strs | exact Cl.i64s | exact Cl.sl (by assumption) | assumption | ((first | refine Cl.agg ?_ | refine Cl.rp ?_ | refine Cl.sl ?_ | refine Cl.tup ?_); simp only [List.mem_cons, List.not_mem_nil, or_false, forall_eq_or_imp, forall_eq]; (repeat' (first | exact Cl.v _ | exact Cl.u32s | exact Cl.vec | exact Cl.mat | exact Cl.strs | exact Cl.rws clrow_i | exact Cl.sl (by assumption) | assumption | refine And.intro ?_ ?_))))) | refine And.intro ?_ ?_))) : renEOK b l := h
theorem Weak.ren2 {s s' : AS} (b' b nx : Nat) (hn : s.next ≤ nx) (hb0 : b ≠ 0) (hb : b < nx) (he : renEOK b s.env) (hm : noMem b s.mem) (h : Weak ⟨renE b' b s.env, renM b' b s.mem, nx⟩ s') : Weak s s' := Weak.trans (Weak.ren b' b nx hn hb0 hb he hm) hn h
def clL : List AV → Prop
  | [] => True
  | a :: l => Cl a ∧ clL l
theorem clL_mem : ∀ {l : List AV}, clL l → ∀ a ∈ l, Cl a
  | [], _, a, h => by cases h
  | x :: l, hl, a, h => by
    rcases List.mem_cons.1 h with rfl | h
    · exact hl.1
    · exact clL_mem hl.2 a h
theorem byClMx {l : List AV} (h : clL l := by (repeat' (first | exact trivial | exact Cl.v _ | exact Cl.u32s | refine And.intro ?_ ?_))) : ∀ r ∈ [l], ∀ a ∈ r, Cl a := fun r hr a ha => by
  simp only [List.mem_cons, List.not_mem_nil, or_false] at hr
  subst hr; exact clL_mem h a ha
theorem prow_mk (x y : Int) : prow (x, y) = [.v (.int .i64 x), .v (.int .i64 y)] := (rfl)
theorem trow_mk (x y z : Int) : trow (x, y, z) = [.v (.int .i64 x), .v (.int .i64 y), .v (.int .i64 z)] := (rfl)
theorem irow_mk (x : Int) : irow x = [.v (.int .i64 x)] := (rfl)
end Go.Ax

namespace Go.Ax
open Go Go.RowKit
theorem MemAt.mle {σ : Sig} {S F : Nat → Prop} {w : World} {b : Nat} {m m' : MB} (h : MemAt σ S F w b m) (hm : MLe m m') : MemAt σ S F w b m' := by
  obtain ⟨k, c, e, h1, h2, h3, h4, h5, h6, h7⟩ := h
  obtain ⟨q1, q2, q3⟩ := hm
  refine ⟨k, c, e, h1, h2, h3, h4, fun r hr => ?_, by rw [q1, q2]; exact h6, fun i r j av hi hj => ?_⟩
  · obtain ⟨i, hi⟩ := List.getElem?_of_mem hr
    obtain ⟨r0, g1, g2, _⟩ := q3 i r hi
    rw [q1, g2]; exact h5 r0 (List.mem_of_getElem? g1)
  · obtain ⟨r0, g1, g2, g3⟩ := q3 i r hi
    obtain ⟨a0, g4, g5⟩ := g3 j av hj
    obtain ⟨x, hx, hr⟩ := h7 i r0 j a0 g1 g4
    exact ⟨x, by rw [q1]; exact hx, g5 _ _ _ _ hr⟩
theorem Weak.mle {s : AS} (b : Nat) {m : MB} (m' : MB) (hb : look s.mem b = some m) (hm : MLe m m') : Weak s ⟨s.env, (b, m') :: s.mem, s.next⟩ := by
  intro D S0 w0 σ S w hF _
  have names : ∀ c mc, look ((b, m') :: s.mem) c = some mc → (c = b ∧ mc = m') ∨ (c ≠ b ∧ look s.mem c = some mc) := fun c mc hl => by
    simp only [look] at hl
    split at hl
    · rename_i he; injection hl with hl; exact .inl ⟨he.symm, hl.symm⟩
    · rename_i he; exact .inr ⟨fun e => he e.symm, hl⟩
  have old : ∀ c mc, look ((b, m') :: s.mem) c = some mc → ∃ mc0, look s.mem c = some mc0 := fun c mc hl => by
    rcases names c mc hl with ⟨rfl, _⟩ | ⟨_, h⟩
    · exact ⟨m, hb⟩
    · exact ⟨mc, h⟩
  refine ⟨σ, S, ⟨hF.below, hF.dom, fun b1 b2 k m1 m2 h1 h2 h3 h4 => ?_, hF.sbd, hF.s0, hF.s1, hF.glob, fun c mc hl => ?_⟩, fun a hE => hE⟩
  · obtain ⟨n1, g1⟩ := old _ _ h1
    obtain ⟨n2, g2⟩ := old _ _ h2
    exact hF.inj b1 b2 k n1 n2 g1 g2 h3 h4
  · rcases names c mc hl with ⟨rfl, rfl⟩ | ⟨hne, hl⟩
    · rcases hF.mem c m hb with ⟨h1, h2⟩ | h
      · refine .inl ⟨?_, h2⟩
        have := hm.2.1
        rw [h1] at this
        exact List.length_eq_zero_iff.1 this
      · exact .inr (h.mle hm)
    · exact hF.mem c mc hl
theorem MLe.one {sz : Nat} {l l' : List AV} (h : LeL l l') : MLe ⟨sz, [l]⟩ ⟨sz, [l']⟩ := ⟨rfl, rfl, fun i r' hi => by
  cases i with
  | zero =>
    simp at hi; subst hi
    refine ⟨l, rfl, h.length.symm, fun j a' hj => h.get j a' hj⟩
  | succ i => simp at hi⟩
theorem Le.int0 : Le (.v (.slice none 0 0)) (.sl 1 (u32s (ms (Dy.int 0)))) := by
  show Le _ (.sl 1 (u32s (ms Dy.zero)))
  rw [ms_zero]; exact Le.nil 1
end Go.Ax
namespace Go.Ax
open Go Go.RowKit
theorem byRenL {b : Nat} {l l' : List AV} (h : RenL b l l' := by (repeat' (first | exact RenL.nil | refine RenL.cons ?_ ?_ | exact Ren.p _ _ _ _ | exact Ren.ps _ _ _ _ | exact Ren.cl byCl))) : RenL b l l' := h
theorem byThaw {b : Nat} {m : MB} {l : List (Nat × AV)} (h : thawEOK b m l := by (repeat' (first | exact trivial | exact fun _ => ⟨rfl, Nat.le_of_ble_eq_true rfl⟩ | exact fun h => absurd h (by decide) | refine And.intro ?_ ?_))) : thawEOK b m l := h
abbrev Hf := Int × Int × Int
def E0 (l : List Hf) (k : Nat) : List (Int × Int) := ((l.take k).filter fun p => decide (p.2.1 = 0)).map fun p => (p.1, p.2.2)
def joinC (x y : Hf) : List (Int × Int) := if 0 < x.2.1 ∧ y.2.1 < 0 then [(y.1 * x.2.1 - x.1 * y.2.1, y.2.2 * x.2.1 - x.2.2 * y.2.1)] else []
def E2 (x : Hf) (l : List Hf) (j : Nat) : List (Int × Int) := (l.take j).flatMap (joinC x)
def E1 (l : List Hf) (i : Nat) : List (Int × Int) := (l.take i).flatMap fun x => E2 x l l.length
def elimC (l : List Hf) : List (Int × Int) := E0 l l.length ++ E1 l l.length
theorem take_succ_gd {α : Type} {l : List α} {k : Nat} (d : α) (h : k < l.length) : l.take (k + 1) = l.take k ++ [l.getD k d] := by
  rw [List.take_add_one, List.getElem?_eq_getElem h]
  simp [List.getD, h]
theorem E0_yes {l : List Hf} {k : Nat} {a b c : Int} (h : k < l.length) (he : l.getD k (0, 0, 0) = (a, b, c)) (hb : b = 0) : E0 l (k + 1) = E0 l k ++ [(a, c)] := by
  unfold E0
  rw [take_succ_gd (0, 0, 0) h, he, List.filter_append]
  simp [hb]
theorem E0_no {l : List Hf} {k : Nat} {a b c : Int} (h : k < l.length) (he : l.getD k (0, 0, 0) = (a, b, c)) (hb : ¬ b = 0) : E0 l (k + 1) = E0 l k := by
  unfold E0
  rw [take_succ_gd (0, 0, 0) h, he, List.filter_append]
  simp [hb]
theorem E2_succ {x : Hf} {l : List Hf} {j : Nat} {y : Hf} (h : j < l.length) (he : l.getD j (0, 0, 0) = y) : E2 x l (j + 1) = E2 x l j ++ joinC x y := by
  unfold E2
  rw [take_succ_gd (0, 0, 0) h, he, List.flatMap_append]
  simp
theorem E1_succ {l : List Hf} {i : Nat} {x : Hf} (h : i < l.length) (he : l.getD i (0, 0, 0) = x) : E1 l (i + 1) = E1 l i ++ E2 x l l.length := by
  unfold E1
  rw [take_succ_gd (0, 0, 0) h, he, List.flatMap_append]
  simp
theorem BS.of_add (C : List (Int × Int)) (k c : Int) : (BS.of C).add k c = BS.of (C ++ [(k, c)]) := (BS.of_snoc C k c).symm
theorem join_lt {p q x y : Int} (hp : p.natAbs < 2 ^ 60) (hq : q.natAbs < 2 ^ 60) (hx : x.natAbs < 2 ^ 60) (hy : y.natAbs < 2 ^ 60) : (q * x - p * y).natAbs < 2 ^ 200 := by
  have h1 : (q * x).natAbs < 2 ^ 120 := by rw [Int.natAbs_mul, show 120 = 60 + 60 by rfl, Nat.pow_add]; exact Nat.mul_lt_mul'' hq hx
  have h2 : (p * y).natAbs < 2 ^ 120 := by rw [Int.natAbs_mul, show 120 = 60 + 60 by rfl, Nat.pow_add]; exact Nat.mul_lt_mul'' hp hy
  have h3 : (2 : Nat) ^ 120 + 2 ^ 120 ≤ 2 ^ 200 := by decide
  generalize q * x = a at *
  generalize p * y = b at *
  omega
end Go.Ax
namespace Go.Ax
open Go Go.RowKit
def hv2 (f g : Int × Int → Int) (n : Int) (s : Int × Int) : List Hf := [(f s, g s, s.2 + n), (0 - f s, 0 - g s, n - s.2)]
def hv (f g : Int × Int → Int) (n : Int) (l : List (Int × Int)) : List Hf := l.flatMap (hv2 f g n)
theorem hv_length (f g : Int × Int → Int) (n : Int) (l : List (Int × Int)) : (hv f g n l).length = 2 * l.length := by
  induction l with
  | nil => rfl
  | cons s l ih => unfold hv at *; rw [List.flatMap_cons, List.length_append, ih]; simp [hv2]; omega
theorem hv_succ {f g : Int × Int → Int} {n : Int} {l : List (Int × Int)} {k : Nat} {s : Int × Int} (h : k < l.length) (he : l.getD k (0, 0) = s) : hv f g n (l.take (k + 1)) = hv f g n (l.take k) ++ hv2 f g n s := by
  unfold hv
  rw [take_succ_gd (0, 0) h, he, List.flatMap_append]
  simp
def gainF : (Int × Int → Int) × (Int × Int → Int) := (fun s => s.1, fun _ => 0)
def slopeF : (Int × Int → Int) × (Int × Int → Int) := (fun s => s.1, fun _ => 1)
def offsF : (Int × Int → Int) × (Int × Int → Int) := (fun _ => 1, fun s => s.1)
def conds (f : (Int × Int → Int) × (Int × Int → Int)) (n : Int) (l : List (Int × Int)) : List (Int × Int) := elimC (hv f.1 f.2 n l)
def outOf (f : (Int × Int → Int) × (Int × Int → Int)) (n : Int) (l : List (Int × Int)) : Out := (BS.of (conds f n l)).out
theorem hv_sm {f g : Int × Int → Int} {n : Int} {l : List (Int × Int)} (hn : 0 ≤ n ∧ n ≤ 1099511627776) (hl : ∀ s ∈ l, (-1099511627776 ≤ s.2 ∧ s.2 ≤ 1099511627776) ∧ (-1099511627776 ≤ f s ∧ f s ≤ 1099511627776) ∧ (-1099511627776 ≤ g s ∧ g s ≤ 1099511627776)) :
    ∀ p ∈ hv f g n l, p.1.natAbs < 2 ^ 60 ∧ p.2.1.natAbs < 2 ^ 60 ∧ p.2.2.natAbs < 2 ^ 60 := by
  intro p hp
  have e60 : (2 : Nat) ^ 60 = 1152921504606846976 := by decide
  unfold hv at hp
  rw [List.mem_flatMap] at hp
  obtain ⟨s, hs, hp⟩ := hp
  obtain ⟨h1, h2, h3⟩ := hl s hs
  simp only [hv2, List.mem_cons, List.not_mem_nil, or_false] at hp
  rcases hp with rfl | rfl
  · simp only; omega
  · simp only; omega
theorem elim_sm {l : List Hf} (hB : ∀ p ∈ l, p.1.natAbs < 2 ^ 60 ∧ p.2.1.natAbs < 2 ^ 60 ∧ p.2.2.natAbs < 2 ^ 60) : ∀ p ∈ elimC l, p.1.natAbs < 2 ^ 200 ∧ p.2.natAbs < 2 ^ 200 := by
  intro p hp
  have e200 : (2 : Nat) ^ 60 ≤ 2 ^ 200 := by decide
  unfold elimC at hp
  rw [List.mem_append] at hp
  rcases hp with hp | hp
  · unfold E0 at hp
    rw [List.mem_map] at hp
    obtain ⟨x, hx, rfl⟩ := hp
    rw [List.mem_filter] at hx
    have := hB x (List.mem_of_mem_take hx.1)
    exact ⟨Nat.lt_of_lt_of_le this.1 e200, Nat.lt_of_lt_of_le this.2.2 e200⟩
  · unfold E1 E2 at hp
    rw [List.mem_flatMap] at hp
    obtain ⟨x, hx, hp⟩ := hp
    rw [List.mem_flatMap] at hp
    obtain ⟨y, hy, hp⟩ := hp
    have bx := hB x (List.mem_of_mem_take hx)
    have bY := hB y (List.mem_of_mem_take hy)
    unfold joinC at hp
    split at hp
    · simp only [List.mem_cons, List.not_mem_nil, or_false] at hp
      subst hp
      exact ⟨join_lt bx.1 bY.1 bx.2.1 bY.2.1, join_lt bx.2.2 bY.2.2 bx.2.1 bY.2.1⟩
    · cases hp
end Go.Ax
namespace Go.Ax
open Go Go.RowKit
theorem byClF {l : List AV} (h : ∀ x ∈ l, Cl x := by (try simp only [List.mem_cons, List.not_mem_nil, or_false, forall_eq_or_imp, forall_eq]); (repeat' (first | exact Cl.v _ | exact Cl.rws clrow_p | exact Cl.fn (fun a ha => by cases ha) | refine And.intro ?_ ?_))) : ∀ x ∈ l, Cl x := h
end Go.Ax
namespace Go.Ax
open Go Go.RowKit
theorem byWeakF {s s' : AS} (h : Weak s s' := by exact Weak.cut (by (repeat' (first | exact trivial | exact ⟨_, rfl, .refl _⟩ | exact ⟨_, rfl, Le.nil _⟩ | exact ⟨_, rfl, Le.ps0 _ _ _⟩ | exact ⟨_, rfl, Le.top _⟩ | refine And.intro ?_ ?_))) (by (repeat' (first | exact trivial | exact rfl | refine And.intro ?_ ?_))) (by (repeat' (first | exact trivial | exact .v | exact .top | exact .p (Nat.le_of_ble_eq_true rfl) | exact .ps (Nat.le_of_ble_eq_true rfl) | exact Nat.le_of_ble_eq_true rfl | exact nbRows_rws clrow_p | exact nbRows_rws clrow_t | exact nbRows_rws clrow_l | exact nbRows_rws clrow_i | exact .cl (Cl.fn (fun a ha => by cases ha)) | exact .cl (Cl.rws clrow_p) | exact .cl (Cl.rws clrow_i) | exact .cl (Cl.rws clrow_t) | exact .cl (Cl.rws clrow_l) | exact .cl Cl.u32s | exact .cl Cl.vec | refine And.intro ?_ ?_))) (by (repeat' (first | exact trivial | exact .v | exact .top | exact .p (Nat.le_of_ble_eq_true rfl) | exact .ps (Nat.le_of_ble_eq_true rfl) | exact Nat.le_of_ble_eq_true rfl | exact nbRows_rws clrow_p | exact nbRows_rws clrow_t | exact nbRows_rws clrow_l | exact nbRows_rws clrow_i | exact .cl (Cl.fn (fun a ha => by cases ha)) | exact .cl (Cl.rws clrow_p) | exact .cl (Cl.rws clrow_i) | exact .cl (Cl.rws clrow_t) | exact .cl (Cl.rws clrow_l) | exact .cl Cl.u32s | exact .cl Cl.vec | refine And.intro ?_ ?_)))) : Weak s s' := h
end Go.Ax

namespace Go.Ax
open Go Go.RowKit
theorem mem_elimC {l : List Hf} {k c : Int} : (k, c) ∈ elimC l ↔ (∃ h ∈ l, h.2.1 = 0 ∧ k = h.1 ∧ c = h.2.2) ∨ (∃ x ∈ l, ∃ y ∈ l, (0 < x.2.1 ∧ y.2.1 < 0) ∧ k = y.1 * x.2.1 - x.1 * y.2.1 ∧ c = y.2.2 * x.2.1 - x.2.2 * y.2.1) := by
  unfold elimC E0 E1 E2
  rw [List.take_length, List.mem_append, List.mem_map, List.mem_flatMap]
  constructor
  · rintro (⟨h, h1, h2⟩ | ⟨x, hx, h⟩)
    · rw [List.mem_filter] at h1
      injection h2 with h2 h3
      exact .inl ⟨h, h1.1, by simpa using h1.2, h2.symm, h3.symm⟩
    · rw [List.mem_flatMap] at h
      obtain ⟨y, hy, h⟩ := h
      unfold joinC at h
      split at h
      · rename_i hc
        simp only [List.mem_cons, List.not_mem_nil, or_false] at h
        injection h with h1 h2
        exact .inr ⟨x, hx, y, hy, hc, h1, h2⟩
      · cases h
  · rintro (⟨h, h1, h2, rfl, rfl⟩ | ⟨x, hx, y, hy, hc, rfl, rfl⟩)
    · exact .inl ⟨h, by rw [List.mem_filter]; exact ⟨h1, by simpa using h2⟩, rfl⟩
    · refine .inr ⟨x, hx, ?_⟩
      rw [List.mem_flatMap]
      refine ⟨y, hy, ?_⟩
      unfold joinC
      rw [if_pos hc]
      simp
theorem mem_hv {f g : Int × Int → Int} {n : Int} {l : List (Int × Int)} {h : Hf} : h ∈ hv f g n l ↔ ∃ s ∈ l, h = (f s, g s, s.2 + n) ∨ h = (0 - f s, 0 - g s, n - s.2) := by
  unfold hv
  rw [List.mem_flatMap]
  simp only [hv2, List.mem_cons, List.not_mem_nil, or_false]
theorem fit_halves {l : List Hf} {u v : Rat} (h : ∀ p ∈ l, (p.1 : Rat) * u + (p.2.1 : Rat) * v ≤ (p.2.2 : Rat)) : Fit1 (elimC l) u := by
  intro k c hm
  rcases mem_elimC.1 hm with ⟨p, hp, h0, rfl, rfl⟩ | ⟨x, hx, y, hy, ⟨h1, h2⟩, rfl, rfl⟩
  · have := h p hp
    rw [h0] at this
    simp only [Rat.intCast_zero, Rat.zero_mul] at this
    grind
  · have q1 := h x hx
    have q2 := h y hy
    have p1 := icast_pos h1
    have p2 : (0 : Rat) < -(y.2.1 : Rat) := by have := icast_pos (show 0 < -y.2.1 by omega); rwa [Rat.intCast_neg] at this
    have q3 := mul_le_pos p1 q2
    have q4 := mul_le_pos p2 q1
    rw [Rat.intCast_sub, Rat.intCast_sub, Rat.intCast_mul, Rat.intCast_mul, Rat.intCast_mul, Rat.intCast_mul]
    grind
theorem fit_mono {l l' : List Hf} {u : Rat} (h : ∀ p ∈ l', ∃ q ∈ l, q.1 = p.1 ∧ q.2.1 = p.2.1 ∧ q.2.2 ≤ p.2.2) (hf : Fit1 (elimC l) u) : Fit1 (elimC l') u := by
  intro k c hm
  rcases mem_elimC.1 hm with ⟨p, hp, h0, rfl, rfl⟩ | ⟨x, hx, y, hy, ⟨h1, h2⟩, rfl, rfl⟩
  · obtain ⟨q, hq, g1, g2, g3⟩ := h p hp
    have := hf p.1 q.2.2 (mem_elimC.2 (.inl ⟨q, hq, by rw [g2]; exact h0, g1.symm, rfl⟩))
    exact Rat.le_trans this (icast_le.2 g3)
  · obtain ⟨x0, hx0, a1, a2, a3⟩ := h x hx
    obtain ⟨y0, hy0, b1, b2, b3⟩ := h y hy
    have := hf (y.1 * x.2.1 - x.1 * y.2.1) (y0.2.2 * x.2.1 - x0.2.2 * y.2.1) (mem_elimC.2 (.inr ⟨x0, hx0, y0, hy0, ⟨by rw [a2]; exact h1, by rw [b2]; exact h2⟩, by rw [a1, a2, b1, b2], by rw [a2, b2]⟩))
    refine Rat.le_trans this (icast_le.2 ?_)
    have q1 := Int.mul_le_mul_of_nonneg_right b3 (show 0 ≤ x.2.1 by omega)
    have q2 := Int.mul_le_mul_of_nonneg_right a3 (show 0 ≤ -y.2.1 by omega)
    rw [Int.mul_neg, Int.mul_neg] at q2
    omega
theorem conds_mono {f : (Int × Int → Int) × (Int × Int → Int)} {n n' : Int} {l l' : List (Int × Int)} (hl : ∀ s ∈ l', s ∈ l) (hn : n ≤ n') {u : Rat} (hf : Fit1 (conds f n l) u) : Fit1 (conds f n' l') u := by
  refine fit_mono (fun p hp => ?_) hf
  obtain ⟨s, hs, h⟩ := mem_hv.1 hp
  rcases h with rfl | rfl
  · exact ⟨_, mem_hv.2 ⟨s, hl s hs, .inl rfl⟩, rfl, rfl, by show s.2 + n ≤ s.2 + n'; omega⟩
  · exact ⟨_, mem_hv.2 ⟨s, hl s hs, .inr rfl⟩, rfl, rfl, by show n - s.2 ≤ n' - s.2; omega⟩
theorem outOf_ok (f : (Int × Int → Int) × (Int × Int → Int)) (n : Int) (l : List (Int × Int)) : OutOK (Fit1 (conds f n l)) (outOf f n l) := out_ok (BInv.of _)
theorem qd_le {n d : Int} (h : 0 < d) : (qd n d).v ≤ (n : Rat) / d := by
  unfold qd Dy.quo
  rw [Dy.v_int, Dy.v_int]
  have hp := p2pos 16
  have e := v_nrm_mul (z := ((n : Rat) / d * 2 ^ 16).floor) (d := 16) (by omega)
  have := Rat.floor_le ((n : Rat) / d * 2 ^ 16)
  rw [← e] at this
  exact Rat.le_of_mul_le_mul_right this hp
theorem qd_ge {n d : Int} (h : 0 < d) : (n : Rat) / d ≤ (qd (-n) d).neg.v := by
  have := qd_le (n := -n) h
  rw [Dy.v_neg]
  rw [Rat.intCast_neg, Rat.div_def, Rat.neg_mul, ← Rat.div_def] at this
  grind
theorem qd_lt {n d : Int} : (n : Rat) / d < (qd n d).v + 1 / 2 ^ 16 := by
  unfold qd Dy.quo
  rw [Dy.v_int, Dy.v_int]
  have hp := p2pos 16
  have e := v_nrm_mul (z := ((n : Rat) / d * 2 ^ 16).floor) (d := 16) (by omega)
  have : (n : Rat) / d * 2 ^ 16 - 1 < (((n : Rat) / d * 2 ^ 16).floor : Rat) := Rat.lt_floor
  rw [← e] at this
  have e2 : (1 : Rat) / 2 ^ 16 * 2 ^ 16 = 1 := Rat.div_mul_cancel (p2ne 16)
  refine Rat.lt_of_mul_lt_mul_right (c := (2 : Rat) ^ 16) ?_ (Rat.le_of_lt hp)
  grind
theorem qd_ends {ln ld hn hd : Int} (h1 : 0 < ld) (h2 : 0 < hd) (h3 : ln * hd ≤ hn * ld) : (qd ln ld).v ≤ (qd (-hn) hd).neg.v := Rat.le_trans (qd_le h1) (Rat.le_trans (out_le h1 h2 h3) (qd_ge h2))
theorem out_ends {F : Rat → Prop} {o : Out} (h : OutOK F o) : o.lo.v ≤ o.hi.v := by
  cases h with
  | bad => exact Rat.le_refl
  | wide => exact Rat.le_refl
  | iv h1 h2 h3 _ => exact qd_ends h1 h2 h3
theorem out_err (o : Out) : o.err = 0 ∨ o.err = 22 ∨ o.err = 23 := by cases o <;> simp [Out.err]
theorem out_in {F : Rat → Prop} {o : Out} (h : OutOK F o) {u : Rat} (hu : F u) : o.err = 22 ∨ (o.err = 0 ∧ o.lo.v ≤ u ∧ u ≤ o.hi.v) := by
  cases h with
  | bad h => exact absurd hu (h u)
  | wide => exact .inl rfl
  | iv h1 h2 h3 h4 =>
    have := (out_iv_iff h1 h2 h4 u).1 hu
    exact .inr ⟨rfl, Rat.le_trans (qd_le h1) this.1, Rat.le_trans this.2 (qd_ge h2)⟩
theorem out_next {F : Rat → Prop} {o : Out} (h : OutOK F o) (he : o.err = 0) : (∀ u, u < o.lo.v → ¬ F u) ∧ (∀ u, o.hi.v < u → ¬ F u) ∧ ∀ u, o.lo.v + 1 / 2 ^ 16 ≤ u → u ≤ o.hi.v - 1 / 2 ^ 16 → F u := by
  cases h with
  | bad => cases he
  | wide => cases he
  | @iv ln ld hn hd h1 h2 h3 h4 =>
    have key := out_iv_iff h1 h2 h4
    refine ⟨fun u hu hf => ?_, fun u hu hf => ?_, fun u h5 h6 => (key u).2 ?_⟩
    · have := (key u).1 hf
      have q := qd_le (n := ln) h1
      change u < (qd ln ld).v at hu
      grind
    · have := (key u).1 hf
      have q := qd_ge (n := hn) h2
      change (qd (-hn) hd).neg.v < u at hu
      grind
    · have q1 := qd_lt (n := ln) (d := ld)
      have q2 := qd_lt (n := -hn) (d := hd)
      rw [Rat.intCast_neg, Rat.div_def, Rat.neg_mul, ← Rat.div_def] at q2
      change (qd ln ld).v + 1 / 2 ^ 16 ≤ u at h5
      change u ≤ (qd (-hn) hd).neg.v - 1 / 2 ^ 16 at h6
      rw [Dy.v_neg] at h6
      constructor <;> grind
theorem out_mg {b : BS} (h : b.Sm 200) {C : List (Int × Int)} (hC : BInv C b) : Mg 201 b.out.lo ∧ Mg 201 b.out.hi := by
  have key := out_ok hC
  obtain ⟨h1, h2, h3, h4⟩ := h
  generalize ho : b.out = o at *
  unfold BS.out at ho
  split at ho
  · subst ho; exact ⟨.zero _, .zero _⟩
  · split at ho
    · subst ho
      cases key with
      | iv g1 g2 _ _ =>
        refine ⟨((Mg.int h1).quo (y := Dy.int b.ld) (show (Dy.int b.ld).n ≠ 0 by show b.ld ≠ 0; omega)), ((Mg.int (show (-b.hn).natAbs < 2 ^ 200 by rw [Int.natAbs_neg]; exact h3)).quo (y := Dy.int b.hd) (show (Dy.int b.hd).n ≠ 0 by show b.hd ≠ 0; omega)).neg⟩
    · subst ho; exact ⟨.zero _, .zero _⟩
end Go.Ax

namespace Go.Ax
open Go Go.RowKit
theorem qd_mono {n d n' d' : Int} (h : (n : Rat) / d ≤ (n' : Rat) / d') : (qd n d).v ≤ (qd n' d').v := by
  unfold qd Dy.quo
  rw [Dy.v_int, Dy.v_int, Dy.v_int, Dy.v_int]
  have hp := p2pos 16
  have e1 := v_nrm_mul (z := ((n : Rat) / d * 2 ^ 16).floor) (d := 16) (by omega)
  have e2 := v_nrm_mul (z := ((n' : Rat) / d' * 2 ^ 16).floor) (d := 16) (by omega)
  refine Rat.le_of_mul_le_mul_right (c := (2 : Rat) ^ 16) ?_ hp
  rw [e1, e2]
  refine icast_le.2 (Rat.le_floor_iff.2 ?_)
  have h1 := Rat.floor_le ((n : Rat) / d * 2 ^ 16)
  exact Rat.le_trans h1 (mul_le_pos hp h)
theorem out_wider {F G : Rat → Prop} {o o' : Out} (h : OutOK F o) (g : OutOK G o') (hfg : ∀ u, F u → G u) : o.err = 23 ∨ o'.err = 22 ∨ (o'.err = 0 ∧ o.err = 0 ∧ o'.lo.v ≤ o.lo.v ∧ o.hi.v ≤ o'.hi.v) := by
  cases h with
  | bad => exact .inl rfl
  | wide h k =>
    cases g with
    | bad g => obtain ⟨u, hu⟩ := h; exact absurd (hfg u hu) (g u)
    | wide => exact .inr (.inl rfl)
    | @iv ln ld hn hd g1 g2 g3 g4 =>
      obtain ⟨u, hu, h1⟩ := k ((ln : Rat) / ld) ((hn : Rat) / hd)
      have := (out_iv_iff g1 g2 g4 u).1 (hfg u hu)
      rcases h1 with h1 | h1 <;> grind
  | @iv ln ld hn hd h1 h2 h3 h4 =>
    have a1 := out_le h1 h2 h3
    have f1 := (out_iv_iff h1 h2 h4 _).2 ⟨Rat.le_refl, a1⟩
    have f2 := (out_iv_iff h1 h2 h4 _).2 ⟨a1, Rat.le_refl⟩
    cases g with
    | bad g => exact absurd (hfg _ f1) (g _)
    | wide => exact .inr (.inl rfl)
    | @iv ln' ld' hn' hd' g1 g2 g3 g4 =>
      have i1 := (out_iv_iff g1 g2 g4 _).1 (hfg _ f1)
      have i2 := (out_iv_iff g1 g2 g4 _).1 (hfg _ f2)
      refine .inr (.inr ⟨rfl, rfl, qd_mono i1.1, ?_⟩)
      show (qd (-hn) hd).neg.v ≤ (qd (-hn') hd').neg.v
      rw [Dy.v_neg, Dy.v_neg]
      have := qd_mono (n := -hn') (d := hd') (n' := -hn) (d' := hd) (by
        rw [Rat.intCast_neg, Rat.intCast_neg, Rat.div_def, Rat.div_def, Rat.neg_mul, Rat.neg_mul, ← Rat.div_def, ← Rat.div_def]
        have := i2.2; grind)
      grind
def oIv (f : (Int × Int → Int) × (Int × Int → Int)) (n : Int) (l : List (Int × Int)) : Iv := ⟨(outOf f n l).lo, (outOf f n l).hi, out_ends (outOf_ok f n l)⟩
def oErr (f : (Int × Int → Int) × (Int × Int → Int)) (n : Int) (l : List (Int × Int)) : Int := (outOf f n l).err
theorem oErr_cases (f : (Int × Int → Int) × (Int × Int → Int)) (n : Int) (l : List (Int × Int)) : oErr f n l = 0 ∨ oErr f n l = 22 ∨ oErr f n l = 23 := out_err _
theorem more_wider (f : (Int × Int → Int) × (Int × Int → Int)) {n n' : Int} {l l' : List (Int × Int)} (hl : ∀ s ∈ l', s ∈ l) (hn : n ≤ n') : oErr f n l = 23 ∨ oErr f n' l' = 22 ∨ (oErr f n' l' = 0 ∧ oErr f n l = 0 ∧ (oIv f n l).ins (oIv f n' l') = true) := by
  rcases out_wider (outOf_ok f n l) (outOf_ok f n' l') (fun u => conds_mono hl hn) with h | h | ⟨h1, h2, h3, h4⟩
  · exact .inl h
  · exact .inr (.inl h)
  · exact .inr (.inr ⟨h1, h2, decide_eq_true ⟨h3, h4⟩⟩)
def fitD (p q : Dy) (n : Int) (s : Int × Int) : Prop := (((Dy.int s.2).sub (p.mul (Dy.int s.1))).sub q).abs.cmp (Dy.int n) ≤ 0
instance (p q : Dy) (n : Int) (s : Int × Int) : Decidable (fitD p q n s) := inferInstanceAs (Decidable (_ ≤ _))
def fitAll (p q : Dy) (n : Int) (l : List (Int × Int)) : Prop := ∀ i, i < l.length → fitD p q n (l.getD i (0, 0))
instance (p q : Dy) (n : Int) (l : List (Int × Int)) : Decidable (fitAll p q n l) := inferInstanceAs (Decidable (∀ i, i < l.length → fitD p q n (l.getD i (0, 0))))
theorem abs_le_iff (x : Dy) (n : Int) : x.abs.cmp (Dy.int n) ≤ 0 ↔ -(n : Rat) ≤ x.v ∧ x.v ≤ n := by
  rw [cmp_le, Dy.v_abs, Dy.v_int]
  split <;> constructor <;> grind
theorem fitD_iff (p q : Dy) (n : Int) (s : Int × Int) : fitD p q n s ↔ -(n : Rat) ≤ (s.2 : Rat) - p.v * (s.1 : Rat) - q.v ∧ (s.2 : Rat) - p.v * (s.1 : Rat) - q.v ≤ n := by
  have hp := p.ok.1
  have hd : (Dy.int s.1).d = 0 := rfl
  unfold fitD
  rw [abs_le_iff, Dy.v_sub, Dy.v_sub, Dy.v_mul_of _ _ (by omega), Dy.v_int, Dy.v_int]
theorem fitAll_iff (p q : Dy) (n : Int) (l : List (Int × Int)) : fitAll p q n l ↔ ∀ s ∈ l, -(n : Rat) ≤ (s.2 : Rat) - p.v * (s.1 : Rat) - q.v ∧ (s.2 : Rat) - p.v * (s.1 : Rat) - q.v ≤ n := by
  constructor
  · intro h s hs
    obtain ⟨i, hi⟩ := List.getElem?_of_mem hs
    have hlt := (List.getElem?_eq_some_iff.1 hi).1
    have := h i hlt
    rw [List.getD, hi] at this
    exact (fitD_iff _ _ _ _).1 this
  · intro h i hi
    refine (fitD_iff _ _ _ _).2 (h _ ?_)
    rw [List.getD, List.getElem?_eq_getElem hi]; exact List.getElem_mem _
theorem gain_fit (p : Dy) (n : Int) (l : List (Int × Int)) : Fit1 (conds gainF n l) p.v ↔ fitAll p Dy.zero n l := by
  rw [fitAll_iff]
  constructor
  · intro h s hs
    have h1 := h s.1 (s.2 + n) (mem_elimC.2 (.inl ⟨_, mem_hv.2 ⟨s, hs, .inl rfl⟩, rfl, rfl, rfl⟩))
    have h2 := h (0 - s.1) (n - s.2) (mem_elimC.2 (.inl ⟨_, mem_hv.2 ⟨s, hs, .inr rfl⟩, rfl, rfl, rfl⟩))
    rw [Rat.intCast_add] at h1
    rw [Rat.intCast_sub, Rat.intCast_sub] at h2
    simp only [Rat.intCast_zero] at h2
    rw [Dy.v_zero]
    constructor <;> grind
  · intro h
    refine fit_halves (v := 0) fun x hx => ?_
    obtain ⟨s, hs, rfl | rfl⟩ := mem_hv.1 hx
    · have := h s hs
      rw [Dy.v_zero] at this
      show (s.1 : Rat) * p.v + _ ≤ ((s.2 + n : Int) : Rat)
      rw [Rat.intCast_add]; grind
    · have := h s hs
      rw [Dy.v_zero] at this
      show ((0 - s.1 : Int) : Rat) * p.v + _ ≤ ((n - s.2 : Int) : Rat)
      rw [Rat.intCast_sub, Rat.intCast_sub]
      simp only [Rat.intCast_zero]
      grind
theorem slope_fit {p q : Rat} {n : Int} {l : List (Int × Int)} (h : ∀ s ∈ l, -(n : Rat) ≤ (s.2 : Rat) - p * (s.1 : Rat) - q ∧ (s.2 : Rat) - p * (s.1 : Rat) - q ≤ n) : Fit1 (conds slopeF n l) p ∧ Fit1 (conds offsF n l) q := by
  refine ⟨fit_halves (v := q) fun x hx => ?_, fit_halves (v := p) fun x hx => ?_⟩
  · obtain ⟨s, hs, rfl | rfl⟩ := mem_hv.1 hx
    · have := h s hs
      show (s.1 : Rat) * p + ((1 : Int) : Rat) * q ≤ ((s.2 + n : Int) : Rat)
      rw [Rat.intCast_add]; simp only [Rat.intCast_one]; grind
    · have := h s hs
      show ((0 - s.1 : Int) : Rat) * p + ((0 - 1 : Int) : Rat) * q ≤ ((n - s.2 : Int) : Rat)
      rw [Rat.intCast_sub, Rat.intCast_sub, Rat.intCast_sub]
      simp only [Rat.intCast_zero, Rat.intCast_one]
      grind
  · obtain ⟨s, hs, rfl | rfl⟩ := mem_hv.1 hx
    · have := h s hs
      show ((1 : Int) : Rat) * q + (s.1 : Rat) * p ≤ ((s.2 + n : Int) : Rat)
      rw [Rat.intCast_add]; simp only [Rat.intCast_one]; grind
    · have := h s hs
      show ((0 - 1 : Int) : Rat) * q + ((0 - s.1 : Int) : Rat) * p ≤ ((n - s.2 : Int) : Rat)
      rw [Rat.intCast_sub, Rat.intCast_sub, Rat.intCast_sub]
      simp only [Rat.intCast_zero, Rat.intCast_one]
      grind
end Go.Ax

namespace Go.Ax
open Go Go.RowKit
def restD (p : Dy) (s : Int × Int) : Dy := (Dy.int s.2).sub (p.mul (Dy.int s.1))
theorem rest_v (p : Dy) (s : Int × Int) : (restD p s).v = (s.2 : Rat) - p.v * (s.1 : Rat) := by
  have hp := p.ok.1
  have hd : (Dy.int s.1).d = 0 := rfl
  unfold restD
  rw [Dy.v_sub, Dy.v_mul_of _ _ (by omega), Dy.v_int, Dy.v_int]
theorem slope_pairs {p : Rat} {n : Int} {l : List (Int × Int)} (h : Fit1 (conds slopeF n l) p) : ∀ s ∈ l, ∀ t ∈ l, ((t.2 : Rat) - p * t.1) - ((s.2 : Rat) - p * s.1) ≤ 2 * (n : Rat) := fun s hs t ht => by
  have := h ((0 - s.1) * 1 - t.1 * (0 - 1)) ((n - s.2) * 1 - (t.2 + n) * (0 - 1)) (mem_elimC.2 (.inr ⟨_, mem_hv.2 ⟨t, ht, .inl rfl⟩, _, mem_hv.2 ⟨s, hs, .inr rfl⟩, ⟨by show (0 : Int) < 1; decide, by show (0 - 1 : Int) < 0; decide⟩, rfl, rfl⟩))
  simp only [Rat.intCast_sub, Rat.intCast_mul, Rat.intCast_add, Rat.intCast_one, Rat.intCast_zero] at this
  have h2 := h ((0 - t.1) * 1 - s.1 * (0 - 1)) ((n - t.2) * 1 - (s.2 + n) * (0 - 1)) (mem_elimC.2 (.inr ⟨_, mem_hv.2 ⟨s, hs, .inl rfl⟩, _, mem_hv.2 ⟨t, ht, .inr rfl⟩, ⟨by show (0 : Int) < 1; decide, by show (0 - 1 : Int) < 0; decide⟩, rfl, rfl⟩))
  simp only [Rat.intCast_sub, Rat.intCast_mul, Rat.intCast_add, Rat.intCast_one, Rat.intCast_zero] at h2
  grind
theorem out_d (o : Out) : o.lo.d ≤ 16 ∧ o.hi.d ≤ 16 := by
  cases o with
  | bad => exact ⟨Nat.zero_le _, Nat.zero_le _⟩
  | wide => exact ⟨Nat.zero_le _, Nat.zero_le _⟩
  | iv a b c d => exact ⟨Dy.d_nrm (by omega), Dy.d_nrm (z := _) (d := 16) (by omega)⟩
theorem rest_d {p : Dy} {s : Int × Int} (h : p.d ≤ 16) : (restD p s).d ≤ 16 := by
  have h0 : (Dy.int s.1).d = 0 := rfl
  have h1 := Dy.d_mul p (Dy.int s.1) (by omega)
  have h2 := Dy.d_add (Dy.int s.2) (p.mul (Dy.int s.1)).neg
  have h3 : (p.mul (Dy.int s.1)).neg.d = (p.mul (Dy.int s.1)).d := rfl
  have h4 : (Dy.int s.2).d = 0 := rfl
  unfold restD Dy.sub
  omega
theorem half_v {x : Dy} (h : x.d ≤ 16) : (x.shift (-1)).v * 2 = x.v := by
  have := v_shift_neg (x := x) (j := 1) (by omega)
  rw [show (-((1 : Nat) : Int)) = -1 from rfl] at this
  rw [this, show (2 : Rat) ^ 1 = 2 by grind]
  exact Rat.div_mul_cancel (by decide)
theorem qd_grid (n d : Int) : ∃ z : Int, (qd n d).v * 2 ^ 16 = z := ⟨_, v_nrm_mul (by omega)⟩
theorem out_grid (o : Out) : (∃ z : Int, o.lo.v * 2 ^ 16 = z) ∧ ∃ z : Int, o.hi.v * 2 ^ 16 = z := by
  cases o with
  | bad => exact ⟨⟨0, by show Dy.zero.v * _ = _; rw [Dy.v_zero]; grind⟩, ⟨0, by show Dy.zero.v * _ = _; rw [Dy.v_zero]; grind⟩⟩
  | wide => exact ⟨⟨0, by show Dy.zero.v * _ = _; rw [Dy.v_zero]; grind⟩, ⟨0, by show Dy.zero.v * _ = _; rw [Dy.v_zero]; grind⟩⟩
  | iv a b c d =>
    obtain ⟨z, hz⟩ := qd_grid (-c) d
    exact ⟨qd_grid a b, ⟨-z, by show (qd (-c) d).neg.v * _ = _; rw [Dy.v_neg, Rat.intCast_neg, ← hz]; grind⟩⟩
theorem grid_next {x y : Rat} {a b : Int} (hx : x * 2 ^ 16 = a) (hy : y * 2 ^ 16 = b) (h : x + 1 / 2 ^ 16 < y) : x + 1 / 2 ^ 16 ≤ y - 1 / 2 ^ 16 := by
  have hp := p2pos 16
  have e2 : (1 : Rat) / 2 ^ 16 * 2 ^ 16 = 1 := Rat.div_mul_cancel (p2ne 16)
  have h1 : (x + 1 / 2 ^ 16) * 2 ^ 16 < y * 2 ^ 16 := Rat.mul_lt_mul_of_pos_right h hp
  have h2 : ((a + 1 : Int) : Rat) < (b : Rat) := by rw [Rat.intCast_add, ← hx, ← hy, Rat.intCast_one]; grind
  have h3 := icast_lt.1 h2
  have h4 := icast_le.2 (show a + 1 ≤ b - 1 by omega)
  rw [Rat.intCast_add, Rat.intCast_sub, ← hx, ← hy, Rat.intCast_one] at h4
  refine Rat.le_of_mul_le_mul_right (c := (2 : Rat) ^ 16) ?_ hp
  grind
theorem mid_fit {p q lo hi : Dy} {n : Int} {l : List (Int × Int)} (hq : q.v * 2 = lo.v + hi.v) (h1 : ∀ s ∈ l, lo.v ≤ (restD p s).v ∧ (restD p s).v ≤ hi.v) (h2 : hi.v - lo.v ≤ 2 * (n : Rat)) : fitAll p q n l := by
  rw [fitAll_iff]
  intro s hs
  have := h1 s hs
  rw [rest_v] at this
  constructor <;> grind
end Go.Ax

