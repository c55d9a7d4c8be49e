/- The abstract executor and plain facts, part 4 (of several texts, laid together). -/
import Derived.Test.YtkdpaoicekgalaaGreatDoorU1
import Derived.Test.YtkdpaoicekgalaaGreatDoorU2
import Derived.Test.YtkdpaoicekgalaaGreatDoorU3

set_option linter.unusedSimpArgs false
set_option linter.unusedVariables false
set_option linter.deprecated false
namespace Go.Ax
open Go Go.RowKit
structure Iv where
  lo : Dy
  hi : Dy
  h : lo.v ≤ hi.v
theorem Iv.eq {a b : Iv} (h1 : a.lo = b.lo) (h2 : a.hi = b.hi) : a = b := by
  cases a; cases b; simp_all
theorem Iv.eq_v {a b : Iv} (h1 : a.lo.v = b.lo.v) (h2 : a.hi.v = b.hi.v) : a = b := Iv.eq (Dy.ext_v h1) (Dy.ext_v h2)
theorem Iv.same {a b : Iv} : (a.lo = b.lo ∧ a.hi = b.hi) ↔ a = b := ⟨fun h => Iv.eq h.1 h.2, fun h => by subst h; exact ⟨rfl, rfl⟩⟩
def Iv.Mg (k : Nat) (a : Iv) : Prop := Ax.Mg k a.lo ∧ Ax.Mg k a.hi
theorem Iv.Mg.mono {k k' : Nat} {a : Iv} (h : a.Mg k) (hk : k ≤ k') : a.Mg k' := ⟨h.1.mono hk, h.2.mono hk⟩
theorem min_le_l (x y : Dy) : (x.min y).v ≤ x.v := by rw [Dy.v_min]; split <;> grind
theorem min_le_r (x y : Dy) : (x.min y).v ≤ y.v := by rw [Dy.v_min]; split <;> grind
theorem le_max_l (x y : Dy) : x.v ≤ (x.max y).v := by rw [Dy.v_max]; split <;> grind
theorem le_max_r (x y : Dy) : y.v ≤ (x.max y).v := by rw [Dy.v_max]; split <;> grind
theorem le_min {x y z : Dy} (h1 : z.v ≤ x.v) (h2 : z.v ≤ y.v) : z.v ≤ (x.min y).v := by rw [Dy.v_min]; split <;> grind
theorem max_le {x y z : Dy} (h1 : x.v ≤ z.v) (h2 : y.v ≤ z.v) : (x.max y).v ≤ z.v := by rw [Dy.v_max]; split <;> grind
def Iv.zero : Iv := ⟨Dy.zero, Dy.zero, by grind⟩
def Iv.pt (x : Dy) : Iv := ⟨x, x, by grind⟩
def Iv.sp2 (x y : Dy) : Iv := ⟨x.min y, x.max y, min_le_max x y⟩
def Iv.sp4 (x y z w : Dy) : Iv := ⟨((x.min y).min z).min w, ((x.max y).max z).max w, by
  have := min_le_r ((x.min y).min z) w; have := le_max_r ((x.max y).max z) w; grind⟩
def Iv.neg (a : Iv) : Iv := ⟨a.hi.neg, a.lo.neg, by rw [Dy.v_neg, Dy.v_neg]; have := a.h; grind⟩
theorem abs_nn (x : Dy) : 0 ≤ x.abs.v := by rw [Dy.v_abs]; split <;> grind
def Iv.abs (a : Iv) : Iv := if a.lo.v < 0 ∧ 0 < a.hi.v then ⟨Dy.zero, a.lo.abs.max a.hi.abs, by rw [Dy.v_zero]; have := abs_nn a.lo; have := le_max_l a.lo.abs a.hi.abs; grind⟩ else Iv.sp2 a.lo.abs a.hi.abs
def Iv.add (a b : Iv) : Iv := ⟨a.lo.add b.lo, a.hi.add b.hi, by rw [Dy.v_add, Dy.v_add]; have := a.h; have := b.h; grind⟩
def Iv.sub (a b : Iv) : Iv := a.add b.neg
def Iv.mul (a b : Iv) : Iv := Iv.sp4 (a.lo.mul b.lo) (a.lo.mul b.hi) (a.hi.mul b.lo) (a.hi.mul b.hi)
def Iv.min (a b : Iv) : Iv := ⟨a.lo.min b.lo, a.hi.min b.hi, le_min (by have := min_le_l a.lo b.lo; have := a.h; grind) (by have := min_le_r a.lo b.lo; have := b.h; grind)⟩
def Iv.max (a b : Iv) : Iv := ⟨a.lo.max b.lo, a.hi.max b.hi, max_le (by have := le_max_l a.hi b.hi; have := a.h; grind) (by have := le_max_r a.hi b.hi; have := b.h; grind)⟩
def Iv.hull (a b : Iv) : Iv := Iv.sp4 a.lo a.hi b.lo b.hi
def Iv.wide (a : Iv) (x : Dy) : Iv := Iv.add a (Iv.sp2 x x.neg)
def Iv.width (a : Iv) : Dy := a.hi.sub a.lo
def Iv.mag (a : Iv) : Dy := a.abs.hi
def Iv.ins (a b : Iv) : Bool := decide (b.lo.v ≤ a.lo.v ∧ a.hi.v ≤ b.hi.v)
def Iv.has (a : Iv) (x : Dy) : Bool := decide (a.lo.v ≤ x.v ∧ x.v ≤ a.hi.v)
theorem Iv.has_pt (a : Iv) (x : Dy) : (Iv.pt x).ins a = a.has x := rfl
theorem Iv.Mg.pt {k : Nat} {x : Dy} (h : Ax.Mg k x) : (Iv.pt x).Mg k := ⟨h, h⟩
theorem Iv.Mg.sp2 {k : Nat} {x y : Dy} (h : Ax.Mg k x) (g : Ax.Mg k y) : (Iv.sp2 x y).Mg k := ⟨h.min g, h.max g⟩
theorem Iv.Mg.sp4 {k : Nat} {x y z w : Dy} (h : Ax.Mg k x) (g : Ax.Mg k y) (i : Ax.Mg k z) (j : Ax.Mg k w) : (Iv.sp4 x y z w).Mg k := ⟨((h.min g).min i).min j, ((h.max g).max i).max j⟩
theorem Iv.Mg.zero (k : Nat) : Iv.zero.Mg k := ⟨Ax.Mg.zero k, Ax.Mg.zero k⟩
theorem Iv.Mg.neg {k : Nat} {a : Iv} (h : a.Mg k) : a.neg.Mg k := ⟨h.2.neg, h.1.neg⟩
theorem Iv.Mg.abs {k : Nat} {a : Iv} (h : a.Mg k) : a.abs.Mg k := by
  unfold Iv.abs; split
  · exact ⟨Ax.Mg.zero k, h.1.abs.max h.2.abs⟩
  · exact .sp2 h.1.abs h.2.abs
theorem Iv.Mg.add {k : Nat} {a b : Iv} (h : a.Mg k) (g : b.Mg k) : (a.add b).Mg (k + 1) := ⟨h.1.add g.1, h.2.add g.2⟩
theorem Iv.Mg.sub {k : Nat} {a b : Iv} (h : a.Mg k) (g : b.Mg k) : (a.sub b).Mg (k + 1) := h.add g.neg
theorem Iv.Mg.mul {k l : Nat} {a b : Iv} (h : a.Mg k) (g : b.Mg l) : (a.mul b).Mg (k + l) := .sp4 (h.1.mul g.1) (h.1.mul g.2) (h.2.mul g.1) (h.2.mul g.2)
theorem Iv.Mg.min {k : Nat} {a b : Iv} (h : a.Mg k) (g : b.Mg k) : (a.min b).Mg k := ⟨h.1.min g.1, h.2.min g.2⟩
theorem Iv.Mg.max {k : Nat} {a b : Iv} (h : a.Mg k) (g : b.Mg k) : (a.max b).Mg k := ⟨h.1.max g.1, h.2.max g.2⟩
theorem Iv.Mg.hull {k : Nat} {a b : Iv} (h : a.Mg k) (g : b.Mg k) : (a.hull b).Mg k := .sp4 h.1 h.2 g.1 g.2
def okI (s : Bool) (ws : List Nat) (d : Int) (s' : Bool) (ws' : List Nat) (d' : Int) (x y : Dy) : Prop := (validR s ws d = true ∧ validR s' ws' d' = true) ∧ x.v ≤ y.v
instance (s : Bool) (ws : List Nat) (d : Int) (s' : Bool) (ws' : List Nat) (d' : Int) (x y : Dy) : Decidable (okI s ws d s' ws' d' x y) := inferInstanceAs (Decidable (_ ∧ _))
structure IArg (s : Bool) (ws : List Nat) (d : Int) (s' : Bool) (ws' : List Nat) (d' : Int) (x y : Dy) (a : Iv) : Prop where
  px : Arg s ws d x
  py : Arg s' ws' d' y
  is : (okI s ws d s' ws' d' x y ∧ a.lo = x ∧ a.hi = y) ∨ (¬ okI s ws d s' ws' d' x y ∧ a = Iv.zero)
theorem Arg.valid_parts {s : Bool} {ws : List Nat} {d : Int} {x : Dy} (h : Arg s ws d x) (hv : validR s ws d = true) : s = sg x ∧ ws = ms x ∧ d = dn x := by
  rcases h.is with ⟨_, h1, h2, h3⟩ | ⟨h1, _⟩
  · exact ⟨h1.symm, h2.symm, h3.symm⟩
  · rw [hv] at h1; cases h1
theorem IArg.get {s : Bool} {ws : List Nat} {d : Int} {s' : Bool} {ws' : List Nat} {d' : Int} {x y : Dy} (h : Arg s ws d x) (g : Arg s' ws' d' y) : ∃ a, IArg s ws d s' ws' d' x y a := by
  by_cases ho : okI s ws d s' ws' d' x y
  · exact ⟨⟨x, y, ho.2⟩, h, g, .inl ⟨ho, rfl, rfl⟩⟩
  · exact ⟨Iv.zero, h, g, .inr ⟨ho, rfl⟩⟩
theorem IArg.of {a : Iv} {k : Nat} (h : a.Mg k) (hk : k ≤ 1099511627776 := by omega) : IArg (sg a.lo) (ms a.lo) (dn a.lo) (sg a.hi) (ms a.hi) (dn a.hi) a.lo a.hi a :=
  ⟨Arg.of h.1 hk, Arg.of h.2 hk, .inl ⟨⟨⟨valid_of _, valid_of _⟩, a.h⟩, rfl, rfl⟩⟩
section
variable {s : Bool} {ws : List Nat} {d : Int} {s' : Bool} {ws' : List Nat} {d' : Int} {x y : Dy} {a : Iv}
theorem IArg.lo (h : IArg s ws d s' ws' d' x y a) : Arg (sg a.lo) (ms a.lo) (dn a.lo) a.lo := by
  rcases h.is with ⟨_, h1, _⟩ | ⟨_, h1⟩
  · rw [h1]; exact ⟨ms_wd x, h.px.mlen, .inl ⟨valid_of x, rfl, rfl, rfl⟩⟩
  · rw [h1]; exact Arg.of (Ax.Mg.zero 1) (by omega)
theorem IArg.hi (h : IArg s ws d s' ws' d' x y a) : Arg (sg a.hi) (ms a.hi) (dn a.hi) a.hi := by
  rcases h.is with ⟨_, _, h1⟩ | ⟨_, h1⟩
  · rw [h1]; exact ⟨ms_wd y, h.py.mlen, .inl ⟨valid_of y, rfl, rfl, rfl⟩⟩
  · rw [h1]; exact Arg.of (Ax.Mg.zero 1) (by omega)
theorem IArg.mg {k : Nat} (h : IArg s ws d s' ws' d' x y a) (gx : Ax.Mg k x) (gy : Ax.Mg k y) : a.Mg k := by
  rcases h.is with ⟨_, h1, h2⟩ | ⟨_, h1⟩
  · unfold Iv.Mg; rw [h1, h2]; exact ⟨gx, gy⟩
  · rw [h1]; exact .zero k
theorem IArg.den {k : Nat} (h : IArg s ws d s' ws' d' x y a) (gx : x.d ≤ k) (gy : y.d ≤ k) : a.lo.d ≤ k ∧ a.hi.d ≤ k := by
  rcases h.is with ⟨_, h1, h2⟩ | ⟨_, h1⟩
  · rw [h1, h2]; exact ⟨gx, gy⟩
  · rw [h1]; exact ⟨Nat.zero_le _, Nat.zero_le _⟩
end
theorem ok_of (a : Iv) : okI (sg a.lo) (ms a.lo) (dn a.lo) (sg a.hi) (ms a.hi) (dn a.hi) a.lo a.hi := ⟨⟨valid_of _, valid_of _⟩, a.h⟩
abbrev ilit : AV := .agg [.v (.bool false), .v (.slice none 0 0), .v (.int .i64 0), .v (.bool false), .v (.slice none 0 0), .v (.int .i64 0)]
theorem Le.iv0 : Le ilit (.agg [.v (.bool (sg Iv.zero.lo)), .sl 1 (u32s (ms Iv.zero.lo)), .v (.int .i64 (dn Iv.zero.lo)), .v (.bool (sg Iv.zero.hi)), .sl 1 (u32s (ms Iv.zero.hi)), .v (.int .i64 (dn Iv.zero.hi))]) := by
  show Le ilit (.agg [.v (.bool (sg Dy.zero)), .sl 1 (u32s (ms Dy.zero)), .v (.int .i64 (dn Dy.zero)), .v (.bool (sg Dy.zero)), .sl 1 (u32s (ms Dy.zero)), .v (.int .i64 (dn Dy.zero))])
  rw [ms_zero]
  exact Le.agg (.cons (.refl _) (.cons (Le.nil _) (.cons (.refl _) (.cons (.refl _) (.cons (Le.nil _) (.cons (.refl _) .nil))))))
theorem Cl.ilit : Cl ilit := Cl.agg (fun a ha => by
  simp only [List.mem_cons, List.not_mem_nil, or_false] at ha
  rcases ha with rfl | rfl | rfl | rfl | rfl | rfl <;> exact Cl.v _)
theorem Arg.can {s : Bool} {ws : List Nat} {d : Int} {x : Dy} (h : Arg s ws d x) : Arg (sg x) (ms x) (dn x) x := ⟨ms_wd x, h.mlen, .inl ⟨valid_of x, rfl, rfl, rfl⟩⟩
theorem Arg.cmin {x y : Dy} (h : Arg (sg x) (ms x) (dn x) x) (g : Arg (sg y) (ms y) (dn y) y) : Arg (sg (x.min y)) (ms (x.min y)) (dn (x.min y)) (x.min y) := by
  unfold Dy.min; split <;> assumption
theorem Arg.cmax {x y : Dy} (h : Arg (sg x) (ms x) (dn x) x) (g : Arg (sg y) (ms y) (dn y) y) : Arg (sg (x.max y)) (ms (x.max y)) (dn (x.max y)) (x.max y) := by
  unfold Dy.max; split <;> assumption
theorem Arg.cabs {x : Dy} (h : Arg (sg x) (ms x) (dn x) x) : Arg (sg x.abs) (ms x.abs) (dn x.abs) x.abs :=
  ⟨ms_wd _, by
    have e : ms x.abs = ms x := by show words (x.n.natAbs : Int).natAbs = words x.n.natAbs; rw [Int.natAbs_natCast]
    rw [e]; exact h.mlen, .inl ⟨valid_of _, rfl, rfl, rfl⟩⟩
theorem IArg.mk' {a : Iv} (h : Arg (sg a.lo) (ms a.lo) (dn a.lo) a.lo) (g : Arg (sg a.hi) (ms a.hi) (dn a.hi) a.hi) : IArg (sg a.lo) (ms a.lo) (dn a.lo) (sg a.hi) (ms a.hi) (dn a.hi) a.lo a.hi a :=
  ⟨h, g, .inl ⟨ok_of a, rfl, rfl⟩⟩
theorem Arg.cpt {s : Bool} {ws : List Nat} {d : Int} {x : Dy} (h : Arg s ws d x) : IArg (sg (Iv.pt x).lo) (ms (Iv.pt x).lo) (dn (Iv.pt x).lo) (sg (Iv.pt x).hi) (ms (Iv.pt x).hi) (dn (Iv.pt x).hi) (Iv.pt x).lo (Iv.pt x).hi (Iv.pt x) := .mk' h.can h.can
section
variable {s : Bool} {ws : List Nat} {d : Int} {s' : Bool} {ws' : List Nat} {d' : Int} {x y : Dy} {a : Iv}
theorem IArg.cneg (h : IArg s ws d s' ws' d' x y a) : IArg (sg a.neg.lo) (ms a.neg.lo) (dn a.neg.lo) (sg a.neg.hi) (ms a.neg.hi) (dn a.neg.hi) a.neg.lo a.neg.hi a.neg := .mk' h.hi.neg_of h.lo.neg_of
theorem IArg.can (h : IArg s ws d s' ws' d' x y a) : IArg (sg a.lo) (ms a.lo) (dn a.lo) (sg a.hi) (ms a.hi) (dn a.hi) a.lo a.hi a := .mk' h.lo h.hi
variable {s2 : Bool} {ws2 : List Nat} {d2 : Int} {s2' : Bool} {ws2' : List Nat} {d2' : Int} {x2 y2 : Dy} {b : Iv}
theorem IArg.cmax (h : IArg s ws d s' ws' d' x y a) (g : IArg s2 ws2 d2 s2' ws2' d2' x2 y2 b) : IArg (sg (a.max b).lo) (ms (a.max b).lo) (dn (a.max b).lo) (sg (a.max b).hi) (ms (a.max b).hi) (dn (a.max b).hi) (a.max b).lo (a.max b).hi (a.max b) := .mk' (h.lo.cmax g.lo) (h.hi.cmax g.hi)
theorem IArg.cmin (h : IArg s ws d s' ws' d' x y a) (g : IArg s2 ws2 d2 s2' ws2' d2' x2 y2 b) : IArg (sg (a.min b).lo) (ms (a.min b).lo) (dn (a.min b).lo) (sg (a.min b).hi) (ms (a.min b).hi) (dn (a.min b).hi) (a.min b).lo (a.min b).hi (a.min b) := .mk' (h.lo.cmin g.lo) (h.hi.cmin g.hi)
end
theorem Arg.czero : Arg (sg Dy.zero) (ms Dy.zero) (dn Dy.zero) Dy.zero := Arg.of (Ax.Mg.zero 1) (by omega)
theorem neg_zero : Dy.zero.neg = Dy.zero := Dy.eq rfl rfl
theorem sign_lt0 (x : Dy) : x.sign < 0 ↔ x.v < 0 := by rw [Dy.sign_v]; split <;> (try split) <;> grind
theorem sign_gt0 (x : Dy) : 0 < x.sign ↔ 0 < x.v := by rw [Dy.sign_v]; split <;> (try split) <;> grind
theorem sign_eq0 (x : Dy) : x.sign = 0 ↔ x.v = 0 := by rw [Dy.sign_v]; split <;> (try split) <;> grind
theorem mg_i64 {n : Int} (h : -9223372036854775808 ≤ n ∧ n ≤ 9223372036854775807) : Mg 64 (Dy.int n) := Mg.int (Nat.lt_of_le_of_lt (show n.natAbs ≤ 9223372036854775808 by omega) (by decide))
theorem Le.lo0 {A B C : AV} : Le (.agg [.v (.bool false), .v (.slice none 0 0), .v (.int .i64 0), A, B, C]) (.agg [.v (.bool (sg Dy.zero)), .sl 1 (u32s (ms Dy.zero)), .v (.int .i64 (dn Dy.zero)), A, B, C]) := by
  rw [ms_zero]
  exact Le.agg (.cons (.refl _) (.cons (Le.nil _) (.cons (.refl _) (.cons (.refl _) (.cons (.refl _) (.cons (.refl _) .nil))))))
theorem Iv.abs_ref (a : Iv) : a.abs = if a.lo.v ≤ 0 ∧ 0 ≤ a.hi.v then ⟨Dy.zero, a.lo.abs.max a.hi.abs, by rw [Dy.v_zero]; have := abs_nn a.lo; have := le_max_l a.lo.abs a.hi.abs; grind⟩ else Iv.sp2 a.lo.abs a.hi.abs := by
  have h0 := Dy.v_zero
  have h1 := a.h
  have e1 := Dy.v_abs a.lo
  have e2 := Dy.v_abs a.hi
  unfold Iv.abs
  by_cases c1 : a.lo.v < 0 ∧ 0 < a.hi.v
  · rw [if_pos c1, if_pos (by grind)]
  · rw [if_neg c1]
    by_cases c2 : a.lo.v ≤ 0 ∧ 0 ≤ a.hi.v
    · rw [if_pos c2]
      refine Iv.eq_v ?_ rfl
      show (a.lo.abs.min a.hi.abs).v = Dy.zero.v
      rw [Dy.v_min]; split <;> split at e1 <;> split at e2 <;> grind
    · rw [if_neg c2]
theorem sp2_of_le {x y : Dy} (h : x.v ≤ y.v) : Iv.sp2 x y = ⟨x, y, h⟩ := Iv.eq_v (by show (x.min y).v = x.v; rw [Dy.v_min, if_pos h]) (by show (x.max y).v = y.v; rw [Dy.v_max]; split <;> grind)
theorem Iv.neg_ref (a : Iv) : Iv.sp2 a.lo.neg a.hi.neg = a.neg := Iv.eq_v (by
    show (a.lo.neg.min a.hi.neg).v = a.hi.neg.v
    have := a.h; rw [Dy.v_min, Dy.v_neg, Dy.v_neg]; split <;> grind) (by
    show (a.lo.neg.max a.hi.neg).v = a.lo.neg.v
    have := a.h; rw [Dy.v_max, Dy.v_neg, Dy.v_neg]; split <;> grind)
theorem Iv.add_ref (a b : Iv) : Iv.sp2 (a.lo.add b.lo) (a.hi.add b.hi) = a.add b := sp2_of_le (a.add b).h
theorem Iv.wide_of (a : Iv) (x : Dy) (h : 0 ≤ x.v) : (a.wide x).lo = a.lo.sub x ∧ (a.wide x).hi = a.hi.add x := by
  have e : Iv.sp2 x x.neg = ⟨x.neg, x, by rw [Dy.v_neg]; grind⟩ := Iv.eq_v (by
    show (x.min x.neg).v = x.neg.v
    rw [Dy.v_min, Dy.v_neg]; split <;> grind) (by
    show (x.max x.neg).v = x.v
    rw [Dy.v_max, Dy.v_neg]; split <;> grind)
  unfold Iv.wide
  rw [e]
  exact ⟨rfl, rfl⟩
theorem Iv.clip_ref (a : Iv) {lo hi : Dy} (h : lo.v ≤ hi.v) : (a.max (Iv.pt lo)).min (Iv.pt hi) = (Iv.pt lo).max ((Iv.pt hi).min a) := by
  have := a.h
  refine Iv.eq_v ?_ ?_
  · show ((a.lo.max lo).min hi).v = (lo.max (hi.min a.lo)).v
    rw [Dy.v_min, Dy.v_max, Dy.v_max, Dy.v_min]; repeat' split
    all_goals grind
  · show ((a.hi.max lo).min hi).v = (lo.max (hi.min a.hi)).v
    rw [Dy.v_min, Dy.v_max, Dy.v_max, Dy.v_min]; repeat' split
    all_goals grind
theorem Iv.ins_ref (a b : Iv) : a.ins b = (b.has a.lo && b.has a.hi) := by
  have := a.h
  have := b.h
  unfold Iv.ins Iv.has
  rw [← Bool.decide_and]
  exact decide_eq_decide.2 (by grind)
end Go.Ax

namespace Go.Ax
open Go Go.RowKit
theorem min_v_cases (x y : Dy) : (x.min y).v = x.v ∨ (x.min y).v = y.v := by rw [Dy.v_min]; split <;> simp
theorem max_v_cases (x y : Dy) : (x.max y).v = x.v ∨ (x.max y).v = y.v := by rw [Dy.v_max]; split <;> simp
def Iv.On (a : Iv) (x : Dy) : Prop := a.lo.v ≤ x.v ∧ x.v ≤ a.hi.v
theorem Iv.On.has {a : Iv} {x : Dy} (h : a.On x) : a.has x = true := decide_eq_true h
theorem Iv.on_lo (a : Iv) : a.On a.lo := ⟨by grind, a.h⟩
theorem Iv.on_hi (a : Iv) : a.On a.hi := ⟨a.h, by grind⟩
theorem Iv.ins_on {a b : Iv} (h : b.On a.lo) (g : b.On a.hi) : a.ins b = true := decide_eq_true ⟨h.1, g.2⟩
theorem sp4_on1 (x y z w : Dy) : (Iv.sp4 x y z w).On x := by
  have h1 := min_le_l x y; have h2 := min_le_l (x.min y) z; have h3 := min_le_l ((x.min y).min z) w
  have g1 := le_max_l x y; have g2 := le_max_l (x.max y) z; have g3 := le_max_l ((x.max y).max z) w
  exact ⟨Rat.le_trans h3 (Rat.le_trans h2 h1), Rat.le_trans g1 (Rat.le_trans g2 g3)⟩
theorem sp4_on2 (x y z w : Dy) : (Iv.sp4 x y z w).On y := by
  have h1 := min_le_r x y; have h2 := min_le_l (x.min y) z; have h3 := min_le_l ((x.min y).min z) w
  have g1 := le_max_r x y; have g2 := le_max_l (x.max y) z; have g3 := le_max_l ((x.max y).max z) w
  exact ⟨Rat.le_trans h3 (Rat.le_trans h2 h1), Rat.le_trans g1 (Rat.le_trans g2 g3)⟩
theorem sp4_on3 (x y z w : Dy) : (Iv.sp4 x y z w).On z := by
  have h2 := min_le_r (x.min y) z; have h3 := min_le_l ((x.min y).min z) w
  have g2 := le_max_r (x.max y) z; have g3 := le_max_l ((x.max y).max z) w
  exact ⟨Rat.le_trans h3 h2, Rat.le_trans g2 g3⟩
theorem sp4_on4 (x y z w : Dy) : (Iv.sp4 x y z w).On w := ⟨min_le_r ((x.min y).min z) w, le_max_r ((x.max y).max z) w⟩
theorem sp4_least {x y z w : Dy} {c : Iv} (h1 : c.On x) (h2 : c.On y) (h3 : c.On z) (h4 : c.On w) : (Iv.sp4 x y z w).ins c = true := by
  refine decide_eq_true ⟨?_, ?_⟩
  · exact le_min (le_min (le_min h1.1 h2.1) h3.1) h4.1
  · exact max_le (max_le (max_le h1.2 h2.2) h3.2) h4.2
theorem on_neg {a : Iv} {x : Dy} (h : a.On x) : a.neg.On x.neg := by
  unfold Iv.On Iv.neg at *; simp only [Dy.v_neg] at *; grind
theorem on_abs {a : Iv} {x : Dy} (h : a.On x) : a.abs.On x.abs := by
  have e1 := Dy.v_abs a.lo
  have e2 := Dy.v_abs a.hi
  have e3 := Dy.v_abs x
  have h1 := a.h
  obtain ⟨h2, h3⟩ := h
  have m1 := le_max_l a.lo.abs a.hi.abs
  have m2 := le_max_r a.lo.abs a.hi.abs
  have n1 := min_le_l a.lo.abs a.hi.abs
  have n2 := min_le_r a.lo.abs a.hi.abs
  have up : x.abs.v ≤ (a.lo.abs.max a.hi.abs).v := by
    split at e1 <;> split at e2 <;> split at e3 <;> grind
  unfold Iv.abs
  split
  · exact ⟨by show Dy.zero.v ≤ _; rw [Dy.v_zero]; exact abs_nn x, up⟩
  · rename_i c
    refine ⟨?_, up⟩
    show (a.lo.abs.min a.hi.abs).v ≤ _
    split at e1 <;> split at e2 <;> split at e3 <;> grind
theorem on_add {a b : Iv} {x y : Dy} (h : a.On x) (g : b.On y) : (a.add b).On (x.add y) := by
  unfold Iv.On Iv.add at *; simp only [Dy.v_add] at *; grind
theorem on_sub {a b : Iv} {x y : Dy} (h : a.On x) (g : b.On y) : (a.sub b).On (x.sub y) := on_add h (on_neg g)
theorem on_min {a b : Iv} {x y : Dy} (h : a.On x) (g : b.On y) : (a.min b).On (x.min y) := by
  unfold Iv.On Iv.min at *; simp only [Dy.v_min] at *; obtain ⟨h1, h2⟩ := h; obtain ⟨g1, g2⟩ := g
  constructor <;> (repeat' split) <;> grind
theorem on_max {a b : Iv} {x y : Dy} (h : a.On x) (g : b.On y) : (a.max b).On (x.max y) := by
  unfold Iv.On Iv.max at *; simp only [Dy.v_max] at *; obtain ⟨h1, h2⟩ := h; obtain ⟨g1, g2⟩ := g
  constructor <;> (repeat' split) <;> grind
theorem on_hull1 {a b : Iv} {x : Dy} (h : a.On x) : (a.hull b).On x := by
  have h1 := sp4_on1 a.lo a.hi b.lo b.hi
  have h2 := sp4_on2 a.lo a.hi b.lo b.hi
  exact ⟨Rat.le_trans h1.1 h.1, Rat.le_trans h.2 h2.2⟩
theorem on_hull2 {a b : Iv} {x : Dy} (h : b.On x) : (a.hull b).On x := by
  have h1 := sp4_on3 a.lo a.hi b.lo b.hi
  have h2 := sp4_on4 a.lo a.hi b.lo b.hi
  exact ⟨Rat.le_trans h1.1 h.1, Rat.le_trans h.2 h2.2⟩
theorem lin_lo {a b x y L : Rat} (h1 : a ≤ x) (h2 : x ≤ b) (g1 : L ≤ a * y) (g2 : L ≤ b * y) : L ≤ x * y := by
  by_cases hy : 0 ≤ y
  · have := Rat.mul_le_mul_of_nonneg_right h1 hy; grind
  · have := Rat.mul_le_mul_of_nonneg_right h2 (show (0 : Rat) ≤ -y by grind)
    rw [Rat.mul_neg, Rat.mul_neg] at this; grind
theorem lin_hi {a b x y L : Rat} (h1 : a ≤ x) (h2 : x ≤ b) (g1 : a * y ≤ L) (g2 : b * y ≤ L) : x * y ≤ L := by
  by_cases hy : 0 ≤ y
  · have := Rat.mul_le_mul_of_nonneg_right h2 hy; grind
  · have := Rat.mul_le_mul_of_nonneg_right h1 (show (0 : Rat) ≤ -y by grind)
    rw [Rat.mul_neg, Rat.mul_neg] at this; grind
def Iv.Dn (k : Nat) (a : Iv) : Prop := a.lo.d ≤ k ∧ a.hi.d ≤ k
theorem on_mul {a b : Iv} {x y : Dy} {k : Nat} (hk : k ≤ 32768) (h : a.On x) (g : b.On y) (da : a.Dn k) (db : b.Dn k) (dx : x.d ≤ k) (dy : y.d ≤ k) : (a.mul b).On (x.mul y) := by
  obtain ⟨da1, da2⟩ := da
  obtain ⟨db1, db2⟩ := db
  have e1 := Dy.v_mul_of a.lo b.lo (by omega)
  have e2 := Dy.v_mul_of a.lo b.hi (by omega)
  have e3 := Dy.v_mul_of a.hi b.lo (by omega)
  have e4 := Dy.v_mul_of a.hi b.hi (by omega)
  have e5 := Dy.v_mul_of x y (by omega)
  obtain ⟨p1, p2⟩ := sp4_on1 (a.lo.mul b.lo) (a.lo.mul b.hi) (a.hi.mul b.lo) (a.hi.mul b.hi)
  obtain ⟨p3, p4⟩ := sp4_on2 (a.lo.mul b.lo) (a.lo.mul b.hi) (a.hi.mul b.lo) (a.hi.mul b.hi)
  obtain ⟨p5, p6⟩ := sp4_on3 (a.lo.mul b.lo) (a.lo.mul b.hi) (a.hi.mul b.lo) (a.hi.mul b.hi)
  obtain ⟨p7, p8⟩ := sp4_on4 (a.lo.mul b.lo) (a.lo.mul b.hi) (a.hi.mul b.lo) (a.hi.mul b.hi)
  obtain ⟨h1, h2⟩ := h
  obtain ⟨g1, g2⟩ := g
  rw [e1] at p1 p2
  rw [e2] at p3 p4
  rw [e3] at p5 p6
  rw [e4] at p7 p8
  show (a.mul b).lo.v ≤ _ ∧ _ ≤ (a.mul b).hi.v
  rw [e5]
  change (a.mul b).lo.v ≤ _ at p1 p3 p5 p7
  change _ ≤ (a.mul b).hi.v at p2 p4 p6 p8
  generalize (a.mul b).lo.v = L at *
  generalize (a.mul b).hi.v = H at *
  constructor
  · refine lin_lo h1 h2 ?_ ?_
    · rw [Rat.mul_comm]; refine lin_lo g1 g2 ?_ ?_ <;> rw [Rat.mul_comm] <;> assumption
    · rw [Rat.mul_comm]; refine lin_lo g1 g2 ?_ ?_ <;> rw [Rat.mul_comm] <;> assumption
  · refine lin_hi h1 h2 ?_ ?_
    · rw [Rat.mul_comm]; refine lin_hi g1 g2 ?_ ?_ <;> rw [Rat.mul_comm] <;> assumption
    · rw [Rat.mul_comm]; refine lin_hi g1 g2 ?_ ?_ <;> rw [Rat.mul_comm] <;> assumption
def pickD (a : Iv) (i : Nat) : Dy := a.lo.add ((nrm i 4).mul (a.hi.sub a.lo))
theorem pick_dn {a : Iv} {k i : Nat} (h : a.Dn k) (hk : k ≤ 32768) : (pickD a i).d ≤ k + 4 := by
  have h1 := Dy.d_add a.lo ((nrm i 4).mul (a.hi.sub a.lo))
  have h2 := Dy.d_nrm (z := i) (d := 4) (by omega)
  have h3 := Dy.d_add a.hi a.lo.neg
  have h5 : a.lo.neg.d = a.lo.d := rfl
  have h6 : (a.hi.sub a.lo).d ≤ k := by obtain ⟨q1, q2⟩ := h; unfold Dy.sub; omega
  have h4 := Dy.d_mul (nrm i 4) (a.hi.sub a.lo) (by omega)
  obtain ⟨q1, q2⟩ := h
  unfold pickD; omega
theorem pick_mg {a : Iv} {k i : Nat} (h : a.Mg k) (hi : i ≤ 16) (hk : 1 ≤ k) : Mg (k + 7) (pickD a i) := by
  have h1 : Mg 5 (nrm i 4) := mg_nrm (Nat.lt_of_le_of_lt (show (i : Int).natAbs ≤ 16 by omega) (by decide))
  have h2 := h1.mul (h.2.sub h.1)
  exact (((h.1.mono (show k ≤ 5 + (k + 1) by omega)).add h2).mono (by omega))
theorem pick_on {a : Iv} {k i : Nat} (h : a.Dn k) (hk : k ≤ 32768) (hi : i ≤ 16) : a.On (pickD a i) := by
  have h2 := Dy.d_nrm (z := i) (d := 4) (by omega)
  have h3 := Dy.d_add a.hi a.lo.neg
  have h5 : a.lo.neg.d = a.lo.d := rfl
  have h6 : (a.hi.sub a.lo).d ≤ k := by obtain ⟨q1, q2⟩ := h; unfold Dy.sub; omega
  have e : (pickD a i).v = a.lo.v + (nrm i 4).v * (a.hi.v - a.lo.v) := by
    unfold pickD; rw [Dy.v_add, Dy.v_mul_of _ _ (by omega), Dy.v_sub]
  have e2 : (nrm i 4).v * 2 ^ 4 = ((i : Int) : Rat) := v_nrm_mul (by omega)
  have i0 : (0 : Rat) ≤ ((i : Int) : Rat) := by
    have := Rat.intCast_le_intCast.2 (show (0 : Int) ≤ i by omega); simpa using this
  have i1 : ((i : Int) : Rat) ≤ 16 := by
    have := Rat.intCast_le_intCast.2 (show (i : Int) ≤ 16 by omega); simpa using this
  have c16 : (2 : Rat) ^ 4 = 16 := by grind
  rw [c16] at e2
  have f0 : 0 ≤ (nrm i 4).v := by grind
  have f1 : (nrm i 4).v ≤ 1 := by grind
  have w := a.h
  have w0 : 0 ≤ a.hi.v - a.lo.v := by grind
  have k1 := Rat.mul_nonneg f0 w0
  have k2 := Rat.mul_le_mul_of_nonneg_right f1 w0
  unfold Iv.On
  rw [e]
  constructor <;> grind
theorem hull_ins_l (a b : Iv) : a.ins (a.hull b) = true := Iv.ins_on (on_hull1 a.on_lo) (on_hull1 a.on_hi)
theorem hull_ins_r (a b : Iv) : b.ins (a.hull b) = true := Iv.ins_on (on_hull2 b.on_lo) (on_hull2 b.on_hi)
theorem hull_least {a b c : Iv} (h : a.ins c = true) : b.ins c = (a.hull b).ins c := by
  have h0 := of_decide_eq_true h
  have h3 := a.h
  have h4 := b.h
  cases hb : b.ins c with
  | true =>
    have h1 := of_decide_eq_true hb
    symm
    exact sp4_least ⟨h0.1, by grind⟩ ⟨by grind, h0.2⟩ ⟨h1.1, by grind⟩ ⟨by grind, h1.2⟩
  | false =>
    have h1 := of_decide_eq_false hb
    symm
    refine decide_eq_false fun h2 => h1 ?_
    have q1 := sp4_on3 a.lo a.hi b.lo b.hi
    have q2 := sp4_on4 a.lo a.hi b.lo b.hi
    exact ⟨Rat.le_trans h2.1 q1.1, Rat.le_trans q2.2 h2.2⟩
def Iv.meet (a b : Iv) (h : (a.lo.max b.lo).v ≤ (a.hi.min b.hi).v) : Iv := ⟨a.lo.max b.lo, a.hi.min b.hi, h⟩
theorem meet_ins_l {a b : Iv} (h) : (a.meet b h).ins a = true := decide_eq_true ⟨le_max_l _ _, min_le_l _ _⟩
theorem meet_ins_r {a b : Iv} (h) : (a.meet b h).ins b = true := decide_eq_true ⟨le_max_r _ _, min_le_r _ _⟩
theorem meet_most {a b c : Iv} (h) : (c.ins a && c.ins b) = c.ins (a.meet b h) := by
  unfold Iv.ins
  rw [← Bool.decide_and]
  refine decide_eq_decide.2 ⟨fun g => ⟨max_le g.1.1 g.2.1, le_min g.1.2 g.2.2⟩, fun g => ?_⟩
  have q1 := le_max_l a.lo b.lo
  have q2 := le_max_r a.lo b.lo
  have q3 := min_le_l a.hi b.hi
  have q4 := min_le_r a.hi b.hi
  exact ⟨⟨Rat.le_trans q1 g.1, Rat.le_trans g.2 q3⟩, ⟨Rat.le_trans q2 g.1, Rat.le_trans g.2 q4⟩⟩
theorem apart_iff (a b : Iv) : (a.hi.v < b.lo.v ∨ b.hi.v < a.lo.v) ↔ ¬ (a.lo.max b.lo).v ≤ (a.hi.min b.hi).v := by
  have := a.h
  have := b.h
  rw [Dy.v_max, Dy.v_min]
  split <;> split <;> grind
theorem width_le {a b : Iv} (h1 : b.On a.lo) (h2 : b.On a.hi) : (a.width).cmp b.width ≤ 0 := by
  rw [cmp_le]
  unfold Iv.width
  rw [Dy.v_sub, Dy.v_sub]
  have := h1.1; have := h2.2; grind
theorem mag_le {a : Iv} {x : Dy} (h : a.On x) : x.abs.cmp a.mag ≤ 0 := by
  rw [cmp_le]; exact (on_abs h).2
theorem sp2_on {a : Iv} {x y : Dy} (h : a.On x) (g : a.On y) : a.On (Iv.sp2 x y).lo ∧ a.On (Iv.sp2 x y).hi := by
  have h1 := min_v_cases x y
  have h2 := max_v_cases x y
  unfold Iv.On Iv.sp2 at *
  dsimp only
  obtain ⟨g1, g2⟩ := g
  obtain ⟨k1, k2⟩ := h
  refine ⟨⟨?_, ?_⟩, ⟨?_, ?_⟩⟩ <;> grind
theorem add_ins {a b c e : Iv} (h1 : c.On a.lo) (h2 : c.On a.hi) (g1 : e.On b.lo) (g2 : e.On b.hi) : (a.add b).ins (c.add e) = true := Iv.ins_on (on_add h1 g1) (on_add h2 g2)
theorem sub_ins {a b c e : Iv} (h1 : c.On a.lo) (h2 : c.On a.hi) (g1 : e.On b.lo) (g2 : e.On b.hi) : (a.sub b).ins (c.sub e) = true := Iv.ins_on (on_add h1 (on_neg g2)) (on_add h2 (on_neg g1))
theorem min_ins {a b c e : Iv} (h1 : c.On a.lo) (h2 : c.On a.hi) (g1 : e.On b.lo) (g2 : e.On b.hi) : (a.min b).ins (c.min e) = true := Iv.ins_on (on_min h1 g1) (on_min h2 g2)
theorem max_ins {a b c e : Iv} (h1 : c.On a.lo) (h2 : c.On a.hi) (g1 : e.On b.lo) (g2 : e.On b.hi) : (a.max b).ins (c.max e) = true := Iv.ins_on (on_max h1 g1) (on_max h2 g2)
theorem hull_ins {a b c e : Iv} (h1 : c.On a.lo) (h2 : c.On a.hi) (g1 : e.On b.lo) (g2 : e.On b.hi) : (a.hull b).ins (c.hull e) = true := sp4_least (on_hull1 h1) (on_hull1 h2) (on_hull2 g1) (on_hull2 g2)
theorem mul_ins {a b c e : Iv} {k : Nat} (hk : k ≤ 32768) (h1 : c.On a.lo) (h2 : c.On a.hi) (g1 : e.On b.lo) (g2 : e.On b.hi) (dc : c.Dn k) (de : e.Dn k) (da : a.Dn k) (db : b.Dn k) : (a.mul b).ins (c.mul e) = true :=
  sp4_least (on_mul hk h1 g1 dc de da.1 db.1) (on_mul hk h1 g2 dc de da.1 db.2) (on_mul hk h2 g1 dc de da.2 db.1) (on_mul hk h2 g2 dc de da.2 db.2)
theorem abs_ins {a c : Iv} (h1 : c.On a.lo) (h2 : c.On a.hi) : a.abs.ins c.abs = true := by
  have k1 := on_abs h1
  have k2 := on_abs h2
  have hz : c.abs.lo.v ≤ a.abs.lo.v := by
    unfold Iv.abs at *
    by_cases q : a.lo.v < 0 ∧ 0 < a.hi.v
    · have q2 : c.lo.v < 0 ∧ 0 < c.hi.v := ⟨by have := h1.1; grind, by have := h2.2; grind⟩
      rw [if_pos q, if_pos q2]; show Dy.zero.v ≤ Dy.zero.v; grind
    · rw [if_neg q]; exact le_min k1.1 k2.1
  have hw : a.abs.hi.v ≤ c.abs.hi.v := by
    have e : a.abs.hi = a.lo.abs.max a.hi.abs := by unfold Iv.abs; split <;> rfl
    rw [e]; exact max_le k1.2 k2.2
  exact decide_eq_true ⟨hz, hw⟩
theorem floor_le_v {x : Dy} {n : Nat} (h : n ≤ 65536) : (x.floor n).v ≤ x.v := by
  have hp := p2pos n
  have e := v_nrm_mul (z := (x.v * 2 ^ n).floor) h
  have := Rat.floor_le (x.v * 2 ^ n)
  rw [← e] at this
  exact Rat.le_of_mul_le_mul_right this hp
theorem le_ceil_v {x : Dy} {n : Nat} (h : n ≤ 65536) : x.v ≤ (x.ceil n).v := by
  have := floor_le_v (x := x.neg) h
  unfold Dy.ceil
  rw [Dy.v_neg] at *
  grind
def rnd (a : Iv) (n : Nat) {k : Nat} (_ : a.Dn k) (h : n ≤ 65536) : Iv := ⟨a.lo.floor n, a.hi.ceil n, Rat.le_trans (floor_le_v h) (Rat.le_trans a.h (le_ceil_v h))⟩
theorem u8_of {n : Int} (h : (Lit.int .u8 n).wf = true) : 0 ≤ n ∧ n ≤ 255 := by simpa [Lit.wf, IntKind.min, IntKind.max, IntKind.signed, IntKind.bits] using h
end Go.Ax

