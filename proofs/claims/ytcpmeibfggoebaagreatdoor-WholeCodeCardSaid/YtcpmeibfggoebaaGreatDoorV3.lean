/- The abstract executor and plain facts. -/
import Derived.Test.YtcpmeibfggoebaaGreatDoorV1
import Derived.Test.YtcpmeibfggoebaaGreatDoorV2
import Derived.Laws.BytesArg
set_option linter.unusedSimpArgs false
set_option linter.unusedVariables false
set_option linter.deprecated false
namespace Go.Ax
open Go Go.RowKit
structure Iv where
 lo : Dy
 hi : Dy
 h : lo.v ≤ hi.v
theorem Iv.eq {a b : Iv} (h1 : a.lo = b.lo) (h2 : a.hi = b.hi) : a = b := by
 cases a; cases b; simp_all
theorem Iv.eq_v {a b : Iv} (h1 : a.lo.v = b.lo.v) (h2 : a.hi.v = b.hi.v) : a = b := Iv.eq (Dy.ext_v h1) (Dy.ext_v h2)
def Iv.Mg (k : Nat) (a : Iv) : Prop := Ax.Mg k a.lo ∧ Ax.Mg k a.hi
theorem Iv.Mg.mono {k k' : Nat} {a : Iv} (h : a.Mg k) (hk : k ≤ k') : a.Mg k' := ⟨h.1.mono hk, h.2.mono hk⟩
theorem zck (x y : Dy) : (x.min y).v ≤ x.v := by rw [Dy.v_min]; split <;> grind
theorem zdM (x y : Dy) : (x.min y).v ≤ y.v := by rw [Dy.v_min]; split <;> grind
theorem zbC (x y : Dy) : x.v ≤ (x.max y).v := by rw [Dy.v_max]; split <;> grind
theorem zbW (x y : Dy) : y.v ≤ (x.max y).v := by rw [Dy.v_max]; split <;> grind
theorem le_min {x y z : Dy} (h1 : z.v ≤ x.v) (h2 : z.v ≤ y.v) : z.v ≤ (x.min y).v := by rw [Dy.v_min]; split <;> grind
theorem max_le {x y z : Dy} (h1 : x.v ≤ z.v) (h2 : y.v ≤ z.v) : (x.max y).v ≤ z.v := by rw [Dy.v_max]; split <;> grind
def Iv.zero : Iv := ⟨Dy.zero, Dy.zero, by grind⟩
def Iv.pt (x : Dy) : Iv := ⟨x, x, by grind⟩
def Iv.sp2 (x y : Dy) : Iv := ⟨x.min y, x.max y, zmI x y⟩
def Iv.sp4 (x y z w : Dy) : Iv := ⟨((x.min y).min z).min w, ((x.max y).max z).max w, by
 have := zdM ((x.min y).min z) w; have := zbW ((x.max y).max z) w; grind⟩
def Iv.neg (a : Iv) : Iv := ⟨a.hi.neg, a.lo.neg, by rw [Dy.v_neg, Dy.v_neg]; have := a.h; grind⟩
theorem abs_nn (x : Dy) : 0 ≤ x.abs.v := by rw [Dy.v_abs]; split <;> grind
def Iv.abs (a : Iv) : Iv := if a.lo.v < 0 ∧ 0 < a.hi.v then ⟨Dy.zero, a.lo.abs.max a.hi.abs, by rw [Dy.v_zero]; have := abs_nn a.lo; have := zbC a.lo.abs a.hi.abs; grind⟩ else Iv.sp2 a.lo.abs a.hi.abs
def Iv.add (a b : Iv) : Iv := ⟨a.lo.add b.lo, a.hi.add b.hi, by rw [Dy.v_add, Dy.v_add]; have := a.h; have := b.h; grind⟩
def Iv.sub (a b : Iv) : Iv := a.add b.neg
def Iv.mul (a b : Iv) : Iv := Iv.sp4 (a.lo.mul b.lo) (a.lo.mul b.hi) (a.hi.mul b.lo) (a.hi.mul b.hi)
def Iv.min (a b : Iv) : Iv := ⟨a.lo.min b.lo, a.hi.min b.hi, le_min (by have := zck a.lo b.lo; have := a.h; grind) (by have := zdM a.lo b.lo; have := b.h; grind)⟩
def Iv.max (a b : Iv) : Iv := ⟨a.lo.max b.lo, a.hi.max b.hi, max_le (by have := zbC a.hi b.hi; have := a.h; grind) (by have := zbW a.hi b.hi; have := b.h; grind)⟩
def Iv.hull (a b : Iv) : Iv := Iv.sp4 a.lo a.hi b.lo b.hi
def Iv.mag (a : Iv) : Dy := a.abs.hi
def Iv.ins (a b : Iv) : Bool := decide (b.lo.v ≤ a.lo.v ∧ a.hi.v ≤ b.hi.v)
def Iv.has (a : Iv) (x : Dy) : Bool := decide (a.lo.v ≤ x.v ∧ x.v ≤ a.hi.v)
theorem Iv.has_pt (a : Iv) (x : Dy) : (Iv.pt x).ins a = a.has x := rfl
theorem Iv.Mg.pt {k : Nat} {x : Dy} (h : Ax.Mg k x) : (Iv.pt x).Mg k := ⟨h, h⟩
theorem Iv.Mg.sp2 {k : Nat} {x y : Dy} (h : Ax.Mg k x) (g : Ax.Mg k y) : (Iv.sp2 x y).Mg k := ⟨h.min g, h.max g⟩
theorem Iv.Mg.sp4 {k : Nat} {x y z w : Dy} (h : Ax.Mg k x) (g : Ax.Mg k y) (i : Ax.Mg k z) (j : Ax.Mg k w) : (Iv.sp4 x y z w).Mg k := ⟨((h.min g).min i).min j, ((h.max g).max i).max j⟩
theorem Iv.Mg.zero (k : Nat) : Iv.zero.Mg k := ⟨Ax.Mg.zero k, Ax.Mg.zero k⟩
theorem Iv.Mg.neg {k : Nat} {a : Iv} (h : a.Mg k) : a.neg.Mg k := ⟨h.2.neg, h.1.neg⟩
theorem Iv.Mg.abs {k : Nat} {a : Iv} (h : a.Mg k) : a.abs.Mg k := by
 unfold Iv.abs; split
 ·exact ⟨Ax.Mg.zero k, h.1.abs.max h.2.abs⟩
 ·exact .sp2 h.1.abs h.2.abs
theorem Iv.Mg.add {k : Nat} {a b : Iv} (h : a.Mg k) (g : b.Mg k) : (a.add b).Mg (k + 1) := ⟨h.1.add g.1, h.2.add g.2⟩
theorem Iv.Mg.sub {k : Nat} {a b : Iv} (h : a.Mg k) (g : b.Mg k) : (a.sub b).Mg (k + 1) := h.add g.neg
theorem Iv.Mg.mul {k l : Nat} {a b : Iv} (h : a.Mg k) (g : b.Mg l) : (a.mul b).Mg (k + l) := .sp4 (h.1.mul g.1) (h.1.mul g.2) (h.2.mul g.1) (h.2.mul g.2)
theorem Iv.Mg.min {k : Nat} {a b : Iv} (h : a.Mg k) (g : b.Mg k) : (a.min b).Mg k := ⟨h.1.min g.1, h.2.min g.2⟩
theorem Iv.Mg.max {k : Nat} {a b : Iv} (h : a.Mg k) (g : b.Mg k) : (a.max b).Mg k := ⟨h.1.max g.1, h.2.max g.2⟩
theorem Iv.Mg.hull {k : Nat} {a b : Iv} (h : a.Mg k) (g : b.Mg k) : (a.hull b).Mg k := .sp4 h.1 h.2 g.1 g.2
def okI (s : Bool) (ws : List Nat) (d : Int) (s' : Bool) (ws' : List Nat) (d' : Int) (x y : Dy) : Prop := (zcJ s ws d = true ∧ zcJ s' ws' d' = true) ∧ x.v ≤ y.v
instance (s : Bool) (ws : List Nat) (d : Int) (s' : Bool) (ws' : List Nat) (d' : Int) (x y : Dy) : Decidable (okI s ws d s' ws' d' x y) := inferInstanceAs (Decidable (_ ∧ _))
structure IArg (s : Bool) (ws : List Nat) (d : Int) (s' : Bool) (ws' : List Nat) (d' : Int) (x y : Dy) (a : Iv) : Prop where
 px : Arg s ws d x
 py : Arg s' ws' d' y
 is : (okI s ws d s' ws' d' x y ∧ a.lo = x ∧ a.hi = y) ∨ (¬ okI s ws d s' ws' d' x y ∧ a = Iv.zero)
theorem IArg.of {a : Iv} {k : Nat} (h : a.Mg k) (hk : k ≤ 1099511627776 := by omega) : IArg (sg a.lo) (ms a.lo) (dn a.lo) (sg a.hi) (ms a.hi) (dn a.hi) a.lo a.hi a :=
 ⟨Arg.of h.1 hk, Arg.of h.2 hk, .inl ⟨⟨⟨zbB _, zbB _⟩, a.h⟩, rfl, rfl⟩⟩
section
variable {s : Bool} {ws : List Nat} {d : Int} {s' : Bool} {ws' : List Nat} {d' : Int} {x y : Dy} {a : Iv}
theorem IArg.lo (h : IArg s ws d s' ws' d' x y a) : Arg (sg a.lo) (ms a.lo) (dn a.lo) a.lo := by
 rcases h.is with ⟨_, h1, _⟩ | ⟨_, h1⟩
 ·rw [h1]; exact ⟨zg7 x, h.px.mlen, .inl ⟨zbB x, rfl, rfl, rfl⟩⟩
 ·rw [h1]; exact Arg.of (Ax.Mg.zero 1) (by omega)
theorem IArg.hi (h : IArg s ws d s' ws' d' x y a) : Arg (sg a.hi) (ms a.hi) (dn a.hi) a.hi := by
 rcases h.is with ⟨_, _, h1⟩ | ⟨_, h1⟩
 ·rw [h1]; exact ⟨zg7 y, h.py.mlen, .inl ⟨zbB y, rfl, rfl, rfl⟩⟩
 ·rw [h1]; exact Arg.of (Ax.Mg.zero 1) (by omega)
end
theorem ok_of (a : Iv) : okI (sg a.lo) (ms a.lo) (dn a.lo) (sg a.hi) (ms a.hi) (dn a.hi) a.lo a.hi := ⟨⟨zbB _, zbB _⟩, a.h⟩
abbrev ilit : AV := .agg [.v (.bool false), .v (.slice none 0 0), .v (.int .i64 0), .v (.bool false), .v (.slice none 0 0), .v (.int .i64 0)]
theorem Le.iv0 : Le ilit (.agg [.v (.bool (sg Iv.zero.lo)), .sl 1 (u32s (ms Iv.zero.lo)), .v (.int .i64 (dn Iv.zero.lo)), .v (.bool (sg Iv.zero.hi)), .sl 1 (u32s (ms Iv.zero.hi)), .v (.int .i64 (dn Iv.zero.hi))]) := by
 show Le ilit (.agg [.v (.bool (sg Dy.zero)), .sl 1 (u32s (ms Dy.zero)), .v (.int .i64 (dn Dy.zero)), .v (.bool (sg Dy.zero)), .sl 1 (u32s (ms Dy.zero)), .v (.int .i64 (dn Dy.zero))])
 rw [zeR]
 exact Le.agg (.cons (.refl _) (.cons (Le.nil _) (.cons (.refl _) (.cons (.refl _) (.cons (Le.nil _) (.cons (.refl _) .nil))))))
theorem Arg.can {s : Bool} {ws : List Nat} {d : Int} {x : Dy} (h : Arg s ws d x) : Arg (sg x) (ms x) (dn x) x := ⟨zg7 x, h.mlen, .inl ⟨zbB x, rfl, rfl, rfl⟩⟩
theorem Arg.cmin {x y : Dy} (h : Arg (sg x) (ms x) (dn x) x) (g : Arg (sg y) (ms y) (dn y) y) : Arg (sg (x.min y)) (ms (x.min y)) (dn (x.min y)) (x.min y) := by
 unfold Dy.min; split <;> assumption
theorem Arg.cmax {x y : Dy} (h : Arg (sg x) (ms x) (dn x) x) (g : Arg (sg y) (ms y) (dn y) y) : Arg (sg (x.max y)) (ms (x.max y)) (dn (x.max y)) (x.max y) := by
 unfold Dy.max; split <;> assumption
theorem Arg.cabs {x : Dy} (h : Arg (sg x) (ms x) (dn x) x) : Arg (sg x.abs) (ms x.abs) (dn x.abs) x.abs :=
 ⟨zg7 _, by
  have e : ms x.abs = ms x := by show words (x.n.natAbs : Int).natAbs = words x.n.natAbs; rw [Int.natAbs_natCast]
  rw [e]; exact h.mlen, .inl ⟨zbB _, rfl, rfl, rfl⟩⟩
theorem IArg.mk' {a : Iv} (h : Arg (sg a.lo) (ms a.lo) (dn a.lo) a.lo) (g : Arg (sg a.hi) (ms a.hi) (dn a.hi) a.hi) : IArg (sg a.lo) (ms a.lo) (dn a.lo) (sg a.hi) (ms a.hi) (dn a.hi) a.lo a.hi a :=
 ⟨h, g, .inl ⟨ok_of a, rfl, rfl⟩⟩
theorem Arg.cpt {s : Bool} {ws : List Nat} {d : Int} {x : Dy} (h : Arg s ws d x) : IArg (sg (Iv.pt x).lo) (ms (Iv.pt x).lo) (dn (Iv.pt x).lo) (sg (Iv.pt x).hi) (ms (Iv.pt x).hi) (dn (Iv.pt x).hi) (Iv.pt x).lo (Iv.pt x).hi (Iv.pt x) := .mk' h.can h.can
section
variable {s : Bool} {ws : List Nat} {d : Int} {s' : Bool} {ws' : List Nat} {d' : Int} {x y : Dy} {a : Iv}
theorem IArg.cneg (h : IArg s ws d s' ws' d' x y a) : IArg (sg a.neg.lo) (ms a.neg.lo) (dn a.neg.lo) (sg a.neg.hi) (ms a.neg.hi) (dn a.neg.hi) a.neg.lo a.neg.hi a.neg := .mk' h.hi.neg_of h.lo.neg_of
variable {s2 : Bool} {ws2 : List Nat} {d2 : Int} {s2' : Bool} {ws2' : List Nat} {d2' : Int} {x2 y2 : Dy} {b : Iv}
theorem IArg.cmax (h : IArg s ws d s' ws' d' x y a) (g : IArg s2 ws2 d2 s2' ws2' d2' x2 y2 b) : IArg (sg (a.max b).lo) (ms (a.max b).lo) (dn (a.max b).lo) (sg (a.max b).hi) (ms (a.max b).hi) (dn (a.max b).hi) (a.max b).lo (a.max b).hi (a.max b) := .mk' (h.lo.cmax g.lo) (h.hi.cmax g.hi)
end
theorem ziE (x : Dy) : x.sign < 0 ↔ x.v < 0 := by rw [Dy.sign_v]; split <;> (try split) <;> grind
theorem sign_gt0 (x : Dy) : 0 < x.sign ↔ 0 < x.v := by rw [Dy.sign_v]; split <;> (try split) <;> grind
theorem sign_eq0 (x : Dy) : x.sign = 0 ↔ x.v = 0 := by rw [Dy.sign_v]; split <;> (try split) <;> grind
theorem zcY {n : Int} (h : -9223372036854775808 ≤ n ∧ n ≤ 9223372036854775807) : Mg 64 (Dy.int n) := Mg.int (Nat.lt_of_le_of_lt (show n.natAbs ≤ 9223372036854775808 by omega) (by decide))
theorem Le.lo0 {A B C : AV} : Le (.agg [.v (.bool false), .v (.slice none 0 0), .v (.int .i64 0), A, B, C]) (.agg [.v (.bool (sg Dy.zero)), .sl 1 (u32s (ms Dy.zero)), .v (.int .i64 (dn Dy.zero)), A, B, C]) := by
 rw [zeR]
 exact Le.agg (.cons (.refl _) (.cons (Le.nil _) (.cons (.refl _) (.cons (.refl _) (.cons (.refl _) (.cons (.refl _) .nil))))))
theorem Iv.clip_ref (a : Iv) {lo hi : Dy} (h : lo.v ≤ hi.v) : (a.max (Iv.pt lo)).min (Iv.pt hi) = (Iv.pt lo).max ((Iv.pt hi).min a) := by
 have := a.h
 refine Iv.eq_v ?_ ?_
 ·show ((a.lo.max lo).min hi).v = (lo.max (hi.min a.lo)).v
  rw [Dy.v_min, Dy.v_max, Dy.v_max, Dy.v_min]; repeat' split
  all_goals grind
 ·show ((a.hi.max lo).min hi).v = (lo.max (hi.min a.hi)).v
  rw [Dy.v_min, Dy.v_max, Dy.v_max, Dy.v_min]; repeat' split
  all_goals grind
theorem zkX (x y : Dy) : (x.min y).v = x.v ∨ (x.min y).v = y.v := by rw [Dy.v_min]; split <;> simp
theorem zkZ (x y : Dy) : (x.max y).v = x.v ∨ (x.max y).v = y.v := by rw [Dy.v_max]; split <;> simp
def Iv.On (a : Iv) (x : Dy) : Prop := a.lo.v ≤ x.v ∧ x.v ≤ a.hi.v
theorem Iv.On.has {a : Iv} {x : Dy} (h : a.On x) : a.has x = true := decide_eq_true h
theorem Iv.on_lo (a : Iv) : a.On a.lo := ⟨by grind, a.h⟩
theorem Iv.on_hi (a : Iv) : a.On a.hi := ⟨a.h, by grind⟩
theorem znr (x y z w : Dy) : (Iv.sp4 x y z w).On x := by
 have h1 := zck x y; have h2 := zck (x.min y) z; have h3 := zck ((x.min y).min z) w
 have g1 := zbC x y; have g2 := zbC (x.max y) z; have g3 := zbC ((x.max y).max z) w
 exact ⟨Rat.le_trans h3 (Rat.le_trans h2 h1), Rat.le_trans g1 (Rat.le_trans g2 g3)⟩
theorem znq (x y z w : Dy) : (Iv.sp4 x y z w).On y := by
 have h1 := zdM x y; have h2 := zck (x.min y) z; have h3 := zck ((x.min y).min z) w
 have g1 := zbW x y; have g2 := zbC (x.max y) z; have g3 := zbC ((x.max y).max z) w
 exact ⟨Rat.le_trans h3 (Rat.le_trans h2 h1), Rat.le_trans g1 (Rat.le_trans g2 g3)⟩
theorem znp (x y z w : Dy) : (Iv.sp4 x y z w).On z := by
 have h2 := zdM (x.min y) z; have h3 := zck ((x.min y).min z) w
 have g2 := zbW (x.max y) z; have g3 := zbC ((x.max y).max z) w
 exact ⟨Rat.le_trans h3 h2, Rat.le_trans g2 g3⟩
theorem zno (x y z w : Dy) : (Iv.sp4 x y z w).On w := ⟨zdM ((x.min y).min z) w, zbW ((x.max y).max z) w⟩
theorem on_neg {a : Iv} {x : Dy} (h : a.On x) : a.neg.On x.neg := by
 unfold Iv.On Iv.neg at *; simp only [Dy.v_neg] at *; grind
theorem on_abs {a : Iv} {x : Dy} (h : a.On x) : a.abs.On x.abs := by
 have e1 := Dy.v_abs a.lo
 have e2 := Dy.v_abs a.hi
 have e3 := Dy.v_abs x
 have h1 := a.h
 obtain ⟨h2, h3⟩ := h
 have m1 := zbC a.lo.abs a.hi.abs
 have m2 := zbW a.lo.abs a.hi.abs
 have n1 := zck a.lo.abs a.hi.abs
 have n2 := zdM a.lo.abs a.hi.abs
 have up : x.abs.v ≤ (a.lo.abs.max a.hi.abs).v := by
  split at e1 <;> split at e2 <;> split at e3 <;> grind
 unfold Iv.abs
 split
 ·exact ⟨by show Dy.zero.v ≤ _; rw [Dy.v_zero]; exact abs_nn x, up⟩
 ·rename_i c
  refine ⟨?_, up⟩
  show (a.lo.abs.min a.hi.abs).v ≤ _
  split at e1 <;> split at e2 <;> split at e3 <;> grind
theorem on_add {a b : Iv} {x y : Dy} (h : a.On x) (g : b.On y) : (a.add b).On (x.add y) := by
 unfold Iv.On Iv.add at *; simp only [Dy.v_add] at *; grind
theorem on_sub {a b : Iv} {x y : Dy} (h : a.On x) (g : b.On y) : (a.sub b).On (x.sub y) := on_add h (on_neg g)
theorem on_min {a b : Iv} {x y : Dy} (h : a.On x) (g : b.On y) : (a.min b).On (x.min y) := by
 unfold Iv.On Iv.min at *; simp only [Dy.v_min] at *; obtain ⟨h1, h2⟩ := h; obtain ⟨g1, g2⟩ := g
 constructor <;> (repeat' split) <;> grind
theorem on_max {a b : Iv} {x y : Dy} (h : a.On x) (g : b.On y) : (a.max b).On (x.max y) := by
 unfold Iv.On Iv.max at *; simp only [Dy.v_max] at *; obtain ⟨h1, h2⟩ := h; obtain ⟨g1, g2⟩ := g
 constructor <;> (repeat' split) <;> grind
theorem ziR {a b : Iv} {x : Dy} (h : a.On x) : (a.hull b).On x := by
 have h1 := znr a.lo a.hi b.lo b.hi
 have h2 := znq a.lo a.hi b.lo b.hi
 exact ⟨Rat.le_trans h1.1 h.1, Rat.le_trans h.2 h2.2⟩
theorem on_hull2 {a b : Iv} {x : Dy} (h : b.On x) : (a.hull b).On x := by
 have h1 := znp a.lo a.hi b.lo b.hi
 have h2 := zno a.lo a.hi b.lo b.hi
 exact ⟨Rat.le_trans h1.1 h.1, Rat.le_trans h.2 h2.2⟩
theorem zov {a b x y L : Rat} (h1 : a ≤ x) (h2 : x ≤ b) (g1 : L ≤ a * y) (g2 : L ≤ b * y) : L ≤ x * y := by
 by_cases hy : 0 ≤ y
 ·have := Rat.mul_le_mul_of_nonneg_right h1 hy; grind
 ·have := Rat.mul_le_mul_of_nonneg_right h2 (show (0 : Rat) ≤ -y by grind)
  rw [Rat.mul_neg, Rat.mul_neg] at this; grind
theorem zow {a b x y L : Rat} (h1 : a ≤ x) (h2 : x ≤ b) (g1 : a * y ≤ L) (g2 : b * y ≤ L) : x * y ≤ L := by
 by_cases hy : 0 ≤ y
 ·have := Rat.mul_le_mul_of_nonneg_right h2 hy; grind
 ·have := Rat.mul_le_mul_of_nonneg_right h1 (show (0 : Rat) ≤ -y by grind)
  rw [Rat.mul_neg, Rat.mul_neg] at this; grind
def Iv.Dn (k : Nat) (a : Iv) : Prop := a.lo.d ≤ k ∧ a.hi.d ≤ k
theorem zn4 {a b : Iv} {x y : Dy} {k : Nat} (hk : k ≤ 32768) (h : a.On x) (g : b.On y) (da : a.Dn k) (db : b.Dn k) (dx : x.d ≤ k) (dy : y.d ≤ k) : (a.mul b).On (x.mul y) := by
 obtain ⟨da1, da2⟩ := da
 obtain ⟨db1, db2⟩ := db
 have e1 := Dy.v_mul_of a.lo b.lo (by omega)
 have e2 := Dy.v_mul_of a.lo b.hi (by omega)
 have e3 := Dy.v_mul_of a.hi b.lo (by omega)
 have e4 := Dy.v_mul_of a.hi b.hi (by omega)
 have e5 := Dy.v_mul_of x y (by omega)
 obtain ⟨p1, p2⟩ := znr (a.lo.mul b.lo) (a.lo.mul b.hi) (a.hi.mul b.lo) (a.hi.mul b.hi)
 obtain ⟨p3, p4⟩ := znq (a.lo.mul b.lo) (a.lo.mul b.hi) (a.hi.mul b.lo) (a.hi.mul b.hi)
 obtain ⟨p5, p6⟩ := znp (a.lo.mul b.lo) (a.lo.mul b.hi) (a.hi.mul b.lo) (a.hi.mul b.hi)
 obtain ⟨p7, p8⟩ := zno (a.lo.mul b.lo) (a.lo.mul b.hi) (a.hi.mul b.lo) (a.hi.mul b.hi)
 obtain ⟨h1, h2⟩ := h
 obtain ⟨g1, g2⟩ := g
 rw [e1] at p1 p2
 rw [e2] at p3 p4
 rw [e3] at p5 p6
 rw [e4] at p7 p8
 show (a.mul b).lo.v ≤ _ ∧ _ ≤ (a.mul b).hi.v
 rw [e5]
 change (a.mul b).lo.v ≤ _ at p1 p3 p5 p7
 change _ ≤ (a.mul b).hi.v at p2 p4 p6 p8
 generalize (a.mul b).lo.v = L at *
 generalize (a.mul b).hi.v = H at *
 constructor
 ·refine zov h1 h2 ?_ ?_
  ·rw [Rat.mul_comm]; refine zov g1 g2 ?_ ?_ <;> rw [Rat.mul_comm] <;> assumption
  ·rw [Rat.mul_comm]; refine zov g1 g2 ?_ ?_ <;> rw [Rat.mul_comm] <;> assumption
 ·refine zow h1 h2 ?_ ?_
  ·rw [Rat.mul_comm]; refine zow g1 g2 ?_ ?_ <;> rw [Rat.mul_comm] <;> assumption
  ·rw [Rat.mul_comm]; refine zow g1 g2 ?_ ?_ <;> rw [Rat.mul_comm] <;> assumption
theorem zj0 {a : Iv} {x : Dy} (h : a.On x) : x.abs.cmp a.mag ≤ 0 := by
 rw [zcr]; exact (on_abs h).2
theorem zii {x : Dy} {n : Nat} (h : n ≤ 65536) : (x.floor n).v ≤ x.v := by
 have hp := zbt n
 have e := zd3 (z := (x.v * 2 ^ n).floor) h
 have := Rat.floor_le (x.v * 2 ^ n)
 rw [← e] at this
 exact Rat.le_of_mul_le_mul_right this hp
theorem zj2 {x : Dy} {n : Nat} (h : n ≤ 65536) : x.v ≤ (x.ceil n).v := by
 have := zii (x := x.neg) h
 unfold Dy.ceil
 rw [Dy.v_neg] at *
 grind
section
variable {C : Cx} {s : AS} {o : Oper}
theorem own_lit0 (hT : zam C.P C.ti) {t e : TypeId} {q1 q2 : Nat} {q3 : List Z} {z : TyI} (ho : o.op = .buildSlice t 0 #[]) (ht : C.ti t = some ⟨q1, q2, q3, .slc e⟩) (hz : C.ti e = some z) :
  OwnOK C s o ⟨.ps s.next z.size 0 0, .new ⟨z.size, []⟩, none, some s.next⟩ where
 nocall := by rw [ho]; rfl
 noop s' := by rw [ho]; rfl
 run s' hA := by
  rw [hA.2.2]
  intro D S0 w0 σ S U a w K Q hG hid hF hE hK
  obtain ⟨i, d, h1, h2, h3, h4, h5, h6⟩ := zag hT ht
  have hd := zbU h5
  subst hd
  obtain ⟨i', d', g1, g2, g3, g4, g5, ⟨zv, hz1, hz2, hz3⟩, g7⟩ := zag hT hz
  have hrun : (execOp a.eval o).run C.P w = .ok (.value (.slice (some ⟨w.heap.size, 0, none⟩) 0 0)) (w.alloc (.cells #[] e)) := by
   simp [execOp, ho, Instr.buildSlice, run_underlying h2, zaw g1, Instr.fill, newRow]
   have e0 : (Array.range 0).map (fun (_ : Nat) => (default : Value)) = #[] := by simp [Array.range]
   rw [e0]
  unfold Oper.wp
  rw [hrun]
  have hFn := hF.new (next := s'.next) hid #[] e ⟨z.size, []⟩ (fun r hr => by cases hr) (by simp) (fun i r j av hi => by simp at hi)
  exact hK _ _ _ S hFn (hE.new hF hid _ _) (.ps (k := w.heap.size) (off := 0) (by simp [Ax.upd]) (Nat.le_refl _) (.inl (by simp)) ⟨_, e, (0, 0), zbc w _, by simp⟩)
 tch b h := by
  simp only [tch, beq_iff_eq] at h
  exact .inl (by rw [h])
end
section
variable {C : Cx} {s : AS} {n : Nat} {r : List It} {Q : Lab → AS → Prop}
theorem zhK {all l : List Oper} {fps : List FP} {fp : FP} {d : Option Tmp} {u : TypeId} {pos : String} {af : Array Edge} {g : Option (Nat × Bool)} (hT : zam C.P C.ti) {t e : TypeId} {q1 q2 : Nat} {q3 : List Z} {z : TyI} (ht : C.ti t = some ⟨q1, q2, q3, .slc e⟩) (hz : C.ti e = some z)
  (kk : zax C n r (bump ((⟨s.env, (s.next, ⟨z.size, []⟩) :: s.mem, s.next + 1⟩ : AS).put d (.ps s.next z.size 0 0)) (s.next + 1)) Q all l ((none, some s.next) :: fps)) :
  za0 C n r s Q all ⟨d, .buildSlice t 0 #[], u, pos, af, g⟩ none fp l fps := by
 refine zfx (own_lit0 hT rfl ht hz) ?_
 cases d <;> exact kk
def thawL : List Nat → AS → AS
 | [], s => s
 | b :: l, s => match look s.mem b with
  | some m => thawL l (thawS b m s)
  | none => s
def zfH : List Nat → AS → Prop
 | [], _ => True
 | b :: l, s => match look s.mem b with
  | some m => ziB b m s.env ∧ zfH l (thawS b m s)
  | none => True
attribute [go_sem] Ax.thawL
theorem zhX : ∀ (l : List Nat) (s : AS), (thawL l s).next = s.next
 | [], s => rfl
 | b :: l, s => by
  simp only [thawL]
  split
  ·rw [zhX l]; rfl
  ·rfl
theorem zaI.thaws : ∀ (l : List Nat) (s : AS), zfH l s → zaI s (thawL l s)
 | [], s, _ => fun D S0 w0 σ S w hF _ => ⟨σ, S, hF, fun a hE => hE⟩
 | b :: l, s, h => by
  simp only [thawL]
  simp only [zfH] at h
  split
  ·rename_i m hm
   rw [hm] at h
   exact zaI.trans (zaI.thaw b hm h.1) (Nat.le_refl _) (zaI.thaws l _ h.2)
  ·exact fun D S0 w0 σ S w hF _ => ⟨σ, S, hF, fun a hE => hE⟩
theorem zhB (hT : zam C.P C.ti) {o : Oper} (l : List Nat) (h : zfH l s) (hc : isCall o.op = false) {e : Eff} (he : aop C.ti (thawL l s) o.op = some e) (hn : e.need) (k : ex C n r (((thawL l s).upd e.upd).put o.dst e.val) Q) : after C n r s Q o none :=
 zm2 hT (zaI.thaws l s h) (by rw [zhX]; exact Nat.le_refl _) hc he hn k
end
section
variable {C : Cx} {n : Nat} {r : List It} {s s' : AS} {Q : Lab → AS → Prop}
theorem zaI.trans0 {s s1 s2 : AS} (h : zaI s s1) (h1 : 0 < s1.next) (k : zaI s1 s2) : zaI s s2 := by
 intro D S0 w0 σ S w hF h0
 obtain ⟨σ', S', g1, g2⟩ := h D S0 w0 σ S w hF (fun _ => h1)
 obtain ⟨σ2, S2, k1, k2⟩ := k D S0 w0 σ' S' w g1 h0
 exact ⟨σ2, S2, k1, fun a ha => k2 a (g2 a ha)⟩
end
theorem zaZ {a b c : Rat} (hc : 0 < c) (h : a * c ≤ b * c) : a ≤ b := Rat.le_of_mul_le_mul_right h hc
theorem zau {a b c : Rat} (hc : 0 < c) (h : a ≤ b) : a * c ≤ b * c := Rat.mul_le_mul_of_nonneg_right h (Rat.le_of_lt hc)
theorem zjr.mle {σ : Sig} {S F : Nat → Prop} {w : World} {b : Nat} {m m' : MB} (h : zjr σ S F w b m) (hm : MLe m m') : zjr σ S F w b m' := by
 obtain ⟨k, c, e, h1, h2, h3, h4, h5, h6, h7⟩ := h
 obtain ⟨q1, q2, q3⟩ := hm
 refine ⟨k, c, e, h1, h2, h3, h4, fun r hr => ?_, by rw [q1, q2]; exact h6, fun i r j av hi hj => ?_⟩
 ·obtain ⟨i, hi⟩ := List.getElem?_of_mem hr
  obtain ⟨r0, g1, g2, _⟩ := q3 i r hi
  rw [q1, g2]; exact h5 r0 (List.mem_of_getElem? g1)
 ·obtain ⟨r0, g1, g2, g3⟩ := q3 i r hi
  obtain ⟨a0, g4, g5⟩ := g3 j av hj
  obtain ⟨x, hx, hr⟩ := h7 i r0 j a0 g1 g4
  exact ⟨x, by rw [q1]; exact hx, g5 _ _ _ _ hr⟩
theorem zaI.mle {s : AS} (b : Nat) {m : MB} (m' : MB) (hb : look s.mem b = some m) (hm : MLe m m') : zaI s ⟨s.env, (b, m') :: s.mem, s.next⟩ := by
 intro D S0 w0 σ S w hF _
 have names : ∀ c mc, look ((b, m') :: s.mem) c = some mc → (c = b ∧ mc = m') ∨ (c ≠ b ∧ look s.mem c = some mc) := fun c mc hl => by
  simp only [look] at hl
  split at hl
  ·rename_i he; injection hl with hl; exact .inl ⟨he.symm, hl.symm⟩
  ·rename_i he; exact .inr ⟨fun e => he e.symm, hl⟩
 have old : ∀ c mc, look ((b, m') :: s.mem) c = some mc → ∃ mc0, look s.mem c = some mc0 := fun c mc hl => by
  rcases names c mc hl with ⟨rfl, _⟩ | ⟨_, h⟩
  ·exact ⟨m, hb⟩
  ·exact ⟨mc, h⟩
 refine ⟨σ, S, ⟨hF.below, hF.dom, fun b1 b2 k m1 m2 h1 h2 h3 h4 => ?_, hF.sbd, hF.s0, hF.s1, hF.glob, fun c mc hl => ?_⟩, fun a hE => hE⟩
 ·obtain ⟨n1, g1⟩ := old _ _ h1
  obtain ⟨n2, g2⟩ := old _ _ h2
  exact hF.inj b1 b2 k n1 n2 g1 g2 h3 h4
 ·rcases names c mc hl with ⟨rfl, rfl⟩ | ⟨hne, hl⟩
  ·rcases hF.mem c m hb with ⟨h1, h2⟩ | h
   ·refine .inl ⟨?_, h2⟩
    have := hm.2.1
    rw [h1] at this
    exact List.length_eq_zero_iff.1 this
   ·exact .inr (h.mle hm)
  ·exact hF.mem c mc hl
section
variable {C : Cx} {n : Nat} {r : List It} {s : AS} {Q : Lab → AS → Prop}
theorem opG_box {o : Oper} {t : TypeId} {x : Operand} {av : AV} (ho : o.op = .box t x) (hx : ev s x = some av) (h1 : av.cells.all AV.one = true) : OpG C s o ⟨s.env, (s.next, ⟨av.cells.length, [av.cells]⟩) :: s.mem, s.next + 1⟩ (.p s.next av.cells.length 0 0) := by
 intro D S0 w0 σ S a w K R hG hF hE hK
 obtain ⟨y, w', σ', g1, g2, g3, g4⟩ := s_box0 (P := C.P) (U := fun b => b < s.next) (Nat.lt_irrefl _) hF hE ho (e := ⟨True, .p s.next av.cells.length 0 0, .new ⟨av.cells.length, [av.cells]⟩⟩) (by unfold aBox0; rw [hx]; simp only [h1, if_true])
 unfold Oper.wp
 rw [g1]
 refine hK σ' S y w' (g2.congr (fun _ => rfl) (fun b hb => ?_)) g3 g4
 show b < s.next + 1
 rcases hb with hb | hb <;> omega
theorem opG_boxF {o : Oper} {t : TypeId} {x : Operand} {av : AV} (ho : o.op = .box t x) (hx : ev s x = some av) (h1 : av.cells.all AV.one = true) : OpG C s o ⟨s.env, dropM s.next s.mem, s.next + 1⟩ (.rp av.cells) := by
 intro D S0 w0 σ S a w K R hG hF hE hK
 refine opG_box ho hx h1 D S0 w0 σ S a w K R hG hF hE fun σ' S' y w' g1 g2 g3 => ?_
 have hm : look ((s.next, (⟨av.cells.length, [av.cells]⟩ : MB)) :: s.mem) s.next = some ⟨av.cells.length, [av.cells]⟩ := by simp [look]
 have hF2 := g1.frz hm
 refine hK σ' _ y w' ((hF2.sub fun c mc h => ?_).congr (fun _ => rfl) (fun b hb => hb)) (fun t' a' ht' => ?_) (zhc g1 hm g3 (frz_p (j := 0) rfl (by simp)))
 ·obtain ⟨h2, h3⟩ := za2 _ _ _ h
  have : dropM s.next ((s.next, (⟨av.cells.length, [av.cells]⟩ : MB)) :: s.mem) = dropM s.next s.mem := by simp [dropM]
  show look (dropM s.next ((s.next, (⟨av.cells.length, [av.cells]⟩ : MB)) :: s.mem)) c = some mc
  rw [this]; exact h
 ·obtain ⟨z, q1, q2⟩ := g2 t' a' ht'
  exact ⟨z, q1, q2.more⟩
theorem zcI {t : TypeId} {x : Operand} {d : Option Tmp} {u : TypeId} {pos : String} {af : Array Edge} {g : Option (Nat × Bool)} {av : AV} (hx : ev s x = some av) (h1 : av.cells.all AV.one = true)
  (k : ex C n r ((⟨s.env, dropM s.next s.mem, s.next + 1⟩ : AS).put d (.rp av.cells)) Q) : after C n r s Q ⟨d, .box t x, u, pos, af, g⟩ none := zdE (opG_boxF rfl hx h1) k
end
section
variable {C : Cx} {n : Nat} {r : List It} {s : AS} {Q : Lab → AS → Prop} {d : Option Tmp}
end
section
variable {C : Cx} {s : AS} {n : Nat} {r : List It} {Q : Lab → AS → Prop} {d : Option Tmp}
end
section
variable {C : Cx} {s : AS} {n : Nat} {r : List It} {Q : Lab → AS → Prop} {d : Option Tmp}
end
section
variable {P : Program} {w : World}
end
section
variable {C : Cx} {s : AS} {o : Oper}
end
section
variable {C : Cx} {s : AS} {n : Nat} {r : List It} {Q : Lab → AS → Prop}
end
section
variable {C : Cx} {s : AS} {o : Oper}
end
section
variable {C : Cx} {s : AS} {o : Oper}
end
section
variable {C : Cx} {n : Nat} {r : List It} {s : AS} {Q : Lab → AS → Prop} {d : Option Tmp} {t u : TypeId} {len : Nat} {parts : List (Nat × Operand)} {pos : String} {af : Array Edge} {g : Option (Nat × Bool)}
end
def genA (ρ : Nat → Option Nat) (a c : AV) : Prop :=
 (∃ b' b sz row n, a = .ps b' sz row n ∧ c = .ps b sz row n ∧ ρ b = some b') ∨ (∃ b sz row, a = .v (.slice none 0 0) ∧ c = .ps b sz row 0) ∨ (Le a c ∧ Cl c)
def genR (ρ : Nat → Option Nat) (rows rows' : List (List AV)) : Prop :=
 rows'.length = rows.length ∧ ∀ (i : Nat) (r' : List AV), rows'[i]? = some r' → ∃ r, rows[i]? = some r ∧ r'.length = r.length ∧ ∀ (j : Nat) (c : AV), r'[j]? = some c → ∃ a, r[j]? = some a ∧ genA ρ a c
def zjt (ρ : Nat → Option Nat) (σ : Sig) : Sig := fun b => (ρ b).bind σ
theorem zgy {ρ : Nat → Option Nat} {σ : Sig} {S : Nat → Prop} {w : World} {x : Value} {a c : AV} (h : genA ρ a c) (hr : Rel σ S w x a) : Rel (zjt ρ σ) S w x c := by
 rcases h with ⟨b', b, sz, row, n, rfl, rfl, h⟩ | ⟨b, sz, row, rfl, rfl⟩ | ⟨h, hc⟩
 ·cases hr with
  | ps hσ q1 q2 q3 => exact .ps (by simp [zjt, h, hσ]) q1 q2 q3
  | ps0 => exact .ps0
 ·cases hr; exact .ps0
 ·exact (hc _ _ _ _ (h _ _ _ _ hr)).mono (fun _ _ h => by cases h) (fun _ h => h) zaF
theorem zaI.gen {s s' : AS} (ρ : Nat → Option Nat) (h0 : ρ 0 = some 0) (hd : ∀ b k, ρ b = some k → b < s'.next)
  (hi : ∀ b b' m m' k, look s'.mem b = some m → look s'.mem b' = some m' → ρ b = some k → ρ b' = some k → b = b')
  (he : ∀ t c, look s'.env t = some c → ∃ a, look s.env t = some a ∧ genA ρ a c)
  (hm : ∀ k m', look s'.mem k = some m' → (m'.rows = [] ∧ ρ k = none) ∨ ∃ k0 m0, ρ k = some k0 ∧ look s.mem k0 = some m0 ∧ m'.sz = m0.sz ∧ genR ρ m0.rows m'.rows) : zaI s s' := by
 intro D S0 w0 σ S w hF _
 have un : ∀ b k, zjt ρ σ b = some k → ∃ b0, ρ b = some b0 ∧ σ b0 = some k := fun b k h => by
  unfold zjt at h
  cases hb : ρ b with
  | none => rw [hb] at h; cases h
  | some b0 => rw [hb] at h; exact ⟨b0, rfl, h⟩
 refine ⟨zjt ρ σ, S, ⟨hF.below, fun b k hk => ?_, fun b b' k m m' h1 h2 h3 h4 => ?_, hF.sbd, hF.s0, hF.s1, ⟨hF.glob.1, fun k hk => by simp [zjt, h0, hF.glob.2 k hk]⟩, fun b m' h => ?_⟩, fun a hE t c ht => ?_⟩
 ·obtain ⟨b0, q1, q2⟩ := un b k hk
  exact ⟨hd b b0 q1, (hF.dom b0 k q2).2⟩
 ·obtain ⟨b0, q1, q2⟩ := un b k h3
  obtain ⟨b1, q3, q4⟩ := un b' k h4
  rcases hm b m h1 with ⟨_, g⟩ | ⟨k0, m0, g1, g2, _⟩
  ·rw [g] at q1; cases q1
  rcases hm b' m' h2 with ⟨_, g⟩ | ⟨k1, m1, g3, g4, _⟩
  ·rw [g] at q3; cases q3
  have e0 : k0 = b0 := Option.some.inj (g1.symm.trans q1)
  have e1 : k1 = b1 := Option.some.inj (g3.symm.trans q3)
  subst e0 e1
  have := hF.inj k0 k1 k m0 m1 g2 g4 q2 q4
  subst this
  exact hi b b' m m' k0 h1 h2 q1 q3
 ·rcases hm b m' h with ⟨g1, g2⟩ | ⟨k0, m0, g1, g2, g3, g4, g5⟩
  ·exact .inl ⟨g1, by simp [zjt, g2]⟩
  ·rcases hF.mem k0 m0 g2 with ⟨f1, f2⟩ | ⟨k, c0, e, f1, f2, f3, f4, f5, f6, f7⟩
   ·refine .inl ⟨?_, by simp [zjt, g1, f2]⟩
    rw [f1] at g4; exact List.length_eq_zero_iff.1 g4
   ·refine .inr ⟨k, c0, e, by simp [zjt, g1, f1], f2, f3, f4, fun r' hr' => ?_, by rw [g3, g4]; exact f6, fun i r' j c hi' hj => ?_⟩
    ·obtain ⟨i, hi'⟩ := List.getElem?_of_mem hr'
     obtain ⟨r, q1, q2, _⟩ := g5 i r' hi'
     rw [q2, g3]; exact f5 r (List.mem_of_getElem? q1)
    ·obtain ⟨r, q1, q2, q3⟩ := g5 i r' hi'
     obtain ⟨a0, q4, q5⟩ := q3 j c hj
     obtain ⟨x, hx, hr⟩ := f7 i r j a0 q1 q4
     exact ⟨x, by rw [g3]; exact hx, zgy q5 hr⟩
 ·obtain ⟨a0, h1, h2⟩ := he t c ht
  obtain ⟨x, hx, hr⟩ := hE t a0 h1
  exact ⟨x, hx, zgy h2 hr⟩
theorem genR.refl {ρ : Nat → Option Nat} {rows : List (List AV)} (h : ∀ r ∈ rows, ∀ a ∈ r, genA ρ a a) : genR ρ rows rows :=
 ⟨rfl, fun i r hr => ⟨r, hr, rfl, fun j c hc => ⟨c, hc, h r (List.mem_of_getElem? hr) c (List.mem_of_getElem? hc)⟩⟩⟩
theorem genR.rows {ρ : Nat → Option Nat} {rows : List (List AV)} (h : ∀ r ∈ rows, ∀ a ∈ r, Cl a) : genR ρ rows rows := .refl fun r hr a ha => .inr (.inr ⟨.refl _, h r hr a ha⟩)
structure CallN (P : Program) (G : GL) (f : FuncId) (args : List AV) (res : AV) (mem : List (Nat × MB)) (nx : Nat) : Prop where
 enters : zbS P f
 cla : ∀ x ∈ args, Cl x
 runs : ∀ (S : Nat → Prop) (w : World) (vs : Array Value), (∀ k, S k → k < w.heap.size) → GS G S w → vs.size = args.length →
  (∀ (i : Nat) (x : Value) (av : AV), vs[i]? = some x → args[i]? = some av → Rel nσ S w x av) →
  Calls P f vs w fun e w' => ∃ x σ S', e = .returned x ∧ Fit ⟨fun _ => False, G, none, [], []⟩ S w σ S' mem (fun b => b < nx) w' ∧ Rel σ S' w' x res
def EndsN (ti : zaN) (rs : List ResultVar) (res : AV) (mem : List (Nat × MB)) (nx : Nat) (l : Lab) (s : AS) : Prop :=
 (l = .normal ∨ l = .ret) ∧ (∃ p q, resL ti s rs = some (p, q) ∧ p ∧ one q = res) ∧ (∀ b m, look mem b = some m → look s.mem b = some m) ∧ s.next ≤ nx
theorem call_n {C : Cx} (hT : zam C.P C.ti) (hmx : C.P.follows .mixedOrders = true) {f : FuncId} {fn : Func} {c : Code} {args : List AV} {res : AV} {mem : List (Nat × MB)} {nx : Nat} (n : Nat) (hent : zbS C.P f) (hf : C.P.funcs[f]? = some fn) (hb : fn.body = some c) (hnt : fn.ntmps = C.nt) (hargs : args.length ≤ C.nt)
  (hcl : ∀ x ∈ args, Cl x) (h : ex C n [.code c] (entry args) (EndsN C.ti fn.results.toList res mem nx)) (hpn : C.pn = false := by rfl) (hkp : C.kp = [] := by rfl) : CallN C.P C.G f args res mem nx := by
 refine ⟨hent, hcl, fun S w vs hS hgs hsz hr => ?_⟩
 refine calls_of_wp hf hb ?_
 have hlen : (vs ++ Array.replicate (fn.ntmps - vs.size) undef).size = C.nt := by simp [hnt, hsz]; omega
 have hsim : Sim ⟨fun _ => False, C.G, none, [], []⟩ S w C.nt (entry args) { tmps := vs ++ Array.replicate (fn.ntmps - vs.size) undef, defers := [] } w := by
  refine ⟨⟨rfl, fun p hp => by cases hp⟩, hlen, nσ, S, ⟨Bel.refl (fun g l hg => ⟨id, (hgs g l hg).2⟩), (fun b k h => by cases h), (fun b b' k m m' h => by simp [entry, look] at h), hS, (fun _ h => h), (fun _ h => .inl h), ⟨fun g l hg => (hgs g l hg).1, fun k hk => by cases hk⟩, (fun b m h => by simp [entry, look] at h)⟩, fun t av ht => ?_⟩
  obtain ⟨_, h2⟩ := zbK args 0 t av ht
  simp only [Nat.sub_zero] at h2
  have hlt : t < vs.size := by rw [hsz]; exact (List.getElem?_eq_some_iff.1 h2).1
  exact ⟨vs[t], by simp [Array.getElem?_append, hlt], hr t _ av (by simp [hlt]) h2⟩
 let Post : Ending → World → Prop := fun e w' => ∃ x σ S', e = .returned x ∧ Fit ⟨fun _ => False, C.G, none, [], []⟩ S w σ S' mem (fun b => b < nx) w' ∧ Rel σ S' w' x res
 have fin : ∀ (e : Exit) (s : AS) (a : Act) (w' : World), (e = .normal ∨ e = .ret) → (∃ p q, resL C.ti s fn.results.toList = some (p, q) ∧ p ∧ one q = res) → (∀ b m, look mem b = some m → look s.mem b = some m) → s.next ≤ nx → Sim ⟨fun _ => False, C.G, none, [], []⟩ S w C.nt s a w' → bodyPost C.P fn Post e a w' := fun e s a w' he hq hm hn hs => ?_
 ·have key := zbb (D := ⟨fun _ => False, C.G, none, [], []⟩) (S0 := S) (w0 := w) (R := bodyPost C.P fn Post) (M := fun _ _ _ => False) hT ⟨rfl, fun _ => rfl, hkp.symm⟩ hmx n _ _ _ h _ _ hsim
   ⟨fun s a w q hs => fin _ s a w (.inl rfl) q.2.1 q.2.2.1 q.2.2.2 hs, fun s a w q hs => fin _ s a w (.inr rfl) q.2.1 q.2.2.1 q.2.2.2 hs, fun k s a w q hs => (by rcases q.1 with q | q <;> cases q), fun hp => (by rw [hpn] at hp; cases hp)⟩
  simp only [zaJ] at key
  exact wp_mono key fun e a w' q => by cases e <;> exact q
 ·obtain ⟨p, l, hr1, hp1, hone⟩ := hq
  obtain ⟨hd, hn', σ, S', hF, hE⟩ := hs
  obtain ⟨v, hv1, hv2⟩ := zch (P := C.P) hT hF hE hr1 hp1
  rw [hone] at hv2
  have hF1 : Fit ⟨fun _ => False, C.G, none, [], []⟩ S w σ S' mem (fun b => b < nx) w' := by
   have h1 := hF.sub hm
   exact ⟨h1.below, fun b k hk => ⟨Nat.lt_of_lt_of_le (h1.dom b k hk).1 hn, (h1.dom b k hk).2⟩, h1.inj, h1.sbd, h1.s0, h1.s1, h1.glob, h1.mem⟩
  have hfin : Post (.returned v) w' := ⟨v, σ, S', rfl, hF1, hv2⟩
  rcases he with rfl | rfl
  ·exact ⟨hd.1, v, hv1, hfin⟩
  ·exact ⟨hd.1, v, hv1, hfin⟩
theorem LeL.relN {l m : List AV} (h : LeL l m) {σ : Sig} {S : Nat → Prop} {w : World} {vs : Array Value} (hcl : ∀ x ∈ m, Cl x) (hr : ∀ (i : Nat) (x : Value) (av : AV), vs[i]? = some x → l[i]? = some av → Rel σ S w x av) :
  ∀ (i : Nat) (x : Value) (av : AV), vs[i]? = some x → m[i]? = some av → Rel nσ S w x av := fun i x av hx ha => by
 obtain ⟨a, h1, h2⟩ := h.get i av ha
 exact hcl av (List.mem_of_getElem? ha) _ _ _ _ (h2 _ _ _ _ (hr i x a hx h1))
end Go.Ax

namespace Go.Ax
end Go.Ax

namespace Go.Ax
open Go Go.RowKit
section
variable {C : Cx} {n' : Nat} {r : List It} {s : AS} {Q : Lab → AS → Prop} {d : Option Tmp}
end
end Go.Ax

namespace Go.Ax
theorem zez {α : Type} {l : List α} {i : Nat} {d : α} (h : i < l.length) : l.getD i d ∈ l := by
 rw [List.getD, List.getElem?_eq_getElem h]; exact List.getElem_mem _
end Go.Ax

namespace Go.Ax
open Go Go.RowKit
def genP (ρ : Nat → Option Nat) (a c : AV) : Prop := genA ρ a c ∨ ∃ b' b sz row j, a = .p b' sz row j ∧ c = .p b sz row j ∧ ρ b = some b'
theorem genP_rel {ρ : Nat → Option Nat} {σ : Sig} {S : Nat → Prop} {w : World} {x : Value} {a c : AV} (h : genP ρ a c) (hr : Rel σ S w x a) : Rel (zjt ρ σ) S w x c := by
 rcases h with h | ⟨b', b, sz, row, j, rfl, rfl, h⟩
 ·exact zgy h hr
 ·cases hr with
  | p hσ => exact .p (by simp [zjt, h, hσ])
theorem zaI.genE {s s' : AS} (ρ : Nat → Option Nat) (h0 : ρ 0 = some 0) (hd : ∀ b k, ρ b = some k → b < s'.next)
  (hi : ∀ b b' m m' k, look s'.mem b = some m → look s'.mem b' = some m' → ρ b = some k → ρ b' = some k → b = b')
  (he : ∀ t c, look s'.env t = some c → ∃ a, look s.env t = some a ∧ genP ρ a c)
  (hm : ∀ k m', look s'.mem k = some m' → (m'.rows = [] ∧ ρ k = none) ∨ ∃ k0 m0, ρ k = some k0 ∧ look s.mem k0 = some m0 ∧ m'.sz = m0.sz ∧ genR ρ m0.rows m'.rows) : zaI s s' := by
 intro D S0 w0 σ S w hF hn
 obtain ⟨σ', S', g1, g2⟩ := zaI.gen (s := ⟨[], s.mem, s.next⟩) (s' := ⟨[], s'.mem, s'.next⟩) ρ h0 hd hi (fun t c h => by cases h) hm D S0 w0 σ S w hF hn
 have un : ∀ b k, zjt ρ σ b = some k → ∃ b0, ρ b = some b0 ∧ σ b0 = some k := fun b k h => by
  unfold zjt at h
  cases hb : ρ b with
  | none => rw [hb] at h; cases h
  | some b0 => rw [hb] at h; exact ⟨b0, rfl, h⟩
 refine ⟨zjt ρ σ, S, ⟨hF.below, fun b k hk => ?_, fun b b' k m m' h1 h2 h3 h4 => ?_, hF.sbd, hF.s0, hF.s1, ⟨hF.glob.1, fun k hk => by simp [zjt, h0, hF.glob.2 k hk]⟩, fun b m' h => ?_⟩, fun a hE t c ht => ?_⟩
 ·obtain ⟨b0, q1, q2⟩ := un b k hk
  exact ⟨hd b b0 q1, (hF.dom b0 k q2).2⟩
 ·obtain ⟨b0, q1, q2⟩ := un b k h3
  obtain ⟨b1, q3, q4⟩ := un b' k h4
  rcases hm b m h1 with ⟨_, g⟩ | ⟨k0, m0, g1, g2, _⟩
  ·rw [g] at q1; cases q1
  rcases hm b' m' h2 with ⟨_, g⟩ | ⟨k1, m1, g3, g4, _⟩
  ·rw [g] at q3; cases q3
  have e0 : k0 = b0 := Option.some.inj (g1.symm.trans q1)
  have e1 : k1 = b1 := Option.some.inj (g3.symm.trans q3)
  subst e0 e1
  have := hF.inj k0 k1 k m0 m1 g2 g4 q2 q4
  subst this
  exact hi b b' m m' k0 h1 h2 q1 q3
 ·rcases hm b m' h with ⟨g1, g2⟩ | ⟨k0, m0, g1, g2, g3, g4, g5⟩
  ·exact .inl ⟨g1, by simp [zjt, g2]⟩
  ·rcases hF.mem k0 m0 g2 with ⟨f1, f2⟩ | ⟨k, c0, e, f1, f2, f3, f4, f5, f6, f7⟩
   ·refine .inl ⟨?_, by simp [zjt, g1, f2]⟩
    rw [f1] at g4; exact List.length_eq_zero_iff.1 g4
   ·refine .inr ⟨k, c0, e, by simp [zjt, g1, f1], f2, f3, f4, fun r' hr' => ?_, by rw [g3, g4]; exact f6, fun i r' j c hi' hj => ?_⟩
    ·obtain ⟨i, hi'⟩ := List.getElem?_of_mem hr'
     obtain ⟨r, q1, q2, _⟩ := g5 i r' hi'
     rw [q2, g3]; exact f5 r (List.mem_of_getElem? q1)
    ·obtain ⟨r, q1, q2, q3⟩ := g5 i r' hi'
     obtain ⟨a0, q4, q5⟩ := q3 j c hj
     obtain ⟨x, hx, hr⟩ := f7 i r j a0 q1 q4
     exact ⟨x, by rw [g3]; exact hx, zgy q5 hr⟩
 ·obtain ⟨a0, h1, h2⟩ := he t c ht
  obtain ⟨x, hx, hr⟩ := hE t a0 h1
  exact ⟨x, hx, genP_rel h2 hr⟩
def gEnv (ρ : Nat → Option Nat) (env : List (Nat × AV)) : List (Nat × AV) → Prop
 | [] => True
 | (t, x) :: l => (∃ a, look env t = some a ∧ genP ρ a x) ∧ gEnv ρ env l
theorem zj7 {ρ : Nat → Option Nat} {env : List (Nat × AV)} : ∀ (l : List (Nat × AV)), gEnv ρ env l → ∀ t x, look l t = some x → ∃ a, look env t = some a ∧ genP ρ a x
 | [], _, t, x, h => by cases h
 | (t', x') :: l, hl, t, x, h => by
  simp only [look] at h
  split at h
  ·rename_i he; injection h with h; subst he h; exact hl.1
  ·exact zj7 l hl.2 t x h
def gMem (ρ : Nat → Option Nat) (mem : List (Nat × MB)) : List (Nat × MB) → Prop
 | [] => True
 | (k, m') :: l => ((m'.rows = [] ∧ ρ k = none) ∨ ∃ k0 m0, ρ k = some k0 ∧ look mem k0 = some m0 ∧ m'.sz = m0.sz ∧ genR ρ m0.rows m'.rows) ∧ gMem ρ mem l
theorem zj6 {ρ : Nat → Option Nat} {mem : List (Nat × MB)} : ∀ (l : List (Nat × MB)), gMem ρ mem l → ∀ k m', look l k = some m' → (m'.rows = [] ∧ ρ k = none) ∨ ∃ k0 m0, ρ k = some k0 ∧ look mem k0 = some m0 ∧ m'.sz = m0.sz ∧ genR ρ m0.rows m'.rows
 | [], _, k, m', h => by cases h
 | (k', m1) :: l, hl, k, m', h => by
  simp only [look] at h
  split at h
  ·rename_i he; injection h with h; subst he h; exact hl.1
  ·exact zj6 l hl.2 k m' h
theorem zgv {α : Type} : ∀ {l : List (Nat × α)} {k : Nat} {x : α}, look l k = some x → (k, x) ∈ l
 | (k', x') :: l, k, x, h => by
  simp only [look] at h
  split at h
  ·rename_i he; injection h with h; subst he h; exact List.Mem.head _
  ·exact List.Mem.tail _ (zgv h)
theorem zaI.map {s : AS} (l : List (Nat × Nat)) {E : List (Nat × AV)} {M : List (Nat × MB)} {nx : Nat} (h0 : look l 0 = some 0) (hd : ∀ p ∈ l, p.1 < nx) (hi : ∀ p ∈ l, ∀ q ∈ l, p.2 = q.2 → p.1 = q.1)
  (he : gEnv (look l) s.env E) (hm : gMem (look l) s.mem M) : zaI s ⟨E, M, nx⟩ :=
 zaI.genE (look l) h0 (fun b k h => hd _ (zgv h)) (fun b b' _ _ k _ _ h1 h2 => hi _ (zgv h1) _ (zgv h2) rfl) (zj7 E he) (zj6 M hm)
def genL (ρ : Nat → Option Nat) : List AV → List AV → Prop
 | [], [] => True
 | a :: l, c :: m => genA ρ a c ∧ genL ρ l m
 | _, _ => False
theorem zl4 {ρ : Nat → Option Nat} : ∀ {l m : List AV}, genL ρ l m → m.length = l.length ∧ ∀ (j : Nat) (c : AV), m[j]? = some c → ∃ a, l[j]? = some a ∧ genA ρ a c
 | [], [], _ => ⟨rfl, fun j c h => by simp at h⟩
 | a :: l, c :: m, h => by
  obtain ⟨h1, h2⟩ := zl4 (l := l) (m := m) h.2
  refine ⟨by simp [h1], fun j c' hj => ?_⟩
  match j with
  | 0 => simp at hj; subst hj; exact ⟨a, rfl, h.1⟩
  | j + 1 => simp at hj; obtain ⟨x, q1, q2⟩ := h2 j c' hj; exact ⟨x, by simpa using q1, q2⟩
theorem zl3 {ρ : Nat → Option Nat} {r r' : List AV} (h : genL ρ r r') : genR ρ [r] [r'] := by
 obtain ⟨h1, h2⟩ := zl4 h
 refine ⟨rfl, fun i x hx => ?_⟩
 match i with
 | 0 => simp at hx; subst hx; exact ⟨r, rfl, h1, h2⟩
 | i + 1 => simp at hx
theorem zml {ρ : Nat → Option Nat} {env E : List (Nat × AV)} (h : gEnv ρ env E := by (repeat' (first | exact trivial | exact ⟨_, rfl, .inr ⟨_, _, _, _, _, rfl, rfl, rfl⟩⟩ | exact ⟨_, rfl, .inl (.inr (.inr ⟨.refl _, Cl.v _⟩))⟩ | exact ⟨_, rfl, .inl (.inr (.inr ⟨.refl _, Cl.vec⟩))⟩ | exact ⟨_, rfl, .inl (.inr (.inr ⟨.refl _, Cl.mat⟩))⟩ | exact ⟨_, rfl, .inl (.inr (.inr ⟨.refl _, Cl.u32s⟩))⟩ | exact ⟨_, rfl, .inl (.inl ⟨_, _, _, _, _, rfl, rfl, rfl⟩)⟩ | exact ⟨_, rfl, .inl (.inr (.inl ⟨_, _, _, rfl, rfl⟩))⟩ | exact ⟨_, rfl, .inl (.inr (.inr ⟨.refl _, zdk⟩))⟩ | refine And.intro ?_ ?_))) : gEnv ρ env E := h
end Go.Ax

namespace Go.Ax
end Go.Ax

namespace Go.Ax
section
variable {n p q : Nat} {a dv : List (List Dy)} {w x y : List Dy}
end
end Go.Ax

namespace Go.Ax
end Go.Ax

namespace Go.Ax
open Go Go.RowKit
theorem Le.takeN {sz k : Nat} {rows : List (List AV)} (h : rows.length ≤ k) : Le (.sl sz ((rows.drop 0).take k)) (.sl sz rows) := by
 rw [List.drop_zero, List.take_of_length_le h]; exact .refl _
theorem zaI.frzA {s s' : AS} (b : Nat) (m : MB) (n : Nat) (hl : m.rows.length = n) (hm : look s.mem b = some m := by rfl)
  (he : zl6 b m s.env s'.env := by (repeat' (first | exact trivial | exact ⟨_, _, rfl, .same, .refl _⟩ | exact ⟨_, _, rfl, zgf rfl (by rw [Nat.zero_add]; exact Nat.le_of_eq (Eq.symm (by assumption))), Le.takeN (Nat.le_of_eq (by assumption))⟩ | refine And.intro ?_ ?_)))
  (hmem : zl5 b m s.mem s'.mem := by (repeat' (first | exact trivial | exact ⟨by decide, _, rfl, .refl _ _ _⟩ | refine ⟨by decide, _, rfl, .row ?_⟩ | exact ⟨_, .same, .refl _⟩ | exact ⟨_, zgf rfl (by rw [Nat.zero_add]; exact Nat.le_of_eq (Eq.symm (by assumption))), Le.takeN (Nat.le_of_eq (by assumption))⟩ | refine And.intro ?_ ?_)))
  (hn : s.next ≤ s'.next := by exact Nat.le_refl _) : zaI s s' := zaI.frz b m hm he hmem hn
structure Blk where
 k : Int
 a : List Int
 vn : Int
 ve : Int
 un : Int
 ue : Int
def zao (b : Blk) : List AV := [.v (.int .i64 b.k), .sl 1 (rws zad b.a), .v (.int .i64 b.vn), .v (.int .i64 b.ve), .v (.int .i64 b.un), .v (.int .i64 b.ue)]
theorem zaf : zae zao := fun x a ha => by
 simp only [zao, List.mem_cons, List.not_mem_nil, or_false] at ha
 rcases ha with rfl | rfl | rfl | rfl | rfl | rfl
 ·exact Cl.v _
 ·exact Cl.rws zbh
 all_goals exact Cl.v _
def Blk.zero : Blk := ⟨0, [], 0, 0, 0, 0⟩
theorem fit_blks {rows : List (List AV)} (h : ∀ r ∈ rows, zeo [.int .i64, .sl [.int .i64], .int .i64, .int .i64, .int .i64, .int .i64] r) :
  ∃ l : List Blk, (∀ b ∈ l, b.a.length ≤ maxLen) ∧ rows = rws zao l ∧ l.length = rows.length := by
 induction rows with
 | nil => exact ⟨[], fun b hb => (by cases hb), rfl, rfl⟩
 | cons r rows ih =>
  obtain ⟨l, h1, rfl, h2⟩ := ih fun x hx => h x (List.mem_cons_of_mem _ hx)
  have hr := h r (List.mem_cons_self ..)
  obtain ⟨k, r1, rfl, w1, hr⟩ := hr.i64
  obtain ⟨s, r2, rfl, m2, w2, hr⟩ := hr.sl
  obtain ⟨vn, r3, rfl, w3, hr⟩ := hr.i64
  obtain ⟨ve, r4, rfl, w4, hr⟩ := hr.i64
  obtain ⟨un, r5, rfl, w5, hr⟩ := hr.i64
  obtain ⟨ue, r6, rfl, w6, hr⟩ := hr.i64
  obtain rfl := hr.nil
  obtain ⟨a, b1, rfl, z1⟩ := zhg w2
  refine ⟨⟨k, a, vn, ve, un, ue⟩ :: l, fun b hb => ?_, rfl, by simp [h2]⟩
  rcases List.mem_cons.1 hb with rfl | hb
  ·show a.length ≤ maxLen
   rw [zab] at m2; exact m2
  ·exact h1 b hb
def zgF (k : Int) : Int :=
 if k = 1 then 0 else if k = 0 ∨ k = 2 ∨ k = 5 ∨ k = 10 ∨ k = 6 ∨ k = 11 then 1 else if k = 3 ∨ k = 4 ∨ k = 7 ∨ k = 8 ∨ k = 9 then 2 else -1
def zbO (n e : Int) : Prop := (-2147483648 < n ∧ n < 2147483648) ∧ (-62 ≤ e ∧ e ≤ 30)
instance (n e : Int) : Decidable (zbO n e) := inferInstanceAs (Decidable (_ ∧ _))
def zhs (n e : Int) (used : Bool) : Int := if used = false then (if n = 0 ∧ e = 0 then 0 else 2) else if zbO n e then 0 else 3
def zhz (b : Blk) : List Int := if b.k = 0 ∨ b.k = 2 then [] else b.a
def zdm (done : List Bool) (l : List Int) : Bool := l.all fun a => done.getD a.toNat false
def rdyB (bs : List Blk) (done : List Bool) (i : Nat) : Bool := !done.getD i false && zdm done (zhz (bs.getD i Blk.zero))
def zce (bs : List Blk) (done : List Bool) : Nat → Int
 | 0 => -1
 | n + 1 => if zce bs done n < 0 then (if rdyB bs done n = true then (n : Int) else -1) else zce bs done n
def zn1 (bs : List Blk) : Nat → List Bool → List Int → Option (List Int)
 | 0, _, out => some out
 | left + 1, done, out => if zce bs done bs.length < 0 then none else zn1 bs left (done.set (zce bs done bs.length).toNat true) (out ++ [zce bs done bs.length])
theorem ziO (bs : List Blk) (done : List Bool) (n : Nat) : zce bs done n < n := by
 induction n with
 | zero => simp [zce]
 | succ n ih =>
  unfold zce
  split
  ·split <;> omega
  ·omega
theorem zlI (bs : List Blk) (done : List Bool) (n : Nat) : -1 ≤ zce bs done n := by
 induction n with
 | zero => simp [zce]
 | succ n ih =>
  unfold zce
  split
  ·split <;> omega
  ·omega
theorem zg3 {bs : List Blk} {done : List Bool} {n : Nat} (h : 0 ≤ zce bs done n) : rdyB bs done (zce bs done n).toNat = true := by
 induction n with
 | zero => simp [zce] at h
 | succ n ih =>
  unfold zce at h ⊢
  split at h
  ·rename_i h1
   rw [if_pos h1]
   split at h
   ·rename_i h2
    rw [if_pos h2]; simpa using h2
   ·omega
  ·rename_i h1
   rw [if_neg h1]
   exact ih h
def zfy (bs : List Blk) : List Bool := bs.map fun b => decide (b.k = 2)
def zmJ (bs : List Blk) : Nat := (bs.filter fun b => decide (b.k ≠ 2)).length
def ordB (bs : List Blk) : Option (List Int) := zn1 bs (zmJ bs) (zfy bs) []
def zaq (bs : List Blk) : List Int := ((List.range bs.length).filter fun i => decide ((bs.getD i Blk.zero).k = 2)).map fun (i : Nat) => (i : Int)
def zav (bs : List Blk) (i : Nat) : Int := (bs.getD i Blk.zero).k
structure Topo (bs : List Blk) (out : List Int) : Prop where
 rng : ∀ v ∈ out, 0 ≤ v ∧ v.toNat < bs.length ∧ zav bs v.toNat ≠ 2
 nodup : out.Nodup
 deps : ∀ p, p < out.length → ∀ a ∈ zhz (bs.getD (out.getD p 0).toNat Blk.zero), zav bs a.toNat = 2 ∨ ((a.toNat : Nat) : Int) ∈ out.take p
theorem Topo.nil (bs : List Blk) : Topo bs [] := ⟨fun v h => (by cases h), List.nodup_nil, fun p h => absurd h (Nat.not_lt_zero p)⟩
structure DoneOK (bs : List Blk) (done : List Bool) (out : List Int) : Prop where
 len : done.length = bs.length
 iff : ∀ i, i < bs.length → (done.getD i false = true ↔ zav bs i = 2 ∨ (i : Int) ∈ out)
theorem zi8 (bs : List Blk) : DoneOK bs (zfy bs) [] := by
 refine ⟨by simp [zfy], fun i hi => ?_⟩
 have : (zfy bs).getD i false = decide (zav bs i = 2) := by
  unfold zfy zav
  simp [List.getD, hi]
 rw [this]; simp
theorem zft {l : List Bool} {i j : Nat} (h : i < l.length) : (l.set i true).getD j false = if i = j then true else l.getD j false := by
 simp only [List.getD, List.getElem?_set]
 split
 ·rename_i e; subst e; simp [h]
 ·rfl
theorem DoneOK.step {bs : List Blk} {done : List Bool} {out : List Int} (h : DoneOK bs done out) {i : Nat} (hi : i < bs.length) : DoneOK bs (done.set i true) (out ++ [(i : Int)]) := by
 refine ⟨by rw [List.length_set]; exact h.len, fun j hj => ?_⟩
 rw [zft (by rw [h.len]; exact hi)]
 by_cases e : i = j
 ·rw [if_pos e]; simp [e]
 ·rw [if_neg e, h.iff j hj, List.mem_append]
  constructor
  ·rintro (q | q)
   ·exact .inl q
   ·exact .inr (.inl q)
  ·rintro (q | q | q)
   ·exact .inl q
   ·exact .inr q
   ·simp at q; omega
theorem zjL {bs : List Blk} {done : List Bool} {i : Nat} (h : rdyB bs done i = true) : done.getD i false = false ∧ ∀ a ∈ zhz (bs.getD i Blk.zero), done.getD a.toNat false = true := by
 unfold rdyB zdm at h
 simp only [Bool.and_eq_true, Bool.not_eq_true', List.all_eq_true] at h
 exact h
theorem Topo.step {bs : List Blk} {done : List Bool} {out : List Int} (ht : Topo bs out) (hd : DoneOK bs done out) {i : Nat} (hi : i < bs.length) (hr : rdyB bs done i = true) (hargs : ∀ a ∈ zhz (bs.getD i Blk.zero), a.toNat < bs.length) : Topo bs (out ++ [(i : Int)]) := by
 obtain ⟨r1, r2⟩ := zjL hr
 have hk : ¬ (zav bs i = 2 ∨ (i : Int) ∈ out) := fun h => by rw [(hd.iff i hi).2 h] at r1; cases r1
 refine ⟨fun v hv => ?_, ?_, fun p hp a ha => ?_⟩
 ·rcases List.mem_append.1 hv with hv | hv
  ·exact ht.rng v hv
  ·simp at hv; subst hv
   exact ⟨by omega, by simpa using hi, fun h => hk (.inl (by simpa using h))⟩
 ·refine List.nodup_append.2 ⟨ht.nodup, by simp, fun x hx y hy e => ?_⟩
  simp at hy
  subst hy e
  exact hk (.inr hx)
 ·rw [List.length_append] at hp
  by_cases hp2 : p < out.length
  ·have e1 : (out ++ [(i : Int)]).getD p 0 = out.getD p 0 := by simp [List.getD, List.getElem?_append_left hp2]
   rw [e1] at ha
   rw [List.take_append_of_le_length (by omega)]
   exact ht.deps p hp2 a ha
  ·obtain rfl : p = out.length := by simp at hp; omega
   have e1 : (out ++ [(i : Int)]).getD out.length 0 = (i : Int) := by simp [List.getD]
   rw [e1, Int.toNat_natCast] at ha
   rw [List.take_left]
   exact (hd.iff a.toNat (hargs a ha)).1 (r2 a ha)
theorem zg5 {bs : List Blk} (hargs : ∀ i, i < bs.length → ∀ a ∈ zhz (bs.getD i Blk.zero), a.toNat < bs.length) : ∀ (left : Nat) (done : List Bool) (out res : List Int), Topo bs out → DoneOK bs done out → zn1 bs left done out = some res →
  Topo bs res ∧ res.length = out.length + left ∧ ∃ done', DoneOK bs done' res
 | 0, done, out, res, ht, hd, h => by
  unfold zn1 at h; injection h with h; subst h
  exact ⟨ht, rfl, done, hd⟩
 | left + 1, done, out, res, ht, hd, h => by
  unfold zn1 at h
  split at h
  ·cases h
  ·rename_i hp
   obtain ⟨i, hi⟩ : ∃ i : Nat, zce bs done bs.length = (i : Int) := ⟨(zce bs done bs.length).toNat, by omega⟩
   have hlt := ziO bs done bs.length
   have hr := zg3 (bs := bs) (done := done) (n := bs.length) (by omega)
   rw [hi, Int.toNat_natCast] at hr h
   rw [hi] at hlt
   obtain ⟨g1, g2, g3⟩ := zg5 hargs left _ _ res (ht.step hd (by omega) hr (hargs i (by omega))) (hd.step (by omega)) h
   exact ⟨g1, by rw [g2, List.length_append]; simp; omega, g3⟩
theorem cntSet : ∀ {l : List Bool} {i : Nat}, i < l.length → l.getD i false = false → (l.set i true).count false + 1 = l.count false
 | [], i, hi, _ => by simp at hi
 | b :: l, 0, _, h => by
  have h : b = false := h
  subst h
  simp [List.set]
 | b :: l, i + 1, hi, h => by
  have ih := cntSet (l := l) (i := i) (by simpa using hi) h
  simp only [List.set, List.count_cons]
  omega
theorem zlj (bs : List Blk) : (zfy bs).count false = zmJ bs := by
 unfold zfy zmJ
 induction bs with
 | nil => rfl
 | cons b bs ih =>
  simp only [List.map_cons, List.count_cons, List.filter_cons]
  by_cases h : b.k = 2
  ·simp [h]; simpa using ih
  ·simp [h]; simpa using ih
theorem zlN {bs : List Blk} : ∀ (left : Nat) (done : List Bool) (out res : List Int), DoneOK bs done out → done.count false = left → zn1 bs left done out = some res → ∃ done', DoneOK bs done' res ∧ done'.count false = 0
 | 0, done, out, res, hd, hc, h => by
  unfold zn1 at h; injection h with h; subst h
  exact ⟨done, hd, hc⟩
 | left + 1, done, out, res, hd, hc, h => by
  unfold zn1 at h
  split at h
  ·cases h
  ·rename_i hp
   obtain ⟨i, hi⟩ : ∃ i : Nat, zce bs done bs.length = (i : Int) := ⟨(zce bs done bs.length).toNat, by omega⟩
   have hlt := ziO bs done bs.length
   have hr := zg3 (bs := bs) (done := done) (n := bs.length) (by omega)
   rw [hi, Int.toNat_natCast] at hr h
   rw [hi] at hlt
   have hcs := cntSet (l := done) (i := i) (by rw [hd.len]; omega) (zjL hr).1
   exact zlN left _ _ res (hd.step (by omega)) (by omega) h
theorem zin : ∀ {l : List Bool}, l.count false = 0 → ∀ i, i < l.length → l.getD i false = true
 | [], _, i, hi => by simp at hi
 | b :: l, h, 0, _ => by
  cases b
  ·simp at h
  ·rfl
 | b :: l, h, i + 1, hi => by
  simp only [List.count_cons] at h
  exact zin (l := l) (by omega) i (by simpa using hi)
theorem ordB_ok {bs : List Blk} (hargs : ∀ i, i < bs.length → ∀ a ∈ zhz (bs.getD i Blk.zero), a.toNat < bs.length) {res : List Int} (h : ordB bs = some res) : Topo bs res ∧ ∀ i, i < bs.length → zav bs i = 2 ∨ (i : Int) ∈ res := by
 obtain ⟨h1, _, _⟩ := zg5 hargs _ _ _ _ (Topo.nil bs) (zi8 bs) h
 obtain ⟨d, h2, h3⟩ := zlN _ _ _ _ (zi8 bs) (zlj bs) h
 exact ⟨h1, fun i hi => (h2.iff i hi).1 (zin h3 i (by rw [h2.len]; exact hi))⟩
section
variable {C : Cx} {s : AS} {n : Nat} {r : List It} {Q : Lab → AS → Prop} {d : Option Tmp} {all l : List Oper} {fps : List FP}
theorem zou {α : Type} {l : List (Nat × α)} {b : Nat} {m : α} (h : look l b = some m) (c : Nat) : look ((b, m) :: l) c = look l c := by
 simp only [look]
 split
 ·rename_i e; rw [← e, h]
 ·rfl
theorem zga {g : FuncId} {as args : List AV} {res : AV} {m : MB} (b : Nat) (hm : look s.mem b = some m) (h0 : 0 < m.rows.length) (hcm : ∀ r ∈ m.rows, ∀ a ∈ r, Cl a) (has : RenL b as args) (h : CallW C.P C.G g args m res m) :
  OwnCall C s g as ⟨res, .keep, some b, none⟩ := by
 refine ⟨h.enters, fun s' hl _ => ?_, fun c hc => by simp [tch] at hc⟩
 intro D S0 w0 σ S U env a w vs hG hU hF hE hsz hr
 have hm' := (hl b (.inl rfl)).symm.trans hm
 refine (zmS b hm' h0 hcm has h D S0 w0 σ S U env a w vs hG hU hF hE hsz hr).mono fun e w' hw => ?_
 rcases hw with ⟨x, rfl, σ', S', hF', hE', hr'⟩ | hw
 ·exact .inl ⟨x, rfl, σ', S', hF'.congr (fun c => (zou hm' c).symm) (fun c hc => hc), hE', hr'⟩
 ·exact .inr hw
theorem ziq {g : FuncId} {as args : List AV} {res : AV} {m : MB} (b : Nat) (hm : look s.mem b = some m) (h0 : 0 < m.rows.length) (hcm : ∀ r ∈ m.rows, ∀ a ∈ r, Cl a) (has : RenL b as args) (h : CallW C.P C.G g args m res m)
  (k : ex C n r (s.put d res) Q) : zfA C n r s Q g as d := zhv h.enters (zfk (zga b hm h0 hcm has h)) k
theorem zik {g : FuncId} {as args : List AV} {res : AV} {m : MB} (b : Nat) (hm : look s.mem b = some m) (h0 : 0 < m.rows.length) (hcm : ∀ r ∈ m.rows, ∀ a ∈ r, Cl a) (has : RenL b as args) (h : CallW C.P C.G g args m res m)
  (k : zax C n r (bump (s.put d res) (s.next + 1)) Q all l ((some b, none) :: fps)) : zgn C n r s Q all g as d l fps := zl8 (zga b hm h0 hcm has h) k
structure CallP (P : Program) (G : GL) (f : FuncId) (args : List AV) (res : AV) : Prop where
 enters : zbS P f
 cla : ∀ x ∈ args, Cl x
 clr : Cl res
 runs : ∀ (S : Nat → Prop) (w : World) (vs : Array Value), (∀ k, S k → k < w.heap.size) → GS G S w → vs.size = args.length →
  (∀ (i : Nat) (x : Value) (av : AV), vs[i]? = some x → args[i]? = some av → Rel nσ S w x av) →
  Calls P f vs w fun e w' => Below w.heap.size w w' ∧ ((∃ x, e = .returned x ∧ Rel nσ (zf4 S w w') w' x res) ∨ ∃ ch, e = .panicked ch ∧ PCh ch)
theorem znZ {g : FuncId} {as args : List AV} {res : AV} (hp : C.pn = true) (hle : LeL as args) (h : CallP C.P C.G g args res) : OwnCall C s g as ⟨res, .keep, none, none⟩ := by
 refine ⟨h.enters, fun s' _ _ => ?_, fun c hc => by simp [tch] at hc⟩
 intro D S0 w0 σ S U env a w vs hG hU hF hE hsz hr
 refine (h.runs S w vs hF.sbd (by rw [← hG.1]; exact hF.gs) (by rw [hsz, hle.length]) (fun i x av hx hav => ?_)).mono fun e w' hw => ?_
 ·obtain ⟨c, hc, hle'⟩ := hle.get i av hav
  exact h.cla av (List.mem_of_getElem? hav) _ _ _ _ (hle' _ _ _ _ (hr i x c hx hc))
 ·obtain ⟨hb, ⟨x, rfl, hx⟩ | ⟨ch, rfl, hpc⟩⟩ := hw
  ·exact .inl ⟨x, rfl, σ, _, hF.grow hb, hE.grow hF hb, hx.mono (fun b k h => by cases h) (fun _ h => h) ⟨fun _ _ => rfl, fun b k c e f hs hc => ⟨c, e, f, hc, Nat.le_refl _⟩⟩⟩
  ·exact .inr ⟨hp, ch, rfl, hpc, hF.below.then hb⟩
theorem drawF_p {g : FuncId} {as : List AV} {res : AV} (h : CallP C.P C.G g as res) (hp : C.pn = true) (k : zax C n r (bump (s.put d res) (s.next + 1)) Q all l ((none, none) :: fps)) : zgn C n r s Q all g as d l fps := zl8 (znZ hp (.refl _) h) k
end
theorem zhw {l : List (List AV)} (h : ∀ r ∈ l, ∀ a ∈ r, Cl a := by first | exact zcT (by assumption) _ | exact byClM) : ∀ r ∈ l, ∀ a ∈ r, Cl a := h
def scN (n e : Int) : Dy := (Dy.int n).shift e
theorem ze9 {n e : Int} (h : zbO n e) : -9223372036854775808 ≤ n ∧ n ≤ 9223372036854775807 := by unfold zbO at h; omega
theorem zfm {n : Int} (h : -2147483648 ≤ n ∧ n ≤ 2147483648) : Mg 32 (Dy.int n) := Mg.int (Nat.lt_of_le_of_lt (show n.natAbs ≤ 2147483648 by omega) (by decide))
theorem zaP {n e : Int} (h : zbO n e) : Mg 62 (scN n e) := by
 unfold zbO at h
 refine ((zfm (n := n) (by omega)).shift e).mono ?_
 unfold zbe; omega
theorem zan : zae zaj := fun x a ha => by
 simp only [zaj, List.mem_cons, List.not_mem_nil, or_false] at ha
 rcases ha with rfl | rfl | rfl
 ·exact Cl.v _
 ·exact Cl.u32s
 ·exact Cl.v _
abbrev ivr (a : Iv) : List AV := [.v (.bool (sg a.lo)), .sl 1 (u32s (ms a.lo)), .v (.int .i64 (dn a.lo)), .v (.bool (sg a.hi)), .sl 1 (u32s (ms a.hi)), .v (.int .i64 (dn a.hi))]
theorem zak : zae ivr := fun x a ha => by
 simp only [ivr, List.mem_cons, List.not_mem_nil, or_false] at ha
 rcases ha with rfl | rfl | rfl | rfl | rfl | rfl
 ·exact Cl.v _
 ·exact Cl.u32s
 ·exact Cl.v _
 ·exact Cl.v _
 ·exact Cl.u32s
 ·exact Cl.v _
theorem cg {l : List Dy} {i : Nat} (h : i < l.length) : (rws zaj l).getD i [] = zaj (l.getD i Dy.zero) := by rw [zcS (f := zaj) Dy.zero h]
theorem vg {l : List Iv} {i : Nat} (h : i < l.length) : (rws ivr l).getD i [] = ivr (l.getD i Iv.zero) := by rw [zcS (f := ivr) Iv.zero h]
theorem zba {α : Type} {f : α → List AV} (l : List α) (i : Nat) (x : α) : (rws f l).set i (f x) = rws f (l.set i x) := by simp [rws, List.map_set]
theorem zkM {α : Type} {f : α → List AV} (n : Nat) (x : α) : List.replicate n (f x) = rws f (List.replicate n x) := by simp [rws]
def zbu (p : Int × Int × Int) : Prop := (-2147483648 ≤ p.1 ∧ p.1 ≤ p.2.1) ∧ (p.2.1 < 2147483648 ∧ (0 ≤ p.2.2 ∧ p.2.2 ≤ 30))
instance (p : Int × Int × Int) : Decidable (zbu p) := inferInstanceAs (Decidable (_ ∧ _))
def Blk.at (b : Blk) (j : Nat) : Nat := (b.a.getD j 0).toNat
def Blk.val (b : Blk) : Dy := scN b.vn b.ve
def Blk.upp (b : Blk) : Dy := scN b.un b.ue
structure BlkOK (nP nB : Nat) (b : Blk) : Prop where
 kind : 0 ≤ b.k ∧ b.k ≤ 11
 len : (b.a.length : Int) = zgF b.k
 args : ∀ j, j < b.a.length → 0 ≤ b.a.getD j 0 ∧ b.a.getD j 0 < ((if b.k = 0 then nP else nB : Nat) : Int)
 val : b.k = 1 ∨ b.k = 2 ∨ b.k = 6 ∨ b.k = 11 → zbO b.vn b.ve
 upp : b.k = 11 → zbO b.un b.ue
 ord : b.k = 11 → b.val.v ≤ b.upp.v
structure DgOK (ins : List (Int × Int × Int)) (bs : List Blk) (outs : List Int) : Prop where
 nI : ins.length ≤ 16
 nB : bs.length ≤ 64
 nO : outs.length ≤ 16
 ports : ∀ i, i < ins.length → zbu (ins.getD i (0, 0, 0))
 blk : ∀ i, i < bs.length → BlkOK ins.length bs.length (bs.getD i Blk.zero)
 outs : ∀ i, i < outs.length → 0 ≤ outs.getD i 0 ∧ outs.getD i 0 < bs.length
 ord : (ordB bs).isSome = true
section
variable {ins : List (Int × Int × Int)} {bs : List Blk} {outs : List Int}
theorem zpH (k : Int) : zgF k ≤ 2 := by unfold zgF; split <;> (try split) <;> (try split) <;> omega
theorem BlkOK.len2 {nP nB : Nat} {b : Blk} (h : BlkOK nP nB b) : b.a.length ≤ 2 := by have := h.len; have := zpH b.k; omega
theorem zgu {α : Type} {l : List α} {x : α} (d : α) (h : x ∈ l) : ∃ j, j < l.length ∧ l.getD j d = x := by
 obtain ⟨j, hj, rfl⟩ := List.getElem_of_mem h
 exact ⟨j, hj, zaB hj⟩
theorem BlkOK.bef {nP nB : Nat} {b : Blk} (h : BlkOK nP nB b) : (zhz b).length ≤ 2 ∧ ∀ a ∈ zhz b, 0 ≤ a ∧ a < nB := by
 unfold zhz
 split
 ·exact ⟨by simp, fun a ha => by cases ha⟩
 ·rename_i hk
  refine ⟨h.len2, fun a ha => ?_⟩
  obtain ⟨j, hj, rfl⟩ := zgu 0 ha
  have := h.args j hj
  rw [if_neg (fun e => hk (.inl e))] at this
  exact this
theorem DgOK.ordOK (h : DgOK ins bs outs) : Topo bs ((ordB bs).getD []) ∧ ∀ i, i < bs.length → zav bs i = 2 ∨ (i : Int) ∈ (ordB bs).getD [] := by
 obtain ⟨res, hr⟩ := Option.isSome_iff_exists.1 h.ord
 rw [hr]
 refine ordB_ok (fun i hi a ha => ?_) hr
 have := (h.blk i hi).bef.2 a ha
 omega
end
section
variable {nP nB : Nat} {b : Blk}
theorem BlkOK.one (h : BlkOK nP nB b) (hk : b.k = 0 ∨ b.k = 2 ∨ b.k = 5 ∨ b.k = 10 ∨ b.k = 6 ∨ b.k = 11) : b.a.length = 1 := by
 have h1 := h.len
 unfold zgF at h1
 rw [if_neg (by omega), if_pos hk] at h1
 omega
theorem BlkOK.two (h : BlkOK nP nB b) (hk : b.k = 3 ∨ b.k = 4 ∨ b.k = 7 ∨ b.k = 8 ∨ b.k = 9) : b.a.length = 2 := by
 have h1 := h.len
 unfold zgF at h1
 rw [if_neg (by omega), if_neg (by omega), if_pos hk] at h1
 omega
theorem BlkOK.arg (h : BlkOK nP nB b) (hk : b.k ≠ 0) {j : Nat} (hj : j < b.a.length) : b.at j < nB ∧ b.a.getD j 0 = (b.at j : Int) := by
 have := h.args j hj
 rw [if_neg hk] at this
 unfold Blk.at; omega
theorem BlkOK.inp (h : BlkOK nP nB b) (hk : b.k = 0) : b.at 0 < nP ∧ b.a.getD 0 0 = (b.at 0 : Int) := by
 have h1 := h.one (.inl hk)
 have := h.args 0 (by omega)
 rw [if_pos hk] at this
 unfold Blk.at; omega
end
def exB (ins : List (Int × Int × Int)) (inp : List Int) (vals : List Dy) (b : Blk) : Dy :=
 let x := vals.getD (b.at 0) Dy.zero
 let y := vals.getD (b.at 1) Dy.zero
 if b.k = 0 then (Dy.int (inp.getD (b.at 0) 0)).shift (-(ins.getD (b.at 0) (0, 0, 0)).2.2)
 else if b.k = 1 then b.val else if b.k = 3 then x.add y else if b.k = 4 then x.sub y else if b.k = 7 then x.mul y else if b.k = 5 then x.neg
 else if b.k = 10 then x.abs else if b.k = 6 then b.val.mul x else if b.k = 8 then x.min y else if b.k = 9 then x.max y else b.val.max (b.upp.min x)
def rnB (ins : List (Int × Int × Int)) (r : List Iv) (b : Blk) : Iv :=
 let x := r.getD (b.at 0) Iv.zero
 let y := r.getD (b.at 1) Iv.zero
 if b.k = 0 then (Iv.sp2 (Dy.int (ins.getD (b.at 0) (0, 0, 0)).1) (Dy.int (ins.getD (b.at 0) (0, 0, 0)).2.1)).mul (Iv.pt ((Dy.int 1).shift (-(ins.getD (b.at 0) (0, 0, 0)).2.2)))
 else if b.k = 1 then Iv.pt b.val else if b.k = 3 then x.add y else if b.k = 4 then x.sub y else if b.k = 7 then x.mul y else if b.k = 5 then x.neg
 else if b.k = 10 then x.abs else if b.k = 6 then x.mul (Iv.pt b.val) else if b.k = 8 then x.min y else if b.k = 9 then x.max y else (x.max (Iv.pt b.val)).min (Iv.pt b.upp)
def mvd (f fa : Int) (u x : Dy) : Dy := if fa ≤ f then x else x.add u
def inx (b : Bool) (u : Dy) : Dy := if b = true then u else Dy.zero
def zai (f : Int) : Dy := (Dy.int 1).shift (0 - f)
def zbp (x : Dy) (f : Int) : Bool := decide (dn (x.shift f) = 0)
theorem zaW {f fa : Int} {u x : Dy} {k : Nat} (h : Mg k x) (g : Mg k u) : Mg (k + 1) (mvd f fa u x) := by
 unfold mvd; split
 ·exact h.mono (by omega)
 ·exact h.add g
theorem zc1 {b : Bool} {u : Dy} {k : Nat} (g : Mg k u) : Mg k (inx b u) := by
 unfold inx; split
 ·exact g
 ·exact Mg.zero k
theorem za5 (f : Int) (h : 0 ≤ f) : Mg 1 (zai f) := by
 have h1 : Mg 1 (Dy.int 1) := Mg.int (by decide)
 exact (h1.shift (0 - f)).mono (by unfold zbe; omega)
def bdB (ins : List (Int × Int × Int)) (fr : List Int) (R : List Iv) (er : List Dy) (f : Int) (b : Blk) : Dy :=
 let u := zai f
 let fp := fr.getD (b.at 0) 0
 let fq := fr.getD (b.at 1) 0
 let ep := er.getD (b.at 0) Dy.zero
 let eq := er.getD (b.at 1) Dy.zero
 if b.k = 0 then inx (decide (f < (ins.getD (b.at 0) (0, 0, 0)).2.2)) u
 else if b.k = 1 then inx (!zbp b.val f) u
 else if b.k = 3 ∨ b.k = 4 then (mvd f fp u ep).add (mvd f fq u eq)
 else if b.k = 5 ∨ b.k = 10 then mvd f fp u ep
 else if b.k = 8 ∨ b.k = 9 then (mvd f fp u ep).max (mvd f fq u eq)
 else if b.k = 6 then (b.val.abs.mul ep).add (inx (decide (f - fp + b.ve < 0)) u)
 else if b.k = 7 then ((((R.getD (b.at 0) Iv.zero).mag.mul eq).add ((R.getD (b.at 1) Iv.zero).mag.mul ep)).add (ep.mul eq)).add (inx (decide (f - fp - fq < 0)) u)
 else if b.k = 11 then (mvd f fp u ep).max (inx (!zbp b.val f || !zbp b.upp f) u)
 else (mvd f fp u ep).max (inx (!zbp b.val f) u)
theorem Iv.Mg.mag {k : Nat} {a : Iv} (h : a.Mg k) : Ax.Mg k a.mag := h.abs.2
end Go.Ax
