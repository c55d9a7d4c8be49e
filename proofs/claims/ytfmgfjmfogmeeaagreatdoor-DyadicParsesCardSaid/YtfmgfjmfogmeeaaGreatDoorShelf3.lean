/- Contracts of strings.Cut, CutPrefix, Trim and strconv.Atoi, for the executor. -/
import Derived.Test.YtfmgfjmfogmeeaaGreatDoorDec
import Derived.Test.YtfmgfjmfogmeeaaGreatDoorShelf2
import Derived.Test.YtfmgfjmfogmeeaaGreatDoorU4
set_option linter.unusedSimpArgs false
set_option linter.unusedVariables false
set_option linter.deprecated false
namespace Go.Proofs.YtfmgfjmfogmeeaaGreatDoor
open Go Go.Ax Go.Shelf Go.RowKit
set_option maxRecDepth 100000
set_option maxHeartbeats 4000000
theorem digs_ascii : ∀ (j : Nat) b, (⟨#[48, 49, 50, 51, 52, 53, 54, 55, 56, 57]⟩ : ByteArray).data.toList[j]? = some b → b.toNat < 128 := by
  intro j b h
  have h1 : digs10[j]? = some b := h
  have h2 := List.mem_of_getElem? h1
  clear h h1
  revert b
  decide
theorem trim_calls (s : List UInt8) (w : World) (hs : s.length ≤ 9223372036854775807) :
    Calls Tryz.prog 75 #[.string ⟨s.toArray⟩, .string ⟨#[48, 49, 50, 51, 52, 53, 54, 55, 56, 57]⟩] w fun e w' => e = .returned (.string ⟨(Lib.trimS s digs10).toArray⟩) ∧ Below w.heap.size w w' :=
  Any.strings_Trim_laid lays160 (by kernel_rfl) ⟨s.toArray⟩ ⟨#[48, 49, 50, 51, 52, 53, 54, 55, 56, 57]⟩ w hs (by decide) digs_ascii
theorem maxlen_of {S : Nat → Prop} {w : World} (hgs : GS gl S w) : ∃ m, w.cell? ⟨1, 0, none⟩ = some (.int .i64 m) := by
  obtain ⟨_, c, e, f, h1, _, h3⟩ := hgs 1 [] (by simp [gl])
  rcases h3 with ⟨h3, _⟩ | ⟨_, ⟨h4, _⟩ | ⟨_, m, h5⟩⟩
  · exact absurd rfl h3
  · exact absurd rfl h4
  · exact ⟨m, by simp only [World.cell?, h1]; exact h5⟩
theorem err_of {S : Nat → Prop} {w : World} (hgs : GS gl S w) {g : Nat} (hg : (g, []) ∈ gl) (h1 : g ≠ 1) : ∃ te pe, w.cell? ⟨g, 0, none⟩ = some (.iface te pe) := by
  obtain ⟨_, c, e, f, hb, _, h3⟩ := hgs g [] hg
  rcases h3 with ⟨h3, _⟩ | ⟨_, ⟨_, te, pe, h5⟩ | ⟨h4, _⟩⟩
  · exact absurd rfl h3
  · exact ⟨te, pe, by simp only [World.cell?, hb]; exact h5⟩
  · exact absurd h4 h1
theorem rel_str3 {S : Nat → Prop} {w : World} (a b : List UInt8) (c : Bool) : Rel nσ S w (.tuple #[.string ⟨a.toArray⟩, .string ⟨b.toArray⟩, .bool c]) (.tup [.v (.string ⟨a.toArray⟩), .v (.string ⟨b.toArray⟩), .v (.bool c)]) :=
  .tup rfl fun i x av hx hav => by
    match i, hx, hav with
    | 0, hx, hav => injection hx with hx; injection hav with hav; subst hx hav; exact .v _
    | 1, hx, hav => injection hx with hx; injection hav with hav; subst hx hav; exact .v _
    | 2, hx, hav => injection hx with hx; injection hav with hav; subst hx hav; exact .v _
theorem rel_v2 {S : Nat → Prop} {w : World} (x y : Value) : Rel nσ S w (.tuple #[x, y]) (.tup [.v x, .v y]) :=
  .tup rfl fun i x av hx hav => by
    match i, hx, hav with
    | 0, hx, hav => injection hx with hx; injection hav with hav; subst hx hav; exact .v _
    | 1, hx, hav => injection hx with hx; injection hav with hav; subst hx hav; exact .v _
theorem cl_v2 (x y : Value) : Cl (.tup [.v x, .v y]) := Cl.tup (fun a ha => by
  simp only [List.mem_cons, List.not_mem_nil, or_false] at ha
  rcases ha with rfl | rfl <;> exact Cl.v _)
theorem cl_v3 (x y z : Value) : Cl (.tup [.v x, .v y, .v z]) := Cl.tup (fun a ha => by
  simp only [List.mem_cons, List.not_mem_nil, or_false] at ha
  rcases ha with rfl | rfl | rfl <;> exact Cl.v _)
theorem cut_ok (s : List UInt8) (hs : s.length < 4294967281) : CallOK Tryz.prog gl 35 [.v (.string ⟨s.toArray⟩), .v (.string ⟨#[47, 50, 94]⟩)] (.tup [.v (.string ⟨(Lib.cut s bar).1.toArray⟩), .v (.string ⟨(Lib.cut s bar).2.1.toArray⟩), .v (.bool (Lib.cut s bar).2.2)]) := by
  refine ⟨Tryz.call35, (by (try simp only [List.mem_cons, List.not_mem_nil, or_false, forall_eq_or_imp, forall_eq]); (repeat' (first | exact Cl.v _ | exact Cl.u32s | exact Cl.vec | exact Cl.mat | exact Cl.strs | exact Cl.i64s | exact Cl.sl (by assumption) | refine And.intro ?_ ?_ | refine Cl.agg ?_ | refine Cl.rp ?_ | refine Cl.sl ?_ | refine Cl.tup ?_ | simp only [List.mem_cons, List.not_mem_nil, or_false, forall_eq_or_imp, forall_eq, false_imp_iff, implies_true]))), cl_v3 _ _ _, fun S w vs hS hgs hsz hr => ?_⟩
  obtain rfl := two_args hsz hr
  obtain ⟨m, hm⟩ := maxlen_of hgs
  refine (Any.strings_Cut { laysM145 with } ⟨s.toArray⟩ ⟨#[47, 50, 94]⟩ m w hs hm).mono fun e w' h => ?_
  obtain ⟨rfl, n, rfl⟩ := h
  exact ⟨⟨rfl, rfl, rfl, Nat.le_refl _, fun _ _ => rfl⟩, _, rfl, rel_str3 _ _ _⟩
theorem cutp_ok (s : List UInt8) : CallOK Tryz.prog gl 36 [.v (.string ⟨s.toArray⟩), .v (.string ⟨#[45]⟩)] (.tup [.v (.string ⟨(bodyOf s).toArray⟩), .v (.bool (decide (s.head? = some 45)))]) := by
  refine ⟨Tryz.call36, (by (try simp only [List.mem_cons, List.not_mem_nil, or_false, forall_eq_or_imp, forall_eq]); (repeat' (first | exact Cl.v _ | exact Cl.u32s | exact Cl.vec | exact Cl.mat | exact Cl.strs | exact Cl.i64s | exact Cl.sl (by assumption) | refine And.intro ?_ ?_ | refine Cl.agg ?_ | refine Cl.rp ?_ | refine Cl.sl ?_ | refine Cl.tup ?_ | simp only [List.mem_cons, List.not_mem_nil, or_false, forall_eq_or_imp, forall_eq, false_imp_iff, implies_true]))), cl_v2 _ _, fun S w vs hS hgs hsz hr => ?_⟩
  obtain rfl := two_args hsz hr
  refine (Any.strings_CutPrefix lays103 ⟨s.toArray⟩ ⟨#[45]⟩ w).mono fun e w' h => ?_
  obtain ⟨rfl, rfl⟩ := h
  have e1 : Lib.trimPrefix (⟨s.toArray⟩ : ByteArray).data.toList (⟨#[45]⟩ : ByteArray).data.toList = bodyOf s := trim_pre s
  have e2 : Lib.hasPrefix (⟨s.toArray⟩ : ByteArray).data.toList (⟨#[45]⟩ : ByteArray).data.toList = decide (s.head? = some 45) := head_pre s
  rw [e1, e2]
  exact ⟨Below.refl _ _, _, rfl, rel_v2 _ _⟩
theorem atoi_calls (s : List UInt8) (hs : s.length ≤ 9223372036854775806) (v : Int) (h : Lib.atoiAll s = .ok v) (w : World) :
    Calls Tryz.prog 38 #[.string ⟨s.toArray⟩] w fun e w' => e = .returned (.tuple #[.int .i64 v, .nilIface]) ∧ Below w.heap.size w w' :=
  (Any.strconv_Atoi_ok laysC172 ⟨s.toArray⟩ hs v h w).mono fun e w' h => ⟨h.1, by
    rcases h.2 with rfl | ⟨t, rfl⟩
    · exact Below.refl _ _
    · exact Lib.bytesWorld_below _ _ _⟩
theorem atoi_ok (s : List UInt8) (hs : s.length ≤ 9223372036854775806) (v : Int) (h : Lib.atoiAll s = .ok v) : CallOK Tryz.prog gl 38 [.v (.string ⟨s.toArray⟩)] (.tup [.v (.int .i64 v), .v .nilIface]) := by
  refine ⟨Tryz.call38, (by (try simp only [List.mem_cons, List.not_mem_nil, or_false, forall_eq_or_imp, forall_eq]); (repeat' (first | exact Cl.v _ | exact Cl.u32s | exact Cl.vec | exact Cl.mat | exact Cl.strs | exact Cl.i64s | exact Cl.sl (by assumption) | refine And.intro ?_ ?_ | refine Cl.agg ?_ | refine Cl.rp ?_ | refine Cl.sl ?_ | refine Cl.tup ?_ | simp only [List.mem_cons, List.not_mem_nil, or_false, forall_eq_or_imp, forall_eq, false_imp_iff, implies_true]))), cl_v2 _ _, fun S w vs hS hgs hsz hr => ?_⟩
  obtain rfl := one_arg hsz hr
  refine (atoi_calls s hs v h w).mono fun e w' h => ?_
  obtain ⟨rfl, hb⟩ := h
  exact ⟨hb, _, rfl, rel_v2 _ _⟩
def badAtoi (av : AV) : Prop := ∃ v te pe, av = .tup [.v (.int .i64 v), .v (.iface te pe)]
theorem atoi_x (s : List UInt8) (hs : s.length ≤ 281474976710656) (h : ∀ v, Lib.atoiAll s ≠ .ok v) : CallX Tryz.prog gl 38 [.v (.string ⟨s.toArray⟩)] badAtoi := by
  refine ⟨Tryz.call38, (by (try simp only [List.mem_cons, List.not_mem_nil, or_false, forall_eq_or_imp, forall_eq]); (repeat' (first | exact Cl.v _ | exact Cl.u32s | exact Cl.vec | exact Cl.mat | exact Cl.strs | exact Cl.i64s | exact Cl.sl (by assumption) | refine And.intro ?_ ?_ | refine Cl.agg ?_ | refine Cl.rp ?_ | refine Cl.sl ?_ | refine Cl.tup ?_ | simp only [List.mem_cons, List.not_mem_nil, or_false, forall_eq_or_imp, forall_eq, false_imp_iff, implies_true]))), fun S w vs hS hgs hsz hr => ?_⟩
  obtain rfl := one_arg hsz hr
  cases ha : Lib.atoiAll s with
  | ok v => exact absurd ha (h v)
  | range =>
    obtain ⟨te, pe, he⟩ := err_of hgs (g := 3) (by simp [gl]) (by decide)
    refine (Any.strconv_Atoi_range laysC172 ⟨s.toArray⟩ hs ha _ w he (.inr ⟨_, _, rfl⟩)).mono fun e w' h => ?_
    obtain ⟨N, rfl, _, _, hb⟩ := h
    exact ⟨hb, _, _, ⟨_, _, _, rfl⟩, rfl, rel_v2 _ _⟩
  | _ =>
    obtain ⟨te, pe, he⟩ := err_of hgs (g := 2) (by simp [gl]) (by decide)
    refine (Any.strconv_Atoi_syntax laysC172 ⟨s.toArray⟩ hs ha _ w he (.inr ⟨_, _, rfl⟩)).mono fun e w' h => ?_
    obtain ⟨N, rfl, _, _, hb⟩ := h
    exact ⟨hb, _, _, ⟨_, _, _, rfl⟩, rfl, rel_v2 _ _⟩
end Go.Proofs.YtfmgfjmfogmeeaaGreatDoor
