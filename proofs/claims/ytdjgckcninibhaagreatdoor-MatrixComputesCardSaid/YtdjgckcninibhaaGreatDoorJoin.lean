/- strings.Join (the shelf's contract at this translation). -/
import Derived.Test.YtdjgckcninibhaaGreatDoorShelf
import Derived.Test.YtdjgckcninibhaaGreatDoorNum
import Derived.Shelf.Strings.OnBuilder
import Derived.Test.YtdjgckcninibhaaGreatDoorU3
set_option linter.unusedSimpArgs false
set_option linter.unusedVariables false
set_option linter.deprecated false
namespace Go.Proofs.YtdjgckcninibhaaGreatDoor
open Go Go.Ax Go.Shelf Go.RowKit
set_option maxRecDepth 100000
set_option maxHeartbeats 2000000
def lays156_ren : Go.Shelf.Ren := ⟨fun | 156 => 188 | 165 => 230 | 166 => 231 | 169 => 232 | 240 => 251 | 241 => 252 | 276 => 262 | 277 => 263 | n => n, fun | 31 => 206 | 9 => 9 | 3 => 3 | 4 => 4 | 0 => 0 | 20 => 20 | 72 => 245 | 76 => 169 | 70 => 242 | 37 => 243 | 75 => 35 | 127 => 263 | 164 => 271 | 5 => 5 | 80 => 238 | n => n, fun | n => n⟩

theorem lays156 : Go.Proofs.Lays.n156 Tryz.prog lays156_ren := {
  mixed := by kernel_rfl
  f156 := Tryz.func188.trans (congrArg some (by kernel_rfl))
  f165 := Tryz.func230.trans (congrArg some (by kernel_rfl))
  f166 := Tryz.func231.trans (congrArg some (by kernel_rfl))
  f169 := Tryz.func232.trans (congrArg some (by kernel_rfl))
  f240 := Tryz.func251.trans (congrArg some (by kernel_rfl))
  f241 := Tryz.func252.trans (congrArg some (by kernel_rfl))
  f276 := Tryz.func262.trans (congrArg some (by kernel_rfl))
  f277 := Tryz.func263.trans (congrArg some (by kernel_rfl))
  t0 := Tryz.underlying0
  a0 := Tryz.isAgg0
  z0 := Tryz.sizeOf0
  v0 := Tryz.zeroValue0
  t3 := Tryz.underlying3
  a3 := Tryz.isAgg3
  z3 := Tryz.sizeOf3
  v3 := Tryz.zeroValue3
  t4 := Tryz.underlying4
  a4 := Tryz.isAgg4
  z4 := Tryz.sizeOf4
  v4 := Tryz.zeroValue4
  t9 := Tryz.underlying9
  a9 := Tryz.isAgg9
  z9 := Tryz.sizeOf9
  v9 := Tryz.zeroValue9
  t20 := Tryz.underlying20
  a20 := Tryz.isAgg20
  z20 := Tryz.sizeOf20
  v20 := Tryz.zeroValue20
  t31 := Tryz.underlying206
  a31 := Tryz.isAgg206
  z31 := Tryz.sizeOf206
  v31 := Tryz.zeroValue206
  t37 := Tryz.underlying243
  a37 := Tryz.isAgg243
  z37 := Tryz.sizeOf243
  v37 := Tryz.zeroValue243
  t70 := Tryz.underlying242
  a70 := Tryz.isAgg242
  z70 := Tryz.sizeOf242
  v70 := Tryz.zeroValue242
  t72 := Tryz.underlying245
  a72 := Tryz.isAgg245
  z72 := Tryz.sizeOf245
  v72 := Tryz.zeroValue245
  t75 := Tryz.underlying35
  a75 := Tryz.isAgg35
  z75 := Tryz.sizeOf35
  v75 := Tryz.zeroValue35
  t76 := Tryz.underlying169
  a76 := Tryz.isAgg169
  z76 := Tryz.sizeOf169
  v76 := Tryz.zeroValue169
  t127 := Tryz.underlying263
  a127 := Tryz.isAgg263
  z127 := Tryz.sizeOf263
  v127 := Tryz.zeroValue263
  t164 := Tryz.underlying271
  a164 := Tryz.isAgg271
  z164 := Tryz.sizeOf271
  v164 := Tryz.zeroValue271 }

theorem Builder_Extra_156 : Builder.Extra Tryz.prog lays156_ren := {
  sizeBuilder := by kernel_rfl
  liesBuilder := by kernel_rfl
  t5 := Tryz.underlying5
  a5 := Tryz.isAgg5
  z5 := Tryz.sizeOf5
  v5 := Tryz.zeroValue5
  infoByte := by kernel_rfl
  cellsByte := by kernel_rfl
  sizeByte := by kernel_rfl
  neB5 := by decide }

theorem join_none (a : Option Addr) (c : Nat) (sep : ByteArray) (w : World) :
    Calls Tryz.prog 188 #[.slice a 0 c, .string sep] w fun e w' => e = .returned (.string ⟨#[]⟩) ∧ w' = w := Any.strings_Join_none lays156 Builder_Extra_156 a c sep w
theorem join_calls (bk o c : Nat) (xs : List ByteArray) (sep : ByteArray) (w : World) (hcells : ∀ (j : Nat) x, xs[j]? = some x → w.cell? ⟨bk, o + j, none⟩ = some (.string x)) (hbk : bk < w.heap.size) (hN : xs.length ≤ 140737488355328) (hcap : xs.length ≤ c) (hlen : (Lib.join (xs.map (·.data.toList)) sep.data.toList).length ≤ 140737488355328) :
    Calls Tryz.prog 188 #[.slice (some ⟨bk, o, none⟩) xs.length c, .string sep] w fun e w' => e = .returned (.string ⟨(Lib.join (xs.map (·.data.toList)) sep.data.toList).toArray⟩) ∧ Below w.heap.size w w' := Any.strings_Join lays156 Builder_Extra_156 bk o c xs sep w hcells hbk hN hcap hlen
theorem two_args' {S : Nat → Prop} {w : World} {vs : Array Value} {a : AV} {x' : Value} (hsz : vs.size = [a, AV.v x'].length) (hr : ∀ (i : Nat) (y : Value) (av : AV), vs[i]? = some y → [a, AV.v x'][i]? = some av → Rel nσ S w y av) : ∃ y, vs = #[y, x'] ∧ Rel nσ S w y a := by
  obtain ⟨l⟩ := vs
  match l, hsz with
  | [y, y'], _ =>
    have h1 : y' = x' := by have := hr 1 y' _ rfl rfl; cases this; rfl
    exact ⟨y, by rw [h1], hr 0 y _ rfl rfl⟩
theorem strV_data (l : List (List UInt8)) : (l.map fun s => (⟨s.toArray⟩ : ByteArray)).map (·.data.toList) = l := by
  rw [List.map_map]
  exact (List.map_congr_left fun s _ => rfl).trans (List.map_id _)
theorem join_ok (l : List (List UInt8)) (sep : ByteArray) (hl : l.length ≤ 140737488355328) (hlen : (Lib.join l sep.data.toList).length ≤ 140737488355328) :
    CallOK Tryz.prog gl 188 [.sl 1 (strs l), .v (.string sep)] (.v (.string ⟨(Lib.join l sep.data.toList).toArray⟩)) := by
  refine ⟨Tryz.call188, (by intro x hx; simp only [List.mem_cons, List.not_mem_nil, or_false] at hx; rcases hx with rfl | rfl; exact Cl.strs; exact Cl.v _), Cl.v _, fun S w vs hS hgs hsz hr => ?_⟩
  obtain ⟨y, rfl, hy⟩ := two_args' hsz hr
  have none_case : ∀ a c, strs l = [] → y = .slice a 0 c → Calls Tryz.prog 188 #[y, .string sep] w fun e w' => Below w.heap.size w w' ∧ ∃ x, e = .returned x ∧ Rel nσ (Grow S w w') w' x (.v (.string ⟨(Lib.join l sep.data.toList).toArray⟩)) := fun a c hl0 hq => by
    have : l = [] := by
      cases l with
      | nil => rfl
      | cons x l => simp [strs] at hl0
    obtain rfl := this
    rw [hq]
    refine (join_none a c sep w).mono fun e w' h => ?_
    obtain ⟨rfl, rfl⟩ := h
    exact ⟨Below.refl _ _, _, rfl, .v _⟩
  generalize hrow : strs l = rows at hy none_case
  cases hy with
  | nil => exact none_case _ _ rfl rfl
  | e => exact none_case _ _ rfl rfl
  | @sl k off cap _ _ c hk hc hll hcell hr' =>
    subst hrow
    have hlen' : (strs l).length = (l.map fun s => (⟨s.toArray⟩ : ByteArray)).length := by rw [strs_length, List.length_map]
    rw [hlen']
    have hcells : ∀ (j : Nat) (x : ByteArray), (l.map fun s => (⟨s.toArray⟩ : ByteArray))[j]? = some x → w.cell? ⟨k, off + j, none⟩ = some (.string x) := fun j x hx => by
      rw [List.getElem?_map] at hx
      cases hj : l[j]? with
      | none => rw [hj] at hx; cases hx
      | some s =>
        rw [hj] at hx
        injection hx with hx
        have h1 : (strs l)[j]? = some [.v (strV s)] := by unfold strs; rw [List.getElem?_map, hj]; rfl
        have h2 := hcell j _ 0 _ h1 rfl
        have h3 := hr' j _ 0 _ h1 rfl
        rw [Nat.mul_one, Nat.add_zero] at h2
        rw [h2]
        generalize c j 0 = v at h3
        cases h3
        rw [← hx]; rfl
    have hcap : (l.map fun s => (⟨s.toArray⟩ : ByteArray)).length ≤ cap := by rw [← hlen']; exact hc
    have hN : (l.map fun s => (⟨s.toArray⟩ : ByteArray)).length ≤ 140737488355328 := by rw [List.length_map]; exact hl
    have hd := strV_data l
    generalize (l.map fun s => (⟨s.toArray⟩ : ByteArray)) = xs at *
    have hj := join_calls k off cap xs sep w hcells (hS k hk) hN hcap (by rw [hd]; exact hlen)
    rw [hd] at hj
    refine hj.mono fun e w' h => ?_
    obtain ⟨rfl, hb⟩ := h
    exact ⟨hb, _, rfl, .v _⟩
end Go.Proofs.YtdjgckcninibhaaGreatDoor
