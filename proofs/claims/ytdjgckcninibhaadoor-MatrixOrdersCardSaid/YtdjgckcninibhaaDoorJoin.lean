/- strings.Join (the shelf's contract at this translation). -/
import Derived.Test.YtdjgckcninibhaaDoorShelf
import Derived.Test.YtdjgckcninibhaaDoorNum
import Derived.Shelf.Strings.OnBuilder
import Derived.Test.YtdjgckcninibhaaDoorU3
set_option linter.unusedSimpArgs false
set_option linter.unusedVariables false
set_option linter.deprecated false
namespace Go.Proofs.YtdjgckcninibhaaDoor
open Go Go.Ax Go.Shelf Go.RowKit
set_option maxRecDepth 100000
set_option maxHeartbeats 2000000
def lays156_ren : Go.Shelf.Ren := ⟨fun | 156 => 101 | 165 => 132 | 166 => 133 | 169 => 134 | 240 => 140 | 241 => 141 | 276 => 146 | 277 => 147 | n => n, fun | 31 => 127 | 9 => 9 | 3 => 3 | 4 => 4 | 0 => 0 | 20 => 20 | 72 => 155 | 76 => 157 | 70 => 152 | 37 => 153 | 75 => 41 | 127 => 161 | 164 => 167 | 5 => 5 | 80 => 138 | n => n, fun | n => n⟩

theorem lays156 : Go.Proofs.Lays.n156 Tryd.prog lays156_ren := {
  mixed := by kernel_rfl
  f156 := Tryd.func101.trans (congrArg some (by kernel_rfl))
  f165 := Tryd.func132.trans (congrArg some (by kernel_rfl))
  f166 := Tryd.func133.trans (congrArg some (by kernel_rfl))
  f169 := Tryd.func134.trans (congrArg some (by kernel_rfl))
  f240 := Tryd.func140.trans (congrArg some (by kernel_rfl))
  f241 := Tryd.func141.trans (congrArg some (by kernel_rfl))
  f276 := Tryd.func146.trans (congrArg some (by kernel_rfl))
  f277 := Tryd.func147.trans (congrArg some (by kernel_rfl))
  t0 := Tryd.underlying0
  a0 := Tryd.isAgg0
  z0 := Tryd.sizeOf0
  v0 := Tryd.zeroValue0
  t3 := Tryd.underlying3
  a3 := Tryd.isAgg3
  z3 := Tryd.sizeOf3
  v3 := Tryd.zeroValue3
  t4 := Tryd.underlying4
  a4 := Tryd.isAgg4
  z4 := Tryd.sizeOf4
  v4 := Tryd.zeroValue4
  t9 := Tryd.underlying9
  a9 := Tryd.isAgg9
  z9 := Tryd.sizeOf9
  v9 := Tryd.zeroValue9
  t20 := Tryd.underlying20
  a20 := Tryd.isAgg20
  z20 := Tryd.sizeOf20
  v20 := Tryd.zeroValue20
  t31 := Tryd.underlying127
  a31 := Tryd.isAgg127
  z31 := Tryd.sizeOf127
  v31 := Tryd.zeroValue127
  t37 := Tryd.underlying153
  a37 := Tryd.isAgg153
  z37 := Tryd.sizeOf153
  v37 := Tryd.zeroValue153
  t70 := Tryd.underlying152
  a70 := Tryd.isAgg152
  z70 := Tryd.sizeOf152
  v70 := Tryd.zeroValue152
  t72 := Tryd.underlying155
  a72 := Tryd.isAgg155
  z72 := Tryd.sizeOf155
  v72 := Tryd.zeroValue155
  t75 := Tryd.underlying41
  a75 := Tryd.isAgg41
  z75 := Tryd.sizeOf41
  v75 := Tryd.zeroValue41
  t76 := Tryd.underlying157
  a76 := Tryd.isAgg157
  z76 := Tryd.sizeOf157
  v76 := Tryd.zeroValue157
  t127 := Tryd.underlying161
  a127 := Tryd.isAgg161
  z127 := Tryd.sizeOf161
  v127 := Tryd.zeroValue161
  t164 := Tryd.underlying167
  a164 := Tryd.isAgg167
  z164 := Tryd.sizeOf167
  v164 := Tryd.zeroValue167 }

theorem Builder_Extra_156 : Builder.Extra Tryd.prog lays156_ren := {
  sizeBuilder := by kernel_rfl
  liesBuilder := by kernel_rfl
  t5 := Tryd.underlying5
  a5 := Tryd.isAgg5
  z5 := Tryd.sizeOf5
  v5 := Tryd.zeroValue5
  infoByte := by kernel_rfl
  cellsByte := by kernel_rfl
  sizeByte := by kernel_rfl
  neB5 := by decide }

theorem join_none (a : Option Addr) (c : Nat) (sep : ByteArray) (w : World) :
    Calls Tryd.prog 101 #[.slice a 0 c, .string sep] w fun e w' => e = .returned (.string ⟨#[]⟩) ∧ w' = w := Any.strings_Join_none lays156 Builder_Extra_156 a c sep w
theorem join_calls (bk o c : Nat) (xs : List ByteArray) (sep : ByteArray) (w : World) (hcells : ∀ (j : Nat) x, xs[j]? = some x → w.cell? ⟨bk, o + j, none⟩ = some (.string x)) (hbk : bk < w.heap.size) (hN : xs.length ≤ 140737488355328) (hcap : xs.length ≤ c) (hlen : (Lib.join (xs.map (·.data.toList)) sep.data.toList).length ≤ 140737488355328) :
    Calls Tryd.prog 101 #[.slice (some ⟨bk, o, none⟩) xs.length c, .string sep] w fun e w' => e = .returned (.string ⟨(Lib.join (xs.map (·.data.toList)) sep.data.toList).toArray⟩) ∧ Below w.heap.size w w' := Any.strings_Join lays156 Builder_Extra_156 bk o c xs sep w hcells hbk hN hcap hlen
theorem two_args' {S : Nat → Prop} {w : World} {vs : Array Value} {a : AV} {x' : Value} (hsz : vs.size = [a, AV.v x'].length) (hr : ∀ (i : Nat) (y : Value) (av : AV), vs[i]? = some y → [a, AV.v x'][i]? = some av → Rel nσ S w y av) : ∃ y, vs = #[y, x'] ∧ Rel nσ S w y a := by
  obtain ⟨l⟩ := vs
  match l, hsz with
  | [y, y'], _ =>
    have h1 : y' = x' := by have := hr 1 y' _ rfl rfl; cases this; rfl
    exact ⟨y, by rw [h1], hr 0 y _ rfl rfl⟩
theorem strV_data (l : List (List UInt8)) : (l.map fun s => (⟨s.toArray⟩ : ByteArray)).map (·.data.toList) = l := by
  rw [List.map_map]
  exact (List.map_congr_left fun s _ => rfl).trans (List.map_id _)
theorem join_ok (l : List (List UInt8)) (sep : ByteArray) (hl : l.length ≤ 140737488355328) (hlen : (Lib.join l sep.data.toList).length ≤ 140737488355328) :
    CallOK Tryd.prog gl 101 [.sl 1 (strs l), .v (.string sep)] (.v (.string ⟨(Lib.join l sep.data.toList).toArray⟩)) := by
  refine ⟨Tryd.call101, (by intro x hx; simp only [List.mem_cons, List.not_mem_nil, or_false] at hx; rcases hx with rfl | rfl; exact Cl.strs; exact Cl.v _), Cl.v _, fun S w vs hS hgs hsz hr => ?_⟩
  obtain ⟨y, rfl, hy⟩ := two_args' hsz hr
  have none_case : ∀ a c, strs l = [] → y = .slice a 0 c → Calls Tryd.prog 101 #[y, .string sep] w fun e w' => Below w.heap.size w w' ∧ ∃ x, e = .returned x ∧ Rel nσ (Grow S w w') w' x (.v (.string ⟨(Lib.join l sep.data.toList).toArray⟩)) := fun a c hl0 hq => by
    have : l = [] := by
      cases l with
      | nil => rfl
      | cons x l => simp [strs] at hl0
    obtain rfl := this
    rw [hq]
    refine (join_none a c sep w).mono fun e w' h => ?_
    obtain ⟨rfl, rfl⟩ := h
    exact ⟨Below.refl _ _, _, rfl, .v _⟩
  generalize hrow : strs l = rows at hy none_case
  cases hy with
  | nil => exact none_case _ _ rfl rfl
  | e => exact none_case _ _ rfl rfl
  | @sl k off cap _ _ c hk hc hll hcell hr' =>
    subst hrow
    have hlen' : (strs l).length = (l.map fun s => (⟨s.toArray⟩ : ByteArray)).length := by rw [strs_length, List.length_map]
    rw [hlen']
    have hcells : ∀ (j : Nat) (x : ByteArray), (l.map fun s => (⟨s.toArray⟩ : ByteArray))[j]? = some x → w.cell? ⟨k, off + j, none⟩ = some (.string x) := fun j x hx => by
      rw [List.getElem?_map] at hx
      cases hj : l[j]? with
      | none => rw [hj] at hx; cases hx
      | some s =>
        rw [hj] at hx
        injection hx with hx
        have h1 : (strs l)[j]? = some [.v (strV s)] := by unfold strs; rw [List.getElem?_map, hj]; rfl
        have h2 := hcell j _ 0 _ h1 rfl
        have h3 := hr' j _ 0 _ h1 rfl
        rw [Nat.mul_one, Nat.add_zero] at h2
        rw [h2]
        generalize c j 0 = v at h3
        cases h3
        rw [← hx]; rfl
    have hcap : (l.map fun s => (⟨s.toArray⟩ : ByteArray)).length ≤ cap := by rw [← hlen']; exact hc
    have hN : (l.map fun s => (⟨s.toArray⟩ : ByteArray)).length ≤ 140737488355328 := by rw [List.length_map]; exact hl
    have hd := strV_data l
    generalize (l.map fun s => (⟨s.toArray⟩ : ByteArray)) = xs at *
    have hj := join_calls k off cap xs sep w hcells (hS k hk) hN hcap (by rw [hd]; exact hlen)
    rw [hd] at hj
    refine hj.mono fun e w' h => ?_
    obtain ⟨rfl, hb⟩ := h
    exact ⟨hb, _, rfl, .v _⟩
end Go.Proofs.YtdjgckcninibhaaDoor
