import Derived.Test.YtdjgckcninibhaaGreatDoorRows
import Derived.Test.YtdjgckcninibhaaGreatDoorCards
import Derived.Test.YtdjgckcninibhaaGreatDoorTie
import Derived.SevenTiedAt
import Derived.Test.YtdjgckcninibhaaGreatDoorL04cmp
import Derived.Test.YtdjgckcninibhaaGreatDoorU3
set_option linter.unusedSimpArgs false
set_option linter.unusedVariables false
set_option linter.deprecated false
set_option maxRecDepth 100000
set_option maxHeartbeats 2000000
namespace Go.Proofs.YtdjgckcninibhaaGreatDoor.matrixComputes
open Go Go.Ax Go.ChangeShapes Go.WideShapes Go.ChangeAt Go.RowKit
theorem own : ownKnob Tryz.prog.godebug = none := by kernel_rfl
theorem door_met (os : Os) (args : Array Value) : laidMetH Tryz.prog Rows.matrixComputesRow.laid ((World.doorLaid Tryz.prog 400 os).forCall (fun _ _ => 0) ⟨#[], args, []⟩).memory :=
  laidMetH_of_parts3 (fuel := 8) (laidMet_of_run' 8 (by kernel_rfl) (by kernel_rfl)) (by kernel_rfl) (by kernel_rfl)
theorem lifted (os : Os) (started : os.Started) (H : Type) (enc : TypeId × Value → H) :
    ReturnsInHanded {} Tryz.checked os 13 .any (fun w args => (Rows.matrixComputesSpec.pre enc Tryz.prog Tryz.f13 [] false w args ∧ laidMetH Tryz.prog Rows.matrixComputesRow.laid w) ∧ sizedMet enc Tryz.prog Tryz.f13 (OpenSpec.ofChange Rows.matrixComputesSpec) false w args) (Rows.matrixComputesSpec.post enc Tryz.prog Tryz.f13 false true false false) := by
  refine returnsInHanded_of_change_and (C := Tryz.checked) (X := fun w _ => laidMetH Tryz.prog Rows.matrixComputesRow.laid w) (fun _ _ _ hh h => h.of_heap hh) own started (by kernel_rfl) Tryz.func13
    (ChangeSpec.witness_shaped (enc := enc) (C := Tryz.checked) (os := os) (X := fun w _ => laidMetH Tryz.prog Rows.matrixComputesRow.laid w) false (World.doorLaid Tryz.prog 400 os) #[.slice none 0 0, .slice none 0 0, .slice none 0 0] 8 rfl (World.shaped_of_RefB (by kernel_rfl) (by kernel_rfl)) (by kernel_rfl) (by kernel_rfl) (by kernel_rfl) (door_met os _)) ?_
  intro W base args ds gs before hval0 hW hcnd _ hL _
  have hval : ∀ (j : Nat) t v, Tryz.f13.params[j]? = some t → args[j]? = some v → Value.okWide Tryz.prog W .any base t v := hval0
  have hW1 := hW
  obtain ⟨p, q, hA0, hV, rfl, hfz, hnd⟩ := hW
  have hA : DataW.TrodAll enc Tryz.prog W 0 (fun _ => true) true Tryz.f13.params.toList args.toList ds p := hA0
  rw [Tryz.params13] at hA hval
  obtain ⟨v0, vs0, d0, ds0, p0, q0, hargs, rfl, rfl, h0, r0⟩ := trodAll_cons hA
  obtain ⟨v1, vs1, d1, ds1, p1, q1, rfl, rfl, rfl, h1, r1⟩ := trodAll_cons r0
  obtain ⟨v2, vs2, d2, ds2, p2, q2, rfl, rfl, rfl, h2, r2⟩ := trodAll_cons r1
  obtain ⟨rfl, rfl, rfl⟩ := trodAll_nil r2
  obtain rfl : args = #[v0, v1, v2] := by cases args; simp_all
  obtain ⟨a0, fit0, rel0⟩ := arg_one (d := 12) (k := .sl [.sl [.bool, .sl [.int .u32], .int .i64]]) (by kernel_rfl) ⟨fun fs hfs => (by rw [Tryz.underlying30] at hfs; cases hfs), fun n e hfs => (by rw [Tryz.underlying30] at hfs; cases hfs)⟩ (hval 0 30 v0 rfl rfl) h0
  obtain ⟨a, rfl, m_a, h_a⟩ := fitC_sl fit0
  obtain ⟨a1, fit1, rel1⟩ := arg_one (d := 12) (k := .sl [.sl [.bool, .sl [.int .u32], .int .i64]]) (by kernel_rfl) ⟨fun fs hfs => (by rw [Tryz.underlying30] at hfs; cases hfs), fun n e hfs => (by rw [Tryz.underlying30] at hfs; cases hfs)⟩ (hval 1 30 v1 rfl rfl) h1
  obtain ⟨b, rfl, m_b, h_b⟩ := fitC_sl fit1
  obtain ⟨a2, fit2, rel2⟩ := arg_one (d := 12) (k := .sl [.bool, .sl [.int .u32], .int .i64]) (by kernel_rfl) ⟨fun fs hfs => (by rw [Tryz.underlying31] at hfs; cases hfs), fun n e hfs => (by rw [Tryz.underlying31] at hfs; cases hfs)⟩ (hval 2 31 v2 rfl rfl) h2
  obtain ⟨x, rfl, m_x, h_x⟩ := fitC_sl fit2
  exact law_post (by kernel_rfl) (by kernel_rfl) (by kernel_rfl) Tryz.underlying4 rfl rfl hW1 (true_of_call (computes_law04 a b x m_a h_a m_b h_b m_x h_x) (by intro g l h; simp only [gl, List.mem_cons, List.not_mem_nil, or_false, Prod.mk.injEq] at h; rcases h with ⟨rfl, rfl⟩ | h; exact (by exact gh_of_laid hL (by kernel_rfl) (List.Mem.head _) (show Tryz.prog.globalNamed "math/bits.deBruijn32tab" = some 0 by kernel_rfl) (show (Tryz.prog.globals[0]?).map (·.type) = some 274 by kernel_rfl) Tryz.underlying274 (by kernel_rfl) (by kernel_rfl) Tryz.underlying5 dbT (fun (k : Nat) => (k : Int)) rfl rfl); obtain ⟨rfl, rfl⟩ := h; exact (by exact gh_of_laid hL (by kernel_rfl) (List.Mem.tail _ (List.Mem.tail _ (List.Mem.head _))) (show Tryz.prog.globalNamed "internal/strconv.uint64pow10" = some 3 by kernel_rfl) (show (Tryz.prog.globals[3]?).map (·.type) = some 284 by kernel_rfl) Tryz.underlying284 (by kernel_rfl) (by kernel_rfl) Tryz.underlying161 p10T (fun (k : Int) => k) rfl rfl)) rfl (relV_cons rel0 (relV_cons rel1 (relV_cons rel2 (relV_nil)))))
end Go.Proofs.YtdjgckcninibhaaGreatDoor.matrixComputes
