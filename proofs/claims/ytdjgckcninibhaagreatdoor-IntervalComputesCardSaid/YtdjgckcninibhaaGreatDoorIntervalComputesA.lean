import Derived.Test.YtdjgckcninibhaaGreatDoorRows
import Derived.Test.YtdjgckcninibhaaGreatDoorCards
import Derived.Test.YtdjgckcninibhaaGreatDoorTie
import Derived.SevenTiedAt
import Derived.Test.YtdjgckcninibhaaGreatDoorL03computes
import Derived.Test.YtdjgckcninibhaaGreatDoorU3
set_option linter.unusedSimpArgs false
set_option linter.unusedVariables false
set_option linter.deprecated false
set_option maxRecDepth 100000
set_option maxHeartbeats 2000000
namespace Go.Proofs.YtdjgckcninibhaaGreatDoor.intervalComputes
open Go Go.Ax Go.ChangeShapes Go.WideShapes Go.ChangeAt Go.RowKit
theorem own : ownKnob Tryz.prog.godebug = none := by kernel_rfl
theorem door_met (os : Os) (args : Array Value) : laidMetH Tryz.prog Rows.intervalComputesRow.laid ((World.doorLaid Tryz.prog 400 os).forCall (fun _ _ => 0) ⟨#[], args, []⟩).memory :=
  laidMetH_of_parts3 (fuel := 8) (laidMet_of_run' 8 (by kernel_rfl) (by kernel_rfl)) (by kernel_rfl) (by kernel_rfl)
theorem lifted (os : Os) (started : os.Started) (H : Type) (enc : TypeId × Value → H) :
    ReturnsInHanded {} Tryz.checked os 10 .any (fun w args => (Rows.intervalComputesSpec.pre enc Tryz.prog Tryz.f10 [] false w args ∧ laidMetH Tryz.prog Rows.intervalComputesRow.laid w) ∧ sizedMet enc Tryz.prog Tryz.f10 (OpenSpec.ofChange Rows.intervalComputesSpec) false w args) (Rows.intervalComputesSpec.post enc Tryz.prog Tryz.f10 false true false false) := by
  refine returnsInHanded_of_change_and (C := Tryz.checked) (X := fun w _ => laidMetH Tryz.prog Rows.intervalComputesRow.laid w) (fun _ _ _ hh h => h.of_heap hh) own started (by kernel_rfl) Tryz.func10
    (ChangeSpec.witness_shaped (enc := enc) (C := Tryz.checked) (os := os) (X := fun w _ => laidMetH Tryz.prog Rows.intervalComputesRow.laid w) false (World.doorLaid Tryz.prog 400 os) #[.agg #[.bool false, .slice none 0 0, .int .i64 0, .bool false, .slice none 0 0, .int .i64 0], .agg #[.bool false, .slice none 0 0, .int .i64 0, .bool false, .slice none 0 0, .int .i64 0]] 8 rfl (World.shaped_of_RefB (by kernel_rfl) (by kernel_rfl)) (by kernel_rfl) (by kernel_rfl) (by kernel_rfl) (door_met os _)) ?_
  intro W base args ds gs before hval0 hW hcnd _ hL _
  have hval : ∀ (j : Nat) t v, Tryz.f10.params[j]? = some t → args[j]? = some v → Value.okWide Tryz.prog W .any base t v := hval0
  have hW1 := hW
  obtain ⟨p, q, hA0, hV, rfl, hfz, hnd⟩ := hW
  have hA : DataW.TrodAll enc Tryz.prog W 0 (fun _ => true) true Tryz.f10.params.toList args.toList ds p := hA0
  rw [Tryz.params10] at hA hval
  obtain ⟨v0, vs0, d0, ds0, p0, q0, hargs, rfl, rfl, h0, r0⟩ := trodAll_cons hA
  obtain ⟨v1, vs1, d1, ds1, p1, q1, rfl, rfl, rfl, h1, r1⟩ := trodAll_cons r0
  obtain ⟨rfl, rfl, rfl⟩ := trodAll_nil r1
  obtain rfl : args = #[v0, v1] := by cases args; simp_all
  obtain ⟨l0, fit0, rel0⟩ := arg_agg (d := 12) (ks := [.bool, .sl [.int .u32], .int .i64, .bool, .sl [.int .u32], .int .i64]) (.inl ⟨_, Tryz.underlying114⟩) (by kernel_rfl) (hval 0 114 v0 rfl rfl) h0
  obtain ⟨s1, l0, rfl, fit0_0⟩ := fit0.bool
  obtain ⟨w1, l0, rfl, m_w1, h_w1, fit0_1⟩ := fit0_0.sl
  obtain ⟨d1, l0, rfl, h_d1, fit0_2⟩ := fit0_1.i64
  obtain ⟨t1, l0, rfl, fit0_3⟩ := fit0_2.bool
  obtain ⟨u1, l0, rfl, m_u1, h_u1, fit0_4⟩ := fit0_3.sl
  obtain ⟨e1, l0, rfl, h_e1, fit0_5⟩ := fit0_4.i64
  obtain rfl := fit0_5.nil
  obtain ⟨l1, fit1, rel1⟩ := arg_agg (d := 12) (ks := [.bool, .sl [.int .u32], .int .i64, .bool, .sl [.int .u32], .int .i64]) (.inl ⟨_, Tryz.underlying114⟩) (by kernel_rfl) (hval 1 114 v1 rfl rfl) h1
  obtain ⟨s2, l1, rfl, fit1_0⟩ := fit1.bool
  obtain ⟨w2, l1, rfl, m_w2, h_w2, fit1_1⟩ := fit1_0.sl
  obtain ⟨d2, l1, rfl, h_d2, fit1_2⟩ := fit1_1.i64
  obtain ⟨t2, l1, rfl, fit1_3⟩ := fit1_2.bool
  obtain ⟨u2, l1, rfl, m_u2, h_u2, fit1_4⟩ := fit1_3.sl
  obtain ⟨e2, l1, rfl, h_e2, fit1_5⟩ := fit1_4.i64
  obtain rfl := fit1_5.nil
  exact law_post (by kernel_rfl) (by kernel_rfl) (by kernel_rfl) Tryz.underlying4 rfl rfl hW1 (true_of_call (computes_law s1 w1 d1 t1 u1 e1 s2 w2 d2 t2 u2 e2 m_w1 h_w1 m_u1 h_u1 m_w2 h_w2 m_u2 h_u2) (by intro g l h; simp only [gl, List.mem_cons, List.not_mem_nil, or_false, Prod.mk.injEq] at h; rcases h with ⟨rfl, rfl⟩ | h; exact (by exact gh_of_laid hL (by kernel_rfl) (List.Mem.head _) (show Tryz.prog.globalNamed "math/bits.deBruijn32tab" = some 0 by kernel_rfl) (show (Tryz.prog.globals[0]?).map (·.type) = some 274 by kernel_rfl) Tryz.underlying274 (by kernel_rfl) (by kernel_rfl) Tryz.underlying5 dbT (fun (k : Nat) => (k : Int)) rfl rfl); obtain ⟨rfl, rfl⟩ := h; exact (by exact gh_of_laid hL (by kernel_rfl) (List.Mem.tail _ (List.Mem.tail _ (List.Mem.head _))) (show Tryz.prog.globalNamed "internal/strconv.uint64pow10" = some 3 by kernel_rfl) (show (Tryz.prog.globals[3]?).map (·.type) = some 284 by kernel_rfl) Tryz.underlying284 (by kernel_rfl) (by kernel_rfl) Tryz.underlying161 p10T (fun (k : Int) => k) rfl rfl)) rfl (relV_cons rel0 (relV_cons rel1 (relV_nil))))
end Go.Proofs.YtdjgckcninibhaaGreatDoor.intervalComputes
