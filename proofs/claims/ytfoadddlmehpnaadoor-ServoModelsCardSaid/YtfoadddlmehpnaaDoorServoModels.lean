import Derived.Test.YtfoadddlmehpnaaDoorRows
import Derived.Test.YtfoadddlmehpnaaDoorCards
import Derived.Test.YtfoadddlmehpnaaDoorTie
import Derived.SevenTiedAt
import Derived.Test.YtfoadddlmehpnaaDoorMod38e
import Derived.Test.YtfoadddlmehpnaaDoorU3
set_option linter.unusedSimpArgs false
set_option linter.unusedVariables false
set_option linter.deprecated false
set_option maxRecDepth 100000
set_option maxHeartbeats 2000000
namespace Go.Proofs.YtfoadddlmehpnaaDoor.servoModels
open Go Go.Ax Go.ChangeShapes Go.WideShapes Go.ChangeAt Go.RowKit
theorem own : ownKnob Tryd.prog.godebug = none := by kernel_rfl
theorem door_met (os : Os) (args : Array Value) : laidMetH Tryd.prog Rows.servoModelsRow.laid ((World.doorLaid Tryd.prog 400 os).forCall (fun _ _ => 0) ⟨#[], args, []⟩).memory :=
  laidMetH_of_parts3 (fuel := 8) (laidMet_of_run' 8 (by kernel_rfl) (by kernel_rfl)) (by kernel_rfl) (by kernel_rfl)
theorem lifted (os : Os) (started : os.Started) (H : Type) (enc : TypeId × Value → H) :
    ReturnsInHanded {} Tryd.checked os 5 .any (fun w args => (Rows.servoModelsSpec.pre enc Tryd.prog Tryd.f5 [] false w args ∧ laidMetH Tryd.prog Rows.servoModelsRow.laid w) ∧ sizedMet enc Tryd.prog Tryd.f5 (OpenSpec.ofChange Rows.servoModelsSpec) false w args) (Rows.servoModelsSpec.post enc Tryd.prog Tryd.f5 false true false false) := by
  refine returnsInHanded_of_change_and (C := Tryd.checked) (X := fun w _ => laidMetH Tryd.prog Rows.servoModelsRow.laid w) (fun _ _ _ hh h => h.of_heap hh) own started (by kernel_rfl) Tryd.func5
    (ChangeSpec.witness_shaped (enc := enc) (C := Tryd.checked) (os := os) (X := fun w _ => laidMetH Tryd.prog Rows.servoModelsRow.laid w) false (World.doorLaid Tryd.prog 400 os) #[.agg #[.int .i64 0, .int .i64 0, .int .i64 0, .int .i64 0, .int .i64 0, .int .i64 0], .agg #[.int .i64 0, .int .i64 0, .int .i64 0]] 8 rfl (World.shaped_of_RefB (by kernel_rfl) (by kernel_rfl)) (by kernel_rfl) (by kernel_rfl) (by kernel_rfl) (door_met os _)) ?_
  intro W base args ds gs before hval0 hW hcnd _ hL _
  have hval : ∀ (j : Nat) t v, Tryd.f5.params[j]? = some t → args[j]? = some v → Value.okWide Tryd.prog W .any base t v := hval0
  have hW1 := hW
  obtain ⟨p, q, hA0, hV, rfl, hfz, hnd⟩ := hW
  have hA : DataW.TrodAll enc Tryd.prog W 0 (fun _ => true) true Tryd.f5.params.toList args.toList ds p := hA0
  rw [Tryd.params5] at hA hval
  obtain ⟨v0, vs0, d0, ds0, p0, q0, hargs, rfl, rfl, h0, r0⟩ := trodAll_cons hA
  obtain ⟨v1, vs1, d1, ds1, p1, q1, rfl, rfl, rfl, h1, r1⟩ := trodAll_cons r0
  obtain ⟨rfl, rfl, rfl⟩ := trodAll_nil r1
  obtain rfl : args = #[v0, v1] := by cases args; simp_all
  obtain ⟨l0, fit0, rel0⟩ := arg_agg (d := 12) (ks := [.int .i64, .int .i64, .int .i64, .int .i64, .int .i64, .int .i64]) (.inl ⟨_, Tryd.underlying62⟩) (by kernel_rfl) (hval 0 62 v0 rfl rfl) h0
  obtain ⟨kv, l0, rfl, h_kv, fit0_0⟩ := fit0.i64
  obtain ⟨sh, l0, rfl, h_sh, fit0_1⟩ := fit0_0.i64
  obtain ⟨kp, l0, rfl, h_kp, fit0_2⟩ := fit0_1.i64
  obtain ⟨ki, l0, rfl, h_ki, fit0_3⟩ := fit0_2.i64
  obtain ⟨lo, l0, rfl, h_lo, fit0_4⟩ := fit0_3.i64
  obtain ⟨hi, l0, rfl, h_hi, fit0_5⟩ := fit0_4.i64
  obtain rfl := fit0_5.nil
  obtain ⟨l1, fit1, rel1⟩ := arg_agg (d := 12) (ks := [.int .i64, .int .i64, .int .i64]) (.inr ⟨_, _, Tryd.underlying28⟩) (by kernel_rfl) (hval 1 28 v1 rfl rfl) h1
  obtain ⟨gn, l1, rfl, h_gn, fit1_0⟩ := fit1.i64
  obtain ⟨dv, l1, rfl, h_dv, fit1_1⟩ := fit1_0.i64
  obtain ⟨ds, l1, rfl, h_ds, fit1_2⟩ := fit1_1.i64
  obtain rfl := fit1_2.nil
  exact law_post (by kernel_rfl) (by kernel_rfl) (by kernel_rfl) Tryd.underlying4 rfl rfl hW1 (true_of_call (models38 kv sh kp ki lo hi gn dv ds) (by intro g l h; simp only [gl, List.mem_cons, List.not_mem_nil, or_false, Prod.mk.injEq] at h; obtain ⟨rfl, rfl⟩ := h; exact (by exact gh_of_laid hL (by kernel_rfl) (List.Mem.head _) (show Tryd.prog.globalNamed "math/bits.deBruijn32tab" = some 0 by kernel_rfl) (show (Tryd.prog.globals[0]?).map (·.type) = some 163 by kernel_rfl) Tryd.underlying163 (by kernel_rfl) (by kernel_rfl) Tryd.underlying5 dbT (fun (k : Nat) => (k : Int)) rfl rfl)) rfl (relV_cons rel0 (relV_cons rel1 (relV_nil))))
theorem over : Rows.servoModelsRow.holds Tryd.pinned (OpenSpec.ofChange Rows.servoModelsSpec) :=
  OpenClaim.holds_of_wide 5 Tryd.f5 rfl rfl rfl rfl rfl rfl rfl ⟨rfl, rfl, rfl, rfl, rfl⟩ rfl rfl rfl rfl rfl (by kernel_rfl) Tryd.func5 (by kernel_rfl)
    (of_decide_eq_true (by kernel_rfl)) (by unfold Func.isWrapper; first | (rw [if_pos (by decide +kernel)]; kernel_rfl) | (rw [if_neg (by decide +kernel)]; exact ⟨rfl, rfl⟩))
    (fun os started H enc _ => lifted os started H enc)

theorem proved : Rows.ServoModelsCardSaid :=
  Claim7.holds_tied_plain_at Rows.servoModelsCard.laidLooks [] Rows.servoModelsCard.laidKinds Rows.servoModelsCard.laidTests Rows.servoModelsCard.stood.harness Rows.servoModelsCard.stood.looks over (fun _ h => by cases h) (by kernel_rfl) (fun _ h => by cases h) servoModels_row_tie rfl ⟨rfl, rfl⟩ (by kernel_rfl) rfl
    (fun f fn hf hfn => by
      obtain rfl : f = 5 := Option.some.inj ((show Tryd.prog.funcNamed "commutator/commutatorlaw38.ServoModels" = some 5 by kernel_rfl).symm.trans hf) |>.symm
      obtain rfl : fn = Tryd.f5 := (Option.some.inj (Tryd.func5.symm.trans hfn)).symm
      exact ⟨by kernel_rfl, fun j t ht => by
        rw [Tryd.params5] at ht
        have hm : t ∈ [62, 28] := by simpa using Array.mem_of_getElem? ht
        have hall : ([62, 28].all fun u => !Tryd.prog.wantsStandIn u) = true := by kernel_rfl
        exact (show Tryd.prog.wantsStandIn t = false by simpa using List.all_eq_true.1 hall t hm)⟩)
    (by kernel_rfl)
end Go.Proofs.YtfoadddlmehpnaaDoor.servoModels
