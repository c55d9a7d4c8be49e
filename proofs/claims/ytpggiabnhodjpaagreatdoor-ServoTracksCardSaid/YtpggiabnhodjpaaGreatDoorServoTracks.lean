import Derived.Test.YtpggiabnhodjpaaGreatDoorRows
import Derived.Test.YtpggiabnhodjpaaGreatDoorCards
import Derived.Test.YtpggiabnhodjpaaGreatDoorTie
import Derived.SevenTiedAt
import Derived.Test.YtpggiabnhodjpaaGreatDoorSv38w
import Derived.Test.YtpggiabnhodjpaaGreatDoorU3
set_option linter.unusedSimpArgs false
set_option linter.unusedVariables false
set_option linter.deprecated false
set_option maxRecDepth 100000
set_option maxHeartbeats 2000000
namespace Go.Proofs.YtpggiabnhodjpaaGreatDoor.servoTracks
open Go Go.Ax Go.ChangeShapes Go.WideShapes Go.ChangeAt Go.RowKit
theorem own : ownKnob Tryz.prog.godebug = none := by kernel_rfl
theorem door_met (os : Os) (args : Array Value) : laidMetH Tryz.prog Rows.servoTracksRow.laid ((World.doorLaid Tryz.prog 400 os).forCall (fun _ _ => 0) ⟨#[], args, []⟩).memory :=
  laidMetH_of_parts3 (fuel := 8) (laidMet_of_run' 8 (by kernel_rfl) (by kernel_rfl)) (by kernel_rfl) (by kernel_rfl)
theorem lifted (os : Os) (started : os.Started) (H : Type) (enc : TypeId × Value → H) :
    ReturnsInHanded {} Tryz.checked os 8 .any (fun w args => (Rows.servoTracksSpec.pre enc Tryz.prog Tryz.f8 [] false w args ∧ laidMetH Tryz.prog Rows.servoTracksRow.laid w) ∧ sizedMet enc Tryz.prog Tryz.f8 (OpenSpec.ofChange Rows.servoTracksSpec) false w args) (Rows.servoTracksSpec.post enc Tryz.prog Tryz.f8 false true false false) := by
  refine returnsInHanded_of_change_and (C := Tryz.checked) (X := fun w _ => laidMetH Tryz.prog Rows.servoTracksRow.laid w) (fun _ _ _ hh h => h.of_heap hh) own started (by kernel_rfl) Tryz.func8
    (ChangeSpec.witness_shaped (enc := enc) (C := Tryz.checked) (os := os) (X := fun w _ => laidMetH Tryz.prog Rows.servoTracksRow.laid w) false (World.doorLaid Tryz.prog 400 os) #[.agg #[.int .i64 0, .int .i64 0, .int .i64 0, .int .i64 0, .int .i64 0, .int .i64 0], .agg #[.int .i64 0, .int .i64 0, .int .i64 0], .agg #[.int .i64 0, .int .i64 0, .int .i64 0, .slice none 0 0, .slice none 0 0]] 8 rfl (World.shaped_of_RefB (by kernel_rfl) (by kernel_rfl)) (by kernel_rfl) (by kernel_rfl) (by kernel_rfl) (door_met os _)) ?_
  intro W base args ds gs before hval0 hW hcnd _ hL _
  have hval : ∀ (j : Nat) t v, Tryz.f8.params[j]? = some t → args[j]? = some v → Value.okWide Tryz.prog W .any base t v := hval0
  have hW1 := hW
  obtain ⟨p, q, hA0, hV, rfl, hfz, hnd⟩ := hW
  have hA : DataW.TrodAll enc Tryz.prog W 0 (fun _ => true) true Tryz.f8.params.toList args.toList ds p := hA0
  rw [Tryz.params8] at hA hval
  obtain ⟨v0, vs0, d0, ds0, p0, q0, hargs, rfl, rfl, h0, r0⟩ := trodAll_cons hA
  obtain ⟨v1, vs1, d1, ds1, p1, q1, rfl, rfl, rfl, h1, r1⟩ := trodAll_cons r0
  obtain ⟨v2, vs2, d2, ds2, p2, q2, rfl, rfl, rfl, h2, r2⟩ := trodAll_cons r1
  obtain ⟨rfl, rfl, rfl⟩ := trodAll_nil r2
  obtain rfl : args = #[v0, v1, v2] := by cases args; simp_all
  obtain ⟨l0, fit0, rel0⟩ := arg_agg (d := 12) (ks := [.int .i64, .int .i64, .int .i64, .int .i64, .int .i64, .int .i64]) (.inl ⟨_, Tryz.underlying75⟩) (by kernel_rfl) (hval 0 75 v0 rfl rfl) h0
  obtain ⟨kv, l0, rfl, h_kv, fit0_0⟩ := fit0.i64
  obtain ⟨sh, l0, rfl, h_sh, fit0_1⟩ := fit0_0.i64
  obtain ⟨kp, l0, rfl, h_kp, fit0_2⟩ := fit0_1.i64
  obtain ⟨ki, l0, rfl, h_ki, fit0_3⟩ := fit0_2.i64
  obtain ⟨lo, l0, rfl, h_lo, fit0_4⟩ := fit0_3.i64
  obtain ⟨hi, l0, rfl, h_hi, fit0_5⟩ := fit0_4.i64
  obtain rfl := fit0_5.nil
  obtain ⟨l1, fit1, rel1⟩ := arg_agg (d := 12) (ks := [.int .i64, .int .i64, .int .i64]) (.inr ⟨_, _, Tryz.underlying76⟩) (by kernel_rfl) (hval 1 76 v1 rfl rfl) h1
  obtain ⟨gn, l1, rfl, h_gn, fit1_0⟩ := fit1.i64
  obtain ⟨dv, l1, rfl, h_dv, fit1_1⟩ := fit1_0.i64
  obtain ⟨ds, l1, rfl, h_ds, fit1_2⟩ := fit1_1.i64
  obtain rfl := fit1_2.nil
  obtain ⟨l2, fit2, rel2⟩ := arg_agg (d := 12) (ks := [.int .i64, .int .i64, .int .i64, .sl [.int .i16], .sl [.int .i16]]) (.inl ⟨_, Tryz.underlying79⟩) (by kernel_rfl) (hval 2 79 v2 rfl rfl) h2
  obtain ⟨hp, l2, rfl, h_hp, fit2_0⟩ := fit2.i64
  obtain ⟨hv, l2, rfl, h_hv, fit2_1⟩ := fit2_0.i64
  obtain ⟨hr, l2, rfl, h_hr, fit2_2⟩ := fit2_1.i64
  obtain ⟨gl', l2, rfl, m_gl', h_gl', fit2_3⟩ := fit2_2.sl
  obtain ⟨pl', l2, rfl, m_pl', h_pl', fit2_4⟩ := fit2_3.sl
  obtain rfl := fit2_4.nil
  exact law_post (by kernel_rfl) (by kernel_rfl) (by kernel_rfl) Tryz.underlying4 rfl rfl hW1 (true_of_call (tracks38 kv sh kp ki lo hi gn dv ds hp hv hr gl' pl' m_gl' h_gl' m_pl' h_pl') (by intro g l h; simp only [gl, List.mem_cons, List.not_mem_nil, or_false, Prod.mk.injEq] at h; obtain ⟨rfl, rfl⟩ := h; exact (by exact gh_of_laid hL (by kernel_rfl) (List.Mem.head _) (show Tryz.prog.globalNamed "math/bits.deBruijn32tab" = some 0 by kernel_rfl) (show (Tryz.prog.globals[0]?).map (·.type) = some 225 by kernel_rfl) Tryz.underlying225 (by kernel_rfl) (by kernel_rfl) Tryz.underlying5 dbT (fun (k : Nat) => (k : Int)) rfl rfl)) rfl (relV_cons rel0 (relV_cons rel1 (relV_cons rel2 (relV_nil)))))
theorem over : Rows.servoTracksRow.holds Tryz.pinned (OpenSpec.ofChange Rows.servoTracksSpec) :=
  OpenClaim.holds_of_wide 8 Tryz.f8 rfl rfl rfl rfl rfl rfl rfl ⟨rfl, rfl, rfl, rfl, rfl⟩ rfl rfl rfl rfl rfl (by kernel_rfl) Tryz.func8 (by kernel_rfl)
    (of_decide_eq_true (by kernel_rfl)) (by unfold Func.isWrapper; first | (rw [if_pos (by decide +kernel)]; kernel_rfl) | (rw [if_neg (by decide +kernel)]; exact ⟨rfl, rfl⟩))
    (fun os started H enc _ => lifted os started H enc)
theorem proved : Rows.ServoTracksCardSaid :=
  Claim7.holds_tied_plain_at Rows.servoTracksCard.laidLooks [] Rows.servoTracksCard.laidKinds Rows.servoTracksCard.laidTests Rows.servoTracksCard.stood.harness Rows.servoTracksCard.stood.looks over (fun _ h => by cases h) (by kernel_rfl) (fun _ h => by cases h) servoTracks_row_tie rfl ⟨rfl, rfl⟩ (by kernel_rfl) rfl
    (fun f fn hf hfn => by
      obtain rfl : f = 8 := Option.some.inj ((show Tryz.prog.funcNamed "commutator/commutatorlaw38.ServoTracks" = some 8 by kernel_rfl).symm.trans hf) |>.symm
      obtain rfl : fn = Tryz.f8 := (Option.some.inj (Tryz.func8.symm.trans hfn)).symm
      exact ⟨by kernel_rfl, fun j t ht => by
        rw [Tryz.params8] at ht
        have hm : t ∈ [75, 76, 79] := by simpa using Array.mem_of_getElem? ht
        have hall : ([75, 76, 79].all fun u => !Tryz.prog.wantsStandIn u) = true := by kernel_rfl
        exact (show Tryz.prog.wantsStandIn t = false by simpa using List.all_eq_true.1 hall t hm)⟩)
    (by kernel_rfl)
end Go.Proofs.YtpggiabnhodjpaaGreatDoor.servoTracks
