import Derived.Test.YtpggiabnhodjpaaGreatDoorRows
import Derived.Test.YtpggiabnhodjpaaGreatDoorCards
import Derived.Test.YtpggiabnhodjpaaGreatDoorTie
import Derived.SevenTiedAt
import Derived.Test.YtpggiabnhodjpaaGreatDoorL18hld
import Derived.Test.YtpggiabnhodjpaaGreatDoorU3
set_option linter.unusedSimpArgs false
set_option linter.unusedVariables false
set_option linter.deprecated false
set_option maxRecDepth 100000
set_option maxHeartbeats 2000000
namespace Go.Proofs.YtpggiabnhodjpaaGreatDoor.tubeHolds
open Go Go.Ax Go.ChangeShapes Go.WideShapes Go.ChangeAt Go.RowKit
theorem own : ownKnob Tryz.prog.godebug = none := by kernel_rfl
theorem door_met (os : Os) (args : Array Value) : laidMetH Tryz.prog Rows.tubeHoldsRow.laid ((World.doorLaid Tryz.prog 400 os).forCall (fun _ _ => 0) ⟨#[], args, []⟩).memory :=
  laidMetH_of_parts3 (fuel := 8) (laidMet_of_run' 8 (by kernel_rfl) (by kernel_rfl)) (by kernel_rfl) (by kernel_rfl)
theorem lifted (os : Os) (started : os.Started) (H : Type) (enc : TypeId × Value → H) :
    ReturnsInHanded {} Tryz.checked os 7 .any (fun w args => (Rows.tubeHoldsSpec.pre enc Tryz.prog Tryz.f7 [] false w args ∧ laidMetH Tryz.prog Rows.tubeHoldsRow.laid w) ∧ sizedMet enc Tryz.prog Tryz.f7 (OpenSpec.ofChange Rows.tubeHoldsSpec) false w args) (Rows.tubeHoldsSpec.post enc Tryz.prog Tryz.f7 false true false false) := by
  refine returnsInHanded_of_change_and (C := Tryz.checked) (X := fun w _ => laidMetH Tryz.prog Rows.tubeHoldsRow.laid w) (fun _ _ _ hh h => h.of_heap hh) own started (by kernel_rfl) Tryz.func7
    (ChangeSpec.witness_shaped (enc := enc) (C := Tryz.checked) (os := os) (X := fun w _ => laidMetH Tryz.prog Rows.tubeHoldsRow.laid w) false (World.doorLaid Tryz.prog 400 os) #[.agg #[.slice none 0 0, .slice none 0 0, .slice none 0 0], .agg #[.int .i64 0, .slice none 0 0, .slice none 0 0], .slice none 0 0] 8 rfl (World.shaped_of_RefB (by kernel_rfl) (by kernel_rfl)) (by kernel_rfl) (by kernel_rfl) (by kernel_rfl) (door_met os _)) ?_
  intro W base args ds gs before hval0 hW hcnd _ hL _
  have hval : ∀ (j : Nat) t v, Tryz.f7.params[j]? = some t → args[j]? = some v → Value.okWide Tryz.prog W .any base t v := hval0
  have hW1 := hW
  obtain ⟨p, q, hA0, hV, rfl, hfz, hnd⟩ := hW
  have hA : DataW.TrodAll enc Tryz.prog W 0 (fun _ => true) true Tryz.f7.params.toList args.toList ds p := hA0
  rw [Tryz.params7] at hA hval
  obtain ⟨v0, vs0, d0, ds0, p0, q0, hargs, rfl, rfl, h0, r0⟩ := trodAll_cons hA
  obtain ⟨v1, vs1, d1, ds1, p1, q1, rfl, rfl, rfl, h1, r1⟩ := trodAll_cons r0
  obtain ⟨v2, vs2, d2, ds2, p2, q2, rfl, rfl, rfl, h2, r2⟩ := trodAll_cons r1
  obtain ⟨rfl, rfl, rfl⟩ := trodAll_nil r2
  obtain rfl : args = #[v0, v1, v2] := by cases args; simp_all
  obtain ⟨l0, fit0, rel0⟩ := arg_agg (d := 12) (ks := [.sl [.sl [.bool, .sl [.int .u32], .int .i64]], .sl [.sl [.bool, .sl [.int .u32], .int .i64]], .sl [.bool, .sl [.int .u32], .int .i64]]) (.inl ⟨_, Tryz.underlying25⟩) (by kernel_rfl) (hval 0 25 v0 rfl rfl) h0
  obtain ⟨a, l0, rfl, m_a, h_a, fit0_0⟩ := fit0.sl
  obtain ⟨d, l0, rfl, m_d, h_d, fit0_1⟩ := fit0_0.sl
  obtain ⟨w, l0, rfl, m_w, h_w, fit0_2⟩ := fit0_1.sl
  obtain rfl := fit0_2.nil
  obtain ⟨l1, fit1, rel1⟩ := arg_agg (d := 12) (ks := [.int .i64, .sl [.bool, .sl [.int .u32], .int .i64], .sl [.bool, .sl [.int .u32], .int .i64]]) (.inl ⟨_, Tryz.underlying30⟩) (by kernel_rfl) (hval 1 30 v1 rfl rfl) h1
  obtain ⟨k, l1, rfl, h_k, fit1_0⟩ := fit1.i64
  obtain ⟨i, l1, rfl, m_i, h_i, fit1_1⟩ := fit1_0.sl
  obtain ⟨o, l1, rfl, m_o, h_o, fit1_2⟩ := fit1_1.sl
  obtain rfl := fit1_2.nil
  obtain ⟨a2, fit2, rel2⟩ := arg_one (d := 12) (k := .sl [.sl [.int .i8]]) (by kernel_rfl) ⟨fun fs hfs => (by rw [Tryz.underlying65] at hfs; cases hfs), fun n e hfs => (by rw [Tryz.underlying65] at hfs; cases hfs)⟩ (hval 2 65 v2 rfl rfl) h2
  obtain ⟨s, rfl, m_s, h_s⟩ := fitC_sl fit2
  exact law_post (by kernel_rfl) (by kernel_rfl) (by kernel_rfl) Tryz.underlying4 rfl rfl hW1 (true_of_call (holds18_law a d w k i o s m_s h_s m_a h_a m_d h_d m_w h_w m_i h_i m_o h_o) (by intro g l h; simp only [gl, List.mem_cons, List.not_mem_nil, or_false, Prod.mk.injEq] at h; obtain ⟨rfl, rfl⟩ := h; exact (by exact gh_of_laid hL (by kernel_rfl) (List.Mem.head _) (show Tryz.prog.globalNamed "math/bits.deBruijn32tab" = some 0 by kernel_rfl) (show (Tryz.prog.globals[0]?).map (·.type) = some 225 by kernel_rfl) Tryz.underlying225 (by kernel_rfl) (by kernel_rfl) Tryz.underlying5 dbT (fun (k : Nat) => (k : Int)) rfl rfl)) rfl (relV_cons rel0 (relV_cons rel1 (relV_cons rel2 (relV_nil)))))
theorem over : Rows.tubeHoldsRow.holds Tryz.pinned (OpenSpec.ofChange Rows.tubeHoldsSpec) :=
  OpenClaim.holds_of_wide 7 Tryz.f7 rfl rfl rfl rfl rfl rfl rfl ⟨rfl, rfl, rfl, rfl, rfl⟩ rfl rfl rfl rfl rfl (by kernel_rfl) Tryz.func7 (by kernel_rfl)
    (of_decide_eq_true (by kernel_rfl)) (by unfold Func.isWrapper; first | (rw [if_pos (by decide +kernel)]; kernel_rfl) | (rw [if_neg (by decide +kernel)]; exact ⟨rfl, rfl⟩))
    (fun os started H enc _ => lifted os started H enc)
theorem proved : Rows.TubeHoldsCardSaid :=
  Claim7.holds_tied_plain_at Rows.tubeHoldsCard.laidLooks [] Rows.tubeHoldsCard.laidKinds Rows.tubeHoldsCard.laidTests Rows.tubeHoldsCard.stood.harness Rows.tubeHoldsCard.stood.looks over (fun _ h => by cases h) (by kernel_rfl) (fun _ h => by cases h) tubeHolds_row_tie rfl ⟨rfl, rfl⟩ (by kernel_rfl) rfl
    (fun f fn hf hfn => by
      obtain rfl : f = 7 := Option.some.inj ((show Tryz.prog.funcNamed "commutator/commutatorlaw18.TubeHolds" = some 7 by kernel_rfl).symm.trans hf) |>.symm
      obtain rfl : fn = Tryz.f7 := (Option.some.inj (Tryz.func7.symm.trans hfn)).symm
      exact ⟨by kernel_rfl, fun j t ht => by
        rw [Tryz.params7] at ht
        have hm : t ∈ [25, 30, 65] := by simpa using Array.mem_of_getElem? ht
        have hall : ([25, 30, 65].all fun u => !Tryz.prog.wantsStandIn u) = true := by kernel_rfl
        exact (show Tryz.prog.wantsStandIn t = false by simpa using List.all_eq_true.1 hall t hm)⟩)
    (by kernel_rfl)
end Go.Proofs.YtpggiabnhodjpaaGreatDoor.tubeHolds
