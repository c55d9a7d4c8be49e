import Derived.Test.YtfmgfjmfogmeeaaGreatDoorRows
import Derived.Test.YtfmgfjmfogmeeaaGreatDoorCards
import Derived.Test.YtfmgfjmfogmeeaaGreatDoorTie
import Derived.SevenTiedAt
import Derived.Test.YtfmgfjmfogmeeaaGreatDoorWid2
import Derived.Test.YtfmgfjmfogmeeaaGreatDoorU3
set_option linter.unusedSimpArgs false
set_option linter.unusedVariables false
set_option linter.deprecated false
set_option maxRecDepth 100000
set_option maxHeartbeats 2000000
namespace Go.Proofs.YtfmgfjmfogmeeaaGreatDoor.wholeIdentify
open Go Go.Ax Go.ChangeShapes Go.WideShapes Go.ChangeAt Go.RowKit
theorem own : ownKnob Tryz.prog.godebug = none := by kernel_rfl
theorem door_met (os : Os) (args : Array Value) : laidMetH Tryz.prog Rows.wholeIdentifyRow.laid ((World.doorLaid Tryz.prog 400 os).forCall (fun _ _ => 0) ⟨#[], args, []⟩).memory :=
  laidMetH_of_parts3 (fuel := 8) (laidMet_of_run' 8 (by kernel_rfl) (by kernel_rfl)) (by kernel_rfl) (by kernel_rfl)
theorem lifted (os : Os) (started : os.Started) (H : Type) (enc : TypeId × Value → H) :
    ReturnsInHanded {} Tryz.checked os 5 .any (fun w args => (Rows.wholeIdentifySpec.pre enc Tryz.prog Tryz.f5 [] false w args ∧ laidMetH Tryz.prog Rows.wholeIdentifyRow.laid w) ∧ sizedMet enc Tryz.prog Tryz.f5 (OpenSpec.ofChange Rows.wholeIdentifySpec) false w args) (Rows.wholeIdentifySpec.post enc Tryz.prog Tryz.f5 false true false false) := by
  refine returnsInHanded_of_change_and (C := Tryz.checked) (X := fun w _ => laidMetH Tryz.prog Rows.wholeIdentifyRow.laid w) (fun _ _ _ hh h => h.of_heap hh) own started (by kernel_rfl) Tryz.func5
    (ChangeSpec.witness_shaped (enc := enc) (C := Tryz.checked) (os := os) (X := fun w _ => laidMetH Tryz.prog Rows.wholeIdentifyRow.laid w) false (World.doorLaid Tryz.prog 400 os) #[.agg #[.int .i64 0, .int .i64 0, .slice none 0 0, .slice none 0 0, .slice none 0 0, .slice none 0 0, .int .i64 0, .int .i64 0, .int .i64 0], .slice none 0 0] 8 rfl (World.shaped_of_RefB (by kernel_rfl) (by kernel_rfl)) (by kernel_rfl) (by kernel_rfl) (by kernel_rfl) (door_met os _)) ?_
  intro W base args ds gs before hval0 hW hcnd _ hL _
  have hval : ∀ (j : Nat) t v, Tryz.f5.params[j]? = some t → args[j]? = some v → Value.okWide Tryz.prog W .any base t v := hval0
  have hW1 := hW
  obtain ⟨p, q, hA0, hV, rfl, hfz, hnd⟩ := hW
  have hA : DataW.TrodAll enc Tryz.prog W 0 (fun _ => true) true Tryz.f5.params.toList args.toList ds p := hA0
  rw [Tryz.params5] at hA hval
  obtain ⟨v0, vs0, d0, ds0, p0, q0, hargs, rfl, rfl, h0, r0⟩ := trodAll_cons hA
  obtain ⟨v1, vs1, d1, ds1, p1, q1, rfl, rfl, rfl, h1, r1⟩ := trodAll_cons r0
  obtain ⟨rfl, rfl, rfl⟩ := trodAll_nil r1
  obtain rfl : args = #[v0, v1] := by cases args; simp_all
  obtain ⟨l0, fit0, rel0⟩ := arg_agg (d := 12) (ks := [.int .i64, .int .i64, .sl [.int .i64], .sl [.int .i64], .sl [.int .i64], .sl [.int .i64], .int .i64, .int .i64, .int .i64]) (.inl ⟨_, Tryz.underlying43⟩) (by kernel_rfl) (hval 0 43 v0 rfl rfl) h0
  obtain ⟨R, l0, rfl, h_R, fit0_0⟩ := fit0.i64
  obtain ⟨M, l0, rfl, h_M, fit0_1⟩ := fit0_0.i64
  obtain ⟨dx, l0, rfl, m_dx, h_dx, fit0_2⟩ := fit0_1.sl
  obtain ⟨dy, l0, rfl, m_dy, h_dy, fit0_3⟩ := fit0_2.sl
  obtain ⟨qx, l0, rfl, m_qx, h_qx, fit0_4⟩ := fit0_3.sl
  obtain ⟨qy, l0, rfl, m_qy, h_qy, fit0_5⟩ := fit0_4.sl
  obtain ⟨P, l0, rfl, h_P, fit0_6⟩ := fit0_5.i64
  obtain ⟨S, l0, rfl, h_S, fit0_7⟩ := fit0_6.i64
  obtain ⟨F, l0, rfl, h_F, fit0_8⟩ := fit0_7.i64
  obtain rfl := fit0_8.nil
  obtain ⟨a1, fit1, rel1⟩ := arg_one (d := 12) (k := .sl [.int .i64, .int .i64]) (by kernel_rfl) ⟨fun fs hfs => (by rw [Tryz.underlying44] at hfs; cases hfs), fun n e hfs => (by rw [Tryz.underlying44] at hfs; cases hfs)⟩ (hval 1 44 v1 rfl rfl) h1
  obtain ⟨l, rfl, m_l, h_l⟩ := fitC_sl fit1
  exact law_post (by kernel_rfl) (by kernel_rfl) (by kernel_rfl) Tryz.underlying4 rfl rfl hW1 (true_of_call (wid_law R M dx dy qx qy P S F l m_dx h_dx m_dy h_dy m_qx h_qx m_qy h_qy m_l h_l) (by intro g l h; simp only [gl, List.mem_cons, List.not_mem_nil, or_false, Prod.mk.injEq] at h; obtain ⟨rfl, rfl⟩ := h; exact (by exact gh_of_laid hL (by kernel_rfl) (List.Mem.head _) (show Tryz.prog.globalNamed "math/bits.deBruijn32tab" = some 4 by kernel_rfl) (show (Tryz.prog.globals[4]?).map (·.type) = some 231 by kernel_rfl) Tryz.underlying231 (by kernel_rfl) (by kernel_rfl) Tryz.underlying5 dbT (fun (k : Nat) => (k : Int)) rfl rfl (by decide))) rfl (relV_cons rel0 (relV_cons rel1 (relV_nil))))
theorem over : Rows.wholeIdentifyRow.holds Tryz.pinned (OpenSpec.ofChange Rows.wholeIdentifySpec) :=
  OpenClaim.holds_of_wide 5 Tryz.f5 rfl rfl rfl rfl rfl rfl rfl ⟨rfl, rfl, rfl, rfl, rfl⟩ rfl rfl rfl rfl rfl (by kernel_rfl) Tryz.func5 (by kernel_rfl)
    (of_decide_eq_true (by kernel_rfl)) (by unfold Func.isWrapper; first | (rw [if_pos (by decide +kernel)]; kernel_rfl) | (rw [if_neg (by decide +kernel)]; exact ⟨rfl, rfl⟩))
    (fun os started H enc _ => lifted os started H enc)
theorem proved : Rows.WholeIdentifyCardSaid :=
  Claim7.holds_tied_plain_at Rows.wholeIdentifyCard.laidLooks [] Rows.wholeIdentifyCard.laidKinds Rows.wholeIdentifyCard.laidTests Rows.wholeIdentifyCard.stood.harness Rows.wholeIdentifyCard.stood.looks over (fun _ h => by cases h) (by kernel_rfl) (fun _ h => by cases h) wholeIdentify_row_tie rfl ⟨rfl, rfl⟩ (by kernel_rfl) rfl
    (fun f fn hf hfn => by
      obtain rfl : f = 5 := Option.some.inj ((show Tryz.prog.funcNamed "commutator/commutatortop.WholeIdentify" = some 5 by kernel_rfl).symm.trans hf) |>.symm
      obtain rfl : fn = Tryz.f5 := (Option.some.inj (Tryz.func5.symm.trans hfn)).symm
      exact ⟨by kernel_rfl, fun j t ht => by
        rw [Tryz.params5] at ht
        have hm : t ∈ [43, 44] := by simpa using Array.mem_of_getElem? ht
        have hall : ([43, 44].all fun u => !Tryz.prog.wantsStandIn u) = true := by kernel_rfl
        exact (show Tryz.prog.wantsStandIn t = false by simpa using List.all_eq_true.1 hall t hm)⟩)
    (by kernel_rfl)
end Go.Proofs.YtfmgfjmfogmeeaaGreatDoor.wholeIdentify
