import Derived.Test.YtcpmeibfggoebaaGreatDoorRows
import Derived.Test.YtcpmeibfggoebaaGreatDoorCards
import Derived.Test.YtcpmeibfggoebaaGreatDoorTie
import Derived.SevenTiedAt
import Derived.Test.YtcpmeibfggoebaaGreatDoorX7
import Derived.Test.YtcpmeibfggoebaaGreatDoorV2
set_option linter.unusedSimpArgs false
set_option linter.unusedVariables false
set_option linter.deprecated false
set_option maxRecDepth 100000
set_option maxHeartbeats 2000000
namespace Go.Proofs.YtcpmeibfggoebaaGreatDoor.wholeCode
open Go Go.Ax Go.ChangeShapes Go.WideShapes Go.ChangeAt Go.RowKit
theorem own : ownKnob Tryz.prog.godebug = none := by kernel_rfl
theorem door_met (os : Os) (args : Array Value) : laidMetH Tryz.prog Rows.wholeCodeRow.laid ((World.doorLaid Tryz.prog 400 os).forCall (fun _ _ => 0) ⟨#[], args, []⟩).memory :=
 laidMetH_of_parts3 (fuel := 8) (laidMet_of_run' 8 (by kernel_rfl) (by kernel_rfl)) (by kernel_rfl) (by kernel_rfl)
theorem lifted (os : Os) (started : os.Started) (H : Type) (enc : TypeId × Value → H) :
  ReturnsInHanded {} Tryz.checked os 3 .any (fun w args => (Rows.wholeCodeSpec.pre enc Tryz.prog Tryz.f3 [] false w args ∧ laidMetH Tryz.prog Rows.wholeCodeRow.laid w) ∧ sizedMet enc Tryz.prog Tryz.f3 (OpenSpec.ofChange Rows.wholeCodeSpec) false w args) (Rows.wholeCodeSpec.post enc Tryz.prog Tryz.f3 false true false false) := by
 refine returnsInHanded_of_change_and (C := Tryz.checked) (X := fun w _ => laidMetH Tryz.prog Rows.wholeCodeRow.laid w) (fun _ _ _ hh h => h.of_heap hh) own started (by kernel_rfl) Tryz.func3
  (ChangeSpec.witness_shaped (enc := enc) (C := Tryz.checked) (os := os) (X := fun w _ => laidMetH Tryz.prog Rows.wholeCodeRow.laid w) false (World.doorLaid Tryz.prog 400 os) #[.agg #[.slice none 0 0, .slice none 0 0, .slice none 0 0], .slice none 0 0] 8 rfl (World.shaped_of_RefB (by kernel_rfl) (by kernel_rfl)) (by kernel_rfl) (by kernel_rfl) (by kernel_rfl) (door_met os _)) ?_
 intro W base args ds gs before hval0 hW hcnd _ hL _
 have hval : ∀ (j : Nat) t v, Tryz.f3.params[j]? = some t → args[j]? = some v → Value.okWide Tryz.prog W .any base t v := hval0
 have hW1 := hW
 obtain ⟨p, q, hA0, hV, rfl, hfz, hnd⟩ := hW
 have hA : DataW.TrodAll enc Tryz.prog W 0 (fun _ => true) true Tryz.f3.params.toList args.toList ds p := hA0
 rw [Tryz.params3] at hA hval
 obtain ⟨v0, vs0, d0, ds0, p0, q0, hargs, rfl, rfl, h0, r0⟩ := trodAll_cons hA
 obtain ⟨v1, vs1, d1, ds1, p1, q1, rfl, rfl, rfl, h1, r1⟩ := trodAll_cons r0
 obtain ⟨rfl, rfl, rfl⟩ := trodAll_nil r1
 obtain rfl : args = #[v0, v1] := by cases args; simp_all
 obtain ⟨l0, fit0, rel0⟩ := arg_agg (d := 12) (ks := [.sl [.int .i64, .int .i64, .int .i64], .sl [.int .i64, .sl [.int .i64], .int .i64, .int .i64, .int .i64, .int .i64], .sl [.int .i64]]) (.inl ⟨_, Tryz.underlying26⟩) (by kernel_rfl) (hval 0 26 v0 rfl rfl) h0
 obtain ⟨a, l0, rfl, m_a, h_a, fit0_0⟩ := fit0.sl
 obtain ⟨b, l0, rfl, m_b, h_b, fit0_1⟩ := fit0_0.sl
 obtain ⟨o, l0, rfl, m_o, h_o, fit0_2⟩ := fit0_1.sl
 obtain rfl := fit0_2.nil
 obtain ⟨a1, fit1, rel1⟩ := arg_one (d := 12) (k := .sl [.sl [.int .i64]]) (by kernel_rfl) ⟨fun fs hfs => (by rw [Tryz.underlying27] at hfs; cases hfs), fun n e hfs => (by rw [Tryz.underlying27] at hfs; cases hfs)⟩ (hval 1 27 v1 rfl rfl) h1
 obtain ⟨l, rfl, m_l, h_l⟩ := fitC_sl fit1
 exact law_post (by kernel_rfl) (by kernel_rfl) (by kernel_rfl) Tryz.underlying4 rfl rfl hW1 (zjA (wc_law a b o l m_a h_a m_b h_b m_o h_o m_l h_l) (by intro g l h; simp only [gl, List.mem_cons, List.not_mem_nil, or_false, Prod.mk.injEq] at h; obtain ⟨rfl, rfl⟩ := h; exact (by exact zmL hL (by kernel_rfl) (List.Mem.head _) (show Tryz.prog.globalNamed "math/bits.deBruijn32tab" = some 0 by kernel_rfl) (show (Tryz.prog.globals[0]?).map (·.type) = some 154 by kernel_rfl) Tryz.underlying154 (by kernel_rfl) (by kernel_rfl) Tryz.underlying5 dbT (fun (k : Nat) => (k : Int)) rfl rfl (by decide))) rfl (zjK rel0 (zjK rel1 (relV_nil))))
theorem over : Rows.wholeCodeRow.holds Tryz.pinned (OpenSpec.ofChange Rows.wholeCodeSpec) :=
 OpenClaim.holds_of_wide 3 Tryz.f3 rfl rfl rfl rfl rfl rfl rfl ⟨rfl, rfl, rfl, rfl, rfl⟩ rfl rfl rfl rfl rfl (by kernel_rfl) Tryz.func3 (by kernel_rfl)
  (of_decide_eq_true (by kernel_rfl)) (by unfold Func.isWrapper; first | (rw [if_pos (by decide +kernel)]; kernel_rfl) | (rw [if_neg (by decide +kernel)]; exact ⟨rfl, rfl⟩))
  (fun os started H enc _ => lifted os started H enc)
theorem proved : Rows.WholeCodeCardSaid :=
 Claim7.holds_tied_plain_at Rows.wholeCodeCard.laidLooks [] Rows.wholeCodeCard.laidKinds Rows.wholeCodeCard.laidTests Rows.wholeCodeCard.stood.harness Rows.wholeCodeCard.stood.looks over (fun _ h => by cases h) (by kernel_rfl) (fun _ h => by cases h) wholeCode_row_tie rfl ⟨rfl, rfl⟩ (by kernel_rfl) rfl
  (fun f fn hf hfn => by
   obtain rfl : f = 3 := Option.some.inj ((show Tryz.prog.funcNamed "commutator/commutatortop.WholeCode" = some 3 by kernel_rfl).symm.trans hf) |>.symm
   obtain rfl : fn = Tryz.f3 := (Option.some.inj (Tryz.func3.symm.trans hfn)).symm
   exact ⟨by kernel_rfl, fun j t ht => by
    rw [Tryz.params3] at ht
    have hm : t ∈ [26, 27] := by simpa using Array.mem_of_getElem? ht
    have hall : ([26, 27].all fun u => !Tryz.prog.wantsStandIn u) = true := by kernel_rfl
    exact (show Tryz.prog.wantsStandIn t = false by simpa using List.all_eq_true.1 hall t hm)⟩)
  (by kernel_rfl)
end Go.Proofs.YtcpmeibfggoebaaGreatDoor.wholeCode
