import Derived.Test.YtkdpaoicekgalaaGreatDoorRows
import Derived.Test.YtkdpaoicekgalaaGreatDoorCards
import Derived.Test.YtkdpaoicekgalaaGreatDoorTie
import Derived.SevenTiedAt
import Derived.Test.YtkdpaoicekgalaaGreatDoorL03valid
import Derived.Test.YtkdpaoicekgalaaGreatDoorU3
set_option linter.unusedSimpArgs false
set_option linter.unusedVariables false
set_option linter.deprecated false
set_option maxRecDepth 100000
set_option maxHeartbeats 2000000
namespace Go.Proofs.YtkdpaoicekgalaaGreatDoor.intervalValid
open Go Go.Ax Go.ChangeShapes Go.WideShapes Go.ChangeAt Go.RowKit
theorem own : ownKnob Tryz.prog.godebug = none := by kernel_rfl
theorem door_met (os : Os) (args : Array Value) : laidMetH Tryz.prog Rows.intervalValidRow.laid ((World.doorLaid Tryz.prog 400 os).forCall (fun _ _ => 0) ⟨#[], args, []⟩).memory :=
  laidMetH_of_parts3 (fuel := 8) (laidMet_of_run' 8 (by kernel_rfl) (by kernel_rfl)) (by kernel_rfl) (by kernel_rfl)
theorem lifted (os : Os) (started : os.Started) (H : Type) (enc : TypeId × Value → H) :
    ReturnsInHanded {} Tryz.checked os 7 .any (fun w args => (Rows.intervalValidSpec.pre enc Tryz.prog Tryz.f7 [] false w args ∧ laidMetH Tryz.prog Rows.intervalValidRow.laid w) ∧ sizedMet enc Tryz.prog Tryz.f7 (OpenSpec.ofChange Rows.intervalValidSpec) false w args) (Rows.intervalValidSpec.post enc Tryz.prog Tryz.f7 false true false false) := by
  refine returnsInHanded_of_change_and (C := Tryz.checked) (X := fun w _ => laidMetH Tryz.prog Rows.intervalValidRow.laid w) (fun _ _ _ hh h => h.of_heap hh) own started (by kernel_rfl) Tryz.func7
    (ChangeSpec.witness_shaped (enc := enc) (C := Tryz.checked) (os := os) (X := fun w _ => laidMetH Tryz.prog Rows.intervalValidRow.laid w) false (World.doorLaid Tryz.prog 400 os) #[.agg #[.bool false, .slice none 0 0, .int .i64 0, .bool false, .slice none 0 0, .int .i64 0], .agg #[.bool false, .slice none 0 0, .int .i64 0, .bool false, .slice none 0 0, .int .i64 0]] 8 rfl (World.shaped_of_RefB (by kernel_rfl) (by kernel_rfl)) (by kernel_rfl) (by kernel_rfl) (by kernel_rfl) (door_met os _)) ?_
  intro W base args ds gs before hval0 hW hcnd _ hL _
  have hval : ∀ (j : Nat) t v, Tryz.f7.params[j]? = some t → args[j]? = some v → Value.okWide Tryz.prog W .any base t v := hval0
  have hW1 := hW
  obtain ⟨p, q, hA0, hV, rfl, hfz, hnd⟩ := hW
  have hA : DataW.TrodAll enc Tryz.prog W 0 (fun _ => true) true Tryz.f7.params.toList args.toList ds p := hA0
  rw [Tryz.params7] at hA hval
  obtain ⟨v0, vs0, d0, ds0, p0, q0, hargs, rfl, rfl, h0, r0⟩ := trodAll_cons hA
  obtain ⟨v1, vs1, d1, ds1, p1, q1, rfl, rfl, rfl, h1, r1⟩ := trodAll_cons r0
  obtain ⟨rfl, rfl, rfl⟩ := trodAll_nil r1
  obtain rfl : args = #[v0, v1] := by cases args; simp_all
  obtain ⟨l0, fit0, rel0⟩ := arg_agg (d := 12) (ks := [.bool, .sl [.int .u32], .int .i64, .bool, .sl [.int .u32], .int .i64]) (.inl ⟨_, Tryz.underlying29⟩) (by kernel_rfl) (hval 0 29 v0 rfl rfl) h0
  obtain ⟨s1, l0, rfl, fit0_0⟩ := fit0.bool
  obtain ⟨w1, l0, rfl, m_w1, h_w1, fit0_1⟩ := fit0_0.sl
  obtain ⟨d1, l0, rfl, h_d1, fit0_2⟩ := fit0_1.i64
  obtain ⟨t1, l0, rfl, fit0_3⟩ := fit0_2.bool
  obtain ⟨u1, l0, rfl, m_u1, h_u1, fit0_4⟩ := fit0_3.sl
  obtain ⟨e1, l0, rfl, h_e1, fit0_5⟩ := fit0_4.i64
  obtain rfl := fit0_5.nil
  obtain ⟨l1, fit1, rel1⟩ := arg_agg (d := 12) (ks := [.bool, .sl [.int .u32], .int .i64, .bool, .sl [.int .u32], .int .i64]) (.inl ⟨_, Tryz.underlying29⟩) (by kernel_rfl) (hval 1 29 v1 rfl rfl) h1
  obtain ⟨s2, l1, rfl, fit1_0⟩ := fit1.bool
  obtain ⟨w2, l1, rfl, m_w2, h_w2, fit1_1⟩ := fit1_0.sl
  obtain ⟨d2, l1, rfl, h_d2, fit1_2⟩ := fit1_1.i64
  obtain ⟨t2, l1, rfl, fit1_3⟩ := fit1_2.bool
  obtain ⟨u2, l1, rfl, m_u2, h_u2, fit1_4⟩ := fit1_3.sl
  obtain ⟨e2, l1, rfl, h_e2, fit1_5⟩ := fit1_4.i64
  obtain rfl := fit1_5.nil
  exact law_post (by kernel_rfl) (by kernel_rfl) (by kernel_rfl) Tryz.underlying4 rfl rfl hW1 (true_of_call (valid_law s1 w1 d1 t1 u1 e1 s2 w2 d2 t2 u2 e2 m_w1 h_w1 m_u1 h_u1 m_w2 h_w2 m_u2 h_u2) (by intro g l h; simp only [gl, List.mem_cons, List.not_mem_nil, or_false, Prod.mk.injEq] at h; rcases h with ⟨rfl, rfl⟩ | h; exact (by exact gh_of_laid hL (by kernel_rfl) (List.Mem.head _) (show Tryz.prog.globalNamed "math/bits.deBruijn32tab" = some 0 by kernel_rfl) (show (Tryz.prog.globals[0]?).map (·.type) = some 159 by kernel_rfl) Tryz.underlying159 (by kernel_rfl) (by kernel_rfl) Tryz.underlying5 dbT (fun (k : Nat) => (k : Int)) rfl rfl); obtain ⟨rfl, rfl⟩ := h; exact (by exact gh_of_laid hL (by kernel_rfl) (List.Mem.tail _ (List.Mem.tail _ (List.Mem.head _))) (show Tryz.prog.globalNamed "internal/strconv.uint64pow10" = some 2 by kernel_rfl) (show (Tryz.prog.globals[2]?).map (·.type) = some 182 by kernel_rfl) Tryz.underlying182 (by kernel_rfl) (by kernel_rfl) Tryz.underlying115 p10T (fun (k : Int) => k) rfl rfl)) rfl (relV_cons rel0 (relV_cons rel1 (relV_nil))))
theorem over : Rows.intervalValidRow.holds Tryz.pinned (OpenSpec.ofChange Rows.intervalValidSpec) :=
  OpenClaim.holds_of_wide 7 Tryz.f7 rfl rfl rfl rfl rfl rfl rfl ⟨rfl, rfl, rfl, rfl, rfl⟩ rfl rfl rfl rfl rfl (by kernel_rfl) Tryz.func7 (by kernel_rfl)
    (of_decide_eq_true (by kernel_rfl)) (by unfold Func.isWrapper; first | (rw [if_pos (by decide +kernel)]; kernel_rfl) | (rw [if_neg (by decide +kernel)]; exact ⟨rfl, rfl⟩))
    (fun os started H enc _ => lifted os started H enc)

theorem proved : Rows.IntervalValidCardSaid :=
  Claim7.holds_tied_plain_at Rows.intervalValidCard.laidLooks [] Rows.intervalValidCard.laidKinds Rows.intervalValidCard.laidTests Rows.intervalValidCard.stood.harness Rows.intervalValidCard.stood.looks over (fun _ h => by cases h) (by kernel_rfl) (fun _ h => by cases h) intervalValid_row_tie rfl ⟨rfl, rfl⟩ (by kernel_rfl) rfl
    (fun f fn hf hfn => by
      obtain rfl : f = 7 := Option.some.inj ((show Tryz.prog.funcNamed "commutator/commutatorlaw03.IntervalValid" = some 7 by kernel_rfl).symm.trans hf) |>.symm
      obtain rfl : fn = Tryz.f7 := (Option.some.inj (Tryz.func7.symm.trans hfn)).symm
      exact ⟨by kernel_rfl, fun j t ht => by
        rw [Tryz.params7] at ht
        have hm : t ∈ [29, 29] := by simpa using Array.mem_of_getElem? ht
        have hall : ([29, 29].all fun u => !Tryz.prog.wantsStandIn u) = true := by kernel_rfl
        exact (show Tryz.prog.wantsStandIn t = false by simpa using List.all_eq_true.1 hall t hm)⟩)
    (by kernel_rfl)
end Go.Proofs.YtkdpaoicekgalaaGreatDoor.intervalValid
