import Derived.Test.YtkdpaoicekgalaaGreatDoorRows
import Derived.Test.YtkdpaoicekgalaaGreatDoorCards
import Derived.Test.YtkdpaoicekgalaaGreatDoorTie
import Derived.SevenTiedAt
import Derived.Test.YtkdpaoicekgalaaGreatDoorL49ints
import Derived.Test.YtkdpaoicekgalaaGreatDoorU3
set_option linter.unusedSimpArgs false
set_option linter.unusedVariables false
set_option linter.deprecated false
set_option maxRecDepth 100000
set_option maxHeartbeats 2000000
namespace Go.Proofs.YtkdpaoicekgalaaGreatDoor.identifyIntervals
open Go Go.Ax Go.ChangeShapes Go.WideShapes Go.ChangeAt Go.RowKit
theorem own : ownKnob Tryz.prog.godebug = none := by kernel_rfl
theorem door_met (os : Os) (args : Array Value) : laidMetH Tryz.prog Rows.identifyIntervalsRow.laid ((World.doorLaid Tryz.prog 400 os).forCall (fun _ _ => 0) ⟨#[], args, []⟩).memory :=
  laidMetH_of_parts3 (fuel := 8) (laidMet_of_run' 8 (by kernel_rfl) (by kernel_rfl)) (by kernel_rfl) (by kernel_rfl)
theorem lifted (os : Os) (started : os.Started) (H : Type) (enc : TypeId × Value → H) :
    ReturnsInHanded {} Tryz.checked os 9 .any (fun w args => (Rows.identifyIntervalsSpec.pre enc Tryz.prog Tryz.f9 [] false w args ∧ laidMetH Tryz.prog Rows.identifyIntervalsRow.laid w) ∧ sizedMet enc Tryz.prog Tryz.f9 (OpenSpec.ofChange Rows.identifyIntervalsSpec) false w args) (Rows.identifyIntervalsSpec.post enc Tryz.prog Tryz.f9 false true false false) := by
  refine returnsInHanded_of_change_and (C := Tryz.checked) (X := fun w _ => laidMetH Tryz.prog Rows.identifyIntervalsRow.laid w) (fun _ _ _ hh h => h.of_heap hh) own started (by kernel_rfl) Tryz.func9
    (ChangeSpec.witness_shaped (enc := enc) (C := Tryz.checked) (os := os) (X := fun w _ => laidMetH Tryz.prog Rows.identifyIntervalsRow.laid w) false (World.doorLaid Tryz.prog 400 os) #[.slice none 0 0, .int .i64 0] 8 rfl (World.shaped_of_RefB (by kernel_rfl) (by kernel_rfl)) (by kernel_rfl) (by kernel_rfl) (by kernel_rfl) (door_met os _)) ?_
  intro W base args ds gs before hval0 hW hcnd _ hL _
  have hval : ∀ (j : Nat) t v, Tryz.f9.params[j]? = some t → args[j]? = some v → Value.okWide Tryz.prog W .any base t v := hval0
  have hW1 := hW
  obtain ⟨p, q, hA0, hV, rfl, hfz, hnd⟩ := hW
  have hA : DataW.TrodAll enc Tryz.prog W 0 (fun _ => true) true Tryz.f9.params.toList args.toList ds p := hA0
  rw [Tryz.params9] at hA hval
  obtain ⟨v0, vs0, d0, ds0, p0, q0, hargs, rfl, rfl, h0, r0⟩ := trodAll_cons hA
  obtain ⟨v1, vs1, d1, ds1, p1, q1, rfl, rfl, rfl, h1, r1⟩ := trodAll_cons r0
  obtain ⟨rfl, rfl, rfl⟩ := trodAll_nil r1
  obtain rfl : args = #[v0, v1] := by cases args; simp_all
  obtain ⟨a0, fit0, rel0⟩ := arg_one (d := 12) (k := .sl [.int .i64, .int .i64]) (by kernel_rfl) ⟨fun fs hfs => (by rw [Tryz.underlying67] at hfs; cases hfs), fun n e hfs => (by rw [Tryz.underlying67] at hfs; cases hfs)⟩ (hval 0 67 v0 rfl rfl) h0
  obtain ⟨r, rfl, m_r, h_r⟩ := fitC_sl fit0
  obtain ⟨a1, fit1, rel1⟩ := arg_one (d := 12) (k := .int .i64) (by kernel_rfl) ⟨fun fs hfs => (by rw [Tryz.underlying3] at hfs; cases hfs), fun n e hfs => (by rw [Tryz.underlying3] at hfs; cases hfs)⟩ (hval 1 3 v1 rfl rfl) h1
  obtain ⟨n, rfl, h_n⟩ := fitC_int fit1
  exact law_post (by kernel_rfl) (by kernel_rfl) (by kernel_rfl) Tryz.underlying4 rfl rfl hW1 (true_of_call (ints_law r n m_r h_r) (by intro g l h; simp only [gl, List.mem_cons, List.not_mem_nil, or_false, Prod.mk.injEq] at h; rcases h with ⟨rfl, rfl⟩ | h; exact (by exact gh_of_laid hL (by kernel_rfl) (List.Mem.head _) (show Tryz.prog.globalNamed "math/bits.deBruijn32tab" = some 0 by kernel_rfl) (show (Tryz.prog.globals[0]?).map (·.type) = some 159 by kernel_rfl) Tryz.underlying159 (by kernel_rfl) (by kernel_rfl) Tryz.underlying5 dbT (fun (k : Nat) => (k : Int)) rfl rfl); obtain ⟨rfl, rfl⟩ := h; exact (by exact gh_of_laid hL (by kernel_rfl) (List.Mem.tail _ (List.Mem.tail _ (List.Mem.head _))) (show Tryz.prog.globalNamed "internal/strconv.uint64pow10" = some 2 by kernel_rfl) (show (Tryz.prog.globals[2]?).map (·.type) = some 182 by kernel_rfl) Tryz.underlying182 (by kernel_rfl) (by kernel_rfl) Tryz.underlying115 p10T (fun (k : Int) => k) rfl rfl)) rfl (relV_cons rel0 (relV_cons rel1 (relV_nil))))
theorem over : Rows.identifyIntervalsRow.holds Tryz.pinned (OpenSpec.ofChange Rows.identifyIntervalsSpec) :=
  OpenClaim.holds_of_wide 9 Tryz.f9 rfl rfl rfl rfl rfl rfl rfl ⟨rfl, rfl, rfl, rfl, rfl⟩ rfl rfl rfl rfl rfl (by kernel_rfl) Tryz.func9 (by kernel_rfl)
    (of_decide_eq_true (by kernel_rfl)) (by unfold Func.isWrapper; first | (rw [if_pos (by decide +kernel)]; kernel_rfl) | (rw [if_neg (by decide +kernel)]; exact ⟨rfl, rfl⟩))
    (fun os started H enc _ => lifted os started H enc)

theorem proved : Rows.IdentifyIntervalsCardSaid :=
  Claim7.holds_tied_plain_at Rows.identifyIntervalsCard.laidLooks [] Rows.identifyIntervalsCard.laidKinds Rows.identifyIntervalsCard.laidTests Rows.identifyIntervalsCard.stood.harness Rows.identifyIntervalsCard.stood.looks over (fun _ h => by cases h) (by kernel_rfl) (fun _ h => by cases h) identifyIntervals_row_tie rfl ⟨rfl, rfl⟩ (by kernel_rfl) rfl
    (fun f fn hf hfn => by
      obtain rfl : f = 9 := Option.some.inj ((show Tryz.prog.funcNamed "commutator/commutatorlaw49.IdentifyIntervals" = some 9 by kernel_rfl).symm.trans hf) |>.symm
      obtain rfl : fn = Tryz.f9 := (Option.some.inj (Tryz.func9.symm.trans hfn)).symm
      exact ⟨by kernel_rfl, fun j t ht => by
        rw [Tryz.params9] at ht
        have hm : t ∈ [67, 3] := by simpa using Array.mem_of_getElem? ht
        have hall : ([67, 3].all fun u => !Tryz.prog.wantsStandIn u) = true := by kernel_rfl
        exact (show Tryz.prog.wantsStandIn t = false by simpa using List.all_eq_true.1 hall t hm)⟩)
    (by kernel_rfl)
end Go.Proofs.YtkdpaoicekgalaaGreatDoor.identifyIntervals
