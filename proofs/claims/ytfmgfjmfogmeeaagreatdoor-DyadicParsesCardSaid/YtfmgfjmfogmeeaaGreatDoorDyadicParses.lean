import Derived.Test.YtfmgfjmfogmeeaaGreatDoorRows
import Derived.Test.YtfmgfjmfogmeeaaGreatDoorCards
import Derived.Test.YtfmgfjmfogmeeaaGreatDoorTie
import Derived.SevenTiedAt
import Derived.Test.YtfmgfjmfogmeeaaGreatDoorL02Parses
import Derived.Test.YtfmgfjmfogmeeaaGreatDoorU3
import Derived.Test.YtfmgfjmfogmeeaaGreatDoorU4
import Derived.Lay
set_option linter.unusedSimpArgs false
set_option linter.unusedVariables false
set_option linter.deprecated false
set_option maxRecDepth 100000
set_option maxHeartbeats 2000000
namespace Go.Proofs.YtfmgfjmfogmeeaaGreatDoor.dyadicParses
open Go Go.Ax Go.ChangeShapes Go.WideShapes Go.ChangeAt Go.RowKit
theorem own : ownKnob Tryz.prog.godebug = none := by kernel_rfl
theorem door_met (os : Os) (args : Array Value) : laidMetH Tryz.prog Rows.dyadicParsesRow.laid ((World.laidAll Tryz.prog os Rows.dyadicParsesRow.laid).forCall (fun _ _ => 0) ⟨#[], args, []⟩).memory :=
  by rw [MakeChecks.laidMetH_plain _ _ _ (by kernel_rfl)]; exact laidMet_laidAll args (by kernel_rfl) (by kernel_rfl)
theorem lifted (os : Os) (started : os.Started) (H : Type) (enc : TypeId × Value → H) :
    ReturnsInHanded {} Tryz.checked os 4 .any (fun w args => (Rows.dyadicParsesSpec.pre enc Tryz.prog Tryz.f4 [] false w args ∧ laidMetH Tryz.prog Rows.dyadicParsesRow.laid w) ∧ sizedMet enc Tryz.prog Tryz.f4 (OpenSpec.ofChange Rows.dyadicParsesSpec) false w args) (Rows.dyadicParsesSpec.post enc Tryz.prog Tryz.f4 false true false false) := by
  refine handed_both (C := Tryz.checked) (X := fun w _ => laidMetH Tryz.prog Rows.dyadicParsesRow.laid w) (fun _ _ _ hh h => h.of_heap hh) own started (by kernel_rfl) Tryz.func4
    (ChangeSpec.witness_shaped (enc := enc) (C := Tryz.checked) (os := os) (X := fun w _ => laidMetH Tryz.prog Rows.dyadicParsesRow.laid w) false (World.laidAll Tryz.prog os Rows.dyadicParsesRow.laid) #[.string ⟨#[]⟩] 8 (World.laidAll_os _ _ _) (World.shaped_of_ZipB (by kernel_rfl) (by kernel_rfl)) (by kernel_rfl) (by kernel_rfl) (by kernel_rfl) (door_met os _)) ?_
  intro W base args ds gs before hsh hL hval0 hW hcnd
  have hval : ∀ (j : Nat) t v, Tryz.f4.params[j]? = some t → args[j]? = some v → Value.okWide Tryz.prog W .any base t v := hval0
  have hW1 := hW
  obtain ⟨p, q, hA0, hV, rfl, hfz, hnd⟩ := hW
  have hA : DataW.TrodAll enc Tryz.prog W 0 (fun _ => true) true Tryz.f4.params.toList args.toList ds p := hA0
  rw [Tryz.params4] at hA hval
  obtain ⟨v0, vs0, d0, ds0, p0, q0, hargs, rfl, rfl, h0, r0⟩ := trodAll_cons hA
  obtain ⟨rfl, rfl, rfl⟩ := trodAll_nil r0
  obtain rfl : args = #[v0] := by cases args; simp_all
  obtain ⟨a0, fit0, rel0⟩ := arg_one (d := 12) (k := .str) (by kernel_rfl) ⟨fun fs hfs => (by rw [Tryz.underlying9] at hfs; cases hfs), fun n e hfs => (by rw [Tryz.underlying9] at hfs; cases hfs)⟩ (hval 0 9 v0 rfl rfl) h0
  obtain ⟨s, rfl, h_s⟩ := fitC_str fit0
  exact law_post (by kernel_rfl) (by kernel_rfl) (by kernel_rfl) Tryz.underlying4 rfl rfl hW1 (true_of_call (parses_law s h_s) (by intro g l h; simp only [gl, List.mem_cons, List.not_mem_nil, or_false, Prod.mk.injEq] at h; rcases h with ⟨rfl, rfl⟩ | h; exact (by obtain ⟨m, hm⟩ := laysM145.s1_3 W hsh; exact gh_of_int hm); rcases h with ⟨rfl, rfl⟩ | h; exact (by exact gh_of_err hL (by kernel_rfl) (List.Mem.tail _ (List.Mem.tail _ (List.Mem.tail _ (List.Mem.tail _ (List.Mem.tail _ (List.Mem.head _)))))) (show Tryz.prog.globalNamed "strconv.ErrSyntax" = some 2 by kernel_rfl) (by decide) (show (Tryz.prog.globals[2]?).map (·.type) = some 29 by kernel_rfl) Tryz.underlying29); rcases h with ⟨rfl, rfl⟩ | h; exact (by exact gh_of_err hL (by kernel_rfl) (List.Mem.tail _ (List.Mem.tail _ (List.Mem.tail _ (List.Mem.tail _ (List.Mem.head _))))) (show Tryz.prog.globalNamed "strconv.ErrRange" = some 3 by kernel_rfl) (by decide) (show (Tryz.prog.globals[3]?).map (·.type) = some 29 by kernel_rfl) Tryz.underlying29); rcases h with ⟨rfl, rfl⟩ | h; exact (by exact gh_of_laid hL (by kernel_rfl) (List.Mem.head _) (show Tryz.prog.globalNamed "math/bits.deBruijn32tab" = some 4 by kernel_rfl) (show (Tryz.prog.globals[4]?).map (·.type) = some 231 by kernel_rfl) Tryz.underlying231 (by kernel_rfl) (by kernel_rfl) Tryz.underlying5 dbT (fun (k : Nat) => (k : Int)) rfl rfl (by decide)); obtain ⟨rfl, rfl⟩ := h; exact (by exact gh_of_laid hL (by kernel_rfl) (List.Mem.tail _ (List.Mem.tail _ (List.Mem.head _))) (show Tryz.prog.globalNamed "internal/strconv.uint64pow10" = some 5 by kernel_rfl) (show (Tryz.prog.globals[5]?).map (·.type) = some 241 by kernel_rfl) Tryz.underlying241 (by kernel_rfl) (by kernel_rfl) Tryz.underlying124 p10T (fun (k : Int) => k) rfl rfl (by decide))) rfl (relV_cons rel0 (relV_nil)))
theorem over : Rows.dyadicParsesRow.holds Tryz.pinned (OpenSpec.ofChange Rows.dyadicParsesSpec) :=
  OpenClaim.holds_of_wide 4 Tryz.f4 rfl rfl rfl rfl rfl rfl rfl ⟨rfl, rfl, rfl, rfl, rfl⟩ rfl rfl rfl rfl rfl (by kernel_rfl) Tryz.func4 (by kernel_rfl)
    (of_decide_eq_true (by kernel_rfl)) (by unfold Func.isWrapper; first | (rw [if_pos (by decide +kernel)]; kernel_rfl) | (rw [if_neg (by decide +kernel)]; exact ⟨rfl, rfl⟩))
    (fun os started H enc _ => lifted os started H enc)
theorem proved : Rows.DyadicParsesCardSaid :=
  Claim7.holds_tied_plain_at Rows.dyadicParsesCard.laidLooks [] Rows.dyadicParsesCard.laidKinds Rows.dyadicParsesCard.laidTests Rows.dyadicParsesCard.stood.harness Rows.dyadicParsesCard.stood.looks over (fun _ h => by cases h) (by kernel_rfl) (fun _ h => by cases h) dyadicParses_row_tie rfl ⟨rfl, rfl⟩ (by kernel_rfl) rfl
    (fun f fn hf hfn => by
      obtain rfl : f = 4 := Option.some.inj ((show Tryz.prog.funcNamed "commutator/commutatorlaw02.DyadicParses" = some 4 by kernel_rfl).symm.trans hf) |>.symm
      obtain rfl : fn = Tryz.f4 := (Option.some.inj (Tryz.func4.symm.trans hfn)).symm
      exact ⟨by kernel_rfl, fun j t ht => by
        rw [Tryz.params4] at ht
        have hm : t ∈ [9] := by simpa using Array.mem_of_getElem? ht
        have hall : ([9].all fun u => !Tryz.prog.wantsStandIn u) = true := by kernel_rfl
        exact (show Tryz.prog.wantsStandIn t = false by simpa using List.all_eq_true.1 hall t hm)⟩)
    (by kernel_rfl)
end Go.Proofs.YtfmgfjmfogmeeaaGreatDoor.dyadicParses
