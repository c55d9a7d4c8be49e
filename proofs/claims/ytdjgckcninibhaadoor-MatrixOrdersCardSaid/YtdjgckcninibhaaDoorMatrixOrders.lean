import Derived.Test.YtdjgckcninibhaaDoorRows
import Derived.Test.YtdjgckcninibhaaDoorCards
import Derived.Test.YtdjgckcninibhaaDoorTie
import Derived.SevenTiedAt
import Derived.Test.YtdjgckcninibhaaDoorL04ord
import Derived.Test.YtdjgckcninibhaaDoorU3
set_option linter.unusedSimpArgs false
set_option linter.unusedVariables false
set_option linter.deprecated false
set_option maxRecDepth 100000
set_option maxHeartbeats 2000000
namespace Go.Proofs.YtdjgckcninibhaaDoor.matrixOrders
open Go Go.Ax Go.ChangeShapes Go.WideShapes Go.ChangeAt Go.RowKit
theorem own : ownKnob Tryd.prog.godebug = none := by kernel_rfl
theorem door_met (os : Os) (args : Array Value) : laidMetH Tryd.prog Rows.matrixOrdersRow.laid ((World.doorLaid Tryd.prog 400 os).forCall (fun _ _ => 0) ⟨#[], args, []⟩).memory :=
  laidMetH_of_parts3 (fuel := 8) (laidMet_of_run' 8 (by kernel_rfl) (by kernel_rfl)) (by kernel_rfl) (by kernel_rfl)
theorem lifted (os : Os) (started : os.Started) (H : Type) (enc : TypeId × Value → H) :
    ReturnsInHanded {} Tryd.checked os 9 .any (fun w args => (Rows.matrixOrdersSpec.pre enc Tryd.prog Tryd.f9 [] false w args ∧ laidMetH Tryd.prog Rows.matrixOrdersRow.laid w) ∧ sizedMet enc Tryd.prog Tryd.f9 (OpenSpec.ofChange Rows.matrixOrdersSpec) false w args) (Rows.matrixOrdersSpec.post enc Tryd.prog Tryd.f9 false true false false) := by
  refine returnsInHanded_of_change_and (C := Tryd.checked) (X := fun w _ => laidMetH Tryd.prog Rows.matrixOrdersRow.laid w) (fun _ _ _ hh h => h.of_heap hh) own started (by kernel_rfl) Tryd.func9
    (ChangeSpec.witness_shaped (enc := enc) (C := Tryd.checked) (os := os) (X := fun w _ => laidMetH Tryd.prog Rows.matrixOrdersRow.laid w) false (World.doorLaid Tryd.prog 400 os) #[.slice none 0 0, .slice none 0 0, .slice none 0 0] 8 rfl (World.shaped_of_RefB (by kernel_rfl) (by kernel_rfl)) (by kernel_rfl) (by kernel_rfl) (by kernel_rfl) (door_met os _)) ?_
  intro W base args ds gs before hval0 hW hcnd _ hL _
  have hval : ∀ (j : Nat) t v, Tryd.f9.params[j]? = some t → args[j]? = some v → Value.okWide Tryd.prog W .any base t v := hval0
  have hW1 := hW
  obtain ⟨p, q, hA0, hV, rfl, hfz, hnd⟩ := hW
  have hA : DataW.TrodAll enc Tryd.prog W 0 (fun _ => true) true Tryd.f9.params.toList args.toList ds p := hA0
  rw [Tryd.params9] at hA hval
  obtain ⟨v0, vs0, d0, ds0, p0, q0, hargs, rfl, rfl, h0, r0⟩ := trodAll_cons hA
  obtain ⟨v1, vs1, d1, ds1, p1, q1, rfl, rfl, rfl, h1, r1⟩ := trodAll_cons r0
  obtain ⟨v2, vs2, d2, ds2, p2, q2, rfl, rfl, rfl, h2, r2⟩ := trodAll_cons r1
  obtain ⟨rfl, rfl, rfl⟩ := trodAll_nil r2
  obtain rfl : args = #[v0, v1, v2] := by cases args; simp_all
  obtain ⟨a0, fit0, rel0⟩ := arg_one (d := 12) (k := .sl [.sl [.bool, .sl [.int .u32], .int .i64]]) (by kernel_rfl) ⟨fun fs hfs => (by rw [Tryd.underlying22] at hfs; cases hfs), fun n e hfs => (by rw [Tryd.underlying22] at hfs; cases hfs)⟩ (hval 0 22 v0 rfl rfl) h0
  obtain ⟨a, rfl, m_a, h_a⟩ := fitC_sl fit0
  obtain ⟨a1, fit1, rel1⟩ := arg_one (d := 12) (k := .sl [.sl [.bool, .sl [.int .u32], .int .i64]]) (by kernel_rfl) ⟨fun fs hfs => (by rw [Tryd.underlying22] at hfs; cases hfs), fun n e hfs => (by rw [Tryd.underlying22] at hfs; cases hfs)⟩ (hval 1 22 v1 rfl rfl) h1
  obtain ⟨b, rfl, m_b, h_b⟩ := fitC_sl fit1
  obtain ⟨a2, fit2, rel2⟩ := arg_one (d := 12) (k := .sl [.sl [.bool, .sl [.int .u32], .int .i64]]) (by kernel_rfl) ⟨fun fs hfs => (by rw [Tryd.underlying22] at hfs; cases hfs), fun n e hfs => (by rw [Tryd.underlying22] at hfs; cases hfs)⟩ (hval 2 22 v2 rfl rfl) h2
  obtain ⟨c, rfl, m_c, h_c⟩ := fitC_sl fit2
  exact law_post (by kernel_rfl) (by kernel_rfl) (by kernel_rfl) Tryd.underlying4 rfl rfl hW1 (true_of_call (orders_law a b c m_a h_a m_b h_b m_c h_c) (by intro g l h; simp only [gl, List.mem_cons, List.not_mem_nil, or_false, Prod.mk.injEq] at h; rcases h with ⟨rfl, rfl⟩ | h; exact (by exact gh_of_laid hL (by kernel_rfl) (List.Mem.head _) (show Tryd.prog.globalNamed "math/bits.deBruijn32tab" = some 1 by kernel_rfl) (show (Tryd.prog.globals[1]?).map (·.type) = some 166 by kernel_rfl) Tryd.underlying166 (by kernel_rfl) (by kernel_rfl) Tryd.underlying5 dbT (fun (k : Nat) => (k : Int)) rfl rfl); obtain ⟨rfl, rfl⟩ := h; exact (by exact gh_of_laid hL (by kernel_rfl) (List.Mem.tail _ (List.Mem.tail _ (List.Mem.head _))) (show Tryd.prog.globalNamed "internal/strconv.uint64pow10" = some 3 by kernel_rfl) (show (Tryd.prog.globals[3]?).map (·.type) = some 180 by kernel_rfl) Tryd.underlying180 (by kernel_rfl) (by kernel_rfl) Tryd.underlying90 p10T (fun (k : Int) => k) rfl rfl)) rfl (relV_cons rel0 (relV_cons rel1 (relV_cons rel2 (relV_nil)))))
theorem over : Rows.matrixOrdersRow.holds Tryd.pinned (OpenSpec.ofChange Rows.matrixOrdersSpec) :=
  OpenClaim.holds_of_wide 9 Tryd.f9 rfl rfl rfl rfl rfl rfl rfl ⟨rfl, rfl, rfl, rfl, rfl⟩ rfl rfl rfl rfl rfl (by kernel_rfl) Tryd.func9 (by kernel_rfl)
    (of_decide_eq_true (by kernel_rfl)) (by unfold Func.isWrapper; first | (rw [if_pos (by decide +kernel)]; kernel_rfl) | (rw [if_neg (by decide +kernel)]; exact ⟨rfl, rfl⟩))
    (fun os started H enc _ => lifted os started H enc)

theorem proved : Rows.MatrixOrdersCardSaid :=
  Claim7.holds_tied_plain_at Rows.matrixOrdersCard.laidLooks [] Rows.matrixOrdersCard.laidKinds Rows.matrixOrdersCard.laidTests Rows.matrixOrdersCard.stood.harness Rows.matrixOrdersCard.stood.looks over (fun _ h => by cases h) (by kernel_rfl) (fun _ h => by cases h) matrixOrders_row_tie rfl ⟨rfl, rfl⟩ (by kernel_rfl) rfl
    (fun f fn hf hfn => by
      obtain rfl : f = 9 := Option.some.inj ((show Tryd.prog.funcNamed "commutator/commutatorlaw04.MatrixOrders" = some 9 by kernel_rfl).symm.trans hf) |>.symm
      obtain rfl : fn = Tryd.f9 := (Option.some.inj (Tryd.func9.symm.trans hfn)).symm
      exact ⟨by kernel_rfl, fun j t ht => by
        rw [Tryd.params9] at ht
        have hm : t ∈ [22, 22, 22] := by simpa using Array.mem_of_getElem? ht
        have hall : ([22, 22, 22].all fun u => !Tryd.prog.wantsStandIn u) = true := by kernel_rfl
        exact (show Tryd.prog.wantsStandIn t = false by simpa using List.all_eq_true.1 hall t hm)⟩)
    (by kernel_rfl)
end Go.Proofs.YtdjgckcninibhaaDoor.matrixOrders
