import Derived.Test.YtpggiabnhodjpaaGreatDoorRows
import Derived.Test.YtpggiabnhodjpaaGreatDoorCards
import Derived.Test.YtpggiabnhodjpaaGreatDoorTie
import Derived.SevenTiedAt
import Derived.Test.YtpggiabnhodjpaaGreatDoorLk39w
import Derived.Test.YtpggiabnhodjpaaGreatDoorU3
set_option linter.unusedSimpArgs false
set_option linter.unusedVariables false
set_option linter.deprecated false
set_option maxRecDepth 100000
set_option maxHeartbeats 2000000
namespace Go.Proofs.YtpggiabnhodjpaaGreatDoor.observerLocks
open Go Go.Ax Go.ChangeShapes Go.WideShapes Go.ChangeAt Go.RowKit
theorem own : ownKnob Tryz.prog.godebug = none := by kernel_rfl
theorem door_met (os : Os) (args : Array Value) : laidMetH Tryz.prog Rows.observerLocksRow.laid ((World.doorLaid Tryz.prog 400 os).forCall (fun _ _ => 0) ⟨#[], args, []⟩).memory :=
  laidMetH_of_parts3 (fuel := 8) (laidMet_of_run' 8 (by kernel_rfl) (by kernel_rfl)) (by kernel_rfl) (by kernel_rfl)
theorem lifted (os : Os) (started : os.Started) (H : Type) (enc : TypeId × Value → H) :
    ReturnsInHanded {} Tryz.checked os 9 .any (fun w args => (Rows.observerLocksSpec.pre enc Tryz.prog Tryz.f9 [] false w args ∧ laidMetH Tryz.prog Rows.observerLocksRow.laid w) ∧ sizedMet enc Tryz.prog Tryz.f9 (OpenSpec.ofChange Rows.observerLocksSpec) false w args) (Rows.observerLocksSpec.post enc Tryz.prog Tryz.f9 false true false false) := by
  refine returnsInHanded_of_change_and (C := Tryz.checked) (X := fun w _ => laidMetH Tryz.prog Rows.observerLocksRow.laid w) (fun _ _ _ hh h => h.of_heap hh) own started (by kernel_rfl) Tryz.func9
    (ChangeSpec.witness_shaped (enc := enc) (C := Tryz.checked) (os := os) (X := fun w _ => laidMetH Tryz.prog Rows.observerLocksRow.laid w) false (World.doorLaid Tryz.prog 400 os) #[.agg #[.int .i64 0, .int .i64 0, .int .i64 0, .int .i64 0, .int .i64 0], .agg #[.int .u8 0, .int .u8 0], .agg #[.int .i64 0, .int .i64 0, .slice none 0 0, .slice none 0 0]] 8 rfl (World.shaped_of_RefB (by kernel_rfl) (by kernel_rfl)) (by kernel_rfl) (by kernel_rfl) (by kernel_rfl) (door_met os _)) ?_
  intro W base args ds gs before hval0 hW hcnd _ hL _
  have hval : ∀ (j : Nat) t v, Tryz.f9.params[j]? = some t → args[j]? = some v → Value.okWide Tryz.prog W .any base t v := hval0
  have hW1 := hW
  obtain ⟨p, q, hA0, hV, rfl, hfz, hnd⟩ := hW
  have hA : DataW.TrodAll enc Tryz.prog W 0 (fun _ => true) true Tryz.f9.params.toList args.toList ds p := hA0
  rw [Tryz.params9] at hA hval
  obtain ⟨v0, vs0, d0, ds0, p0, q0, hargs, rfl, rfl, h0, r0⟩ := trodAll_cons hA
  obtain ⟨v1, vs1, d1, ds1, p1, q1, rfl, rfl, rfl, h1, r1⟩ := trodAll_cons r0
  obtain ⟨v2, vs2, d2, ds2, p2, q2, rfl, rfl, rfl, h2, r2⟩ := trodAll_cons r1
  obtain ⟨rfl, rfl, rfl⟩ := trodAll_nil r2
  obtain rfl : args = #[v0, v1, v2] := by cases args; simp_all
  obtain ⟨l0, fit0, rel0⟩ := arg_agg (d := 12) (ks := [.int .i64, .int .i64, .int .i64, .int .i64, .int .i64]) (.inl ⟨_, Tryz.underlying97⟩) (by kernel_rfl) (hval 0 97 v0 rfl rfl) h0
  obtain ⟨R, l0, rfl, h_R, fit0_0⟩ := fit0.i64
  obtain ⟨L, l0, rfl, h_L, fit0_1⟩ := fit0_0.i64
  obtain ⟨lk, l0, rfl, h_lk, fit0_2⟩ := fit0_1.i64
  obtain ⟨kp, l0, rfl, h_kp, fit0_3⟩ := fit0_2.i64
  obtain ⟨ki, l0, rfl, h_ki, fit0_4⟩ := fit0_3.i64
  obtain rfl := fit0_4.nil
  obtain ⟨l1, fit1, rel1⟩ := arg_agg (d := 12) (ks := [.int .u8, .int .u8]) (.inr ⟨_, _, Tryz.underlying98⟩) (by kernel_rfl) (hval 1 98 v1 rfl rfl) h1
  obtain ⟨nz, l1, rfl, h_nz, fit1_0⟩ := fit1.int
  obtain ⟨ac, l1, rfl, h_ac, fit1_1⟩ := fit1_0.int
  obtain rfl := fit1_1.nil
  obtain ⟨l2, fit2, rel2⟩ := arg_agg (d := 12) (ks := [.int .i64, .int .i64, .sl [.int .i8], .sl [.int .i8]]) (.inl ⟨_, Tryz.underlying100⟩) (by kernel_rfl) (hval 2 100 v2 rfl rfl) h2
  obtain ⟨an, l2, rfl, h_an, fit2_0⟩ := fit2.i64
  obtain ⟨sp, l2, rfl, h_sp, fit2_1⟩ := fit2_0.i64
  obtain ⟨al, l2, rfl, m_al, h_al, fit2_2⟩ := fit2_1.sl
  obtain ⟨el, l2, rfl, m_el, h_el, fit2_3⟩ := fit2_2.sl
  obtain rfl := fit2_3.nil
  exact law_post (by kernel_rfl) (by kernel_rfl) (by kernel_rfl) Tryz.underlying4 rfl rfl hW1 (true_of_call (locks39 R L lk kp ki nz ac an sp al el h_nz h_ac m_al h_al m_el h_el) (by intro g l h; simp only [gl, List.mem_cons, List.not_mem_nil, or_false, Prod.mk.injEq] at h; obtain ⟨rfl, rfl⟩ := h; exact (by exact gh_of_laid hL (by kernel_rfl) (List.Mem.head _) (show Tryz.prog.globalNamed "math/bits.deBruijn32tab" = some 0 by kernel_rfl) (show (Tryz.prog.globals[0]?).map (·.type) = some 225 by kernel_rfl) Tryz.underlying225 (by kernel_rfl) (by kernel_rfl) Tryz.underlying5 dbT (fun (k : Nat) => (k : Int)) rfl rfl)) rfl (relV_cons rel0 (relV_cons rel1 (relV_cons rel2 (relV_nil)))))
theorem over : Rows.observerLocksRow.holds Tryz.pinned (OpenSpec.ofChange Rows.observerLocksSpec) :=
  OpenClaim.holds_of_wide 9 Tryz.f9 rfl rfl rfl rfl rfl rfl rfl ⟨rfl, rfl, rfl, rfl, rfl⟩ rfl rfl rfl rfl rfl (by kernel_rfl) Tryz.func9 (by kernel_rfl)
    (of_decide_eq_true (by kernel_rfl)) (by unfold Func.isWrapper; first | (rw [if_pos (by decide +kernel)]; kernel_rfl) | (rw [if_neg (by decide +kernel)]; exact ⟨rfl, rfl⟩))
    (fun os started H enc _ => lifted os started H enc)
theorem proved : Rows.ObserverLocksCardSaid :=
  Claim7.holds_tied_plain_at Rows.observerLocksCard.laidLooks [] Rows.observerLocksCard.laidKinds Rows.observerLocksCard.laidTests Rows.observerLocksCard.stood.harness Rows.observerLocksCard.stood.looks over (fun _ h => by cases h) (by kernel_rfl) (fun _ h => by cases h) observerLocks_row_tie rfl ⟨rfl, rfl⟩ (by kernel_rfl) rfl
    (fun f fn hf hfn => by
      obtain rfl : f = 9 := Option.some.inj ((show Tryz.prog.funcNamed "commutator/commutatorlaw39.ObserverLocks" = some 9 by kernel_rfl).symm.trans hf) |>.symm
      obtain rfl : fn = Tryz.f9 := (Option.some.inj (Tryz.func9.symm.trans hfn)).symm
      exact ⟨by kernel_rfl, fun j t ht => by
        rw [Tryz.params9] at ht
        have hm : t ∈ [97, 98, 100] := by simpa using Array.mem_of_getElem? ht
        have hall : ([97, 98, 100].all fun u => !Tryz.prog.wantsStandIn u) = true := by kernel_rfl
        exact (show Tryz.prog.wantsStandIn t = false by simpa using List.all_eq_true.1 hall t hm)⟩)
    (by kernel_rfl)
end Go.Proofs.YtpggiabnhodjpaaGreatDoor.observerLocks
