import Derived.Test.YtekmhhmemkjcbaaRows
import Derived.Test.YtekmhhmemkjcbaaObsT
import Derived.Test.YtekmhhmemkjcbaaAxL
set_option linter.unusedSimpArgs false
set_option linter.unusedVariables false
set_option linter.deprecated false
set_option maxRecDepth 100000
set_option maxHeartbeats 2000000
namespace Go.Proofs.Ytekmhhmemkjcbaa.observerTurns
open Go Go.Ax Go.ChangeShapes Go.WideShapes Go.ChangeAt Go.RowKit
theorem own : ownKnob Try.prog.godebug = none := by kernel_rfl
theorem lifted (os : Os) (started : os.Started) (H : Type) (enc : TypeId × Value → H) :
    ReturnsInHanded {} Try.checked os 13 .any (Rows.observerTurnsSpec.pre6 enc Try.prog Try.f13 Rows.observerTurnsRow.domain false) (Rows.observerTurnsSpec.post enc Try.prog Try.f13 false true false false) := by
  refine returnsInHanded_of_change (C := Try.checked) own started (by kernel_rfl) Try.func13
    (ChangeSpec.witness6 (enc := enc) (C := Try.checked) false ⟨#[], #[.agg #[.int .i64 0, .int .i64 0, .int .i64 0, .int .i64 0, .int .i64 0], .agg #[.int .i64 0, .int .i64 0, .int .i64 0, .int .i64 0], .agg #[.int .i64 0, .int .i64 0, .int .i64 0, .int .i64 0]], []⟩ 8 (by kernel_rfl) (by kernel_rfl) (by kernel_rfl) (by kernel_rfl)) ?_
  intro W base args ds gs before hval0 hW hcnd _
  have hval : ∀ (j : Nat) t v, Try.f13.params[j]? = some t → args[j]? = some v → Value.okWide Try.prog W .any base t v := hval0
  have hW1 := hW
  obtain ⟨p, q, hA0, hV, rfl, hfz, hnd⟩ := hW
  have hA : DataW.TrodAll enc Try.prog W 0 (fun _ => true) true Try.f13.params.toList args.toList ds p := hA0
  rw [Try.params13] at hA hval
  obtain ⟨v0, vs0, d0, ds0, p0, q0, hargs, rfl, rfl, h0, r0⟩ := trodAll_cons hA
  obtain ⟨v1, vs1, d1, ds1, p1, q1, rfl, rfl, rfl, h1, r1⟩ := trodAll_cons r0
  obtain ⟨v2, vs2, d2, ds2, p2, q2, rfl, rfl, rfl, h2, r2⟩ := trodAll_cons r1
  obtain ⟨rfl, rfl, rfl⟩ := trodAll_nil r2
  obtain rfl : args = #[v0, v1, v2] := by cases args; simp_all
  obtain ⟨l0, fit0, rel0⟩ := arg_agg (d := 12) (ks := [.int .i64, .int .i64, .int .i64, .int .i64, .int .i64]) (.inl ⟨_, Try.underlying54⟩) (by kernel_rfl) (hval 0 54 v0 rfl rfl) h0
  obtain ⟨R, l0, rfl, h_R, fit0_0⟩ := fit0.i64
  obtain ⟨L, l0, rfl, h_L, fit0_1⟩ := fit0_0.i64
  obtain ⟨lk, l0, rfl, h_lk, fit0_2⟩ := fit0_1.i64
  obtain ⟨kp, l0, rfl, h_kp, fit0_3⟩ := fit0_2.i64
  obtain ⟨ki, l0, rfl, h_ki, fit0_4⟩ := fit0_3.i64
  obtain rfl := fit0_4.nil
  obtain ⟨l1, fit1, rel1⟩ := arg_agg (d := 12) (ks := [.int .i64, .int .i64, .int .i64, .int .i64]) (.inl ⟨_, Try.underlying61⟩) (by kernel_rfl) (hval 1 61 v1 rfl rfl) h1
  obtain ⟨fa, l1, rfl, h_fa, fit1_0⟩ := fit1.i64
  obtain ⟨fb, l1, rfl, h_fb, fit1_1⟩ := fit1_0.i64
  obtain ⟨an, l1, rfl, h_an, fit1_2⟩ := fit1_1.i64
  obtain ⟨sp, l1, rfl, h_sp, fit1_3⟩ := fit1_2.i64
  obtain rfl := fit1_3.nil
  obtain ⟨l2, fit2, rel2⟩ := arg_agg (d := 12) (ks := [.int .i64, .int .i64, .int .i64, .int .i64]) (.inr ⟨_, _, Try.underlying62⟩) (by kernel_rfl) (hval 2 62 v2 rfl rfl) h2
  obtain ⟨va, l2, rfl, h_va, fit2_0⟩ := fit2.i64
  obtain ⟨vb, l2, rfl, h_vb, fit2_1⟩ := fit2_0.i64
  obtain ⟨ia, l2, rfl, h_ia, fit2_2⟩ := fit2_1.i64
  obtain ⟨ib, l2, rfl, h_ib, fit2_3⟩ := fit2_2.i64
  obtain rfl := fit2_3.nil
  exact law_post (by kernel_rfl) (by kernel_rfl) (by kernel_rfl) Try.underlying4 rfl rfl hW1 (true_of_call (turn39 R L lk kp ki fa fb an sp va vb ia ib) (by intro g l h; simp [gl] at h) rfl (relV_cons rel0 (relV_cons rel1 (relV_cons rel2 (relV_nil)))))
theorem over : Rows.observerTurnsRow.holds Try.pinned (OpenSpec.ofChange Rows.observerTurnsSpec) :=
  OpenClaim.holds_of_wide 13 Try.f13 rfl rfl rfl rfl rfl rfl rfl ⟨rfl, rfl, rfl, rfl, rfl⟩ rfl rfl rfl rfl rfl (by kernel_rfl) Try.func13 (by kernel_rfl)
    (of_decide_eq_true (by kernel_rfl)) (by unfold Func.isWrapper; first | (rw [if_pos (by decide +kernel)]; kernel_rfl) | (rw [if_neg (by decide +kernel)]; exact ⟨rfl, rfl⟩))
    (fun os started H enc _ => lifted os started H enc)
theorem proved : Rows.ObserverTurnsSaid := over
end Go.Proofs.Ytekmhhmemkjcbaa.observerTurns
