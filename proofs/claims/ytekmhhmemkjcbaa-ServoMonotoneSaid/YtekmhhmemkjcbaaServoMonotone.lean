import Derived.Test.YtekmhhmemkjcbaaRows
import Derived.Test.YtekmhhmemkjcbaaMono38
import Derived.Test.YtekmhhmemkjcbaaAxL
set_option linter.unusedSimpArgs false
set_option linter.unusedVariables false
set_option linter.deprecated false
set_option maxRecDepth 100000
set_option maxHeartbeats 2000000
namespace Go.Proofs.Ytekmhhmemkjcbaa.servoMonotone
open Go Go.Ax Go.ChangeShapes Go.WideShapes Go.ChangeAt Go.RowKit
theorem own : ownKnob Try.prog.godebug = none := by kernel_rfl
theorem lifted (os : Os) (started : os.Started) (H : Type) (enc : TypeId × Value → H) :
    ReturnsInHanded {} Try.checked os 5 .any (Rows.servoMonotoneSpec.pre6 enc Try.prog Try.f5 Rows.servoMonotoneRow.domain false) (Rows.servoMonotoneSpec.post enc Try.prog Try.f5 false true false false) := by
  refine returnsInHanded_of_change (C := Try.checked) own started (by kernel_rfl) Try.func5
    (ChangeSpec.witness6 (enc := enc) (C := Try.checked) false ⟨#[], #[.agg #[.int .i64 0, .int .i64 0, .int .i64 0, .int .i64 0, .int .i64 0, .int .i64 0], .agg #[.int .i64 0], .agg #[.int .i64 0, .int .i64 0, .int .i64 0, .int .i64 0, .int .i64 0, .int .i64 0, .int .i64 0, .int .i64 0, .int .i64 0, .int .i64 0]], []⟩ 8 (by kernel_rfl) (by kernel_rfl) (by kernel_rfl) (by kernel_rfl)) ?_
  intro W base args ds gs before hval0 hW hcnd _
  have hval : ∀ (j : Nat) t v, Try.f5.params[j]? = some t → args[j]? = some v → Value.okWide Try.prog W .any base t v := hval0
  have hW1 := hW
  obtain ⟨p, q, hA0, hV, rfl, hfz, hnd⟩ := hW
  have hA : DataW.TrodAll enc Try.prog W 0 (fun _ => true) true Try.f5.params.toList args.toList ds p := hA0
  rw [Try.params5] at hA hval
  obtain ⟨v0, vs0, d0, ds0, p0, q0, hargs, rfl, rfl, h0, r0⟩ := trodAll_cons hA
  obtain ⟨v1, vs1, d1, ds1, p1, q1, rfl, rfl, rfl, h1, r1⟩ := trodAll_cons r0
  obtain ⟨v2, vs2, d2, ds2, p2, q2, rfl, rfl, rfl, h2, r2⟩ := trodAll_cons r1
  obtain ⟨rfl, rfl, rfl⟩ := trodAll_nil r2
  obtain rfl : args = #[v0, v1, v2] := by cases args; simp_all
  obtain ⟨l0, fit0, rel0⟩ := arg_agg (d := 12) (ks := [.int .i64, .int .i64, .int .i64, .int .i64, .int .i64, .int .i64]) (.inl ⟨_, Try.underlying25⟩) (by kernel_rfl) (hval 0 25 v0 rfl rfl) h0
  obtain ⟨kv, l0, rfl, h_kv, fit0⟩ := fit0.i64
  obtain ⟨sh, l0, rfl, h_sh, fit0⟩ := fit0.i64
  obtain ⟨kp, l0, rfl, h_kp, fit0⟩ := fit0.i64
  obtain ⟨ki, l0, rfl, h_ki, fit0⟩ := fit0.i64
  obtain ⟨lo, l0, rfl, h_lo, fit0⟩ := fit0.i64
  obtain ⟨hi, l0, rfl, h_hi, fit0⟩ := fit0.i64
  obtain rfl := fit0.nil
  obtain ⟨l1, fit1, rel1⟩ := arg_agg (d := 12) (ks := [.int .i64]) (.inl ⟨_, Try.underlying29⟩) (by kernel_rfl) (hval 1 29 v1 rfl rfl) h1
  obtain ⟨s, l1, rfl, h_s, fit1⟩ := fit1.i64
  obtain rfl := fit1.nil
  obtain ⟨l2, fit2, rel2⟩ := arg_agg (d := 12) (ks := [.int .i64, .int .i64, .int .i64, .int .i64, .int .i64, .int .i64, .int .i64, .int .i64, .int .i64, .int .i64]) (.inr ⟨_, _, Try.underlying51⟩) (by kernel_rfl) (hval 2 51 v2 rfl rfl) h2
  obtain ⟨a0, l2, rfl, h_a0, fit2⟩ := fit2.i64
  obtain ⟨a1, l2, rfl, h_a1, fit2⟩ := fit2.i64
  obtain ⟨a2, l2, rfl, h_a2, fit2⟩ := fit2.i64
  obtain ⟨a3, l2, rfl, h_a3, fit2⟩ := fit2.i64
  obtain ⟨a4, l2, rfl, h_a4, fit2⟩ := fit2.i64
  obtain ⟨b0, l2, rfl, h_b0, fit2⟩ := fit2.i64
  obtain ⟨b1, l2, rfl, h_b1, fit2⟩ := fit2.i64
  obtain ⟨b2, l2, rfl, h_b2, fit2⟩ := fit2.i64
  obtain ⟨b3, l2, rfl, h_b3, fit2⟩ := fit2.i64
  obtain ⟨b4, l2, rfl, h_b4, fit2⟩ := fit2.i64
  obtain rfl := fit2.nil
  exact law_post (by kernel_rfl) (by kernel_rfl) (by kernel_rfl) Try.underlying4 rfl rfl hW1 (true_of_call (mono38 kv sh kp ki lo hi s a0 a1 a2 a3 a4 b0 b1 b2 b3 b4) rfl (relV_cons rel0 (relV_cons rel1 (relV_cons rel2 (relV_nil)))))
theorem over : Rows.servoMonotoneRow.holds Try.pinned (OpenSpec.ofChange Rows.servoMonotoneSpec) :=
  OpenClaim.holds_of_wide 5 Try.f5 rfl rfl rfl rfl rfl rfl rfl ⟨rfl, rfl, rfl, rfl, rfl⟩ rfl rfl rfl rfl rfl (by kernel_rfl) Try.func5 (by kernel_rfl)
    (of_decide_eq_true (by kernel_rfl)) (by unfold Func.isWrapper; first | (rw [if_pos (by decide +kernel)]; kernel_rfl) | (rw [if_neg (by decide +kernel)]; exact ⟨rfl, rfl⟩))
    (fun os started H enc _ => lifted os started H enc)
theorem proved : Rows.ServoMonotoneSaid := over
end Go.Proofs.Ytekmhhmemkjcbaa.servoMonotone
