import Derived.Test.YtekmhhmemkjcbaaRows
import Derived.Test.YtekmhhmemkjcbaaCurrentL
import Derived.Test.YtekmhhmemkjcbaaAxL
set_option linter.unusedSimpArgs false
set_option linter.unusedVariables false
set_option linter.deprecated false
set_option maxRecDepth 100000
set_option maxHeartbeats 2000000
namespace Go.Proofs.Ytekmhhmemkjcbaa.currentPlain
open Go Go.Ax Go.ChangeShapes Go.WideShapes Go.ChangeAt Go.RowKit
theorem own : ownKnob Try.prog.godebug = none := by kernel_rfl
theorem lifted (os : Os) (started : os.Started) (H : Type) (enc : TypeId × Value → H) :
    ReturnsInHanded {} Try.checked os 11 .any (Rows.currentPlainSpec.pre6 enc Try.prog Try.f11 Rows.currentPlainRow.domain false) (Rows.currentPlainSpec.post enc Try.prog Try.f11 false true false false) := by
  refine returnsInHanded_of_change (C := Try.checked) own started (by kernel_rfl) Try.func11
    (ChangeSpec.witness6 (enc := enc) (C := Try.checked) false ⟨#[], #[.agg #[.int .i64 0, .int .i64 0, .int .i64 0, .int .i64 0, .int .i64 0, .int .i64 0, .int .i64 0, .int .i64 0, .int .i64 0, .int .i64 0, .int .i64 0], .agg #[.int .i64 0, .int .i64 0], .agg #[.int .i64 0, .int .i64 0, .int .i64 0, .int .i64 0, .int .i64 0, .int .i64 0, .bool false]], []⟩ 8 (by kernel_rfl) (by kernel_rfl) (by kernel_rfl) (by kernel_rfl)) ?_
  intro W base args ds gs before hval0 hW hcnd _
  have hval : ∀ (j : Nat) t v, Try.f11.params[j]? = some t → args[j]? = some v → Value.okWide Try.prog W .any base t v := hval0
  have hW1 := hW
  obtain ⟨p, q, hA0, hV, rfl, hfz, hnd⟩ := hW
  have hA : DataW.TrodAll enc Try.prog W 0 (fun _ => true) true Try.f11.params.toList args.toList ds p := hA0
  rw [Try.params11] at hA hval
  obtain ⟨v0, vs0, d0, ds0, p0, q0, hargs, rfl, rfl, h0, r0⟩ := trodAll_cons hA
  obtain ⟨v1, vs1, d1, ds1, p1, q1, rfl, rfl, rfl, h1, r1⟩ := trodAll_cons r0
  obtain ⟨v2, vs2, d2, ds2, p2, q2, rfl, rfl, rfl, h2, r2⟩ := trodAll_cons r1
  obtain ⟨rfl, rfl, rfl⟩ := trodAll_nil r2
  obtain rfl : args = #[v0, v1, v2] := by cases args; simp_all
  obtain ⟨l0, fit0, rel0⟩ := arg_agg (d := 12) (ks := [.int .i64, .int .i64, .int .i64, .int .i64, .int .i64, .int .i64, .int .i64, .int .i64, .int .i64, .int .i64, .int .i64]) (.inl ⟨_, Try.underlying67⟩) (by kernel_rfl) (hval 0 67 v0 rfl rfl) h0
  obtain ⟨kp, l0, rfl, h_kp, fit0_0⟩ := fit0.i64
  obtain ⟨ki, l0, rfl, h_ki, fit0_1⟩ := fit0_0.i64
  obtain ⟨lo, l0, rfl, h_lo, fit0_2⟩ := fit0_1.i64
  obtain ⟨hi, l0, rfl, h_hi, fit0_3⟩ := fit0_2.i64
  obtain ⟨kp2, l0, rfl, h_kp2, fit0_4⟩ := fit0_3.i64
  obtain ⟨ki2, l0, rfl, h_ki2, fit0_5⟩ := fit0_4.i64
  obtain ⟨lo2, l0, rfl, h_lo2, fit0_6⟩ := fit0_5.i64
  obtain ⟨hi2, l0, rfl, h_hi2, fit0_7⟩ := fit0_6.i64
  obtain ⟨ld, l0, rfl, h_ld, fit0_8⟩ := fit0_7.i64
  obtain ⟨lq, l0, rfl, h_lq, fit0_9⟩ := fit0_8.i64
  obtain ⟨mg, l0, rfl, h_mg, fit0_10⟩ := fit0_9.i64
  obtain rfl := fit0_10.nil
  obtain ⟨l1, fit1, rel1⟩ := arg_agg (d := 12) (ks := [.int .i64, .int .i64]) (.inl ⟨_, Try.underlying69⟩) (by kernel_rfl) (hval 1 69 v1 rfl rfl) h1
  obtain ⟨sd, l1, rfl, h_sd, fit1_0⟩ := fit1.i64
  obtain ⟨sq, l1, rfl, h_sq, fit1_1⟩ := fit1_0.i64
  obtain rfl := fit1_1.nil
  obtain ⟨l2, fit2, rel2⟩ := arg_agg (d := 12) (ks := [.int .i64, .int .i64, .int .i64, .int .i64, .int .i64, .int .i64, .bool]) (.inl ⟨_, Try.underlying73⟩) (by kernel_rfl) (hval 2 73 v2 rfl rfl) h2
  obtain ⟨rd, l2, rfl, h_rd, fit2_0⟩ := fit2.i64
  obtain ⟨rq, l2, rfl, h_rq, fit2_1⟩ := fit2_0.i64
  obtain ⟨md, l2, rfl, h_md, fit2_2⟩ := fit2_1.i64
  obtain ⟨mq, l2, rfl, h_mq, fit2_3⟩ := fit2_2.i64
  obtain ⟨sp, l2, rfl, h_sp, fit2_4⟩ := fit2_3.i64
  obtain ⟨l, l2, rfl, h_l, fit2_5⟩ := fit2_4.i64
  obtain ⟨dec, l2, rfl, fit2_6⟩ := fit2_5.bool
  obtain rfl := fit2_6.nil
  exact law_post (by kernel_rfl) (by kernel_rfl) (by kernel_rfl) Try.underlying4 rfl rfl hW1 (true_of_call (plain35 kp ki lo hi kp2 ki2 lo2 hi2 ld lq mg sd sq rd rq md mq sp l dec) (by intro g l h; simp [gl] at h) rfl (relV_cons rel0 (relV_cons rel1 (relV_cons rel2 (relV_nil)))))
theorem over : Rows.currentPlainRow.holds Try.pinned (OpenSpec.ofChange Rows.currentPlainSpec) :=
  OpenClaim.holds_of_wide 11 Try.f11 rfl rfl rfl rfl rfl rfl rfl ⟨rfl, rfl, rfl, rfl, rfl⟩ rfl rfl rfl rfl rfl (by kernel_rfl) Try.func11 (by kernel_rfl)
    (of_decide_eq_true (by kernel_rfl)) (by unfold Func.isWrapper; first | (rw [if_pos (by decide +kernel)]; kernel_rfl) | (rw [if_neg (by decide +kernel)]; exact ⟨rfl, rfl⟩))
    (fun os started H enc _ => lifted os started H enc)
theorem proved : Rows.CurrentPlainSaid := over
end Go.Proofs.Ytekmhhmemkjcbaa.currentPlain
