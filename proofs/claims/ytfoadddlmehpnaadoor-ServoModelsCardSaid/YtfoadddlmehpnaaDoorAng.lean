/- The layers 5 to 7 (angle, sine, arctan) and their references, as layer 39 uses them. -/
import Derived.Test.YtfoadddlmehpnaaDoorPi
import Derived.Test.YtfoadddlmehpnaaDoorU2
set_option linter.unusedSimpArgs false
set_option linter.unusedVariables false
set_option linter.deprecated false
namespace Go.Proofs.YtfoadddlmehpnaaDoor
open Go Go.Ax
set_option maxRecDepth 100000
set_option maxHeartbeats 4000000

theorem ang_Norm (x : Int) : CallOK Tryd.prog gl 109 [.v (.int .i64 x)] (.v (.int .i64 (x % 65536))) := by
  refine call_ok (C := ⟨Tryd.prog, gl, ti, 5, false⟩) ti_ok mixed 3000 Tryd.call109 Tryd.func109 rfl Tryd.ntmps109 (by simp) byClL byCl ?_
  rw [Tryd.results109]
  repeat' (first
    | (simp only [go_sem, Int.reduceAdd, Int.reduceEq, Int.reduceLE, Int.reduceLT, Int.reduceMul, Int.reduceNeg, Int.reducePow, Int.reduceSub, Int.reduceToNat, Nat.reduceAdd, Nat.reduceBEq, Nat.reduceEqDiff, Nat.reduceLT, Nat.reduceLeDiff, Nat.reduceMul, Nat.reducePow, Nat.reduceSub, reduceCtorEq, reduceIte, IntKind.bits.eq_def, ti, tin, and_16])
    | (simp (disch := omega) only [w64, wu64, wu32, Nat.min_eq_left])
    | (refine after_lit ti_ok ?_)
    | (refine drawAfter_lit ti_ok ?_)
    | (refine drawEnd_of (by kernel_rfl) ?_)
    | ((first | refine cond_cases (fun hc => ?_) (fun hc => ?_) | refine guard_split (fun hc => ?_) (fun hc => ?_) | refine drawGuard_split (fun hc => ?_) (fun hc => ?_)) <;> first | (exfalso; simp only [decide_eq_true_eq, decide_eq_false_iff_not, Bool.not_eq_true, Bool.not_eq_false, Bool.not_eq_true', Bool.not_eq_false'] at hc; omega) | (simp only [hc]; try simp only [decide_eq_true_eq, decide_eq_false_iff_not, Bool.not_eq_true, Bool.not_eq_false, Bool.not_eq_true', Bool.not_eq_false'] at hc))
    | (refine after_need (by omega) ?_)
    | (refine drawAfter_need (by omega) ?_))
  exact fin_same trivial rfl
def dif (a b : Int) : Int := (a - b + 32768) % 65536 - 32768
theorem dif_bd (a b : Int) : -32768 ≤ dif a b ∧ dif a b ≤ 32767 := by unfold dif; omega
theorem dif_wrap (a b : Int) : IntKind.i64.wrap (IntKind.i64.wrap (a - b) + 32768) % 65536 = (a - b + 32768) % 65536 := by
  rw [IntKind.wrap_i64, IntKind.wrap_i64]; omega
theorem ang_Diff (a b : Int) : CallOK Tryd.prog gl 76 [.v (.int .i64 a), .v (.int .i64 b)] (.v (.int .i64 (dif a b))) := by
  refine call_ok (C := ⟨Tryd.prog, gl, ti, 11, false⟩) ti_ok mixed 3000 Tryd.call76 Tryd.func76 rfl Tryd.ntmps76 (by simp) byClL byCl ?_
  rw [Tryd.results76]
  repeat' (first
    | (simp only [go_sem, Int.reduceAdd, Int.reduceEq, Int.reduceLE, Int.reduceLT, Int.reduceMul, Int.reduceNeg, Int.reducePow, Int.reduceSub, Int.reduceToNat, Nat.reduceAdd, Nat.reduceBEq, Nat.reduceEqDiff, Nat.reduceLT, Nat.reduceLeDiff, Nat.reduceMul, Nat.reducePow, Nat.reduceSub, reduceCtorEq, reduceIte, IntKind.bits.eq_def, ti, tin, dif_wrap])
    | (simp (disch := omega) only [w64, wu64, wu32, Nat.min_eq_left])
    | (with_reducible refine callF_of (ang_Norm _) ?_)
    | (with_reducible refine drawF_of (ang_Norm _) ?_)
    | (refine after_lit ti_ok ?_)
    | (refine drawAfter_lit ti_ok ?_)
    | (refine drawEnd_of (by kernel_rfl) ?_)
    | ((first | refine cond_cases (fun hc => ?_) (fun hc => ?_) | refine guard_split (fun hc => ?_) (fun hc => ?_) | refine drawGuard_split (fun hc => ?_) (fun hc => ?_)) <;> first | (exfalso; simp only [decide_eq_true_eq, decide_eq_false_iff_not, Bool.not_eq_true, Bool.not_eq_false, Bool.not_eq_true', Bool.not_eq_false'] at hc; omega) | (simp only [hc]; try simp only [decide_eq_true_eq, decide_eq_false_iff_not, Bool.not_eq_true, Bool.not_eq_false, Bool.not_eq_true', Bool.not_eq_false'] at hc))
    | (refine after_need (by omega) ?_)
    | (refine drawAfter_need (by omega) ?_))
  refine fin_same trivial ?_
  simp (disch := omega) only [one, w64, dif_wrap]
  rfl
theorem ref05_Norm (x : Int) : CallOK Tryd.prog gl 79 [.v (.int .i64 x)] (.v (.int .i64 (x % 65536))) := by
  refine call_ok (C := ⟨Tryd.prog, gl, ti, 7, false⟩) ti_ok mixed 3000 Tryd.call79 Tryd.func79 rfl Tryd.ntmps79 (by simp) byClL byCl ?_
  rw [Tryd.results79]
  have h := tmod_bd x (b := 65536) (by omega)
  repeat' (first
    | (simp only [go_sem, Int.reduceAdd, Int.reduceEq, Int.reduceLE, Int.reduceLT, Int.reduceMul, Int.reduceNeg, Int.reducePow, Int.reduceSub, Int.reduceToNat, Nat.reduceAdd, Nat.reduceBEq, Nat.reduceEqDiff, Nat.reduceLT, Nat.reduceLeDiff, Nat.reduceMul, Nat.reducePow, Nat.reduceSub, reduceCtorEq, reduceIte, IntKind.bits.eq_def, ti, tin, tmod_16])
    | (simp (disch := omega) only [w64, wu64, wu32, Nat.min_eq_left])
    | (refine after_lit ti_ok ?_)
    | (refine drawAfter_lit ti_ok ?_)
    | (refine drawEnd_of (by kernel_rfl) ?_)
    | ((first | refine cond_cases (fun hc => ?_) (fun hc => ?_) | refine guard_split (fun hc => ?_) (fun hc => ?_) | refine drawGuard_split (fun hc => ?_) (fun hc => ?_)) <;> first | (exfalso; simp only [decide_eq_true_eq, decide_eq_false_iff_not, Bool.not_eq_true, Bool.not_eq_false, Bool.not_eq_true', Bool.not_eq_false'] at hc; omega) | (simp only [hc]; try simp only [decide_eq_true_eq, decide_eq_false_iff_not, Bool.not_eq_true, Bool.not_eq_false, Bool.not_eq_true', Bool.not_eq_false'] at hc))
    | (refine after_need (by omega) ?_)
    | (refine drawAfter_need (by omega) ?_))
  exact fin_same trivial rfl
theorem dif_ref (a b : Int) : (a % 65536 - b % 65536 + 65536 + 32768).tmod 65536 - 32768 = dif a b := by
  rw [tmod_nn (by omega)]; unfold dif; omega
theorem ref05_Diff (a b : Int) : CallOK Tryd.prog gl 38 [.v (.int .i64 a), .v (.int .i64 b)] (.v (.int .i64 (dif a b))) := by
  refine call_ok (C := ⟨Tryd.prog, gl, ti, 14, false⟩) ti_ok mixed 3000 Tryd.call38 Tryd.func38 rfl Tryd.ntmps38 (by simp) byClL byCl ?_
  rw [Tryd.results38]
  have h := dif_ref a b
  have h2 := dif_bd a b
  have h3 := tmod_bd (a % 65536 - b % 65536 + 65536 + 32768) (b := 65536) (by omega)
  repeat' (first
    | (simp only [go_sem, Int.reduceAdd, Int.reduceEq, Int.reduceLE, Int.reduceLT, Int.reduceMul, Int.reduceNeg, Int.reducePow, Int.reduceSub, Int.reduceToNat, Nat.reduceAdd, Nat.reduceBEq, Nat.reduceEqDiff, Nat.reduceLT, Nat.reduceLeDiff, Nat.reduceMul, Nat.reducePow, Nat.reduceSub, reduceCtorEq, reduceIte, IntKind.bits.eq_def, ti, tin])
    | (simp (disch := omega) only [w64, wu64, wu32, Nat.min_eq_left])
    | (with_reducible refine callF_of (ref05_Norm _) ?_)
    | (with_reducible refine drawF_of (ref05_Norm _) ?_)
    | (refine after_lit ti_ok ?_)
    | (refine drawAfter_lit ti_ok ?_)
    | (refine drawEnd_of (by kernel_rfl) ?_)
    | ((first | refine cond_cases (fun hc => ?_) (fun hc => ?_) | refine guard_split (fun hc => ?_) (fun hc => ?_) | refine drawGuard_split (fun hc => ?_) (fun hc => ?_)) <;> first | (exfalso; simp only [decide_eq_true_eq, decide_eq_false_iff_not, Bool.not_eq_true, Bool.not_eq_false, Bool.not_eq_true', Bool.not_eq_false'] at hc; omega) | (simp only [hc]; try simp only [decide_eq_true_eq, decide_eq_false_iff_not, Bool.not_eq_true, Bool.not_eq_false, Bool.not_eq_true', Bool.not_eq_false'] at hc))
    | (refine after_need (by omega) ?_)
    | (refine drawAfter_need (by omega) ?_))
  refine fin_same trivial ?_
  simp (disch := omega) only [one, w64, h]

def sinT : List Int := [0, 804, 1607, 2410, 3211, 4011, 4808, 5602, 6392, 7179, 7961, 8739, 9512, 10278, 11039, 11793,
  12539, 13278, 14010, 14732, 15446, 16151, 16846, 17530, 18204, 18868, 19519, 20159, 20787, 21403, 22005, 22594,
  23170, 23732, 24279, 24812, 25330, 25832, 26319, 26790, 27245, 27684, 28106, 28511, 28898, 29269, 29621, 29956,
  30273, 30572, 30852, 31114, 31357, 31581, 31785, 31971, 32138, 32285, 32413, 32521, 32610, 32679, 32728, 32758, 32768]
def sinA (k : Nat) : Int := sinT.getD k 0
theorem sinA_bd (k : Nat) : 0 ≤ sinA k ∧ sinA k ≤ 32768 := by
  have h : ∀ x ∈ sinT, 0 ≤ x ∧ x ≤ 32768 := by decide
  unfold sinA
  by_cases hk : k < sinT.length
  · rw [getD_in hk]; exact h _ (List.getElem_mem hk)
  · rw [getD_out (by omega)]; omega
theorem sinT_row {k : Nat} (h : k < 65) : (i64s sinT).getD k [] = [.v (.int .i64 (sinA k))] := i64s_getD (by exact h)
theorem sinT_len : (i64s sinT).length = 65 := by rw [i64s_length]; rfl
def sinF (a : Nat) : Int := (256 * sinA (a / 256) + (sinA (a / 256 + 1) - sinA (a / 256)) * ((a % 256 : Nat) : Int)) / 256
def cosF (a : Nat) : Int := (256 * sinA (64 - a / 256) - (sinA (64 - a / 256) - sinA (63 - a / 256)) * ((a % 256 : Nat) : Int)) / 256
theorem mix_bd {s t f : Int} (hs : 0 ≤ s ∧ s ≤ 32768) (ht : 0 ≤ t ∧ t ≤ 32768) (hf : 0 ≤ f ∧ f ≤ 255) : 0 ≤ 256 * s + (t - s) * f ∧ 256 * s + (t - s) * f ≤ 8388608 ∧ -8388608 ≤ (t - s) * f ∧ (t - s) * f ≤ 8388608 ∧ s * (256 - f) + t * f = 256 * s + (t - s) * f ∧ 0 ≤ s * (256 - f) ∧ 0 ≤ t * f ∧ s * (256 - f) ≤ 8388608 ∧ t * f ≤ 8388608 := by
  have h1 : 0 ≤ s * (256 - f) := Int.mul_nonneg hs.1 (by omega)
  have h2 : 0 ≤ t * f := Int.mul_nonneg ht.1 hf.1
  have h3 : s * (256 - f) ≤ 32768 * (256 - f) := Int.mul_le_mul_of_nonneg_right hs.2 (by omega)
  have h4 : t * f ≤ 32768 * f := Int.mul_le_mul_of_nonneg_right ht.2 hf.1
  have h5 : s * f ≤ 32768 * f := Int.mul_le_mul_of_nonneg_right hs.2 hf.1
  have h6 : 0 ≤ s * f := Int.mul_nonneg hs.1 hf.1
  have e1 : s * (256 - f) = 256 * s - s * f := by rw [Int.mul_sub]; omega
  have e2 : (t - s) * f = t * f - s * f := Int.sub_mul ..
  omega
theorem mix_neg {s t f : Int} : 256 * s - (s - t) * f = 256 * s + (t - s) * f := by
  have e1 : (s - t) * f = s * f - t * f := Int.sub_mul ..
  have e2 : (t - s) * f = t * f - s * f := Int.sub_mul ..
  omega
theorem sinF_bd (a : Nat) : 0 ≤ sinF a ∧ sinF a ≤ 32768 := by
  have := mix_bd (sinA_bd (a / 256)) (sinA_bd (a / 256 + 1)) (f := ((a % 256 : Nat) : Int)) (by omega)
  unfold sinF; omega
theorem cosF_bd (a : Nat) : 0 ≤ cosF a ∧ cosF a ≤ 32768 := by
  have := mix_bd (sinA_bd (64 - a / 256)) (sinA_bd (63 - a / 256)) (f := ((a % 256 : Nat) : Int)) (by omega)
  unfold cosF; rw [mix_neg]; omega

end Go.Proofs.YtfoadddlmehpnaaDoor
