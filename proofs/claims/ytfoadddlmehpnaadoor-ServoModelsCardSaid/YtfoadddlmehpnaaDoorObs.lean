/- Layer 39 (observer) and its reference. -/
import Derived.Test.YtfoadddlmehpnaaDoorArc2
import Derived.Test.YtfoadddlmehpnaaDoorNum
set_option linter.unusedSimpArgs false
set_option linter.unusedVariables false
set_option linter.deprecated false
namespace Go.Proofs.YtfoadddlmehpnaaDoor
open Go Go.Ax
set_option maxRecDepth 100000
set_option maxHeartbeats 4000000

def obBad (R L lk kp ki : Int) : Prop := R < 0 ∨ 1048576 < R ∨ L < 0 ∨ 1048576 < L ∨ lk < 4 ∨ 16 < lk ∨ kp < 0 ∨ 65536 < kp ∨ ki < 0 ∨ 65536 < ki
def mf (x : Int) : Int := clip x (-70368744177664) 70368744177664
def mv (x : Int) : Int := clip x (-1048576) 1048576
def msp (x : Int) : Int := clip x (-1073741824) 1073741824
theorem mf_bd (x : Int) : -70368744177664 ≤ mf x ∧ mf x ≤ 70368744177664 := clip_bd (by omega) x
theorem mv_bd (x : Int) : -1048576 ≤ mv x ∧ mv x ≤ 1048576 := clip_bd (by omega) x
theorem ms_bd (x : Int) : -1073741824 ≤ msp x ∧ msp x ≤ 1073741824 := clip_bd (by omega) x
theorem mf_idem (x : Int) : mf (mf x) = mf x := clip_id (mf_bd x)

theorem ob_clip (x lo hi : Int) : CallOK Tryd.prog gl 77 [.v (.int .i64 x), .v (.int .i64 lo), .v (.int .i64 hi)] (.v (.int .i64 (clip x lo hi))) := by
  refine call_ok (C := ⟨Tryd.prog, gl, ti, 12, false⟩) ti_ok mixed 3000 Tryd.call77 Tryd.func77 rfl Tryd.ntmps77 (by simp) byClL byCl ?_
  rw [Tryd.results77]
  repeat' (first
    | (simp only [go_sem, Int.reduceAdd, Int.reduceEq, Int.reduceLE, Int.reduceLT, Int.reduceMul, Int.reduceNeg, Int.reducePow, Int.reduceSub, Int.reduceToNat, Nat.reduceAdd, Nat.reduceBEq, Nat.reduceEqDiff, Nat.reduceLT, Nat.reduceLeDiff, Nat.reduceMul, Nat.reducePow, Nat.reduceSub, reduceCtorEq, reduceIte, IntKind.bits.eq_def, ti, tin])
    | (simp (disch := omega) only [w64, wu64, wu32, Nat.min_eq_left])
    | (refine after_lit ti_ok ?_)
    | (refine drawAfter_lit ti_ok ?_)
    | (refine drawEnd_of (by kernel_rfl) ?_)
    | ((first | refine cond_cases (fun hc => ?_) (fun hc => ?_) | refine guard_split (fun hc => ?_) (fun hc => ?_) | refine drawGuard_split (fun hc => ?_) (fun hc => ?_)) <;> first | (exfalso; simp only [decide_eq_true_eq, decide_eq_false_iff_not, Bool.not_eq_true, Bool.not_eq_false, Bool.not_eq_true', Bool.not_eq_false'] at hc; omega) | (simp only [hc]; try simp only [decide_eq_true_eq, decide_eq_false_iff_not, Bool.not_eq_true, Bool.not_eq_false, Bool.not_eq_true', Bool.not_eq_false'] at hc))
    | (refine after_need (by omega) ?_)
    | (refine drawAfter_need (by omega) ?_))
  exact fin_same trivial rfl
theorem ob_box (a b m : Int) (hm : 0 ≤ m ∧ m ≤ 4611686018427387904) : CallOK Tryd.prog gl 78 [.agg [.v (.int .i64 a), .v (.int .i64 b)], .v (.int .i64 m)] (.agg [.v (.int .i64 (clip a (0 - m) m)), .v (.int .i64 (clip b (0 - m) m))]) := by
  refine call_ok (C := ⟨Tryd.prog, gl, ti, 18, false⟩) ti_ok mixed 3000 Tryd.call78 Tryd.func78 rfl Tryd.ntmps78 (by simp) byClL byCl ?_
  rw [Tryd.results78]
  repeat' (first
    | (simp only [go_sem, Int.reduceAdd, Int.reduceEq, Int.reduceLE, Int.reduceLT, Int.reduceMul, Int.reduceNeg, Int.reducePow, Int.reduceSub, Int.reduceToNat, Nat.reduceAdd, Nat.reduceBEq, Nat.reduceEqDiff, Nat.reduceLT, Nat.reduceLeDiff, Nat.reduceMul, Nat.reducePow, Nat.reduceSub, reduceCtorEq, reduceIte, IntKind.bits.eq_def, ti, tin])
    | (simp (disch := omega) only [w64, wu64, wu32, Nat.min_eq_left])
    | (with_reducible refine callF_of (ob_clip _ _ _) ?_)
    | (with_reducible refine drawF_of (ob_clip _ _ _) ?_)
    | (refine after_lit ti_ok ?_)
    | (refine drawAfter_lit ti_ok ?_)
    | (refine drawEnd_of (by kernel_rfl) ?_)
    | ((first | refine cond_cases (fun hc => ?_) (fun hc => ?_) | refine guard_split (fun hc => ?_) (fun hc => ?_) | refine drawGuard_split (fun hc => ?_) (fun hc => ?_)) <;> first | (exfalso; simp only [decide_eq_true_eq, decide_eq_false_iff_not, Bool.not_eq_true, Bool.not_eq_false, Bool.not_eq_true', Bool.not_eq_false'] at hc; omega) | (simp only [hc]; try simp only [decide_eq_true_eq, decide_eq_false_iff_not, Bool.not_eq_true, Bool.not_eq_false, Bool.not_eq_true', Bool.not_eq_false'] at hc))
    | (refine after_need (by omega) ?_)
    | (refine drawAfter_need (by omega) ?_))
  exact fin_same trivial rfl
theorem ob_Check (R L lk kp ki : Int) (h : ¬ obBad R L lk kp ki) : CallOK Tryd.prog gl 32 [.agg [.v (.int .i64 R), .v (.int .i64 L), .v (.int .i64 lk), .v (.int .i64 kp), .v (.int .i64 ki)]] (.v .nilIface) := by
  refine call_ok (C := ⟨Tryd.prog, gl, ti, 40, false⟩) ti_ok mixed 3000 Tryd.call32 Tryd.func32 rfl Tryd.ntmps32 (by simp) byClL byCl ?_
  rw [Tryd.results32]
  unfold obBad at h
  repeat' (first
    | (simp only [go_sem, Int.reduceAdd, Int.reduceEq, Int.reduceLE, Int.reduceLT, Int.reduceMul, Int.reduceNeg, Int.reducePow, Int.reduceSub, Int.reduceToNat, Nat.reduceAdd, Nat.reduceBEq, Nat.reduceEqDiff, Nat.reduceLT, Nat.reduceLeDiff, Nat.reduceMul, Nat.reducePow, Nat.reduceSub, reduceCtorEq, reduceIte, IntKind.bits.eq_def, ti, tin])
    | (simp (disch := omega) only [w64, wu64, wu32, Nat.min_eq_left])
    | (refine after_lit ti_ok ?_)
    | (refine drawAfter_lit ti_ok ?_)
    | (refine drawEnd_of (by kernel_rfl) ?_)
    | ((first | refine cond_cases (fun hc => ?_) (fun hc => ?_) | refine guard_split (fun hc => ?_) (fun hc => ?_) | refine drawGuard_split (fun hc => ?_) (fun hc => ?_)) <;> first | (exfalso; simp only [decide_eq_true_eq, decide_eq_false_iff_not, Bool.not_eq_true, Bool.not_eq_false, Bool.not_eq_true', Bool.not_eq_false'] at hc; omega) | (simp only [hc]; try simp only [decide_eq_true_eq, decide_eq_false_iff_not, Bool.not_eq_true, Bool.not_eq_false, Bool.not_eq_true', Bool.not_eq_false'] at hc))
    | (refine after_need (by omega) ?_)
    | (refine drawAfter_need (by omega) ?_))
  all_goals exact fin_same trivial rfl
theorem ob_Check_bad (R L lk kp ki : Int) (h : obBad R L lk kp ki) : CallOK Tryd.prog gl 32 [.agg [.v (.int .i64 R), .v (.int .i64 L), .v (.int .i64 lk), .v (.int .i64 kp), .v (.int .i64 ki)]] (.v (.iface 71 (.int .i64 3))) := by
  refine call_ok (C := ⟨Tryd.prog, gl, ti, 40, false⟩) ti_ok mixed 3000 Tryd.call32 Tryd.func32 rfl Tryd.ntmps32 (by simp) byClL byCl ?_
  rw [Tryd.results32]
  unfold obBad at h
  repeat' (first
    | (simp only [go_sem, Int.reduceAdd, Int.reduceEq, Int.reduceLE, Int.reduceLT, Int.reduceMul, Int.reduceNeg, Int.reducePow, Int.reduceSub, Int.reduceToNat, Nat.reduceAdd, Nat.reduceBEq, Nat.reduceEqDiff, Nat.reduceLT, Nat.reduceLeDiff, Nat.reduceMul, Nat.reducePow, Nat.reduceSub, reduceCtorEq, reduceIte, IntKind.bits.eq_def, ti, tin])
    | (simp (disch := omega) only [w64, wu64, wu32, Nat.min_eq_left])
    | (refine after_lit ti_ok ?_)
    | (refine drawAfter_lit ti_ok ?_)
    | (refine drawEnd_of (by kernel_rfl) ?_)
    | ((first | refine cond_cases (fun hc => ?_) (fun hc => ?_) | refine guard_split (fun hc => ?_) (fun hc => ?_) | refine drawGuard_split (fun hc => ?_) (fun hc => ?_)) <;> first | (exfalso; simp only [decide_eq_true_eq, decide_eq_false_iff_not, Bool.not_eq_true, Bool.not_eq_false, Bool.not_eq_true', Bool.not_eq_false'] at hc; omega) | (simp only [hc]; try simp only [decide_eq_true_eq, decide_eq_false_iff_not, Bool.not_eq_true, Bool.not_eq_false, Bool.not_eq_true', Bool.not_eq_false'] at hc))
    | (refine after_need (by omega) ?_)
    | (refine drawAfter_need (by omega) ?_))
  all_goals exact fin_same trivial rfl
theorem ref39_Check (R L lk kp ki : Int) (h : ¬ obBad R L lk kp ki) : CallOK Tryd.prog gl 36 [.agg [.v (.int .i64 R), .v (.int .i64 L), .v (.int .i64 lk), .v (.int .i64 kp), .v (.int .i64 ki)]] (.v (.int .i64 0)) := by
  refine call_ok (C := ⟨Tryd.prog, gl, ti, 51, false⟩) ti_ok mixed 3000 Tryd.call36 Tryd.func36 rfl Tryd.ntmps36 (by simp) byClL byCl ?_
  rw [Tryd.results36]
  unfold obBad at h
  repeat' (first
    | (simp only [go_sem, Int.reduceAdd, Int.reduceEq, Int.reduceLE, Int.reduceLT, Int.reduceMul, Int.reduceNeg, Int.reducePow, Int.reduceSub, Int.reduceToNat, Nat.reduceAdd, Nat.reduceBEq, Nat.reduceEqDiff, Nat.reduceLT, Nat.reduceLeDiff, Nat.reduceMul, Nat.reducePow, Nat.reduceSub, reduceCtorEq, reduceIte, IntKind.bits.eq_def, ti, tin])
    | (simp (disch := omega) only [w64, wu64, wu32, Nat.min_eq_left])
    | (refine after_lit ti_ok ?_)
    | (refine drawAfter_lit ti_ok ?_)
    | (refine drawEnd_of (by kernel_rfl) ?_)
    | ((first | refine cond_cases (fun hc => ?_) (fun hc => ?_) | refine guard_split (fun hc => ?_) (fun hc => ?_) | refine drawGuard_split (fun hc => ?_) (fun hc => ?_)) <;> first | (exfalso; simp only [decide_eq_true_eq, decide_eq_false_iff_not, Bool.not_eq_true, Bool.not_eq_false, Bool.not_eq_true', Bool.not_eq_false'] at hc; omega) | (simp only [hc]; try simp only [decide_eq_true_eq, decide_eq_false_iff_not, Bool.not_eq_true, Bool.not_eq_false, Bool.not_eq_true', Bool.not_eq_false'] at hc))
    | (refine after_need (by omega) ?_)
    | (refine drawAfter_need (by omega) ?_))
  all_goals exact fin_same trivial rfl
theorem ref39_Check_bad (R L lk kp ki : Int) (h : obBad R L lk kp ki) : CallOK Tryd.prog gl 36 [.agg [.v (.int .i64 R), .v (.int .i64 L), .v (.int .i64 lk), .v (.int .i64 kp), .v (.int .i64 ki)]] (.v (.int .i64 3)) := by
  refine call_ok (C := ⟨Tryd.prog, gl, ti, 51, false⟩) ti_ok mixed 3000 Tryd.call36 Tryd.func36 rfl Tryd.ntmps36 (by simp) byClL byCl ?_
  rw [Tryd.results36]
  unfold obBad at h
  repeat' (first
    | (simp only [go_sem, Int.reduceAdd, Int.reduceEq, Int.reduceLE, Int.reduceLT, Int.reduceMul, Int.reduceNeg, Int.reducePow, Int.reduceSub, Int.reduceToNat, Nat.reduceAdd, Nat.reduceBEq, Nat.reduceEqDiff, Nat.reduceLT, Nat.reduceLeDiff, Nat.reduceMul, Nat.reducePow, Nat.reduceSub, reduceCtorEq, reduceIte, IntKind.bits.eq_def, ti, tin])
    | (simp (disch := omega) only [w64, wu64, wu32, Nat.min_eq_left])
    | (refine after_lit ti_ok ?_)
    | (refine drawAfter_lit ti_ok ?_)
    | (refine drawEnd_of (by kernel_rfl) ?_)
    | ((first | refine cond_cases (fun hc => ?_) (fun hc => ?_) | refine guard_split (fun hc => ?_) (fun hc => ?_) | refine drawGuard_split (fun hc => ?_) (fun hc => ?_)) <;> first | (exfalso; simp only [decide_eq_true_eq, decide_eq_false_iff_not, Bool.not_eq_true, Bool.not_eq_false, Bool.not_eq_true', Bool.not_eq_false'] at hc; omega) | (simp only [hc]; try simp only [decide_eq_true_eq, decide_eq_false_iff_not, Bool.not_eq_true, Bool.not_eq_false, Bool.not_eq_true', Bool.not_eq_false'] at hc))
    | (refine after_need (by omega) ?_)
    | (refine drawAfter_need (by omega) ?_))
  all_goals exact fin_same trivial rfl

def one1 (R lk f v i : Int) : Int := f - f.tdiv (2 ^ lk.toNat) + v - (R * i).tdiv 1000
def flx (R lk f v i : Int) : Int := mf (one1 R lk (mf f) (mv v) (mv i))
theorem flx_bd (R lk f v i : Int) : -70368744177664 ≤ flx R lk f v i ∧ flx R lk f v i ≤ 70368744177664 := mf_bd _
theorem tdiv_le {a b A : Int} (hb : 0 < b) (h : -A ≤ a ∧ a ≤ A) : -A ≤ a.tdiv b ∧ a.tdiv b ≤ A := by
  have h1 := Int.mul_tdiv_add_tmod a b
  by_cases h0 : 0 ≤ a
  · rw [tdiv_nn h0]
    have h2 := Int.ediv_nonneg h0 (by omega : 0 ≤ b)
    have h3 := Int.ediv_le_self b h0
    omega
  · have h4 : (-a).tdiv b = -(a.tdiv b) := Int.neg_tdiv ..
    have h2 := Int.ediv_nonneg (a := -a) (by omega) (by omega : 0 ≤ b)
    have h3 := Int.ediv_le_self (a := -a) b (by omega)
    rw [← tdiv_nn (by omega), h4] at h2 h3
    omega
theorem shl_one {lk : Int} (h : 4 ≤ lk ∧ lk ≤ 16) : 16 ≤ (2 : Int) ^ lk.toNat ∧ (2 : Int) ^ lk.toNat ≤ 65536 := by
  have h1 := pow_bd (n := lk.toNat) (m := 16) (by omega)
  have h2 := pow_bd (n := 4) (m := lk.toNat) (by omega)
  omega

theorem ob_one (R L lk kp ki f v i : Int) (h : ¬ obBad R L lk kp ki) (hf : -70368744177664 ≤ f ∧ f ≤ 70368744177664) (hv : -1048576 ≤ v ∧ v ≤ 1048576) (hi : -1048576 ≤ i ∧ i ≤ 1048576) : CallOK Tryd.prog gl 108 [.v (.int .i64 f), .v (.int .i64 v), .v (.int .i64 i), .rp [.v (.int .i64 R), .v (.int .i64 L), .v (.int .i64 lk), .v (.int .i64 kp), .v (.int .i64 ki)]] (.v (.int .i64 (one1 R lk f v i))) := by
  refine call_ok (C := ⟨Tryd.prog, gl, ti, 23, false⟩) ti_ok mixed 3000 Tryd.call108 Tryd.func108 rfl Tryd.ntmps108 (by simp) byClL byCl ?_
  rw [Tryd.results108]
  unfold obBad at h
  have hp := shl_one (lk := lk) (by omega)
  have b1 := tdiv_le (b := 2 ^ lk.toNat) (by omega) hf
  have b2 := mul_bd (a := R) (A := 1048576) (by omega) hi
  have b3 := tdiv_le (a := R * i) (b := 1000) (by omega) (A := 1099511627776) (by omega)
  repeat' (first
    | (simp only [go_sem, Int.reduceAdd, Int.reduceEq, Int.reduceLE, Int.reduceLT, Int.reduceMul, Int.reduceNeg, Int.reducePow, Int.reduceSub, Int.reduceToNat, Nat.reduceAdd, Nat.reduceBEq, Nat.reduceEqDiff, Nat.reduceLT, Nat.reduceLeDiff, Nat.reduceMul, Nat.reducePow, Nat.reduceSub, reduceCtorEq, reduceIte, IntKind.bits.eq_def, ti, tin])
    | (simp (disch := omega) only [w64, wu64, wu32, Nat.min_eq_left])
    | (refine after_lit ti_ok ?_)
    | (refine drawAfter_lit ti_ok ?_)
    | (refine drawEnd_of (by kernel_rfl) ?_)
    | ((first | refine cond_cases (fun hc => ?_) (fun hc => ?_) | refine guard_split (fun hc => ?_) (fun hc => ?_) | refine drawGuard_split (fun hc => ?_) (fun hc => ?_)) <;> first | (exfalso; simp only [decide_eq_true_eq, decide_eq_false_iff_not, Bool.not_eq_true, Bool.not_eq_false, Bool.not_eq_true', Bool.not_eq_false'] at hc; omega) | (simp only [hc]; try simp only [decide_eq_true_eq, decide_eq_false_iff_not, Bool.not_eq_true, Bool.not_eq_false, Bool.not_eq_true', Bool.not_eq_false'] at hc))
    | (refine after_need (by omega) ?_)
    | (refine drawAfter_need (by omega) ?_))
  exact fin_same trivial rfl
theorem mf_sub (x : Int) : clip x (0 - 70368744177664) 70368744177664 = mf x := rfl
theorem mv_sub (x : Int) : clip x (0 - 1048576) 1048576 = mv x := rfl
theorem mf_neg (x : Int) : clip x (-70368744177664) 70368744177664 = mf x := rfl
theorem mv_neg (x : Int) : clip x (-1048576) 1048576 = mv x := rfl
theorem ms_neg (x : Int) : clip x (-1073741824) 1073741824 = msp x := rfl
theorem ob_flux (R L lk kp ki fa fb an sp va vb ia ib : Int) (h : ¬ obBad R L lk kp ki) : CallOK Tryd.prog gl 74 [.agg [.v (.int .i64 R), .v (.int .i64 L), .v (.int .i64 lk), .v (.int .i64 kp), .v (.int .i64 ki)], .agg [.v (.int .i64 fa), .v (.int .i64 fb), .v (.int .i64 an), .v (.int .i64 sp)], .agg [.v (.int .i64 va), .v (.int .i64 vb)], .agg [.v (.int .i64 ia), .v (.int .i64 ib)]] (.agg [.v (.int .i64 (flx R lk fa va ia)), .v (.int .i64 (flx R lk fb vb ib))]) := by
  refine call_ok (C := ⟨Tryd.prog, gl, ti, 37, false⟩) ti_ok mixed 3000 Tryd.call74 Tryd.func74 rfl Tryd.ntmps74 (by simp) byClL byCl ?_
  rw [Tryd.results74]
  have f1 := mf_bd fa
  have f2 := mf_bd fb
  have v1 := mv_bd va
  have v2 := mv_bd vb
  have i1 := mv_bd ia
  have i2 := mv_bd ib
  repeat' (first
    | (simp only [go_sem, Int.reduceAdd, Int.reduceEq, Int.reduceLE, Int.reduceLT, Int.reduceMul, Int.reduceNeg, Int.reducePow, Int.reduceSub, Int.reduceToNat, Nat.reduceAdd, Nat.reduceBEq, Nat.reduceEqDiff, Nat.reduceLT, Nat.reduceLeDiff, Nat.reduceMul, Nat.reducePow, Nat.reduceSub, reduceCtorEq, reduceIte, IntKind.bits.eq_def, ti, tin, mf_sub, mv_sub, mf_neg, mv_neg])
    | (simp (disch := omega) only [w64, wu64, wu32, Nat.min_eq_left])
    | (with_reducible refine callF_of (ob_box _ _ _ (by omega)) ?_)
    | (with_reducible refine drawF_of (ob_box _ _ _ (by omega)) ?_)
    | (with_reducible refine callF_of (ob_one _ _ _ _ _ _ _ _ h (by omega) (by omega) (by omega)) ?_)
    | (with_reducible refine drawF_of (ob_one _ _ _ _ _ _ _ _ h (by omega) (by omega) (by omega)) ?_)
    | (refine after_thaw ti_ok 0 rfl (by (repeat' (first | exact trivial | exact fun _ => ⟨rfl, Nat.le_of_ble_eq_true rfl⟩ | exact fun h => absurd h (by decide) | refine And.intro ?_ ?_))) rfl rfl trivial ?_)
    | (refine after_lit ti_ok ?_)
    | (refine drawAfter_lit ti_ok ?_)
    | (refine drawEnd_of (by kernel_rfl) ?_)
    | ((first | refine cond_cases (fun hc => ?_) (fun hc => ?_) | refine guard_split (fun hc => ?_) (fun hc => ?_) | refine drawGuard_split (fun hc => ?_) (fun hc => ?_)) <;> first | (exfalso; simp only [decide_eq_true_eq, decide_eq_false_iff_not, Bool.not_eq_true, Bool.not_eq_false, Bool.not_eq_true', Bool.not_eq_false'] at hc; omega) | (simp only [hc]; try simp only [decide_eq_true_eq, decide_eq_false_iff_not, Bool.not_eq_true, Bool.not_eq_false, Bool.not_eq_true', Bool.not_eq_false'] at hc))
    | (refine after_need (by omega) ?_)
    | (refine drawAfter_need (by omega) ?_))
  exact fin_same trivial rfl
def mag (L f i : Int) : Int := mf f - (L * mv i).tdiv 1024
theorem mag_bd {L f i : Int} (h : 0 ≤ L ∧ L ≤ 1048576) : -71468255805440 ≤ mag L f i ∧ mag L f i ≤ 71468255805440 := by
  have h1 := mf_bd f
  have h2 := mul_bd (a := L) (A := 1048576) (by omega) (mv_bd i)
  have b3 := tdiv_le (a := L * mv i) (b := 1024) (by omega) (A := 1099511627776) (by omega)
  unfold mag; omega
theorem ob_wrap (x : Int) : CallOK Tryd.prog gl 75 [.v (.int .i64 x)] (.v (.int .i64 (x % 4294967296))) := by
  refine call_ok (C := ⟨Tryd.prog, gl, ti, 5, false⟩) ti_ok mixed 3000 Tryd.call75 Tryd.func75 rfl Tryd.ntmps75 (by simp) byClL byCl ?_
  rw [Tryd.results75]
  repeat' (first
    | (simp only [go_sem, Int.reduceAdd, Int.reduceEq, Int.reduceLE, Int.reduceLT, Int.reduceMul, Int.reduceNeg, Int.reducePow, Int.reduceSub, Int.reduceToNat, Nat.reduceAdd, Nat.reduceBEq, Nat.reduceEqDiff, Nat.reduceLT, Nat.reduceLeDiff, Nat.reduceMul, Nat.reducePow, Nat.reduceSub, reduceCtorEq, reduceIte, IntKind.bits.eq_def, ti, tin, and_32])
    | (simp (disch := omega) only [w64, wu64, wu32, Nat.min_eq_left])
    | (refine after_lit ti_ok ?_)
    | (refine drawAfter_lit ti_ok ?_)
    | (refine drawEnd_of (by kernel_rfl) ?_)
    | ((first | refine cond_cases (fun hc => ?_) (fun hc => ?_) | refine guard_split (fun hc => ?_) (fun hc => ?_) | refine drawGuard_split (fun hc => ?_) (fun hc => ?_)) <;> first | (exfalso; simp only [decide_eq_true_eq, decide_eq_false_iff_not, Bool.not_eq_true, Bool.not_eq_false, Bool.not_eq_true', Bool.not_eq_false'] at hc; omega) | (simp only [hc]; try simp only [decide_eq_true_eq, decide_eq_false_iff_not, Bool.not_eq_true, Bool.not_eq_false, Bool.not_eq_true', Bool.not_eq_false'] at hc))
    | (refine after_need (by omega) ?_)
    | (refine drawAfter_need (by omega) ?_))
  exact fin_same trivial rfl
def trE (an m : Int) : Int := dif m (an % 4294967296 / 65536)
def trS (ki an sp m : Int) : Int := msp (msp sp + ki * trE an m)
def trA (kp ki an sp m : Int) : Int := (an % 4294967296 + trS ki an sp m + kp * trE an m) % 4294967296
theorem ob_track (R L lk kp ki fa fb an sp m : Int) (h : ¬ obBad R L lk kp ki) : CallOK Tryd.prog gl 33 [.agg [.v (.int .i64 R), .v (.int .i64 L), .v (.int .i64 lk), .v (.int .i64 kp), .v (.int .i64 ki)], .agg [.v (.int .i64 fa), .v (.int .i64 fb), .v (.int .i64 an), .v (.int .i64 sp)], .v (.int .i64 m)] (.agg [.v (.int .i64 (mf fa)), .v (.int .i64 (mf fb)), .v (.int .i64 (trA kp ki an sp m)), .v (.int .i64 (trS ki an sp m))]) := by
  refine call_ok (C := ⟨Tryd.prog, gl, ti, 40, false⟩) ti_ok mixed 3000 Tryd.call33 Tryd.func33 rfl Tryd.ntmps33 (by simp) byClL byCl ?_
  rw [Tryd.results33]
  unfold obBad at h
  have e1 : dif m (an % 4294967296 / 65536) = trE an m := rfl
  have e2 : msp (msp sp + ki * trE an m) = trS ki an sp m := rfl
  have hd : -32768 ≤ trE an m ∧ trE an m ≤ 32767 := dif_bd _ _
  have h1 := mul_bd (a := ki) (A := 65536) (B := 32768) (b := trE an m) (by omega) (by omega)
  have h2 := mul_bd (a := kp) (A := 65536) (B := 32768) (b := trE an m) (by omega) (by omega)
  have h3 := ms_bd sp
  have h4 : -1073741824 ≤ trS ki an sp m ∧ trS ki an sp m ≤ 1073741824 := ms_bd _
  repeat' (first
    | (simp only [go_sem, Int.reduceAdd, Int.reduceEq, Int.reduceLE, Int.reduceLT, Int.reduceMul, Int.reduceNeg, Int.reducePow, Int.reduceSub, Int.reduceToNat, Nat.reduceAdd, Nat.reduceBEq, Nat.reduceEqDiff, Nat.reduceLT, Nat.reduceLeDiff, Nat.reduceMul, Nat.reducePow, Nat.reduceSub, reduceCtorEq, reduceIte, IntKind.bits.eq_def, ti, tin, mf_sub, mf_neg, ms_neg, e1, e2])
    | (simp (disch := omega) only [w64, wu64, wu32, Nat.min_eq_left])
    | (with_reducible refine callF_of (ob_box _ _ _ (by omega)) ?_)
    | (with_reducible refine drawF_of (ob_box _ _ _ (by omega)) ?_)
    | (with_reducible refine callF_of (ob_wrap _) ?_)
    | (with_reducible refine drawF_of (ob_wrap _) ?_)
    | (with_reducible refine callF_of (ang_Diff _ _) ?_)
    | (with_reducible refine drawF_of (ang_Diff _ _) ?_)
    | (with_reducible refine callF_of (ob_clip _ _ _) ?_)
    | (with_reducible refine drawF_of (ob_clip _ _ _) ?_)
    | (refine after_lit ti_ok ?_)
    | (refine drawAfter_lit ti_ok ?_)
    | (refine drawEnd_of (by kernel_rfl) ?_)
    | ((first | refine cond_cases (fun hc => ?_) (fun hc => ?_) | refine guard_split (fun hc => ?_) (fun hc => ?_) | refine drawGuard_split (fun hc => ?_) (fun hc => ?_)) <;> first | (exfalso; simp only [decide_eq_true_eq, decide_eq_false_iff_not, Bool.not_eq_true, Bool.not_eq_false, Bool.not_eq_true', Bool.not_eq_false'] at hc; omega) | (simp only [hc]; try simp only [decide_eq_true_eq, decide_eq_false_iff_not, Bool.not_eq_true, Bool.not_eq_false, Bool.not_eq_true', Bool.not_eq_false'] at hc))
    | (refine after_need (by omega) ?_)
    | (refine drawAfter_need (by omega) ?_))
  exact fin_same trivial rfl
theorem ref39_State (fa fb an sp : Int) : CallOK Tryd.prog gl 37 [.agg [.v (.int .i64 fa), .v (.int .i64 fb), .v (.int .i64 an), .v (.int .i64 sp)]] (.agg [.v (.int .i64 (mf fa)), .v (.int .i64 (mf fb)), .v (.int .i64 (an % 4294967296)), .v (.int .i64 (msp sp))]) := by
  refine call_ok (C := ⟨Tryd.prog, gl, ti, 21, false⟩) ti_ok mixed 3000 Tryd.call37 Tryd.func37 rfl Tryd.ntmps37 (by simp) byClL byCl ?_
  rw [Tryd.results37]
  have h := tmod_bd an (b := 4294967296) (by omega)
  repeat' (first
    | (simp only [go_sem, Int.reduceAdd, Int.reduceEq, Int.reduceLE, Int.reduceLT, Int.reduceMul, Int.reduceNeg, Int.reducePow, Int.reduceSub, Int.reduceToNat, Nat.reduceAdd, Nat.reduceBEq, Nat.reduceEqDiff, Nat.reduceLT, Nat.reduceLeDiff, Nat.reduceMul, Nat.reducePow, Nat.reduceSub, reduceCtorEq, reduceIte, IntKind.bits.eq_def, ti, tin, mf_neg, ms_neg, tmod_32])
    | (simp (disch := omega) only [w64, wu64, wu32, Nat.min_eq_left])
    | (with_reducible refine callF_of (base_Clip _ _ _) ?_)
    | (with_reducible refine drawF_of (base_Clip _ _ _) ?_)
    | (refine after_lit ti_ok ?_)
    | (refine drawAfter_lit ti_ok ?_)
    | (refine drawEnd_of (by kernel_rfl) ?_)
    | ((first | refine cond_cases (fun hc => ?_) (fun hc => ?_) | refine guard_split (fun hc => ?_) (fun hc => ?_) | refine drawGuard_split (fun hc => ?_) (fun hc => ?_)) <;> first | (exfalso; simp only [decide_eq_true_eq, decide_eq_false_iff_not, Bool.not_eq_true, Bool.not_eq_false, Bool.not_eq_true', Bool.not_eq_false'] at hc; omega) | (simp only [hc]; try simp only [decide_eq_true_eq, decide_eq_false_iff_not, Bool.not_eq_true, Bool.not_eq_false, Bool.not_eq_true', Bool.not_eq_false'] at hc))
    | (refine after_need (by omega) ?_)
    | (refine drawAfter_need (by omega) ?_))
  exact fin_same trivial rfl
end Go.Proofs.YtfoadddlmehpnaaDoor
