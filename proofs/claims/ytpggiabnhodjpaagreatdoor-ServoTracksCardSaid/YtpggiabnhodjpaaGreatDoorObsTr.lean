/- Layer 39 (observer) and its reference. -/
import Derived.Test.YtpggiabnhodjpaaGreatDoorNum
import Derived.Test.YtpggiabnhodjpaaGreatDoorTub1
import Derived.Test.YtpggiabnhodjpaaGreatDoorMat2
import Derived.Test.YtpggiabnhodjpaaGreatDoorRef8
import Derived.Test.YtpggiabnhodjpaaGreatDoorDy4
import Derived.Test.YtpggiabnhodjpaaGreatDoorU3
import Derived.Test.YtpggiabnhodjpaaGreatDoorU4
set_option linter.unusedSimpArgs false
set_option linter.unusedVariables false
set_option linter.deprecated false
namespace Go.Proofs.YtpggiabnhodjpaaGreatDoor
open Go Go.Ax
set_option maxRecDepth 100000
set_option maxHeartbeats 4000000
def obBad (R L lk kp ki : Int) : Prop := R < 0 ∨ 1048576 < R ∨ L < 0 ∨ 1048576 < L ∨ lk < 4 ∨ 16 < lk ∨ kp < 0 ∨ 65536 < kp ∨ ki < 0 ∨ 65536 < ki
def mf (x : Int) : Int := clip x (-70368744177664) 70368744177664
def mv (x : Int) : Int := clip x (-1048576) 1048576
def msp (x : Int) : Int := clip x (-1073741824) 1073741824
theorem mf_bd (x : Int) : -70368744177664 ≤ mf x ∧ mf x ≤ 70368744177664 := clip_bd (by omega) x
theorem mv_bd (x : Int) : -1048576 ≤ mv x ∧ mv x ≤ 1048576 := clip_bd (by omega) x
theorem ms_bd (x : Int) : -1073741824 ≤ msp x ∧ msp x ≤ 1073741824 := clip_bd (by omega) x
theorem ob_clip (x lo hi : Int) : CallOK Tryz.prog gl 157 [.v (.int .i64 x), .v (.int .i64 lo), .v (.int .i64 hi)] (.v (.int .i64 (clip x lo hi))) := by
  refine call_ok (C := ⟨Tryz.prog, gl, ti, 12, false⟩) ti_ok mixed 3000 Tryz.call157 Tryz.func157 rfl Tryz.ntmps157 (by simp) byClL byCl ?_
  rw [Tryz.results157]
  repeat' (first | (simp only [go_sem, seval, IntKind.bits.eq_def, ti, tin]) | (simp (disch := omega) only [wA]) | refine aL ti_ok ?_ | refine dL ti_ok ?_ | refine dG ?_ | ((first | refine cC ?_ ?_ | refine gS ?_ ?_ | refine dS ?_ ?_) <;> intro hc <;> first | (exfalso; simp only [dcA] at hc; omega) | (simp only [hc]; try simp only [dcA] at hc)) | refine aO ?_ | refine dO ?_)
  exact fin_same trivial rfl
theorem ob_box (a b m : Int) (hm : 0 ≤ m ∧ m ≤ 4611686018427387904) : CallOK Tryz.prog gl 158 [.agg [.v (.int .i64 a), .v (.int .i64 b)], .v (.int .i64 m)] (.agg [.v (.int .i64 (clip a (0 - m) m)), .v (.int .i64 (clip b (0 - m) m))]) := by
  refine call_ok (C := ⟨Tryz.prog, gl, ti, 18, false⟩) ti_ok mixed 3000 Tryz.call158 Tryz.func158 rfl Tryz.ntmps158 (by simp) byClL byCl ?_
  rw [Tryz.results158]
  repeat' (first | (simp only [go_sem, seval, IntKind.bits.eq_def, ti, tin]) | (simp (disch := omega) only [wA]) | (with_reducible first | refine cF (ob_clip _ _ _) ?_ | refine dF (ob_clip _ _ _) ?_) | refine aL ti_ok ?_ | refine dL ti_ok ?_ | refine dG ?_ | ((first | refine cC ?_ ?_ | refine gS ?_ ?_ | refine dS ?_ ?_) <;> intro hc <;> first | (exfalso; simp only [dcA] at hc; omega) | (simp only [hc]; try simp only [dcA] at hc)) | refine aO ?_ | refine dO ?_)
  exact fin_same trivial rfl
theorem ob_Check (R L lk kp ki : Int) (h : ¬ obBad R L lk kp ki) : CallOK Tryz.prog gl 114 [.agg [.v (.int .i64 R), .v (.int .i64 L), .v (.int .i64 lk), .v (.int .i64 kp), .v (.int .i64 ki)]] (.v .nilIface) := by
  refine call_ok (C := ⟨Tryz.prog, gl, ti, 40, false⟩) ti_ok mixed 3000 Tryz.call114 Tryz.func114 rfl Tryz.ntmps114 (by simp) byClL byCl ?_
  rw [Tryz.results114]
  unfold obBad at h
  repeat' (first | (simp only [go_sem, seval, IntKind.bits.eq_def, ti, tin]) | (simp (disch := omega) only [wA]) | refine aL ti_ok ?_ | refine dL ti_ok ?_ | refine dG ?_ | ((first | refine cC ?_ ?_ | refine gS ?_ ?_ | refine dS ?_ ?_) <;> intro hc <;> first | (exfalso; simp only [dcA] at hc; omega) | (simp only [hc]; try simp only [dcA] at hc)) | refine aO ?_ | refine dO ?_)
  all_goals exact fin_same trivial rfl
theorem ref39_Check (R L lk kp ki : Int) (h : ¬ obBad R L lk kp ki) : CallOK Tryz.prog gl 43 [.agg [.v (.int .i64 R), .v (.int .i64 L), .v (.int .i64 lk), .v (.int .i64 kp), .v (.int .i64 ki)]] (.v (.int .i64 0)) := by
  refine call_ok (C := ⟨Tryz.prog, gl, ti, 51, false⟩) ti_ok mixed 3000 Tryz.call43 Tryz.func43 rfl Tryz.ntmps43 (by simp) byClL byCl ?_
  rw [Tryz.results43]
  unfold obBad at h
  repeat' (first | (simp only [go_sem, seval, IntKind.bits.eq_def, ti, tin]) | (simp (disch := omega) only [wA]) | refine aL ti_ok ?_ | refine dL ti_ok ?_ | refine dG ?_ | ((first | refine cC ?_ ?_ | refine gS ?_ ?_ | refine dS ?_ ?_) <;> intro hc <;> first | (exfalso; simp only [dcA] at hc; omega) | (simp only [hc]; try simp only [dcA] at hc)) | refine aO ?_ | refine dO ?_)
  all_goals exact fin_same trivial rfl
theorem ref39_Check_bad (R L lk kp ki : Int) (h : obBad R L lk kp ki) : CallOK Tryz.prog gl 43 [.agg [.v (.int .i64 R), .v (.int .i64 L), .v (.int .i64 lk), .v (.int .i64 kp), .v (.int .i64 ki)]] (.v (.int .i64 3)) := by
  refine call_ok (C := ⟨Tryz.prog, gl, ti, 51, false⟩) ti_ok mixed 3000 Tryz.call43 Tryz.func43 rfl Tryz.ntmps43 (by simp) byClL byCl ?_
  rw [Tryz.results43]
  unfold obBad at h
  repeat' (first | (simp only [go_sem, seval, IntKind.bits.eq_def, ti, tin]) | (simp (disch := omega) only [wA]) | refine aL ti_ok ?_ | refine dL ti_ok ?_ | refine dG ?_ | ((first | refine cC ?_ ?_ | refine gS ?_ ?_ | refine dS ?_ ?_) <;> intro hc <;> first | (exfalso; simp only [dcA] at hc; omega) | (simp only [hc]; try simp only [dcA] at hc)) | refine aO ?_ | refine dO ?_)
  all_goals exact fin_same trivial rfl
def one1 (R lk f v i : Int) : Int := f - f.tdiv (2 ^ lk.toNat) + v - (R * i).tdiv 1000
def flx (R lk f v i : Int) : Int := mf (one1 R lk (mf f) (mv v) (mv i))
theorem tdiv_le {a b A : Int} (hb : 0 < b) (h : -A ≤ a ∧ a ≤ A) : -A ≤ a.tdiv b ∧ a.tdiv b ≤ A := by
  have h1 := Int.mul_tdiv_add_tmod a b
  by_cases h0 : 0 ≤ a
  · rw [tdiv_nn h0]
    have h2 := Int.ediv_nonneg h0 (by omega : 0 ≤ b)
    have h3 := Int.ediv_le_self b h0
    omega
  · have h4 : (-a).tdiv b = -(a.tdiv b) := Int.neg_tdiv ..
    have h2 := Int.ediv_nonneg (a := -a) (by omega) (by omega : 0 ≤ b)
    have h3 := Int.ediv_le_self (a := -a) b (by omega)
    rw [← tdiv_nn (by omega), h4] at h2 h3
    omega
theorem shl_one {lk : Int} (h : 4 ≤ lk ∧ lk ≤ 16) : 16 ≤ (2 : Int) ^ lk.toNat ∧ (2 : Int) ^ lk.toNat ≤ 65536 := by
  have h1 := pow_bd (n := lk.toNat) (m := 16) (by omega)
  have h2 := pow_bd (n := 4) (m := lk.toNat) (by omega)
  omega
theorem ob_one (R L lk kp ki f v i : Int) (h : ¬ obBad R L lk kp ki) (hf : -70368744177664 ≤ f ∧ f ≤ 70368744177664) (hv : -1048576 ≤ v ∧ v ≤ 1048576) (hi : -1048576 ≤ i ∧ i ≤ 1048576) : CallOK Tryz.prog gl 178 [.v (.int .i64 f), .v (.int .i64 v), .v (.int .i64 i), .rp [.v (.int .i64 R), .v (.int .i64 L), .v (.int .i64 lk), .v (.int .i64 kp), .v (.int .i64 ki)]] (.v (.int .i64 (one1 R lk f v i))) := by
  refine call_ok (C := ⟨Tryz.prog, gl, ti, 23, false⟩) ti_ok mixed 3000 Tryz.call178 Tryz.func178 rfl Tryz.ntmps178 (by simp) byClL byCl ?_
  rw [Tryz.results178]
  unfold obBad at h
  have hp := shl_one (lk := lk) (by omega)
  have b1 := tdiv_le (b := 2 ^ lk.toNat) (by omega) hf
  have b2 := mul_bd (a := R) (A := 1048576) (by omega) hi
  have b3 := tdiv_le (a := R * i) (b := 1000) (by omega) (A := 1099511627776) (by omega)
  repeat' (first | (simp only [go_sem, seval, IntKind.bits.eq_def, ti, tin]) | (simp (disch := omega) only [wA]) | refine aL ti_ok ?_ | refine dL ti_ok ?_ | refine dG ?_ | ((first | refine cC ?_ ?_ | refine gS ?_ ?_ | refine dS ?_ ?_) <;> intro hc <;> first | (exfalso; simp only [dcA] at hc; omega) | (simp only [hc]; try simp only [dcA] at hc)) | refine aO ?_ | refine dO ?_)
  exact fin_same trivial rfl
theorem mf_sub (x : Int) : clip x (0 - 70368744177664) 70368744177664 = mf x := rfl
theorem mv_sub (x : Int) : clip x (0 - 1048576) 1048576 = mv x := rfl
theorem mf_neg (x : Int) : clip x (-70368744177664) 70368744177664 = mf x := rfl
theorem mv_neg (x : Int) : clip x (-1048576) 1048576 = mv x := rfl
theorem ms_neg (x : Int) : clip x (-1073741824) 1073741824 = msp x := rfl
theorem ob_flux (R L lk kp ki fa fb an sp va vb ia ib : Int) (h : ¬ obBad R L lk kp ki) : CallOK Tryz.prog gl 154 [.agg [.v (.int .i64 R), .v (.int .i64 L), .v (.int .i64 lk), .v (.int .i64 kp), .v (.int .i64 ki)], .agg [.v (.int .i64 fa), .v (.int .i64 fb), .v (.int .i64 an), .v (.int .i64 sp)], .agg [.v (.int .i64 va), .v (.int .i64 vb)], .agg [.v (.int .i64 ia), .v (.int .i64 ib)]] (.agg [.v (.int .i64 (flx R lk fa va ia)), .v (.int .i64 (flx R lk fb vb ib))]) := by
  refine call_ok (C := ⟨Tryz.prog, gl, ti, 37, false⟩) ti_ok mixed 3000 Tryz.call154 Tryz.func154 rfl Tryz.ntmps154 (by simp) byClL byCl ?_
  rw [Tryz.results154]
  have f1 := mf_bd fa
  have f2 := mf_bd fb
  have v1 := mv_bd va
  have v2 := mv_bd vb
  have i1 := mv_bd ia
  have i2 := mv_bd ib
  repeat' (first | (simp only [go_sem, seval, IntKind.bits.eq_def, ti, tin, mf_sub, mv_sub, mf_neg, mv_neg]) | (simp (disch := omega) only [wA]) | (with_reducible first | refine cF (ob_box _ _ _ (by omega)) ?_ | refine dF (ob_box _ _ _ (by omega)) ?_ | refine cF (ob_one _ _ _ _ _ _ _ _ h (by omega) (by omega) (by omega)) ?_ | refine dF (ob_one _ _ _ _ _ _ _ _ h (by omega) (by omega) (by omega)) ?_) | (refine after_thaw ti_ok 0 rfl (by (repeat' (first | exact trivial | exact fun _ => ⟨rfl, Nat.le_of_ble_eq_true rfl⟩ | exact fun h => absurd h (by decide) | refine And.intro ?_ ?_))) rfl rfl trivial ?_) | refine aL ti_ok ?_ | refine dL ti_ok ?_ | refine dG ?_ | ((first | refine cC ?_ ?_ | refine gS ?_ ?_ | refine dS ?_ ?_) <;> intro hc <;> first | (exfalso; simp only [dcA] at hc; omega) | (simp only [hc]; try simp only [dcA] at hc)) | refine aO ?_ | refine dO ?_)
  exact fin_same trivial rfl
theorem ob_wrap (x : Int) : CallOK Tryz.prog gl 155 [.v (.int .i64 x)] (.v (.int .i64 (x % 4294967296))) := by
  refine call_ok (C := ⟨Tryz.prog, gl, ti, 5, false⟩) ti_ok mixed 3000 Tryz.call155 Tryz.func155 rfl Tryz.ntmps155 (by simp) byClL byCl ?_
  rw [Tryz.results155]
  repeat' (first | (simp only [go_sem, seval, IntKind.bits.eq_def, ti, tin, and_32]) | (simp (disch := omega) only [wA]) | refine aL ti_ok ?_ | refine dL ti_ok ?_ | refine dG ?_ | ((first | refine cC ?_ ?_ | refine gS ?_ ?_ | refine dS ?_ ?_) <;> intro hc <;> first | (exfalso; simp only [dcA] at hc; omega) | (simp only [hc]; try simp only [dcA] at hc)) | refine aO ?_ | refine dO ?_)
  exact fin_same trivial rfl
def trE (an m : Int) : Int := dif m (an % 4294967296 / 65536)
def trS (ki an sp m : Int) : Int := msp (msp sp + ki * trE an m)
def trA (kp ki an sp m : Int) : Int := (an % 4294967296 + trS ki an sp m + kp * trE an m) % 4294967296
theorem ob_track (R L lk kp ki fa fb an sp m : Int) (h : ¬ obBad R L lk kp ki) : CallOK Tryz.prog gl 117 [.agg [.v (.int .i64 R), .v (.int .i64 L), .v (.int .i64 lk), .v (.int .i64 kp), .v (.int .i64 ki)], .agg [.v (.int .i64 fa), .v (.int .i64 fb), .v (.int .i64 an), .v (.int .i64 sp)], .v (.int .i64 m)] (.agg [.v (.int .i64 (mf fa)), .v (.int .i64 (mf fb)), .v (.int .i64 (trA kp ki an sp m)), .v (.int .i64 (trS ki an sp m))]) := by
  refine call_ok (C := ⟨Tryz.prog, gl, ti, 40, false⟩) ti_ok mixed 3000 Tryz.call117 Tryz.func117 rfl Tryz.ntmps117 (by simp) byClL byCl ?_
  rw [Tryz.results117]
  unfold obBad at h
  have e1 : dif m (an % 4294967296 / 65536) = trE an m := rfl
  have e2 : msp (msp sp + ki * trE an m) = trS ki an sp m := rfl
  have hd : -32768 ≤ trE an m ∧ trE an m ≤ 32767 := dif_bd _ _
  have h1 := mul_bd (a := ki) (A := 65536) (B := 32768) (b := trE an m) (by omega) (by omega)
  have h2 := mul_bd (a := kp) (A := 65536) (B := 32768) (b := trE an m) (by omega) (by omega)
  have h3 := ms_bd sp
  have h4 : -1073741824 ≤ trS ki an sp m ∧ trS ki an sp m ≤ 1073741824 := ms_bd _
  repeat' (first | (simp only [go_sem, seval, IntKind.bits.eq_def, ti, tin, mf_sub, mf_neg, ms_neg, e1, e2]) | (simp (disch := omega) only [wA]) | (with_reducible first | refine cF (ob_box _ _ _ (by omega)) ?_ | refine dF (ob_box _ _ _ (by omega)) ?_ | refine cF (ob_wrap _) ?_ | refine dF (ob_wrap _) ?_ | refine cF (ang_Diff _ _) ?_ | refine dF (ang_Diff _ _) ?_ | refine cF (ob_clip _ _ _) ?_ | refine dF (ob_clip _ _ _) ?_) | refine aL ti_ok ?_ | refine dL ti_ok ?_ | refine dG ?_ | ((first | refine cC ?_ ?_ | refine gS ?_ ?_ | refine dS ?_ ?_) <;> intro hc <;> first | (exfalso; simp only [dcA] at hc; omega) | (simp only [hc]; try simp only [dcA] at hc)) | refine aO ?_ | refine dO ?_)
  exact fin_same trivial rfl
end Go.Proofs.YtpggiabnhodjpaaGreatDoor
set_option linter.unusedSimpArgs false
set_option linter.unusedVariables false
set_option linter.deprecated false
namespace Go.Proofs.YtpggiabnhodjpaaGreatDoor
open Go Go.Ax
set_option maxRecDepth 100000
set_option maxHeartbeats 4000000
theorem ob_Flux (R L lk kp ki fa fb an sp va vb ia ib : Int) (h : ¬ obBad R L lk kp ki) : CallOK Tryz.prog gl 113 [.agg [.v (.int .i64 R), .v (.int .i64 L), .v (.int .i64 lk), .v (.int .i64 kp), .v (.int .i64 ki)], .agg [.v (.int .i64 fa), .v (.int .i64 fb), .v (.int .i64 an), .v (.int .i64 sp)], .agg [.v (.int .i64 va), .v (.int .i64 vb)], .agg [.v (.int .i64 ia), .v (.int .i64 ib)]] (.tup [.agg [.v (.int .i64 (flx R lk fa va ia)), .v (.int .i64 (flx R lk fb vb ib))], .v .nilIface]) := by
  refine call_ok (C := ⟨Tryz.prog, gl, ti, 22, false⟩) ti_ok mixed 3000 Tryz.call113 Tryz.func113 rfl Tryz.ntmps113 (by simp) byClL byCl ?_
  rw [Tryz.results113]
  repeat' (first | (simp only [go_sem, seval, IntKind.bits.eq_def, ti, tin]) | (simp (disch := omega) only [wA]) | (with_reducible first | refine cF (ob_Check _ _ _ _ _ h) ?_ | refine dF (ob_Check _ _ _ _ _ h) ?_ | refine cF (ob_flux _ _ _ _ _ _ _ _ _ _ _ _ _ h) ?_ | refine dF (ob_flux _ _ _ _ _ _ _ _ _ _ _ _ _ h) ?_) | refine aL ti_ok ?_ | refine dL ti_ok ?_ | refine dG ?_ | ((first | refine cC ?_ ?_ | refine gS ?_ ?_ | refine dS ?_ ?_) <;> intro hc <;> first | (exfalso; simp only [dcA] at hc; omega) | (simp only [hc]; try simp only [dcA] at hc)) | refine aO ?_ | refine dO ?_)
  exact fin_same trivial rfl
theorem ob_Track (R L lk kp ki fa fb an sp m : Int) (h : ¬ obBad R L lk kp ki) : CallOK Tryz.prog gl 48 [.agg [.v (.int .i64 R), .v (.int .i64 L), .v (.int .i64 lk), .v (.int .i64 kp), .v (.int .i64 ki)], .agg [.v (.int .i64 fa), .v (.int .i64 fb), .v (.int .i64 an), .v (.int .i64 sp)], .v (.int .i64 m)] (.tup [.agg [.v (.int .i64 (mf fa)), .v (.int .i64 (mf fb)), .v (.int .i64 (trA kp ki an sp m)), .v (.int .i64 (trS ki an sp m))], .v .nilIface]) := by
  refine call_ok (C := ⟨Tryz.prog, gl, ti, 19, false⟩) ti_ok mixed 3000 Tryz.call48 Tryz.func48 rfl Tryz.ntmps48 (by simp) byClL byCl ?_
  rw [Tryz.results48]
  repeat' (first | (simp only [go_sem, seval, IntKind.bits.eq_def, ti, tin]) | (simp (disch := omega) only [wA]) | (with_reducible first | refine cF (ob_Check _ _ _ _ _ h) ?_ | refine dF (ob_Check _ _ _ _ _ h) ?_ | refine cF (ob_track _ _ _ _ _ _ _ _ _ _ h) ?_ | refine dF (ob_track _ _ _ _ _ _ _ _ _ _ h) ?_) | refine aL ti_ok ?_ | refine dL ti_ok ?_ | refine dG ?_ | ((first | refine cC ?_ ?_ | refine gS ?_ ?_ | refine dS ?_ ?_) <;> intro hc <;> first | (exfalso; simp only [dcA] at hc; omega) | (simp only [hc]; try simp only [dcA] at hc)) | refine aO ?_ | refine dO ?_)
  exact fin_same trivial rfl
theorem aw39_a : trA 32768 0 0 0 100 = 3276800 := by decide
theorem aw39_b : flx 1000 4 160 5 2 = 153 := by decide
theorem aw39_c : flx 1000 4 0 0 0 = 0 := by decide
theorem aw39_t : ∃ s, CallOK Tryz.prog gl 48 [.agg [.v (.int .i64 0), .v (.int .i64 0), .v (.int .i64 4), .v (.int .i64 32768), .v (.int .i64 0)], .agg [.v (.int .i64 0), .v (.int .i64 0), .v (.int .i64 0), .v (.int .i64 0)], .v (.int .i64 100)] (.tup [.agg [.v (.int .i64 0), .v (.int .i64 0), .v (.int .i64 3276800), .v (.int .i64 s)], .v .nilIface]) := by
  have h := ob_Track 0 0 4 32768 0 0 0 0 0 100 (by unfold obBad; omega)
  rw [aw39_a, show mf 0 = 0 from rfl] at h
  exact ⟨_, h⟩
theorem aw39_f : CallOK Tryz.prog gl 113 [.agg [.v (.int .i64 1000), .v (.int .i64 0), .v (.int .i64 4), .v (.int .i64 0), .v (.int .i64 0)], .agg [.v (.int .i64 160), .v (.int .i64 0), .v (.int .i64 0), .v (.int .i64 0)], .agg [.v (.int .i64 5), .v (.int .i64 0)], .agg [.v (.int .i64 2), .v (.int .i64 0)]] (.tup [.agg [.v (.int .i64 153), .v (.int .i64 0)], .v .nilIface]) := by
  have h := ob_Flux 1000 0 4 0 0 160 0 0 0 5 0 2 0 (by unfold obBad; omega)
  rw [aw39_b, aw39_c] at h
  exact h
theorem awake39  : CallOK Tryz.prog gl 44 [] (.v (.bool (true))) := by
  refine call_ok (C := ⟨Tryz.prog, gl, ti, 41, false⟩) ti_ok mixed 3000 Tryz.call44 Tryz.func44 rfl Tryz.ntmps44 (by simp) byClL byCl ?_
  rw [Tryz.results44]
  obtain ⟨s, hs⟩ := aw39_t
  repeat' (first | (simp only [go_sem, seval, IntKind.bits.eq_def, ti, tin]) | (simp (disch := omega) only [wA]) | (with_reducible first | refine cF hs ?_ | refine dF hs ?_ | refine cF aw39_f ?_ | refine dF aw39_f ?_) | refine aL ti_ok ?_ | refine dL ti_ok ?_ | refine dG ?_ | ((first | refine cC ?_ ?_ | refine gS ?_ ?_ | refine dS ?_ ?_) <;> intro hc <;> first | (exfalso; simp only [dcA] at hc; omega) | (simp only [hc]; try simp only [dcA] at hc)) | refine aO ?_ | refine dO ?_)
  exact fin_same trivial rfl
end Go.Proofs.YtpggiabnhodjpaaGreatDoor
set_option linter.unusedSimpArgs false
set_option linter.unusedVariables false
set_option linter.deprecated false
namespace Go.Proofs.YtpggiabnhodjpaaGreatDoor
open Go Go.Ax
set_option maxRecDepth 100000
set_option maxHeartbeats 4000000
abbrev cM (a : List (List Dy)) : List (List RD) := a.map fun r => r.map can
def modA (kp ki : Int) : List (List Dy) := [[nrm (65536 - (kp + ki)) 16, Dy.int 1], [nrm (0 - ki) 16, Dy.int 1]]
def modD : List (List Dy) := [[Dy.zero, Dy.zero], [Dy.zero, Dy.zero]]
def modW (kp ki nz ac : Int) : List Dy := [Dy.int (ac + (kp + ki) * (nz + 1)), Dy.int (ac + ki * (nz + 1))]
theorem dyz : LeL [.v (.bool false), .v (.slice none 0 0), .v (.int .i64 0)] (vrow (can Dy.zero)) := by rw [can_zero]; exact LeL.dy0
theorem ob_part (n : Int) (hn : -9223372036854775808 ≤ n ∧ n ≤ 9223372036854775807) : CallOK Tryz.prog gl 115 [.v (.int .i64 n)] (.agg [.v (.bool (sg (nrm n 16))), .sl 1 (u32s (ms (nrm n 16))), .v (.int .i64 (dn (nrm n 16)))]) := by
  refine call_ok (C := ⟨Tryz.prog, gl, ti, 11, false⟩) ti_ok mixed 3000 Tryz.call115 Tryz.func115 rfl Tryz.ntmps115 (by simp) byClL byCl ?_
  rw [Tryz.results115]
  have mk := Make_ok n 16 hn (by omega)
  rw [show ((16 : Nat) : Int) = 16 from rfl] at mk
  repeat' (first | (simp only [go_sem, seval, IntKind.bits.eq_def, ti, tin]) | (simp (disch := omega) only [wA]) | (with_reducible first | refine cF mk ?_ | refine dF mk ?_) | refine aL ti_ok ?_ | refine dL ti_ok ?_ | refine dG ?_ | ((first | refine cC ?_ ?_ | refine gS ?_ ?_ | refine dS ?_ ?_) <;> intro hc <;> first | (exfalso; simp only [dcA] at hc; omega) | (simp only [hc]; try simp only [dcA] at hc)) | refine aO ?_ | refine dO ?_)
  exact fin_same trivial rfl
theorem ob_Model (R L lk kp ki nz ac : Int) (h : ¬ obBad R L lk kp ki) (hz : 0 ≤ nz ∧ nz ≤ 16384) (ha : 0 ≤ ac ∧ ac ≤ 1099511627776) : CallOK Tryz.prog gl 45 [.agg [.v (.int .i64 R), .v (.int .i64 L), .v (.int .i64 lk), .v (.int .i64 kp), .v (.int .i64 ki)], .v (.int .i64 nz), .v (.int .i64 ac)] (.tup [.agg [.sl 1 (mrows (cM (modA kp ki))), .sl 1 (mrows (cM modD)), .sl 3 (vrows ((modW kp ki nz ac).map can))], .v .nilIface]) := by
  refine call_ok (C := ⟨Tryz.prog, gl, ti, 72, false⟩) ti_ok mixed 3000 Tryz.call45 Tryz.func45 rfl Tryz.ntmps45 (by simp) byClL byCl ?_
  rw [Tryz.results45]
  have ck := ob_Check _ _ _ _ _ h
  unfold obBad at h
  have b1 := mul_bd (a := kp + ki) (b := nz + 1) (A := 131072) (B := 16385) (by omega) (by omega)
  have b2 := mul_bd (a := ki) (b := nz + 1) (A := 65536) (B := 16385) (by omega) (by omega)
  have p1 := ob_part (65536 - (kp + ki)) (by omega)
  have p2 := ob_part (0 - ki) (by omega)
  have o1 := Of_ok 1 (by omega)
  have o2 := Of_ok (ac + (kp + ki) * (nz + 1)) (by omega)
  have o3 := Of_ok (ac + ki * (nz + 1)) (by omega)
  repeat' (first | (simp only [go_sem, seval, IntKind.bits.eq_def, ti, tin]) | (simp (disch := omega) only [wA]) | (with_reducible first | refine cF ck ?_ | refine dF ck ?_ | refine cF p1 ?_ | refine dF p1 ?_ | refine cF p2 ?_ | refine dF p2 ?_ | refine cF o1 ?_ | refine dF o1 ?_ | refine cF o2 ?_ | refine dF o2 ?_ | refine cF o3 ?_ | refine dF o3 ?_) | refine aL ti_ok ?_ | refine dL ti_ok ?_ | refine dG ?_ | ((first | refine cC ?_ ?_ | refine gS ?_ ?_ | refine dS ?_ ?_) <;> intro hc <;> first | (exfalso; simp only [dcA] at hc; omega) | (simp only [hc]; try simp only [dcA] at hc)) | refine aO ?_ | refine dO ?_)
  exact fin_pub trivial (.tup (.cons (.agg (.cons .same (.cons (.sl (.cons (.cons (.ps rfl rfl (by decide)) .nil) (.cons (.cons (.ps rfl rfl (by decide)) .nil) .nil))) (.cons .same .nil)))) (.cons (.one .same) .nil)))
    (Le.tup (.cons (Le.agg (.cons (Le.of_eq rfl) (.cons (Le.sl (.cons (.cons (Le.sl (.cons dyz (.cons dyz .nil))) .nil) (.cons (.cons (Le.sl (.cons dyz (.cons dyz .nil))) .nil) .nil))) (.cons (Le.of_eq rfl) .nil)))) (.cons (.refl _) .nil)))
end Go.Proofs.YtpggiabnhodjpaaGreatDoor
/- The statement ObserverTracks: its code returns true. -/
set_option linter.unusedSimpArgs false
set_option linter.unusedVariables false
set_option linter.deprecated false
namespace Go.Proofs.YtpggiabnhodjpaaGreatDoor
open Go Go.Ax
set_option maxRecDepth 100000
set_option maxHeartbeats 4000000
theorem model_ok (kp ki nz ac : Int) (hk : 0 ≤ kp ∧ kp ≤ 65536) (hi : 0 ≤ ki ∧ ki ≤ 65536) (hz : 0 ≤ nz ∧ nz ≤ 16384) (ha : 0 ≤ ac ∧ ac ≤ 1099511627776) : ckT (cM (modA kp ki)) (cM modD) ((modW kp ki nz ac).map can) = 0 := by
  have b1 : 0 ≤ (kp + ki) * (nz + 1) := Int.mul_nonneg (by omega) (by omega)
  have b2 : 0 ≤ ki * (nz + 1) := Int.mul_nonneg (by omega) (by omega)
  have s0 : Dy.zero.sign = 0 := by decide +kernel
  have sn : ∀ n : Int, 0 ≤ n → ¬ (Dy.int n).sign < 0 := fun n hn => by
    unfold Dy.sign Dy.int
    simp only
    split
    · omega
    · split <;> omega
  have n1 : nonneg ((modW kp ki nz ac).map can) := fun i hi => by
    simp only [modW, List.map_cons, List.map_nil, List.length_cons, List.length_nil] at hi
    match i, hi with
    | 0, _ => show ¬ (can _).dy.sign < 0; rw [can_dy]; exact sn _ (by omega)
    | 1, _ => show ¬ (can _).dy.sign < 0; rw [can_dy]; exact sn _ (by omega)
  have n2 : nonneg [can Dy.zero, can Dy.zero] := fun i hi => by
    simp only [List.length_cons, List.length_nil] at hi
    match i, hi with
    | 0, _ => show ¬ (can _).dy.sign < 0; rw [can_dy, s0]; omega
    | 1, _ => show ¬ (can _).dy.sign < 0; rw [can_dy, s0]; omega
  have n3 : nonnegM (cM modD) := fun i hi => by
    simp only [modD, List.map_cons, List.map_nil, List.length_cons, List.length_nil] at hi
    match i, hi with
    | 0, _ => exact n2
    | 1, _ => exact n2
  have k1 : ckM (cM (modA kp ki)) = 0 := by
    unfold ckM modA
    simp only [List.map_cons, List.map_nil, List.length_cons, List.length_nil, List.getD_cons_zero]
    rw [if_neg (by omega), if_neg (by omega), if_neg (by omega), if_neg (by omega), if_pos]
    intro i hi
    match i, hi with
    | 0, _ => rfl
    | 1, _ => rfl
  have k2 : ckM (cM modD) = 0 := by
    unfold ckM modD
    simp only [List.map_cons, List.map_nil, List.length_cons, List.length_nil, List.getD_cons_zero]
    rw [if_neg (by omega), if_neg (by omega), if_neg (by omega), if_neg (by omega), if_pos]
    intro i hi
    match i, hi with
    | 0, _ => rfl
    | 1, _ => rfl
  unfold ckT
  rw [if_neg (by omega), if_neg (by simp [modA]), if_neg (by simp [modA]), if_neg (by omega), if_neg (by simp [modA, modD, modW]), if_pos ⟨n3, n1⟩]
end Go.Proofs.YtpggiabnhodjpaaGreatDoor
