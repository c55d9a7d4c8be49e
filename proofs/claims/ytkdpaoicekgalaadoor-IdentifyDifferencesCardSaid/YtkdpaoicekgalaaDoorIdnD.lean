/- Layer 49 (identify) and its reference: differences of series. -/
import Derived.Test.YtkdpaoicekgalaaDoorIdn1
import Derived.Test.YtkdpaoicekgalaaDoorU4
set_option linter.unusedSimpArgs false
set_option linter.unusedVariables false
set_option linter.deprecated false
namespace Go.Proofs.YtkdpaoicekgalaaDoor
open Go Go.Ax
set_option maxRecDepth 100000
set_option maxHeartbeats 4000000

def smB (n : Int) : Prop := -549755813888 ≤ n ∧ n ≤ 549755813888
instance (n : Int) : Decidable (smB n) := inferInstanceAs (Decidable (_ ∧ _))
def allB (l : List Int) : Prop := ∀ i, i < l.length → smB (l.getD i 0)
instance (l : List Int) : Decidable (allB l) := inferInstanceAs (Decidable (∀ i, i < l.length → smB (l.getD i 0)))
/-- The number of the first error of two series. -/
def ckDf (x y : List Int) : Int := if x.length ≠ y.length ∨ x.length < 2 then 11 else if 65 < x.length then 4 else if allB x ∧ allB y then 0 else 3
/-- The samples. -/
def dfS (x y : List Int) (n : Nat) : List (Int × Int) := (List.range n).map fun k => (x.getD (k + 1) 0 - x.getD k 0, y.getD (k + 1) 0 - y.getD k 0)
theorem dfS_length (x y : List Int) (n : Nat) : (dfS x y n).length = n := by simp [dfS]
theorem dfS_succ (x y : List Int) (n : Nat) : dfS x y (n + 1) = dfS x y n ++ [(x.getD (n + 1) 0 - x.getD n 0, y.getD (n + 1) 0 - y.getD n 0)] := by simp [dfS, List.range_succ]
theorem getD_app1 {x y : List Int} {i : Nat} (h : i < x.length) : (x ++ y).getD i 0 = x.getD i 0 := by
  simp [List.getD, List.getElem?_append_left h]
theorem getD_app2 {x y : List Int} {i : Nat} (h : x.length ≤ i) : (x ++ y).getD i 0 = y.getD (i - x.length) 0 := by
  simp [List.getD, List.getElem?_append_right h]
theorem allB_app {x y : List Int} : allB (x ++ y) ↔ allB x ∧ allB y := by
  unfold allB
  rw [List.length_append]
  constructor
  · intro h
    refine ⟨fun i hi => ?_, fun i hi => ?_⟩
    · have := h i (by omega); rwa [getD_app1 hi] at this
    · have := h (x.length + i) (by omega)
      rwa [getD_app2 (by omega), show x.length + i - x.length = i by omega] at this
  · rintro ⟨h1, h2⟩ i hi
    by_cases c : i < x.length
    · rw [getD_app1 c]; exact h1 i c
    · rw [getD_app2 (by omega)]; exact h2 _ (by omega)
theorem id_Df_err (x y : List Int) (n : Nat) (hx : x.length = n) (m : Nat) (hy : y.length = m) (hn : n ≤ 4611686018427387904) (hm : m ≤ 4611686018427387904) (h : ckDf x y ≠ 0) : CallOK Tryd.prog gl 36 [.sl 1 (rws irow x), .sl 1 (rws irow y)] (.tup [.v (.slice none 0 0), .v (eV (ckDf x y))]) := by
  refine call_ok (C := ⟨Tryd.prog, gl, ti, 80, false⟩) ti_ok mixed 3000 Tryd.call36 Tryd.func36 rfl Tryd.ntmps36 (by simp) byClL byCl ?_
  rw [Tryd.results36]
  obtain ⟨z, hz⟩ : ∃ z, ckDf x y = z := ⟨_, rfl⟩
  rw [hz]
  rw [hz] at h
  unfold ckDf at hz
  rw [hx, hy] at hz
  by_cases h0 : n = m
  · subst h0
    by_cases h1 : n < 2
    · rw [if_pos (.inr h1)] at hz
      subst hz
      repeat' (first | (simp only [go_sem, Int.reduceAdd, Int.reduceEq, Int.reduceLE, Int.reduceLT, Int.reduceMul, Int.reduceNeg, Int.reducePow, Int.reduceSub, Int.reduceToNat, Nat.reduceAdd, Nat.reduceBEq, Nat.reduceEqDiff, Nat.reduceLT, Nat.reduceLeDiff, Nat.reduceMul, Nat.reducePow, Nat.reduceSub, reduceCtorEq, reduceIte, IntKind.bits.eq_def, ti, tin, rws_length, hx, hy]) | (simp (disch := omega) only [w64, wu64, wu32, Nat.min_eq_left]) | (refine after_lit ti_ok ?_) | (refine drawAfter_lit ti_ok ?_) | (refine drawEnd_of (by kernel_rfl) ?_) | ((first | refine cond_cases (fun hc => ?_) (fun hc => ?_) | refine guard_split (fun hc => ?_) (fun hc => ?_) | refine drawGuard_split (fun hc => ?_) (fun hc => ?_)) <;> first | (exfalso; simp only [dcT, dcF, bnT, bnF, bnU, bnV] at hc; omega) | (simp only [hc]; try simp only [dcT, dcF, bnT, bnF, bnU, bnV] at hc)) | (refine after_need (by omega) ?_) | (refine drawAfter_need (by omega) ?_))
      all_goals exact fin_same trivial rfl
    rw [if_neg (by omega)] at hz
    by_cases h2 : 65 < n
    · rw [if_pos h2] at hz
      subst hz
      repeat' (first | (simp only [go_sem, Int.reduceAdd, Int.reduceEq, Int.reduceLE, Int.reduceLT, Int.reduceMul, Int.reduceNeg, Int.reducePow, Int.reduceSub, Int.reduceToNat, Nat.reduceAdd, Nat.reduceBEq, Nat.reduceEqDiff, Nat.reduceLT, Nat.reduceLeDiff, Nat.reduceMul, Nat.reducePow, Nat.reduceSub, reduceCtorEq, reduceIte, IntKind.bits.eq_def, ti, tin, rws_length, hx, hy]) | (simp (disch := omega) only [w64, wu64, wu32, Nat.min_eq_left]) | (refine after_lit ti_ok ?_) | (refine drawAfter_lit ti_ok ?_) | (refine drawEnd_of (by kernel_rfl) ?_) | ((first | refine cond_cases (fun hc => ?_) (fun hc => ?_) | refine guard_split (fun hc => ?_) (fun hc => ?_) | refine drawGuard_split (fun hc => ?_) (fun hc => ?_)) <;> first | (exfalso; simp only [dcT, dcF, bnT, bnF, bnU, bnV] at hc; omega) | (simp only [hc]; try simp only [dcT, dcF, bnT, bnF, bnU, bnV] at hc)) | (refine after_need (by omega) ?_) | (refine drawAfter_need (by omega) ?_))
      all_goals exact fin_same trivial rfl
    rw [if_neg h2] at hz
    have hbad : ¬ (allB x ∧ allB y) → z = 3 := fun hh => by rw [← hz]; exact if_neg hh
    have hall : allB x → allB y → False := fun h1 h2 => h (by rw [← hz]; exact if_pos ⟨h1, h2⟩)
    clear hz
    repeat' (first | (simp only [go_sem, Int.reduceAdd, Int.reduceEq, Int.reduceLE, Int.reduceLT, Int.reduceMul, Int.reduceNeg, Int.reducePow, Int.reduceSub, Int.reduceToNat, Nat.reduceAdd, Nat.reduceBEq, Nat.reduceEqDiff, Nat.reduceLT, Nat.reduceLeDiff, Nat.reduceMul, Nat.reducePow, Nat.reduceSub, reduceCtorEq, reduceIte, IntKind.bits.eq_def, ti, tin, rws_length, hx, hy]) | (simp (disch := omega) only [w64, wu64, wu32, Nat.min_eq_left]) | (refine after_lit ti_ok ?_) | (refine drawAfter_lit ti_ok ?_) | (refine drawEnd_of (by kernel_rfl) ?_) | ((first | refine cond_cases (fun hc => ?_) (fun hc => ?_) | refine guard_split (fun hc => ?_) (fun hc => ?_) | refine drawGuard_split (fun hc => ?_) (fun hc => ?_)) <;> first | (exfalso; simp only [dcT, dcF, bnT, bnF, bnU, bnV] at hc; omega) | (simp only [hc]; try simp only [dcT, dcF, bnT, bnF, bnU, bnV] at hc)) | (refine after_need (by omega) ?_) | (refine drawAfter_need (by omega) ?_))
    refine l_unroll 3 _ byFresh ?_
    repeat' (first | (simp only [go_sem, Int.reduceAdd, Int.reduceEq, Int.reduceLE, Int.reduceLT, Int.reduceMul, Int.reduceNeg, Int.reducePow, Int.reduceSub, Int.reduceToNat, Nat.reduceAdd, Nat.reduceBEq, Nat.reduceEqDiff, Nat.reduceLT, Nat.reduceLeDiff, Nat.reduceMul, Nat.reducePow, Nat.reduceSub, reduceCtorEq, reduceIte, IntKind.bits.eq_def, ti, tin, rws_length, hx, hy]) | (simp (disch := omega) only [w64, wu64, wu32, Nat.min_eq_left]) | (refine after_lit ti_ok ?_) | (refine drawAfter_lit ti_ok ?_) | (refine drawEnd_of (by kernel_rfl) ?_) | ((first | refine cond_cases (fun hc => ?_) (fun hc => ?_) | refine guard_split (fun hc => ?_) (fun hc => ?_) | refine drawGuard_split (fun hc => ?_) (fun hc => ?_)) <;> first | (exfalso; simp only [dcT, dcF, bnT, bnF, bnU, bnV] at hc; omega) | (simp only [hc]; try simp only [dcT, dcF, bnT, bnF, bnU, bnV] at hc)) | (refine after_need (by omega) ?_) | (refine drawAfter_need (by omega) ?_))
    refine l_loop (α := Nat) (fun k => ⟨[(0, .sl 1 (rws irow x)), (1, .sl 1 (rws irow y)), (31, .sl 1 [[.sl 1 (rws irow x)], [.sl 1 (rws irow y)]]), (32, .v (.int .i64 2)), (33, .v (.int .i64 0)), (37, .sl 1 (rws irow x)), (38, .v (.int .i64 n)), (39, .v (.int .i64 k))], [], 0⟩) (fun k => k ≤ n ∧ ∀ i, i < k → smB (x.getD i 0)) (fun k => n - k) (0) _ byFresh (fun _ h => by first | (cases h; done) | exact Nat.le_of_ble_eq_true rfl) ?_ ?_ ?_
    · exact ⟨Nat.zero_le _, fun i hi => by omega⟩
    · exact byWeak
    rintro k ⟨hk, hi⟩
    by_cases hkn : k < n
    ·
      have rk := rws_getD (f := irow) (l := x) (i := k) 0 (by omega)
      have hs := hi
      have st : smB (x.getD k 0) → ∀ i, i < k + 1 → smB (x.getD i 0) := fun h i h2 => by
        by_cases h4 : i = k
        · rw [h4]; exact h
        · exact hi i (by omega)
      have no : ¬ smB (x.getD k 0) → ¬ allB x := fun h g => h (g k (by omega))
      clear hi hs
      generalize x.getD k 0 = v at *
      rw [irow_mk] at rk
      have b1 := id_beyond v 549755813888 (by omega)
      by_cases h2 : smB v
      ·
        have st2 := st h2
        unfold smB at h2
        rw [decide_eq_false (by omega)] at b1
        clear st no
        repeat' (first | (simp only [go_sem, Int.reduceAdd, Int.reduceEq, Int.reduceLE, Int.reduceLT, Int.reduceMul, Int.reduceNeg, Int.reducePow, Int.reduceSub, Int.reduceToNat, Nat.reduceAdd, Nat.reduceBEq, Nat.reduceEqDiff, Nat.reduceLT, Nat.reduceLeDiff, Nat.reduceMul, Nat.reducePow, Nat.reduceSub, reduceCtorEq, reduceIte, IntKind.bits.eq_def, ti, tin, rws_length, hx, hy, rk]) | (simp (disch := omega) only [w64, wu64, wu32, Nat.min_eq_left]) | (with_reducible first | refine callF_of (b1) ?_ | refine drawF_of (b1) ?_) | (refine after_lit ti_ok ?_) | (refine drawAfter_lit ti_ok ?_) | (refine drawEnd_of (by kernel_rfl) ?_) | ((first | refine cond_cases (fun hc => ?_) (fun hc => ?_) | refine guard_split (fun hc => ?_) (fun hc => ?_) | refine drawGuard_split (fun hc => ?_) (fun hc => ?_)) <;> first | (exfalso; simp only [dcT, dcF, bnT, bnF, bnU, bnV] at hc; omega) | (simp only [hc]; try simp only [dcT, dcF, bnT, bnF, bnU, bnV] at hc)) | (refine after_need (by omega) ?_) | (refine drawAfter_need (by omega) ?_))
        refine roundEnd_of (α := Nat) (k + 1) ?_ ?_ ?_
        · exact ⟨by omega, st2⟩
        · omega
        · exact byWeak
      ·
        have no2 := no h2
        unfold smB at h2
        rw [decide_eq_true (by omega)] at b1
        clear st no
        have hz2 := hbad (fun h => no2 h.1)
        rw [hz2]
        repeat' (first | (simp only [go_sem, Int.reduceAdd, Int.reduceEq, Int.reduceLE, Int.reduceLT, Int.reduceMul, Int.reduceNeg, Int.reducePow, Int.reduceSub, Int.reduceToNat, Nat.reduceAdd, Nat.reduceBEq, Nat.reduceEqDiff, Nat.reduceLT, Nat.reduceLeDiff, Nat.reduceMul, Nat.reducePow, Nat.reduceSub, reduceCtorEq, reduceIte, IntKind.bits.eq_def, ti, tin, rws_length, hx, hy, rk]) | (simp (disch := omega) only [w64, wu64, wu32, Nat.min_eq_left]) | (with_reducible first | refine callF_of (b1) ?_ | refine drawF_of (b1) ?_) | (refine after_lit ti_ok ?_) | (refine drawAfter_lit ti_ok ?_) | (refine drawEnd_of (by kernel_rfl) ?_) | ((first | refine cond_cases (fun hc => ?_) (fun hc => ?_) | refine guard_split (fun hc => ?_) (fun hc => ?_) | refine drawGuard_split (fun hc => ?_) (fun hc => ?_)) <;> first | (exfalso; simp only [dcT, dcF, bnT, bnF, bnU, bnV] at hc; omega) | (simp only [hc]; try simp only [dcT, dcF, bnT, bnF, bnU, bnV] at hc)) | (refine after_need (by omega) ?_) | (refine drawAfter_need (by omega) ?_))
        all_goals exact fin_same trivial rfl
    ·
      have hax2 : allB x := fun i h => hi i (by omega)
      clear hi
      repeat' (first | (simp only [go_sem, Int.reduceAdd, Int.reduceEq, Int.reduceLE, Int.reduceLT, Int.reduceMul, Int.reduceNeg, Int.reducePow, Int.reduceSub, Int.reduceToNat, Nat.reduceAdd, Nat.reduceBEq, Nat.reduceEqDiff, Nat.reduceLT, Nat.reduceLeDiff, Nat.reduceMul, Nat.reducePow, Nat.reduceSub, reduceCtorEq, reduceIte, IntKind.bits.eq_def, ti, tin, rws_length, hx, hy]) | (simp (disch := omega) only [w64, wu64, wu32, Nat.min_eq_left]) | (refine after_lit ti_ok ?_) | (refine drawAfter_lit ti_ok ?_) | (refine drawEnd_of (by kernel_rfl) ?_) | ((first | refine cond_cases (fun hc => ?_) (fun hc => ?_) | refine guard_split (fun hc => ?_) (fun hc => ?_) | refine drawGuard_split (fun hc => ?_) (fun hc => ?_)) <;> first | (exfalso; simp only [dcT, dcF, bnT, bnF, bnU, bnV] at hc; omega) | (simp only [hc]; try simp only [dcT, dcF, bnT, bnF, bnU, bnV] at hc)) | (refine after_need (by omega) ?_) | (refine drawAfter_need (by omega) ?_))
      refine l_loop (α := Nat) (fun k => ⟨[(0, .sl 1 (rws irow x)), (1, .sl 1 (rws irow y)), (31, .sl 1 [[.sl 1 (rws irow x)], [.sl 1 (rws irow y)]]), (32, .v (.int .i64 2)), (33, .v (.int .i64 1)), (37, .sl 1 (rws irow y)), (38, .v (.int .i64 n)), (39, .v (.int .i64 k))], [], 0⟩) (fun k => k ≤ n ∧ ∀ i, i < k → smB (y.getD i 0)) (fun k => n - k) (0) _ byFresh (fun _ h => by first | (cases h; done) | exact Nat.le_of_ble_eq_true rfl) ?_ ?_ ?_
      · exact ⟨Nat.zero_le _, fun i hi => by omega⟩
      · exact byWeak
      rintro k ⟨hk, hi⟩
      by_cases hkn : k < n
      ·
        have rk := rws_getD (f := irow) (l := y) (i := k) 0 (by omega)
        have hs := hi
        have st : smB (y.getD k 0) → ∀ i, i < k + 1 → smB (y.getD i 0) := fun h i h2 => by
          by_cases h4 : i = k
          · rw [h4]; exact h
          · exact hi i (by omega)
        have no : ¬ smB (y.getD k 0) → ¬ allB y := fun h g => h (g k (by omega))
        clear hi hs
        generalize y.getD k 0 = v at *
        rw [irow_mk] at rk
        have b1 := id_beyond v 549755813888 (by omega)
        by_cases h2 : smB v
        ·
          have st2 := st h2
          unfold smB at h2
          rw [decide_eq_false (by omega)] at b1
          clear st no
          repeat' (first | (simp only [go_sem, Int.reduceAdd, Int.reduceEq, Int.reduceLE, Int.reduceLT, Int.reduceMul, Int.reduceNeg, Int.reducePow, Int.reduceSub, Int.reduceToNat, Nat.reduceAdd, Nat.reduceBEq, Nat.reduceEqDiff, Nat.reduceLT, Nat.reduceLeDiff, Nat.reduceMul, Nat.reducePow, Nat.reduceSub, reduceCtorEq, reduceIte, IntKind.bits.eq_def, ti, tin, rws_length, hx, hy, rk]) | (simp (disch := omega) only [w64, wu64, wu32, Nat.min_eq_left]) | (with_reducible first | refine callF_of (b1) ?_ | refine drawF_of (b1) ?_) | (refine after_lit ti_ok ?_) | (refine drawAfter_lit ti_ok ?_) | (refine drawEnd_of (by kernel_rfl) ?_) | ((first | refine cond_cases (fun hc => ?_) (fun hc => ?_) | refine guard_split (fun hc => ?_) (fun hc => ?_) | refine drawGuard_split (fun hc => ?_) (fun hc => ?_)) <;> first | (exfalso; simp only [dcT, dcF, bnT, bnF, bnU, bnV] at hc; omega) | (simp only [hc]; try simp only [dcT, dcF, bnT, bnF, bnU, bnV] at hc)) | (refine after_need (by omega) ?_) | (refine drawAfter_need (by omega) ?_))
          refine roundEnd_of (α := Nat) (k + 1) ?_ ?_ ?_
          · exact ⟨by omega, st2⟩
          · omega
          · exact byWeak
        ·
          have no2 := no h2
          unfold smB at h2
          rw [decide_eq_true (by omega)] at b1
          clear st no
          have hz2 := hbad (fun h => no2 h.2)
          rw [hz2]
          repeat' (first | (simp only [go_sem, Int.reduceAdd, Int.reduceEq, Int.reduceLE, Int.reduceLT, Int.reduceMul, Int.reduceNeg, Int.reducePow, Int.reduceSub, Int.reduceToNat, Nat.reduceAdd, Nat.reduceBEq, Nat.reduceEqDiff, Nat.reduceLT, Nat.reduceLeDiff, Nat.reduceMul, Nat.reducePow, Nat.reduceSub, reduceCtorEq, reduceIte, IntKind.bits.eq_def, ti, tin, rws_length, hx, hy, rk]) | (simp (disch := omega) only [w64, wu64, wu32, Nat.min_eq_left]) | (with_reducible first | refine callF_of (b1) ?_ | refine drawF_of (b1) ?_) | (refine after_lit ti_ok ?_) | (refine drawAfter_lit ti_ok ?_) | (refine drawEnd_of (by kernel_rfl) ?_) | ((first | refine cond_cases (fun hc => ?_) (fun hc => ?_) | refine guard_split (fun hc => ?_) (fun hc => ?_) | refine drawGuard_split (fun hc => ?_) (fun hc => ?_)) <;> first | (exfalso; simp only [dcT, dcF, bnT, bnF, bnU, bnV] at hc; omega) | (simp only [hc]; try simp only [dcT, dcF, bnT, bnF, bnU, bnV] at hc)) | (refine after_need (by omega) ?_) | (refine drawAfter_need (by omega) ?_))
          all_goals exact fin_same trivial rfl
      ·
        have hay2 : allB y := fun i h => hi i (by omega)
        clear hi
        exact (hall hax2 hay2).elim
  · rw [if_pos (.inl h0)] at hz
    subst hz
    have h0' : ¬ ((n : Nat) : Int) = (m : Int) := by omega
    repeat' (first | (simp only [go_sem, Int.reduceAdd, Int.reduceEq, Int.reduceLE, Int.reduceLT, Int.reduceMul, Int.reduceNeg, Int.reducePow, Int.reduceSub, Int.reduceToNat, Nat.reduceAdd, Nat.reduceBEq, Nat.reduceEqDiff, Nat.reduceLT, Nat.reduceLeDiff, Nat.reduceMul, Nat.reducePow, Nat.reduceSub, reduceCtorEq, reduceIte, IntKind.bits.eq_def, ti, tin, rws_length, hx, hy, h0']) | (simp (disch := omega) only [w64, wu64, wu32, Nat.min_eq_left]) | (refine after_lit ti_ok ?_) | (refine drawAfter_lit ti_ok ?_) | (refine drawEnd_of (by kernel_rfl) ?_) | ((first | refine cond_cases (fun hc => ?_) (fun hc => ?_) | refine guard_split (fun hc => ?_) (fun hc => ?_) | refine drawGuard_split (fun hc => ?_) (fun hc => ?_)) <;> first | (exfalso; simp only [dcT, dcF, bnT, bnF, bnU, bnV] at hc; omega) | (simp only [hc]; try simp only [dcT, dcF, bnT, bnF, bnU, bnV] at hc)) | (refine after_need (by omega) ?_) | (refine drawAfter_need (by omega) ?_))
    all_goals exact fin_same trivial rfl
theorem id_Df_ok (x y : List Int) (n : Nat) (hx : x.length = n) (hy : y.length = n) (h1 : 2 ≤ n) (h2 : n ≤ 65) (hax : allB x) (hay : allB y) : CallOK Tryd.prog gl 36 [.sl 1 (rws irow x), .sl 1 (rws irow y)] (.tup [.sl 2 (rws prow (dfS x y (n - 1))), .v .nilIface]) := by
  refine call_ok (C := ⟨Tryd.prog, gl, ti, 80, false⟩) ti_ok mixed 3000 Tryd.call36 Tryd.func36 rfl Tryd.ntmps36 (by simp) byClL byCl ?_
  rw [Tryd.results36]
  repeat' (first | (simp only [go_sem, Int.reduceAdd, Int.reduceEq, Int.reduceLE, Int.reduceLT, Int.reduceMul, Int.reduceNeg, Int.reducePow, Int.reduceSub, Int.reduceToNat, Nat.reduceAdd, Nat.reduceBEq, Nat.reduceEqDiff, Nat.reduceLT, Nat.reduceLeDiff, Nat.reduceMul, Nat.reducePow, Nat.reduceSub, reduceCtorEq, reduceIte, IntKind.bits.eq_def, ti, tin, rws_length, hx, hy]) | (simp (disch := omega) only [w64, wu64, wu32, Nat.min_eq_left]) | (refine after_lit ti_ok ?_) | (refine drawAfter_lit ti_ok ?_) | (refine drawEnd_of (by kernel_rfl) ?_) | ((first | refine cond_cases (fun hc => ?_) (fun hc => ?_) | refine guard_split (fun hc => ?_) (fun hc => ?_) | refine drawGuard_split (fun hc => ?_) (fun hc => ?_)) <;> first | (exfalso; simp only [dcT, dcF, bnT, bnF, bnU, bnV] at hc; omega) | (simp only [hc]; try simp only [dcT, dcF, bnT, bnF, bnU, bnV] at hc)) | (refine after_need (by omega) ?_) | (refine drawAfter_need (by omega) ?_))
  refine l_unroll 3 _ byFresh ?_
  repeat' (first | (simp only [go_sem, Int.reduceAdd, Int.reduceEq, Int.reduceLE, Int.reduceLT, Int.reduceMul, Int.reduceNeg, Int.reducePow, Int.reduceSub, Int.reduceToNat, Nat.reduceAdd, Nat.reduceBEq, Nat.reduceEqDiff, Nat.reduceLT, Nat.reduceLeDiff, Nat.reduceMul, Nat.reducePow, Nat.reduceSub, reduceCtorEq, reduceIte, IntKind.bits.eq_def, ti, tin, rws_length, hx, hy]) | (simp (disch := omega) only [w64, wu64, wu32, Nat.min_eq_left]) | (refine after_lit ti_ok ?_) | (refine drawAfter_lit ti_ok ?_) | (refine drawEnd_of (by kernel_rfl) ?_) | ((first | refine cond_cases (fun hc => ?_) (fun hc => ?_) | refine guard_split (fun hc => ?_) (fun hc => ?_) | refine drawGuard_split (fun hc => ?_) (fun hc => ?_)) <;> first | (exfalso; simp only [dcT, dcF, bnT, bnF, bnU, bnV] at hc; omega) | (simp only [hc]; try simp only [dcT, dcF, bnT, bnF, bnU, bnV] at hc)) | (refine after_need (by omega) ?_) | (refine drawAfter_need (by omega) ?_))
  refine l_loop (α := Nat) (fun k => ⟨[(0, .sl 1 (rws irow x)), (1, .sl 1 (rws irow y)), (31, .sl 1 [[.sl 1 (rws irow x)], [.sl 1 (rws irow y)]]), (32, .v (.int .i64 2)), (33, .v (.int .i64 0)), (37, .sl 1 (rws irow x)), (38, .v (.int .i64 n)), (39, .v (.int .i64 k))], [], 0⟩) (fun k => k ≤ n ∧ ∀ i, i < k → smB (x.getD i 0)) (fun k => n - k) (0) _ byFresh (fun _ h => by first | (cases h; done) | exact Nat.le_of_ble_eq_true rfl) ?_ ?_ ?_
  · exact ⟨Nat.zero_le _, fun i hi => by omega⟩
  · exact byWeak
  rintro k ⟨hk, hi⟩
  by_cases hkn : k < n
  ·
    have rk := rws_getD (f := irow) (l := x) (i := k) 0 (by omega)
    have hs := hi
    have st : smB (x.getD k 0) → ∀ i, i < k + 1 → smB (x.getD i 0) := fun h i h2 => by
      by_cases h4 : i = k
      · rw [h4]; exact h
      · exact hi i (by omega)
    have no : ¬ smB (x.getD k 0) → ¬ allB x := fun h g => h (g k (by omega))
    clear hi hs
    generalize x.getD k 0 = v at *
    rw [irow_mk] at rk
    have b1 := id_beyond v 549755813888 (by omega)
    by_cases h2 : smB v
    ·
      have st2 := st h2
      unfold smB at h2
      rw [decide_eq_false (by omega)] at b1
      clear st no
      repeat' (first | (simp only [go_sem, Int.reduceAdd, Int.reduceEq, Int.reduceLE, Int.reduceLT, Int.reduceMul, Int.reduceNeg, Int.reducePow, Int.reduceSub, Int.reduceToNat, Nat.reduceAdd, Nat.reduceBEq, Nat.reduceEqDiff, Nat.reduceLT, Nat.reduceLeDiff, Nat.reduceMul, Nat.reducePow, Nat.reduceSub, reduceCtorEq, reduceIte, IntKind.bits.eq_def, ti, tin, rws_length, hx, hy, rk]) | (simp (disch := omega) only [w64, wu64, wu32, Nat.min_eq_left]) | (with_reducible first | refine callF_of (b1) ?_ | refine drawF_of (b1) ?_) | (refine after_lit ti_ok ?_) | (refine drawAfter_lit ti_ok ?_) | (refine drawEnd_of (by kernel_rfl) ?_) | ((first | refine cond_cases (fun hc => ?_) (fun hc => ?_) | refine guard_split (fun hc => ?_) (fun hc => ?_) | refine drawGuard_split (fun hc => ?_) (fun hc => ?_)) <;> first | (exfalso; simp only [dcT, dcF, bnT, bnF, bnU, bnV] at hc; omega) | (simp only [hc]; try simp only [dcT, dcF, bnT, bnF, bnU, bnV] at hc)) | (refine after_need (by omega) ?_) | (refine drawAfter_need (by omega) ?_))
      refine roundEnd_of (α := Nat) (k + 1) ?_ ?_ ?_
      · exact ⟨by omega, st2⟩
      · omega
      · exact byWeak
    ·
      have no2 := no h2
      unfold smB at h2
      rw [decide_eq_true (by omega)] at b1
      clear st no
      exact absurd hax no2
  ·
    have hax2 : allB x := fun i h => hi i (by omega)
    clear hi
    repeat' (first | (simp only [go_sem, Int.reduceAdd, Int.reduceEq, Int.reduceLE, Int.reduceLT, Int.reduceMul, Int.reduceNeg, Int.reducePow, Int.reduceSub, Int.reduceToNat, Nat.reduceAdd, Nat.reduceBEq, Nat.reduceEqDiff, Nat.reduceLT, Nat.reduceLeDiff, Nat.reduceMul, Nat.reducePow, Nat.reduceSub, reduceCtorEq, reduceIte, IntKind.bits.eq_def, ti, tin, rws_length, hx, hy]) | (simp (disch := omega) only [w64, wu64, wu32, Nat.min_eq_left]) | (refine after_lit ti_ok ?_) | (refine drawAfter_lit ti_ok ?_) | (refine drawEnd_of (by kernel_rfl) ?_) | ((first | refine cond_cases (fun hc => ?_) (fun hc => ?_) | refine guard_split (fun hc => ?_) (fun hc => ?_) | refine drawGuard_split (fun hc => ?_) (fun hc => ?_)) <;> first | (exfalso; simp only [dcT, dcF, bnT, bnF, bnU, bnV] at hc; omega) | (simp only [hc]; try simp only [dcT, dcF, bnT, bnF, bnU, bnV] at hc)) | (refine after_need (by omega) ?_) | (refine drawAfter_need (by omega) ?_))
    refine l_loop (α := Nat) (fun k => ⟨[(0, .sl 1 (rws irow x)), (1, .sl 1 (rws irow y)), (31, .sl 1 [[.sl 1 (rws irow x)], [.sl 1 (rws irow y)]]), (32, .v (.int .i64 2)), (33, .v (.int .i64 1)), (37, .sl 1 (rws irow y)), (38, .v (.int .i64 n)), (39, .v (.int .i64 k))], [], 0⟩) (fun k => k ≤ n ∧ ∀ i, i < k → smB (y.getD i 0)) (fun k => n - k) (0) _ byFresh (fun _ h => by first | (cases h; done) | exact Nat.le_of_ble_eq_true rfl) ?_ ?_ ?_
    · exact ⟨Nat.zero_le _, fun i hi => by omega⟩
    · exact byWeak
    rintro k ⟨hk, hi⟩
    by_cases hkn : k < n
    ·
      have rk := rws_getD (f := irow) (l := y) (i := k) 0 (by omega)
      have hs := hi
      have st : smB (y.getD k 0) → ∀ i, i < k + 1 → smB (y.getD i 0) := fun h i h2 => by
        by_cases h4 : i = k
        · rw [h4]; exact h
        · exact hi i (by omega)
      have no : ¬ smB (y.getD k 0) → ¬ allB y := fun h g => h (g k (by omega))
      clear hi hs
      generalize y.getD k 0 = v at *
      rw [irow_mk] at rk
      have b1 := id_beyond v 549755813888 (by omega)
      by_cases h2 : smB v
      ·
        have st2 := st h2
        unfold smB at h2
        rw [decide_eq_false (by omega)] at b1
        clear st no
        repeat' (first | (simp only [go_sem, Int.reduceAdd, Int.reduceEq, Int.reduceLE, Int.reduceLT, Int.reduceMul, Int.reduceNeg, Int.reducePow, Int.reduceSub, Int.reduceToNat, Nat.reduceAdd, Nat.reduceBEq, Nat.reduceEqDiff, Nat.reduceLT, Nat.reduceLeDiff, Nat.reduceMul, Nat.reducePow, Nat.reduceSub, reduceCtorEq, reduceIte, IntKind.bits.eq_def, ti, tin, rws_length, hx, hy, rk]) | (simp (disch := omega) only [w64, wu64, wu32, Nat.min_eq_left]) | (with_reducible first | refine callF_of (b1) ?_ | refine drawF_of (b1) ?_) | (refine after_lit ti_ok ?_) | (refine drawAfter_lit ti_ok ?_) | (refine drawEnd_of (by kernel_rfl) ?_) | ((first | refine cond_cases (fun hc => ?_) (fun hc => ?_) | refine guard_split (fun hc => ?_) (fun hc => ?_) | refine drawGuard_split (fun hc => ?_) (fun hc => ?_)) <;> first | (exfalso; simp only [dcT, dcF, bnT, bnF, bnU, bnV] at hc; omega) | (simp only [hc]; try simp only [dcT, dcF, bnT, bnF, bnU, bnV] at hc)) | (refine after_need (by omega) ?_) | (refine drawAfter_need (by omega) ?_))
        refine roundEnd_of (α := Nat) (k + 1) ?_ ?_ ?_
        · exact ⟨by omega, st2⟩
        · omega
        · exact byWeak
      ·
        have no2 := no h2
        unfold smB at h2
        rw [decide_eq_true (by omega)] at b1
        clear st no
        exact absurd hay no2
    ·
      have hay2 : allB y := fun i h => hi i (by omega)
      clear hi
      have e0 : ((n : Nat) : Int) - 1 = ((n - 1 : Nat) : Int) := by omega
      repeat' (first | (simp only [go_sem, Int.reduceAdd, Int.reduceEq, Int.reduceLE, Int.reduceLT, Int.reduceMul, Int.reduceNeg, Int.reducePow, Int.reduceSub, Int.reduceToNat, Nat.reduceAdd, Nat.reduceBEq, Nat.reduceEqDiff, Nat.reduceLT, Nat.reduceLeDiff, Nat.reduceMul, Nat.reducePow, Nat.reduceSub, reduceCtorEq, reduceIte, IntKind.bits.eq_def, ti, tin, rws_length, hx, hy, e0]) | (simp (disch := omega) only [w64, wu64, wu32, Nat.min_eq_left]) | (refine after_lit ti_ok ?_) | (refine drawAfter_lit ti_ok ?_) | (refine drawEnd_of (by kernel_rfl) ?_) | ((first | refine cond_cases (fun hc => ?_) (fun hc => ?_) | refine guard_split (fun hc => ?_) (fun hc => ?_) | refine drawGuard_split (fun hc => ?_) (fun hc => ?_)) <;> first | (exfalso; simp only [dcT, dcF, bnT, bnF, bnU, bnV] at hc; omega) | (simp only [hc]; try simp only [dcT, dcF, bnT, bnF, bnU, bnV] at hc)) | (refine after_need (by omega) ?_) | (refine drawAfter_need (by omega) ?_))
      refine l_loop (α := Nat) (fun k => ⟨[(0, .sl 1 (rws irow x)), (1, .sl 1 (rws irow y)), (10, .ps 1 2 0 k), (50, .v (.int .i64 ((n - 1 : Nat)))), (51, .v (.int .i64 k))], [(1, ⟨2, rws prow (dfS x y k)⟩)], 2⟩) (fun k => k ≤ n - 1) (fun k => n - 1 - k) (0) _ byFresh (fun _ h => by first | (cases h; done) | exact Nat.le_of_ble_eq_true rfl) ?_ ?_ ?_
      · exact Nat.zero_le _
      · exact Weak.trans (Weak.newnil 1 2 (Nat.le_of_ble_eq_true rfl)) (Nat.le_of_ble_eq_true rfl) (by exact byWeak)
      rintro k hk
      by_cases hkn : k < n - 1
      ·
        have x0 := rws_getD (f := irow) (l := x) (i := k) 0 (by omega)
        have x1 := rws_getD (f := irow) (l := x) (i := k + 1) 0 (by omega)
        have y0 := rws_getD (f := irow) (l := y) (i := k) 0 (by omega)
        have y1 := rws_getD (f := irow) (l := y) (i := k + 1) 0 (by omega)
        have v0 : smB (x.getD k 0) := hax k (by omega)
        have v1 : smB (x.getD (k + 1) 0) := hax (k + 1) (by omega)
        have w0 : smB (y.getD k 0) := hay k (by omega)
        have w1 : smB (y.getD (k + 1) 0) := hay (k + 1) (by omega)
        have sc := dfS_succ x y k
        have ln := dfS_length x y k
        rw [irow_mk] at x0 x1 y0 y1
        unfold smB at v0 v1 w0 w1
        generalize x.getD k 0 = p0 at *
        generalize x.getD (k + 1) 0 = p1 at *
        generalize y.getD k 0 = q0 at *
        generalize y.getD (k + 1) 0 = q1 at *
        have e1 : ((k : Nat) : Int) + 1 = ((k + 1 : Nat) : Int) := by omega
        have e9 : (rws prow (dfS x y k)).take k ++ [[AV.v (.int .i64 (p1 - p0)), AV.v (.int .i64 (q1 - q0))]] = rws prow (dfS x y (k + 1)) := by rw [sc]; exact rws_snoc (f := prow) (x := (p1 - p0, q1 - q0)) ln
        repeat' (first | (simp only [go_sem, Int.reduceAdd, Int.reduceEq, Int.reduceLE, Int.reduceLT, Int.reduceMul, Int.reduceNeg, Int.reducePow, Int.reduceSub, Int.reduceToNat, Nat.reduceAdd, Nat.reduceBEq, Nat.reduceEqDiff, Nat.reduceLT, Nat.reduceLeDiff, Nat.reduceMul, Nat.reducePow, Nat.reduceSub, reduceCtorEq, reduceIte, IntKind.bits.eq_def, ti, tin, rws_length, hx, hy, x0, x1, y0, y1, e1, ln, e9]) | (simp (disch := omega) only [w64, wu64, wu32, Nat.min_eq_left]) | (refine drawAfter_app ti_ok rfl rfl rfl rfl rfl ⟨rfl, rfl, by decide⟩ rfl ⟨trivial, by (try simp only [List.length_cons, List.length_nil, List.length_append, u32s_length, List.length_map, rws_length, hx, hy, x0, x1, y0, y1, e1, ln, e9]); omega, by (try simp only [List.length_cons, List.length_nil, List.length_append, u32s_length, List.length_map, rws_length, hx, hy, x0, x1, y0, y1, e1, ln, e9]); omega, by (try simp only [List.length_cons, List.length_nil, List.length_append, u32s_length, List.length_map, rws_length, hx, hy, x0, x1, y0, y1, e1, ln, e9]); omega⟩ byRows ?_) | (refine after_lit ti_ok ?_) | (refine drawAfter_lit ti_ok ?_) | (refine drawEnd_of (by kernel_rfl) ?_) | ((first | refine cond_cases (fun hc => ?_) (fun hc => ?_) | refine guard_split (fun hc => ?_) (fun hc => ?_) | refine drawGuard_split (fun hc => ?_) (fun hc => ?_)) <;> first | (exfalso; simp only [dcT, dcF, bnT, bnF, bnU, bnV] at hc; omega) | (simp only [hc]; try simp only [dcT, dcF, bnT, bnF, bnU, bnV] at hc)) | (refine after_need (by omega) ?_) | (refine drawAfter_need (by omega) ?_))
        refine roundEnd_of (α := Nat) (k + 1) ?_ ?_ ?_
        · show k + 1 ≤ n - 1; omega
        · omega
        · exact Weak.ren2 25 1 27 (Nat.le_refl _) (by decide) (Nat.le_of_ble_eq_true rfl) byRenE byNoM byWeak
      ·
        have hk2 : k = n - 1 := by omega
        subst hk2
        have ln := dfS_length x y (n - 1)
        repeat' (first | (simp only [go_sem, Int.reduceAdd, Int.reduceEq, Int.reduceLE, Int.reduceLT, Int.reduceMul, Int.reduceNeg, Int.reducePow, Int.reduceSub, Int.reduceToNat, Nat.reduceAdd, Nat.reduceBEq, Nat.reduceEqDiff, Nat.reduceLT, Nat.reduceLeDiff, Nat.reduceMul, Nat.reducePow, Nat.reduceSub, reduceCtorEq, reduceIte, IntKind.bits.eq_def, ti, tin, rws_length, hx, hy, ln]) | (simp (disch := omega) only [w64, wu64, wu32, Nat.min_eq_left]) | (refine after_lit ti_ok ?_) | (refine drawAfter_lit ti_ok ?_) | (refine drawEnd_of (by kernel_rfl) ?_) | ((first | refine cond_cases (fun hc => ?_) (fun hc => ?_) | refine guard_split (fun hc => ?_) (fun hc => ?_) | refine drawGuard_split (fun hc => ?_) (fun hc => ?_)) <;> first | (exfalso; simp only [dcT, dcF, bnT, bnF, bnU, bnV] at hc; omega) | (simp only [hc]; try simp only [dcT, dcF, bnT, bnF, bnU, bnV] at hc)) | (refine after_need (by omega) ?_) | (refine drawAfter_need (by omega) ?_))
        refine fin_pub trivial (.tup (.cons (.one (.ps rfl rfl (by simp [rws_length, dfS_length]))) (.cons (.one .same) .nil))) ?_
        simp [rws_length, dfS_length, List.take_of_length_le]
        exact .refl _
theorem r49_Df_err (x y : List Int) (n : Nat) (hx : x.length = n) (m : Nat) (hy : y.length = m) (hn : n ≤ 4611686018427387904) (hm : m ≤ 4611686018427387904) (h : ckDf x y ≠ 0) : CallOK Tryd.prog gl 37 [.sl 1 (rws irow x), .sl 1 (rws irow y)] (.tup [.v (.slice none 0 0), .v (.int .i64 ((ckDf x y)))]) := by
  refine call_ok (C := ⟨Tryd.prog, gl, ti, 68, false⟩) ti_ok mixed 3000 Tryd.call37 Tryd.func37 rfl Tryd.ntmps37 (by simp) byClL byCl ?_
  rw [Tryd.results37]
  obtain ⟨z, hz⟩ : ∃ z, ckDf x y = z := ⟨_, rfl⟩
  rw [hz]
  rw [hz] at h
  unfold ckDf at hz
  rw [hx, hy] at hz
  by_cases h0 : n = m
  · subst h0
    by_cases h1 : n < 2
    · rw [if_pos (.inr h1)] at hz
      subst hz
      repeat' (first | (simp only [go_sem, Int.reduceAdd, Int.reduceEq, Int.reduceLE, Int.reduceLT, Int.reduceMul, Int.reduceNeg, Int.reducePow, Int.reduceSub, Int.reduceToNat, Nat.reduceAdd, Nat.reduceBEq, Nat.reduceEqDiff, Nat.reduceLT, Nat.reduceLeDiff, Nat.reduceMul, Nat.reducePow, Nat.reduceSub, reduceCtorEq, reduceIte, IntKind.bits.eq_def, ti, tin, rws_length, hx, hy]) | (simp (disch := omega) only [w64, wu64, wu32, Nat.min_eq_left]) | (refine after_lit ti_ok ?_) | (refine drawAfter_lit ti_ok ?_) | (refine drawEnd_of (by kernel_rfl) ?_) | ((first | refine cond_cases (fun hc => ?_) (fun hc => ?_) | refine guard_split (fun hc => ?_) (fun hc => ?_) | refine drawGuard_split (fun hc => ?_) (fun hc => ?_)) <;> first | (exfalso; simp only [dcT, dcF, bnT, bnF, bnU, bnV] at hc; omega) | (simp only [hc]; try simp only [dcT, dcF, bnT, bnF, bnU, bnV] at hc)) | (refine after_need (by omega) ?_) | (refine drawAfter_need (by omega) ?_))
      all_goals exact fin_same trivial rfl
    rw [if_neg (by omega)] at hz
    by_cases h2 : 65 < n
    · rw [if_pos h2] at hz
      subst hz
      repeat' (first | (simp only [go_sem, Int.reduceAdd, Int.reduceEq, Int.reduceLE, Int.reduceLT, Int.reduceMul, Int.reduceNeg, Int.reducePow, Int.reduceSub, Int.reduceToNat, Nat.reduceAdd, Nat.reduceBEq, Nat.reduceEqDiff, Nat.reduceLT, Nat.reduceLeDiff, Nat.reduceMul, Nat.reducePow, Nat.reduceSub, reduceCtorEq, reduceIte, IntKind.bits.eq_def, ti, tin, rws_length, hx, hy]) | (simp (disch := omega) only [w64, wu64, wu32, Nat.min_eq_left]) | (refine after_lit ti_ok ?_) | (refine drawAfter_lit ti_ok ?_) | (refine drawEnd_of (by kernel_rfl) ?_) | ((first | refine cond_cases (fun hc => ?_) (fun hc => ?_) | refine guard_split (fun hc => ?_) (fun hc => ?_) | refine drawGuard_split (fun hc => ?_) (fun hc => ?_)) <;> first | (exfalso; simp only [dcT, dcF, bnT, bnF, bnU, bnV] at hc; omega) | (simp only [hc]; try simp only [dcT, dcF, bnT, bnF, bnU, bnV] at hc)) | (refine after_need (by omega) ?_) | (refine drawAfter_need (by omega) ?_))
      all_goals exact fin_same trivial rfl
    rw [if_neg h2] at hz
    have hbad : ¬ (allB x ∧ allB y) → z = 3 := fun hh => by rw [← hz]; exact if_neg hh
    have hall : allB x → allB y → False := fun h1 h2 => h (by rw [← hz]; exact if_pos ⟨h1, h2⟩)
    clear hz
    have g0 : (rws irow x).take n ++ rws irow y = rws irow (x ++ y) := by rw [rws_append, List.take_of_length_le (by rw [rws_length]; omega)]
    have g1 : (rws irow x).length = n := by rw [rws_length, hx]
    have g2 : (rws irow y).length = n := by rw [rws_length, hy]
    have g3 : ([] : List (List AV)).take 0 ++ rws irow x = rws irow x := rfl
    have g4 : (x ++ y).length = n + n := by rw [List.length_append, hx, hy]
    repeat' (first | (simp only [go_sem, Int.reduceAdd, Int.reduceEq, Int.reduceLE, Int.reduceLT, Int.reduceMul, Int.reduceNeg, Int.reducePow, Int.reduceSub, Int.reduceToNat, Nat.reduceAdd, Nat.reduceBEq, Nat.reduceEqDiff, Nat.reduceLT, Nat.reduceLeDiff, Nat.reduceMul, Nat.reducePow, Nat.reduceSub, reduceCtorEq, reduceIte, IntKind.bits.eq_def, ti, tin, rws_length, hx, hy, g0, g1, g2, g3]) | (simp (disch := omega) only [w64, wu64, wu32, Nat.min_eq_left]) | (refine after_lit0 ti_ok rfl rfl ?_) | (refine after_append_nil ti_ok rfl rfl rfl rfl ⟨rfl, by decide⟩ rfl ⟨trivial, by (try simp only [List.length_cons, List.length_nil, List.length_append, u32s_length, List.length_map, g0, g1, g2, g3]); omega, by (try simp only [List.length_cons, List.length_nil, List.length_append, u32s_length, List.length_map, g0, g1, g2, g3]); omega⟩ (fun _ => byRows) ?_) | (refine after_append_own ti_ok rfl rfl rfl rfl rfl ⟨rfl, rfl, by decide, Nat.le_of_ble_eq_true rfl⟩ (fun h => by first | (cases h; done) | decide) rfl ⟨trivial, by (try simp only [List.length_cons, List.length_nil, List.length_append, u32s_length, List.length_map, g0, g1, g2, g3]); omega, by (try simp only [List.length_cons, List.length_nil, List.length_append, u32s_length, List.length_map, g0, g1, g2, g3]); omega, by (try simp only [List.length_cons, List.length_nil, List.length_append, u32s_length, List.length_map, g0, g1, g2, g3]); omega⟩ byRows byNoE byNoM ?_) | (refine after_lit ti_ok ?_) | (refine drawAfter_lit ti_ok ?_) | (refine drawEnd_of (by kernel_rfl) ?_) | ((first | refine cond_cases (fun hc => ?_) (fun hc => ?_) | refine guard_split (fun hc => ?_) (fun hc => ?_) | refine drawGuard_split (fun hc => ?_) (fun hc => ?_)) <;> first | (exfalso; simp only [dcT, dcF, bnT, bnF, bnU, bnV] at hc; omega) | (simp only [hc]; try simp only [dcT, dcF, bnT, bnF, bnU, bnV] at hc)) | (refine after_need (by omega) ?_) | (refine drawAfter_need (by omega) ?_))
    refine l_loop (α := Nat) (fun k => ⟨[(0, .sl 1 (rws irow x)), (1, .sl 1 (rws irow y)), (27, .ps 0 1 0 (n + n)), (28, .v (.int .i64 ((n + n : Nat)))), (29, .v (.int .i64 k))], [(0, ⟨1, rws irow (x ++ y)⟩)], 1⟩) (fun k => k ≤ n + n ∧ ∀ i, i < k → smB ((x ++ y).getD i 0)) (fun k => n + n - k) (0) _ byFresh (fun _ h => by first | (cases h; done) | exact Nat.le_of_ble_eq_true rfl) ?_ ?_ ?_
    · exact ⟨Nat.zero_le _, fun i hi => by omega⟩
    · exact byWeak
    rintro k ⟨hk, hi⟩
    by_cases hkn : k < n + n
    ·
      have rk := rws_getD (f := irow) (l := x ++ y) (i := k) 0 (by omega)
      have st : smB ((x ++ y).getD k 0) → ∀ i, i < k + 1 → smB ((x ++ y).getD i 0) := fun h i h2 => by
        by_cases h4 : i = k
        · rw [h4]; exact h
        · exact hi i (by omega)
      have no : ¬ smB ((x ++ y).getD k 0) → ¬ allB (x ++ y) := fun h g => h (g k (by omega))
      clear hi
      generalize (x ++ y).getD k 0 = v at *
      rw [irow_mk] at rk
      have b1 := r49_far v 549755813888 (by omega)
      by_cases h2 : smB v
      ·
        have st2 := st h2
        unfold smB at h2
        rw [decide_eq_false (by omega)] at b1
        clear st no
        repeat' (first | (simp only [go_sem, Int.reduceAdd, Int.reduceEq, Int.reduceLE, Int.reduceLT, Int.reduceMul, Int.reduceNeg, Int.reducePow, Int.reduceSub, Int.reduceToNat, Nat.reduceAdd, Nat.reduceBEq, Nat.reduceEqDiff, Nat.reduceLT, Nat.reduceLeDiff, Nat.reduceMul, Nat.reducePow, Nat.reduceSub, reduceCtorEq, reduceIte, IntKind.bits.eq_def, ti, tin, rws_length, g4, rk]) | (simp (disch := omega) only [w64, wu64, wu32, Nat.min_eq_left]) | (with_reducible first | refine callF_of (b1) ?_ | refine drawF_of (b1) ?_) | (refine after_lit ti_ok ?_) | (refine drawAfter_lit ti_ok ?_) | (refine drawEnd_of (by kernel_rfl) ?_) | ((first | refine cond_cases (fun hc => ?_) (fun hc => ?_) | refine guard_split (fun hc => ?_) (fun hc => ?_) | refine drawGuard_split (fun hc => ?_) (fun hc => ?_)) <;> first | (exfalso; simp only [dcT, dcF, bnT, bnF, bnU, bnV] at hc; omega) | (simp only [hc]; try simp only [dcT, dcF, bnT, bnF, bnU, bnV] at hc)) | (refine after_need (by omega) ?_) | (refine drawAfter_need (by omega) ?_))
        refine roundEnd_of (α := Nat) (k + 1) ?_ ?_ ?_
        · exact ⟨by omega, st2⟩
        · omega
        · exact byWeak
      ·
        have no2 := no h2
        unfold smB at h2
        rw [decide_eq_true (by omega)] at b1
        clear st no
        have hz2 := hbad (fun h => no2 (allB_app.2 h))
        rw [hz2]
        repeat' (first | (simp only [go_sem, Int.reduceAdd, Int.reduceEq, Int.reduceLE, Int.reduceLT, Int.reduceMul, Int.reduceNeg, Int.reducePow, Int.reduceSub, Int.reduceToNat, Nat.reduceAdd, Nat.reduceBEq, Nat.reduceEqDiff, Nat.reduceLT, Nat.reduceLeDiff, Nat.reduceMul, Nat.reducePow, Nat.reduceSub, reduceCtorEq, reduceIte, IntKind.bits.eq_def, ti, tin, rws_length, g4, rk]) | (simp (disch := omega) only [w64, wu64, wu32, Nat.min_eq_left]) | (with_reducible first | refine callF_of (b1) ?_ | refine drawF_of (b1) ?_) | (refine after_lit ti_ok ?_) | (refine drawAfter_lit ti_ok ?_) | (refine drawEnd_of (by kernel_rfl) ?_) | ((first | refine cond_cases (fun hc => ?_) (fun hc => ?_) | refine guard_split (fun hc => ?_) (fun hc => ?_) | refine drawGuard_split (fun hc => ?_) (fun hc => ?_)) <;> first | (exfalso; simp only [dcT, dcF, bnT, bnF, bnU, bnV] at hc; omega) | (simp only [hc]; try simp only [dcT, dcF, bnT, bnF, bnU, bnV] at hc)) | (refine after_need (by omega) ?_) | (refine drawAfter_need (by omega) ?_))
        all_goals exact fin_same trivial rfl
    ·
      have ha2 : allB (x ++ y) := fun i h => hi i (by omega)
      clear hi
      exact (hall (allB_app.1 ha2).1 (allB_app.1 ha2).2).elim
  · rw [if_pos (.inl h0)] at hz
    subst hz
    have h0' : ¬ ((n : Nat) : Int) = (m : Int) := by omega
    repeat' (first | (simp only [go_sem, Int.reduceAdd, Int.reduceEq, Int.reduceLE, Int.reduceLT, Int.reduceMul, Int.reduceNeg, Int.reducePow, Int.reduceSub, Int.reduceToNat, Nat.reduceAdd, Nat.reduceBEq, Nat.reduceEqDiff, Nat.reduceLT, Nat.reduceLeDiff, Nat.reduceMul, Nat.reducePow, Nat.reduceSub, reduceCtorEq, reduceIte, IntKind.bits.eq_def, ti, tin, rws_length, hx, hy, h0']) | (simp (disch := omega) only [w64, wu64, wu32, Nat.min_eq_left]) | (refine after_lit ti_ok ?_) | (refine drawAfter_lit ti_ok ?_) | (refine drawEnd_of (by kernel_rfl) ?_) | ((first | refine cond_cases (fun hc => ?_) (fun hc => ?_) | refine guard_split (fun hc => ?_) (fun hc => ?_) | refine drawGuard_split (fun hc => ?_) (fun hc => ?_)) <;> first | (exfalso; simp only [dcT, dcF, bnT, bnF, bnU, bnV] at hc; omega) | (simp only [hc]; try simp only [dcT, dcF, bnT, bnF, bnU, bnV] at hc)) | (refine after_need (by omega) ?_) | (refine drawAfter_need (by omega) ?_))
    all_goals exact fin_same trivial rfl
theorem r49_Df_ok (x y : List Int) (n : Nat) (hx : x.length = n) (hy : y.length = n) (h1 : 2 ≤ n) (h2 : n ≤ 65) (hax : allB x) (hay : allB y) : CallOK Tryd.prog gl 37 [.sl 1 (rws irow x), .sl 1 (rws irow y)] (.tup [.sl 2 (rws prow (dfS x y (n - 1))), .v (.int .i64 0)]) := by
  refine call_ok (C := ⟨Tryd.prog, gl, ti, 68, false⟩) ti_ok mixed 3000 Tryd.call37 Tryd.func37 rfl Tryd.ntmps37 (by simp) byClL byCl ?_
  rw [Tryd.results37]
  have g0 : (rws irow x).take n ++ rws irow y = rws irow (x ++ y) := by rw [rws_append, List.take_of_length_le (by rw [rws_length]; omega)]
  have g1 : (rws irow x).length = n := by rw [rws_length, hx]
  have g2 : (rws irow y).length = n := by rw [rws_length, hy]
  have g3 : ([] : List (List AV)).take 0 ++ rws irow x = rws irow x := rfl
  have g4 : (x ++ y).length = n + n := by rw [List.length_append, hx, hy]
  repeat' (first | (simp only [go_sem, Int.reduceAdd, Int.reduceEq, Int.reduceLE, Int.reduceLT, Int.reduceMul, Int.reduceNeg, Int.reducePow, Int.reduceSub, Int.reduceToNat, Nat.reduceAdd, Nat.reduceBEq, Nat.reduceEqDiff, Nat.reduceLT, Nat.reduceLeDiff, Nat.reduceMul, Nat.reducePow, Nat.reduceSub, reduceCtorEq, reduceIte, IntKind.bits.eq_def, ti, tin, rws_length, hx, hy, g0, g1, g2, g3]) | (simp (disch := omega) only [w64, wu64, wu32, Nat.min_eq_left]) | (refine after_lit0 ti_ok rfl rfl ?_) | (refine after_append_nil ti_ok rfl rfl rfl rfl ⟨rfl, by decide⟩ rfl ⟨trivial, by (try simp only [List.length_cons, List.length_nil, List.length_append, u32s_length, List.length_map, g0, g1, g2, g3]); omega, by (try simp only [List.length_cons, List.length_nil, List.length_append, u32s_length, List.length_map, g0, g1, g2, g3]); omega⟩ (fun _ => byRows) ?_) | (refine after_append_own ti_ok rfl rfl rfl rfl rfl ⟨rfl, rfl, by decide, Nat.le_of_ble_eq_true rfl⟩ (fun h => by first | (cases h; done) | decide) rfl ⟨trivial, by (try simp only [List.length_cons, List.length_nil, List.length_append, u32s_length, List.length_map, g0, g1, g2, g3]); omega, by (try simp only [List.length_cons, List.length_nil, List.length_append, u32s_length, List.length_map, g0, g1, g2, g3]); omega, by (try simp only [List.length_cons, List.length_nil, List.length_append, u32s_length, List.length_map, g0, g1, g2, g3]); omega⟩ byRows byNoE byNoM ?_) | (refine after_lit ti_ok ?_) | (refine drawAfter_lit ti_ok ?_) | (refine drawEnd_of (by kernel_rfl) ?_) | ((first | refine cond_cases (fun hc => ?_) (fun hc => ?_) | refine guard_split (fun hc => ?_) (fun hc => ?_) | refine drawGuard_split (fun hc => ?_) (fun hc => ?_)) <;> first | (exfalso; simp only [dcT, dcF, bnT, bnF, bnU, bnV] at hc; omega) | (simp only [hc]; try simp only [dcT, dcF, bnT, bnF, bnU, bnV] at hc)) | (refine after_need (by omega) ?_) | (refine drawAfter_need (by omega) ?_))
  refine l_loop (α := Nat) (fun k => ⟨[(0, .sl 1 (rws irow x)), (1, .sl 1 (rws irow y)), (27, .ps 0 1 0 (n + n)), (28, .v (.int .i64 ((n + n : Nat)))), (29, .v (.int .i64 k))], [(0, ⟨1, rws irow (x ++ y)⟩)], 1⟩) (fun k => k ≤ n + n ∧ ∀ i, i < k → smB ((x ++ y).getD i 0)) (fun k => n + n - k) (0) _ byFresh (fun _ h => by first | (cases h; done) | exact Nat.le_of_ble_eq_true rfl) ?_ ?_ ?_
  · exact ⟨Nat.zero_le _, fun i hi => by omega⟩
  · exact byWeak
  rintro k ⟨hk, hi⟩
  by_cases hkn : k < n + n
  ·
    have rk := rws_getD (f := irow) (l := x ++ y) (i := k) 0 (by omega)
    have st : smB ((x ++ y).getD k 0) → ∀ i, i < k + 1 → smB ((x ++ y).getD i 0) := fun h i h2 => by
      by_cases h4 : i = k
      · rw [h4]; exact h
      · exact hi i (by omega)
    have no : ¬ smB ((x ++ y).getD k 0) → ¬ allB (x ++ y) := fun h g => h (g k (by omega))
    clear hi
    generalize (x ++ y).getD k 0 = v at *
    rw [irow_mk] at rk
    have b1 := r49_far v 549755813888 (by omega)
    by_cases h2 : smB v
    ·
      have st2 := st h2
      unfold smB at h2
      rw [decide_eq_false (by omega)] at b1
      clear st no
      repeat' (first | (simp only [go_sem, Int.reduceAdd, Int.reduceEq, Int.reduceLE, Int.reduceLT, Int.reduceMul, Int.reduceNeg, Int.reducePow, Int.reduceSub, Int.reduceToNat, Nat.reduceAdd, Nat.reduceBEq, Nat.reduceEqDiff, Nat.reduceLT, Nat.reduceLeDiff, Nat.reduceMul, Nat.reducePow, Nat.reduceSub, reduceCtorEq, reduceIte, IntKind.bits.eq_def, ti, tin, rws_length, g4, rk]) | (simp (disch := omega) only [w64, wu64, wu32, Nat.min_eq_left]) | (with_reducible first | refine callF_of (b1) ?_ | refine drawF_of (b1) ?_) | (refine after_lit ti_ok ?_) | (refine drawAfter_lit ti_ok ?_) | (refine drawEnd_of (by kernel_rfl) ?_) | ((first | refine cond_cases (fun hc => ?_) (fun hc => ?_) | refine guard_split (fun hc => ?_) (fun hc => ?_) | refine drawGuard_split (fun hc => ?_) (fun hc => ?_)) <;> first | (exfalso; simp only [dcT, dcF, bnT, bnF, bnU, bnV] at hc; omega) | (simp only [hc]; try simp only [dcT, dcF, bnT, bnF, bnU, bnV] at hc)) | (refine after_need (by omega) ?_) | (refine drawAfter_need (by omega) ?_))
      refine roundEnd_of (α := Nat) (k + 1) ?_ ?_ ?_
      · exact ⟨by omega, st2⟩
      · omega
      · exact byWeak
    ·
      have no2 := no h2
      unfold smB at h2
      rw [decide_eq_true (by omega)] at b1
      clear st no
      exact absurd (allB_app.2 ⟨hax, hay⟩) no2
  ·
    have ha2 : allB (x ++ y) := fun i h => hi i (by omega)
    clear hi
    have e0 : ((n : Nat) : Int) - 1 = ((n - 1 : Nat) : Int) := by omega
    repeat' (first | (simp only [go_sem, Int.reduceAdd, Int.reduceEq, Int.reduceLE, Int.reduceLT, Int.reduceMul, Int.reduceNeg, Int.reducePow, Int.reduceSub, Int.reduceToNat, Nat.reduceAdd, Nat.reduceBEq, Nat.reduceEqDiff, Nat.reduceLT, Nat.reduceLeDiff, Nat.reduceMul, Nat.reducePow, Nat.reduceSub, reduceCtorEq, reduceIte, IntKind.bits.eq_def, ti, tin, rws_length, hx, hy, e0]) | (simp (disch := omega) only [w64, wu64, wu32, Nat.min_eq_left]) | (refine after_lit ti_ok ?_) | (refine drawAfter_lit ti_ok ?_) | (refine drawEnd_of (by kernel_rfl) ?_) | ((first | refine cond_cases (fun hc => ?_) (fun hc => ?_) | refine guard_split (fun hc => ?_) (fun hc => ?_) | refine drawGuard_split (fun hc => ?_) (fun hc => ?_)) <;> first | (exfalso; simp only [dcT, dcF, bnT, bnF, bnU, bnV] at hc; omega) | (simp only [hc]; try simp only [dcT, dcF, bnT, bnF, bnU, bnV] at hc)) | (refine after_need (by omega) ?_) | (refine drawAfter_need (by omega) ?_))
    refine l_loop (α := Nat) (fun k => ⟨[(0, .sl 1 (rws irow x)), (1, .sl 1 (rws irow y)), (8, .ps 1 2 0 k), (38, .v (.int .i64 ((n - 1 : Nat)))), (39, .v (.int .i64 k))], [(1, ⟨2, rws prow (dfS x y k)⟩)], 2⟩) (fun k => k ≤ n - 1) (fun k => n - 1 - k) (0) _ byFresh (fun _ h => by first | (cases h; done) | exact Nat.le_of_ble_eq_true rfl) ?_ ?_ ?_
    · exact Nat.zero_le _
    · exact Weak.trans (Weak.newnil 1 2 (Nat.le_of_ble_eq_true rfl)) (Nat.le_of_ble_eq_true rfl) (by exact byWeak)
    rintro k hk
    by_cases hkn : k < n - 1
    ·
      have x0 := rws_getD (f := irow) (l := x) (i := k) 0 (by omega)
      have x1 := rws_getD (f := irow) (l := x) (i := k + 1) 0 (by omega)
      have y0 := rws_getD (f := irow) (l := y) (i := k) 0 (by omega)
      have y1 := rws_getD (f := irow) (l := y) (i := k + 1) 0 (by omega)
      have v0 : smB (x.getD k 0) := hax k (by omega)
      have v1 : smB (x.getD (k + 1) 0) := hax (k + 1) (by omega)
      have w0 : smB (y.getD k 0) := hay k (by omega)
      have w1 : smB (y.getD (k + 1) 0) := hay (k + 1) (by omega)
      have sc := dfS_succ x y k
      have ln := dfS_length x y k
      rw [irow_mk] at x0 x1 y0 y1
      unfold smB at v0 v1 w0 w1
      generalize x.getD k 0 = p0 at *
      generalize x.getD (k + 1) 0 = p1 at *
      generalize y.getD k 0 = q0 at *
      generalize y.getD (k + 1) 0 = q1 at *
      have e1 : ((k : Nat) : Int) + 1 = ((k + 1 : Nat) : Int) := by omega
      have e9 : (rws prow (dfS x y k)).take k ++ [[AV.v (.int .i64 (p1 - p0)), AV.v (.int .i64 (q1 - q0))]] = rws prow (dfS x y (k + 1)) := by rw [sc]; exact rws_snoc (f := prow) (x := (p1 - p0, q1 - q0)) ln
      repeat' (first | (simp only [go_sem, Int.reduceAdd, Int.reduceEq, Int.reduceLE, Int.reduceLT, Int.reduceMul, Int.reduceNeg, Int.reducePow, Int.reduceSub, Int.reduceToNat, Nat.reduceAdd, Nat.reduceBEq, Nat.reduceEqDiff, Nat.reduceLT, Nat.reduceLeDiff, Nat.reduceMul, Nat.reducePow, Nat.reduceSub, reduceCtorEq, reduceIte, IntKind.bits.eq_def, ti, tin, rws_length, hx, hy, x0, x1, y0, y1, e1, ln, e9]) | (simp (disch := omega) only [w64, wu64, wu32, Nat.min_eq_left]) | (refine drawAfter_app ti_ok rfl rfl rfl rfl rfl ⟨rfl, rfl, by decide⟩ rfl ⟨trivial, by (try simp only [List.length_cons, List.length_nil, List.length_append, u32s_length, List.length_map, rws_length, hx, hy, x0, x1, y0, y1, e1, ln, e9]); omega, by (try simp only [List.length_cons, List.length_nil, List.length_append, u32s_length, List.length_map, rws_length, hx, hy, x0, x1, y0, y1, e1, ln, e9]); omega, by (try simp only [List.length_cons, List.length_nil, List.length_append, u32s_length, List.length_map, rws_length, hx, hy, x0, x1, y0, y1, e1, ln, e9]); omega⟩ byRows ?_) | (refine after_lit ti_ok ?_) | (refine drawAfter_lit ti_ok ?_) | (refine drawEnd_of (by kernel_rfl) ?_) | ((first | refine cond_cases (fun hc => ?_) (fun hc => ?_) | refine guard_split (fun hc => ?_) (fun hc => ?_) | refine drawGuard_split (fun hc => ?_) (fun hc => ?_)) <;> first | (exfalso; simp only [dcT, dcF, bnT, bnF, bnU, bnV] at hc; omega) | (simp only [hc]; try simp only [dcT, dcF, bnT, bnF, bnU, bnV] at hc)) | (refine after_need (by omega) ?_) | (refine drawAfter_need (by omega) ?_))
      refine roundEnd_of (α := Nat) (k + 1) ?_ ?_ ?_
      · show k + 1 ≤ n - 1; omega
      · omega
      · exact Weak.ren2 25 1 27 (Nat.le_refl _) (by decide) (Nat.le_of_ble_eq_true rfl) byRenE byNoM byWeak
    ·
      have hk2 : k = n - 1 := by omega
      subst hk2
      have ln := dfS_length x y (n - 1)
      repeat' (first | (simp only [go_sem, Int.reduceAdd, Int.reduceEq, Int.reduceLE, Int.reduceLT, Int.reduceMul, Int.reduceNeg, Int.reducePow, Int.reduceSub, Int.reduceToNat, Nat.reduceAdd, Nat.reduceBEq, Nat.reduceEqDiff, Nat.reduceLT, Nat.reduceLeDiff, Nat.reduceMul, Nat.reducePow, Nat.reduceSub, reduceCtorEq, reduceIte, IntKind.bits.eq_def, ti, tin, rws_length, hx, hy, ln]) | (simp (disch := omega) only [w64, wu64, wu32, Nat.min_eq_left]) | (refine after_lit ti_ok ?_) | (refine drawAfter_lit ti_ok ?_) | (refine drawEnd_of (by kernel_rfl) ?_) | ((first | refine cond_cases (fun hc => ?_) (fun hc => ?_) | refine guard_split (fun hc => ?_) (fun hc => ?_) | refine drawGuard_split (fun hc => ?_) (fun hc => ?_)) <;> first | (exfalso; simp only [dcT, dcF, bnT, bnF, bnU, bnV] at hc; omega) | (simp only [hc]; try simp only [dcT, dcF, bnT, bnF, bnU, bnV] at hc)) | (refine after_need (by omega) ?_) | (refine drawAfter_need (by omega) ?_))
      refine fin_pub trivial (.tup (.cons (.one (.ps rfl rfl (by simp [rws_length, dfS_length]))) (.cons (.one .same) .nil))) ?_
      simp [rws_length, dfS_length, List.take_of_length_le]
      exact .refl _
end Go.Proofs.YtkdpaoicekgalaaDoor
