/- The statement IntervalEnds: its code returns true. -/
import Derived.Test.YtkdpaoicekgalaaDoorL03
import Derived.Test.YtkdpaoicekgalaaDoorU3
set_option linter.unusedSimpArgs false
set_option linter.unusedVariables false
set_option linter.deprecated false
namespace Go.Proofs.YtkdpaoicekgalaaDoor
open Go Go.Ax
set_option maxRecDepth 100000
set_option maxHeartbeats 4000000

theorem attained03 (a : Iv) (l : List Dy) (n : Nat) (hn : l.length = n) (hl : n ≤ 1000) (ka : a.Mg 1024) (kl : ∀ x ∈ l, Mg 1024 x) : CallOK Tryd.prog gl 21 [.agg [.v (.bool (sg (a).lo)), .sl 1 (u32s (ms (a).lo)), .v (.int .i64 (dn (a).lo)), .v (.bool (sg (a).hi)), .sl 1 (u32s (ms (a).hi)), .v (.int .i64 (dn (a).hi))], .sl 3 (vrows (l.map can))] (.v (.bool ((decide (a.lo ∈ l) && decide (a.hi ∈ l))))) := by
  refine call_ok (C := ⟨Tryd.prog, gl, ti, 34, false⟩) ti_ok mixed 3000 Tryd.call21 Tryd.func21 rfl Tryd.ntmps21 (by simp) byClL byCl ?_
  rw [Tryd.results21]
  repeat' (first
    | (simp only [go_sem, Int.reduceAdd, Int.reduceEq, Int.reduceLE, Int.reduceLT, Int.reduceMul, Int.reduceNeg, Int.reducePow, Int.reduceSub, Int.reduceToNat, Nat.reduceAdd, Nat.reduceBEq, Nat.reduceEqDiff, Nat.reduceLT, Nat.reduceLeDiff, Nat.reduceMul, Nat.reducePow, Nat.reduceSub, reduceCtorEq, reduceIte, IntKind.bits.eq_def, ti, tin, crows_length, hn])
    | (simp (disch := omega) only [w64, wu64, wu32, Nat.min_eq_left])
    | (refine after_lit ti_ok ?_)
    | (refine drawAfter_lit ti_ok ?_)
    | (refine drawEnd_of (by kernel_rfl) ?_)
    | ((first | refine cond_cases (fun hc => ?_) (fun hc => ?_) | refine guard_split (fun hc => ?_) (fun hc => ?_) | refine drawGuard_split (fun hc => ?_) (fun hc => ?_)) <;> first | (exfalso; simp only [decide_eq_true_eq, decide_eq_false_iff_not, Bool.not_eq_true, Bool.not_eq_false, Bool.not_eq_true', Bool.not_eq_false'] at hc; omega) | (simp only [hc]; try simp only [decide_eq_true_eq, decide_eq_false_iff_not, Bool.not_eq_true, Bool.not_eq_false, Bool.not_eq_true', Bool.not_eq_false'] at hc))
    | (refine after_need (by omega) ?_)
    | (refine drawAfter_need (by omega) ?_))
  refine l_loop (α := Nat × Bool × Bool) (fun x => ⟨[(2, .p 0 6 0 0), (5, .v (.bool (x.2.1))), (6, .v (.bool (x.2.2))), (9, .sl 3 (vrows (l.map can))), (10, .v (.int .i64 n)), (11, .v (.int .i64 x.1))], [(0, ⟨6, [[.v (.bool (sg a.lo)), .sl 1 (u32s (ms a.lo)), .v (.int .i64 (dn a.lo)), .v (.bool (sg a.hi)), .sl 1 (u32s (ms a.hi)), .v (.int .i64 (dn a.hi))]]⟩)], 1⟩) (fun x => x.1 ≤ n ∧ x.2.1 = decide (a.lo ∈ l.take x.1) ∧ x.2.2 = decide (a.hi ∈ l.take x.1)) (fun x => n - x.1) ((0, false, false)) _ byFresh (fun _ h => by first | (cases h; done) | exact Nat.le_of_ble_eq_true rfl) ?_ ?_ ?_
  · exact ⟨Nat.zero_le _, by simp, by simp⟩
  · exact byWeak
  rintro ⟨k, b1, b2⟩ ⟨hk, e1, e2⟩
  simp only at hk e1 e2
  by_cases hkn : k < n
  ·
    have rk := crows_getD (l := l) (i := k) (by omega)
    have mk := kl _ (show l.getD k Dy.zero ∈ l by rw [List.getD, List.getElem?_eq_getElem (by omega)]; exact List.getElem_mem _)
    have s1 := ref_Same (l.getD k Dy.zero) a.lo (by have := (mk.arg (by omega)).len; omega) (by have := (ka.1.arg (by omega)).len; omega)
    have s2 := ref_Same (l.getD k Dy.zero) a.hi (by have := (mk.arg (by omega)).len; omega) (by have := (ka.2.arg (by omega)).len; omega)
    have f1 : decide (a.lo ∈ l.take (k + 1)) = (b1 || decide (l.getD k Dy.zero = a.lo)) := by
      rw [e1, ← Bool.decide_or]; exact decide_eq_decide.2 (mem_take_succ (by omega))
    have f2 : decide (a.hi ∈ l.take (k + 1)) = (b2 || decide (l.getD k Dy.zero = a.hi)) := by
      rw [e2, ← Bool.decide_or]; exact decide_eq_decide.2 (mem_take_succ (by omega))
    unfold crow at rk
    clear e1 e2 mk kl ka
    generalize decide (l.getD k Dy.zero = a.lo) = m1 at *
    generalize decide (l.getD k Dy.zero = a.hi) = m2 at *
    generalize l.getD k Dy.zero = x at *
    cases b1
    ·
      cases b2
      ·
        repeat' (first
          | (simp only [go_sem, Int.reduceAdd, Int.reduceEq, Int.reduceLE, Int.reduceLT, Int.reduceMul, Int.reduceNeg, Int.reducePow, Int.reduceSub, Int.reduceToNat, Nat.reduceAdd, Nat.reduceBEq, Nat.reduceEqDiff, Nat.reduceLT, Nat.reduceLeDiff, Nat.reduceMul, Nat.reducePow, Nat.reduceSub, reduceCtorEq, reduceIte, IntKind.bits.eq_def, ti, tin, crows_length, hn, rk])
          | (simp (disch := omega) only [w64, wu64, wu32, Nat.min_eq_left])
          | (with_reducible refine callF_of (s1) ?_)
          | (with_reducible refine drawF_of (s1) ?_)
          | (with_reducible refine callF_of (s2) ?_)
          | (with_reducible refine drawF_of (s2) ?_)
          | (refine after_lit ti_ok ?_)
          | (refine drawAfter_lit ti_ok ?_)
          | (refine drawEnd_of (by kernel_rfl) ?_)
          | ((first | refine cond_cases (fun hc => ?_) (fun hc => ?_) | refine guard_split (fun hc => ?_) (fun hc => ?_) | refine drawGuard_split (fun hc => ?_) (fun hc => ?_)) <;> first | (exfalso; simp only [decide_eq_true_eq, decide_eq_false_iff_not, Bool.not_eq_true, Bool.not_eq_false, Bool.not_eq_true', Bool.not_eq_false'] at hc; omega) | (simp only [hc]; try simp only [decide_eq_true_eq, decide_eq_false_iff_not, Bool.not_eq_true, Bool.not_eq_false, Bool.not_eq_true', Bool.not_eq_false'] at hc))
          | (refine after_need (by omega) ?_)
          | (refine drawAfter_need (by omega) ?_))
        refine roundEnd_of (α := Nat × Bool × Bool) (k + 1, m1, m2) ?_ ?_ ?_
        · exact ⟨by show k + 1 ≤ n; omega, f1.symm, f2.symm⟩
        · show n - (k + 1) < n - k; omega
        · exact byWeak
      ·
        repeat' (first
          | (simp only [go_sem, Int.reduceAdd, Int.reduceEq, Int.reduceLE, Int.reduceLT, Int.reduceMul, Int.reduceNeg, Int.reducePow, Int.reduceSub, Int.reduceToNat, Nat.reduceAdd, Nat.reduceBEq, Nat.reduceEqDiff, Nat.reduceLT, Nat.reduceLeDiff, Nat.reduceMul, Nat.reducePow, Nat.reduceSub, reduceCtorEq, reduceIte, IntKind.bits.eq_def, ti, tin, crows_length, hn, rk])
          | (simp (disch := omega) only [w64, wu64, wu32, Nat.min_eq_left])
          | (with_reducible refine callF_of (s1) ?_)
          | (with_reducible refine drawF_of (s1) ?_)
          | (with_reducible refine callF_of (s2) ?_)
          | (with_reducible refine drawF_of (s2) ?_)
          | (refine after_lit ti_ok ?_)
          | (refine drawAfter_lit ti_ok ?_)
          | (refine drawEnd_of (by kernel_rfl) ?_)
          | ((first | refine cond_cases (fun hc => ?_) (fun hc => ?_) | refine guard_split (fun hc => ?_) (fun hc => ?_) | refine drawGuard_split (fun hc => ?_) (fun hc => ?_)) <;> first | (exfalso; simp only [decide_eq_true_eq, decide_eq_false_iff_not, Bool.not_eq_true, Bool.not_eq_false, Bool.not_eq_true', Bool.not_eq_false'] at hc; omega) | (simp only [hc]; try simp only [decide_eq_true_eq, decide_eq_false_iff_not, Bool.not_eq_true, Bool.not_eq_false, Bool.not_eq_true', Bool.not_eq_false'] at hc))
          | (refine after_need (by omega) ?_)
          | (refine drawAfter_need (by omega) ?_))
        refine roundEnd_of (α := Nat × Bool × Bool) (k + 1, m1, true) ?_ ?_ ?_
        · exact ⟨by show k + 1 ≤ n; omega, f1.symm, f2.symm⟩
        · show n - (k + 1) < n - k; omega
        · exact byWeak
    ·
      cases b2
      ·
        repeat' (first
          | (simp only [go_sem, Int.reduceAdd, Int.reduceEq, Int.reduceLE, Int.reduceLT, Int.reduceMul, Int.reduceNeg, Int.reducePow, Int.reduceSub, Int.reduceToNat, Nat.reduceAdd, Nat.reduceBEq, Nat.reduceEqDiff, Nat.reduceLT, Nat.reduceLeDiff, Nat.reduceMul, Nat.reducePow, Nat.reduceSub, reduceCtorEq, reduceIte, IntKind.bits.eq_def, ti, tin, crows_length, hn, rk])
          | (simp (disch := omega) only [w64, wu64, wu32, Nat.min_eq_left])
          | (with_reducible refine callF_of (s1) ?_)
          | (with_reducible refine drawF_of (s1) ?_)
          | (with_reducible refine callF_of (s2) ?_)
          | (with_reducible refine drawF_of (s2) ?_)
          | (refine after_lit ti_ok ?_)
          | (refine drawAfter_lit ti_ok ?_)
          | (refine drawEnd_of (by kernel_rfl) ?_)
          | ((first | refine cond_cases (fun hc => ?_) (fun hc => ?_) | refine guard_split (fun hc => ?_) (fun hc => ?_) | refine drawGuard_split (fun hc => ?_) (fun hc => ?_)) <;> first | (exfalso; simp only [decide_eq_true_eq, decide_eq_false_iff_not, Bool.not_eq_true, Bool.not_eq_false, Bool.not_eq_true', Bool.not_eq_false'] at hc; omega) | (simp only [hc]; try simp only [decide_eq_true_eq, decide_eq_false_iff_not, Bool.not_eq_true, Bool.not_eq_false, Bool.not_eq_true', Bool.not_eq_false'] at hc))
          | (refine after_need (by omega) ?_)
          | (refine drawAfter_need (by omega) ?_))
        refine roundEnd_of (α := Nat × Bool × Bool) (k + 1, true, m2) ?_ ?_ ?_
        · exact ⟨by show k + 1 ≤ n; omega, f1.symm, f2.symm⟩
        · show n - (k + 1) < n - k; omega
        · exact byWeak
      ·
        repeat' (first
          | (simp only [go_sem, Int.reduceAdd, Int.reduceEq, Int.reduceLE, Int.reduceLT, Int.reduceMul, Int.reduceNeg, Int.reducePow, Int.reduceSub, Int.reduceToNat, Nat.reduceAdd, Nat.reduceBEq, Nat.reduceEqDiff, Nat.reduceLT, Nat.reduceLeDiff, Nat.reduceMul, Nat.reducePow, Nat.reduceSub, reduceCtorEq, reduceIte, IntKind.bits.eq_def, ti, tin, crows_length, hn, rk])
          | (simp (disch := omega) only [w64, wu64, wu32, Nat.min_eq_left])
          | (with_reducible refine callF_of (s1) ?_)
          | (with_reducible refine drawF_of (s1) ?_)
          | (with_reducible refine callF_of (s2) ?_)
          | (with_reducible refine drawF_of (s2) ?_)
          | (refine after_lit ti_ok ?_)
          | (refine drawAfter_lit ti_ok ?_)
          | (refine drawEnd_of (by kernel_rfl) ?_)
          | ((first | refine cond_cases (fun hc => ?_) (fun hc => ?_) | refine guard_split (fun hc => ?_) (fun hc => ?_) | refine drawGuard_split (fun hc => ?_) (fun hc => ?_)) <;> first | (exfalso; simp only [decide_eq_true_eq, decide_eq_false_iff_not, Bool.not_eq_true, Bool.not_eq_false, Bool.not_eq_true', Bool.not_eq_false'] at hc; omega) | (simp only [hc]; try simp only [decide_eq_true_eq, decide_eq_false_iff_not, Bool.not_eq_true, Bool.not_eq_false, Bool.not_eq_true', Bool.not_eq_false'] at hc))
          | (refine after_need (by omega) ?_)
          | (refine drawAfter_need (by omega) ?_))
        refine roundEnd_of (α := Nat × Bool × Bool) (k + 1, true, true) ?_ ?_ ?_
        · exact ⟨by show k + 1 ≤ n; omega, f1.symm, f2.symm⟩
        · show n - (k + 1) < n - k; omega
        · exact byWeak
  ·
    have hk2 : l.take k = l := List.take_of_length_le (by omega)
    rw [hk2] at e1 e2
    rw [← e1, ← e2]
    cases b1
    ·
      repeat' (first
        | (simp only [go_sem, Int.reduceAdd, Int.reduceEq, Int.reduceLE, Int.reduceLT, Int.reduceMul, Int.reduceNeg, Int.reducePow, Int.reduceSub, Int.reduceToNat, Nat.reduceAdd, Nat.reduceBEq, Nat.reduceEqDiff, Nat.reduceLT, Nat.reduceLeDiff, Nat.reduceMul, Nat.reducePow, Nat.reduceSub, reduceCtorEq, reduceIte, IntKind.bits.eq_def, ti, tin, crows_length, hn])
        | (simp (disch := omega) only [w64, wu64, wu32, Nat.min_eq_left])
        | (refine after_lit ti_ok ?_)
        | (refine drawAfter_lit ti_ok ?_)
        | (refine drawEnd_of (by kernel_rfl) ?_)
        | ((first | refine cond_cases (fun hc => ?_) (fun hc => ?_) | refine guard_split (fun hc => ?_) (fun hc => ?_) | refine drawGuard_split (fun hc => ?_) (fun hc => ?_)) <;> first | (exfalso; simp only [decide_eq_true_eq, decide_eq_false_iff_not, Bool.not_eq_true, Bool.not_eq_false, Bool.not_eq_true', Bool.not_eq_false'] at hc; omega) | (simp only [hc]; try simp only [decide_eq_true_eq, decide_eq_false_iff_not, Bool.not_eq_true, Bool.not_eq_false, Bool.not_eq_true', Bool.not_eq_false'] at hc))
        | (refine after_need (by omega) ?_)
        | (refine drawAfter_need (by omega) ?_))
      exact fin_same trivial rfl
    ·
      repeat' (first
        | (simp only [go_sem, Int.reduceAdd, Int.reduceEq, Int.reduceLE, Int.reduceLT, Int.reduceMul, Int.reduceNeg, Int.reducePow, Int.reduceSub, Int.reduceToNat, Nat.reduceAdd, Nat.reduceBEq, Nat.reduceEqDiff, Nat.reduceLT, Nat.reduceLeDiff, Nat.reduceMul, Nat.reducePow, Nat.reduceSub, reduceCtorEq, reduceIte, IntKind.bits.eq_def, ti, tin, crows_length, hn])
        | (simp (disch := omega) only [w64, wu64, wu32, Nat.min_eq_left])
        | (refine after_lit ti_ok ?_)
        | (refine drawAfter_lit ti_ok ?_)
        | (refine drawEnd_of (by kernel_rfl) ?_)
        | ((first | refine cond_cases (fun hc => ?_) (fun hc => ?_) | refine guard_split (fun hc => ?_) (fun hc => ?_) | refine drawGuard_split (fun hc => ?_) (fun hc => ?_)) <;> first | (exfalso; simp only [decide_eq_true_eq, decide_eq_false_iff_not, Bool.not_eq_true, Bool.not_eq_false, Bool.not_eq_true', Bool.not_eq_false'] at hc; omega) | (simp only [hc]; try simp only [decide_eq_true_eq, decide_eq_false_iff_not, Bool.not_eq_true, Bool.not_eq_false, Bool.not_eq_true', Bool.not_eq_false'] at hc))
        | (refine after_need (by omega) ?_)
        | (refine drawAfter_need (by omega) ?_))
      exact fin_same trivial rfl

theorem att4 {a : Iv} {p q r t : Dy} (ka : a.Mg 1024) (k1 : Mg 1024 p) (k2 : Mg 1024 q) (k3 : Mg 1024 r) (k4 : Mg 1024 t) (h1 : a.lo = p ∨ a.lo = q ∨ a.lo = r ∨ a.lo = t) (h2 : a.hi = p ∨ a.hi = q ∨ a.hi = r ∨ a.hi = t) :
    CallOK Tryd.prog gl 21 [.agg [.v (.bool (sg a.lo)), .sl 1 (u32s (ms a.lo)), .v (.int .i64 (dn a.lo)), .v (.bool (sg a.hi)), .sl 1 (u32s (ms a.hi)), .v (.int .i64 (dn a.hi))], .sl 3 [crow p, crow q, crow r, crow t]] (.v (.bool true)) := by
  have h := attained03 a [p, q, r, t] 4 rfl (by omega) ka (by
    intro x hx
    simp only [List.mem_cons, List.not_mem_nil, or_false] at hx
    rcases hx with rfl | rfl | rfl | rfl <;> assumption)
  rw [decide_eq_true (by simpa using h1), decide_eq_true (by simpa using h2)] at h
  exact h
theorem mn2 (x y : Dy) : x.min y = x ∨ x.min y = y := by unfold Dy.min; split <;> simp
theorem mx2 (x y : Dy) : x.max y = x ∨ x.max y = y := by unfold Dy.max; split <;> simp
theorem mn4 (x y z w : Dy) : (Iv.sp4 x y z w).lo = x ∨ (Iv.sp4 x y z w).lo = y ∨ (Iv.sp4 x y z w).lo = z ∨ (Iv.sp4 x y z w).lo = w := by
  show ((x.min y).min z).min w = _ ∨ ((x.min y).min z).min w = _ ∨ ((x.min y).min z).min w = _ ∨ ((x.min y).min z).min w = _
  rcases mn2 ((x.min y).min z) w with h | h <;> rw [h]
  · rcases mn2 (x.min y) z with h | h <;> rw [h]
    · rcases mn2 x y with h | h <;> rw [h] <;> simp
    · simp
  · simp
theorem mx4 (x y z w : Dy) : (Iv.sp4 x y z w).hi = x ∨ (Iv.sp4 x y z w).hi = y ∨ (Iv.sp4 x y z w).hi = z ∨ (Iv.sp4 x y z w).hi = w := by
  show ((x.max y).max z).max w = _ ∨ ((x.max y).max z).max w = _ ∨ ((x.max y).max z).max w = _ ∨ ((x.max y).max z).max w = _
  rcases mx2 ((x.max y).max z) w with h | h <;> rw [h]
  · rcases mx2 (x.max y) z with h | h <;> rw [h]
    · rcases mx2 x y with h | h <;> rw [h] <;> simp
    · simp
  · simp
theorem ends_out (s1 : Bool) (w1 : List Nat) (d1 : Int) (t1 : Bool) (u1 : List Nat) (e1 : Int) (l1 : w1.length ≤ 9223372036854775807 ∧ u1.length ≤ 9223372036854775807) (s2 : Bool) (w2 : List Nat) (d2 : Int) (t2 : Bool) (u2 : List Nat) (e2 : Int) (l2 : w2.length ≤ 9223372036854775807 ∧ u2.length ≤ 9223372036854775807) (hf : ¬ (shI ⟨s1, w1, d1, t1, u1, e1⟩ ∧ shI ⟨s2, w2, d2, t2, u2, e2⟩)) : CallOK Tryd.prog gl 4 [.agg [.v (.bool s1), .sl 1 (u32s w1), .v (.int .i64 d1), .v (.bool t1), .sl 1 (u32s u1), .v (.int .i64 e1)], .agg [.v (.bool s2), .sl 1 (u32s w2), .v (.int .i64 d2), .v (.bool t2), .sl 1 (u32s u2), .v (.int .i64 e2)]] (.v (.bool (true))) := by
  refine call_ok (C := ⟨Tryd.prog, gl, ti, 101, false⟩) ti_ok mixed 3000 Tryd.call4 Tryd.func4 rfl Tryd.ntmps4 (by simp) byClL byCl ?_
  rw [Tryd.results4]
  have fw := few03_2 s1 w1 d1 t1 u1 e1 l1 s2 w2 d2 t2 u2 e2 l2
  rw [decide_eq_false hf] at fw
  clear hf
  repeat' (first
    | (simp only [go_sem, Int.reduceAdd, Int.reduceEq, Int.reduceLE, Int.reduceLT, Int.reduceMul, Int.reduceNeg, Int.reducePow, Int.reduceSub, Int.reduceToNat, Nat.reduceAdd, Nat.reduceBEq, Nat.reduceEqDiff, Nat.reduceLT, Nat.reduceLeDiff, Nat.reduceMul, Nat.reducePow, Nat.reduceSub, reduceCtorEq, reduceIte, IntKind.bits.eq_def, ti, tin])
    | (simp (disch := omega) only [w64, wu64, wu32, Nat.min_eq_left])
    | (with_reducible refine callF_of (fw) ?_)
    | (with_reducible refine drawF_of (fw) ?_)
    | (with_reducible refine callF_of (awake03) ?_)
    | (with_reducible refine drawF_of (awake03) ?_)
    | (refine after_lit ti_ok ?_)
    | (refine drawAfter_lit ti_ok ?_)
    | (refine drawEnd_of (by kernel_rfl) ?_)
    | ((first | refine cond_cases (fun hc => ?_) (fun hc => ?_) | refine guard_split (fun hc => ?_) (fun hc => ?_) | refine drawGuard_split (fun hc => ?_) (fun hc => ?_)) <;> first | (exfalso; simp only [decide_eq_true_eq, decide_eq_false_iff_not, Bool.not_eq_true, Bool.not_eq_false, Bool.not_eq_true', Bool.not_eq_false'] at hc; omega) | (simp only [hc]; try simp only [decide_eq_true_eq, decide_eq_false_iff_not, Bool.not_eq_true, Bool.not_eq_false, Bool.not_eq_true', Bool.not_eq_false'] at hc))
    | (refine after_need (by omega) ?_)
    | (refine drawAfter_need (by omega) ?_))
  all_goals exact fin_same trivial rfl
theorem ends_in (s1 : Bool) (w1 : List Nat) (d1 : Int) (t1 : Bool) (u1 : List Nat) (e1 : Int) (x1 y1 : Dy) (a1 : Iv) (h1 : IArg s1 w1 d1 t1 u1 e1 x1 y1 a1) (g1 : a1.Mg 256) (k1 : a1.Dn 200) (gx1 : Mg 256 x1) (gy1 : Mg 256 y1) (s2 : Bool) (w2 : List Nat) (d2 : Int) (t2 : Bool) (u2 : List Nat) (e2 : Int) (x2 y2 : Dy) (a2 : Iv) (h2 : IArg s2 w2 d2 t2 u2 e2 x2 y2 a2) (g2 : a2.Mg 256) (k2 : a2.Dn 200) (gx2 : Mg 256 x2) (gy2 : Mg 256 y2) (hf : shI ⟨s1, w1, d1, t1, u1, e1⟩ ∧ shI ⟨s2, w2, d2, t2, u2, e2⟩) : CallOK Tryd.prog gl 4 [.agg [.v (.bool s1), .sl 1 (u32s w1), .v (.int .i64 d1), .v (.bool t1), .sl 1 (u32s u1), .v (.int .i64 e1)], .agg [.v (.bool s2), .sl 1 (u32s w2), .v (.int .i64 d2), .v (.bool t2), .sl 1 (u32s u2), .v (.int .i64 e2)]] (.v (.bool (true))) := by
  refine call_ok (C := ⟨Tryd.prog, gl, ti, 101, false⟩) ti_ok mixed 3000 Tryd.call4 Tryd.func4 rfl Tryd.ntmps4 (by simp) byClL byCl ?_
  rw [Tryd.results4]
  have fw := few03_2 s1 w1 d1 t1 u1 e1 ⟨by have := h1.px.len; omega, by have := h1.py.len; omega⟩ s2 w2 d2 t2 u2 e2 ⟨by have := h2.px.len; omega, by have := h2.py.len; omega⟩
  rw [decide_eq_true hf] at fw
  clear hf
  have r1 := ri_Norm _ _ _ _ _ _ _ _ _ h1
  have r2 := ri_Norm _ _ _ _ _ _ _ _ _ h2
  have o1 := iv_Add _ _ _ _ _ _ _ _ _ h1 _ _ _ _ _ _ _ _ _ h2
  have o2 := iv_Mul _ _ _ _ _ _ _ _ _ h1 _ _ _ _ _ _ _ _ _ h2 256 256 g1 g2 (by omega)
  have o3 := iv_Min _ _ _ _ _ _ _ _ _ h1 _ _ _ _ _ _ _ _ _ h2
  have o4 := iv_Max _ _ _ _ _ _ _ _ _ h1 _ _ _ _ _ _ _ _ _ h2
  have c011 := Add_ok _ _ _ _ _ _ _ _ h1.lo h2.lo
  have c012 := Add_ok _ _ _ _ _ _ _ _ h1.lo h2.hi
  have c021 := Add_ok _ _ _ _ _ _ _ _ h1.hi h2.lo
  have c022 := Add_ok _ _ _ _ _ _ _ _ h1.hi h2.hi
  have tt0 := att4 (a := a1.add a2) (p := (a1.lo.add a2.lo)) (q := (a1.lo.add a2.hi)) (r := (a1.hi.add a2.lo)) (t := (a1.hi.add a2.hi)) ((g1.add g2).mono (by omega)) ((g1.1.add g2.1).mono (by omega)) ((g1.1.add g2.2).mono (by omega)) ((g1.2.add g2.1).mono (by omega)) ((g1.2.add g2.2).mono (by omega)) (.inl rfl) (.inr (.inr (.inr rfl)))
  have c111 := Mul_ok _ _ _ _ _ _ _ _ h1.lo h2.lo
  have c112 := Mul_ok _ _ _ _ _ _ _ _ h1.lo h2.hi
  have c121 := Mul_ok _ _ _ _ _ _ _ _ h1.hi h2.lo
  have c122 := Mul_ok _ _ _ _ _ _ _ _ h1.hi h2.hi
  have tt1 := att4 (a := a1.mul a2) (p := (a1.lo.mul a2.lo)) (q := (a1.lo.mul a2.hi)) (r := (a1.hi.mul a2.lo)) (t := (a1.hi.mul a2.hi)) ((g1.mul g2).mono (by omega)) ((g1.1.mul g2.1).mono (by omega)) ((g1.1.mul g2.2).mono (by omega)) ((g1.2.mul g2.1).mono (by omega)) ((g1.2.mul g2.2).mono (by omega)) (mn4 _ _ _ _) (mx4 _ _ _ _)
  have c211 := Min_ok _ _ _ _ _ _ _ _ h1.lo h2.lo
  have c212 := Min_ok _ _ _ _ _ _ _ _ h1.lo h2.hi
  have c221 := Min_ok _ _ _ _ _ _ _ _ h1.hi h2.lo
  have c222 := Min_ok _ _ _ _ _ _ _ _ h1.hi h2.hi
  have tt2 := att4 (a := a1.min a2) (p := (a1.lo.min a2.lo)) (q := (a1.lo.min a2.hi)) (r := (a1.hi.min a2.lo)) (t := (a1.hi.min a2.hi)) ((g1.min g2).mono (by omega)) ((g1.1.min g2.1).mono (by omega)) ((g1.1.min g2.2).mono (by omega)) ((g1.2.min g2.1).mono (by omega)) ((g1.2.min g2.2).mono (by omega)) (.inl rfl) (.inr (.inr (.inr rfl)))
  have c311 := Max_ok _ _ _ _ _ _ _ _ h1.lo h2.lo
  have c312 := Max_ok _ _ _ _ _ _ _ _ h1.lo h2.hi
  have c321 := Max_ok _ _ _ _ _ _ _ _ h1.hi h2.lo
  have c322 := Max_ok _ _ _ _ _ _ _ _ h1.hi h2.hi
  have tt3 := att4 (a := a1.max a2) (p := (a1.lo.max a2.lo)) (q := (a1.lo.max a2.hi)) (r := (a1.hi.max a2.lo)) (t := (a1.hi.max a2.hi)) ((g1.max g2).mono (by omega)) ((g1.1.max g2.1).mono (by omega)) ((g1.1.max g2.2).mono (by omega)) ((g1.2.max g2.1).mono (by omega)) ((g1.2.max g2.2).mono (by omega)) (.inl rfl) (.inr (.inr (.inr rfl)))
  unfold crow at tt0 tt1 tt2 tt3
  clear g1 g2 k1 k2 gx1 gx2 gy1 gy2
  generalize a1.add a2 = y0 at *
  generalize a1.lo.add a2.lo = z011 at *
  generalize a1.lo.add a2.hi = z012 at *
  generalize a1.hi.add a2.lo = z021 at *
  generalize a1.hi.add a2.hi = z022 at *
  generalize a1.mul a2 = y1 at *
  generalize a1.lo.mul a2.lo = z111 at *
  generalize a1.lo.mul a2.hi = z112 at *
  generalize a1.hi.mul a2.lo = z121 at *
  generalize a1.hi.mul a2.hi = z122 at *
  generalize a1.min a2 = y2 at *
  generalize a1.lo.min a2.lo = z211 at *
  generalize a1.lo.min a2.hi = z212 at *
  generalize a1.hi.min a2.lo = z221 at *
  generalize a1.hi.min a2.hi = z222 at *
  generalize a1.max a2 = y3 at *
  generalize a1.lo.max a2.lo = z311 at *
  generalize a1.lo.max a2.hi = z312 at *
  generalize a1.hi.max a2.lo = z321 at *
  generalize a1.hi.max a2.hi = z322 at *
  repeat' (first
    | (simp only [go_sem, Int.reduceAdd, Int.reduceEq, Int.reduceLE, Int.reduceLT, Int.reduceMul, Int.reduceNeg, Int.reducePow, Int.reduceSub, Int.reduceToNat, Nat.reduceAdd, Nat.reduceBEq, Nat.reduceEqDiff, Nat.reduceLT, Nat.reduceLeDiff, Nat.reduceMul, Nat.reducePow, Nat.reduceSub, reduceCtorEq, reduceIte, IntKind.bits.eq_def, ti, tin])
    | (simp (disch := omega) only [w64, wu64, wu32, Nat.min_eq_left])
    | (with_reducible refine callF_of (fw) ?_)
    | (with_reducible refine drawF_of (fw) ?_)
    | (with_reducible refine callF_of (awake03) ?_)
    | (with_reducible refine drawF_of (awake03) ?_)
    | (with_reducible refine callF_of (r1) ?_)
    | (with_reducible refine drawF_of (r1) ?_)
    | (with_reducible refine callF_of (r2) ?_)
    | (with_reducible refine drawF_of (r2) ?_)
    | (with_reducible refine callF_of (o1) ?_)
    | (with_reducible refine drawF_of (o1) ?_)
    | (with_reducible refine callF_of (o2) ?_)
    | (with_reducible refine drawF_of (o2) ?_)
    | (with_reducible refine callF_of (o3) ?_)
    | (with_reducible refine drawF_of (o3) ?_)
    | (with_reducible refine callF_of (o4) ?_)
    | (with_reducible refine drawF_of (o4) ?_)
    | (with_reducible refine callF_of (c011) ?_)
    | (with_reducible refine drawF_of (c011) ?_)
    | (with_reducible refine callF_of (c012) ?_)
    | (with_reducible refine drawF_of (c012) ?_)
    | (with_reducible refine callF_of (c021) ?_)
    | (with_reducible refine drawF_of (c021) ?_)
    | (with_reducible refine callF_of (c022) ?_)
    | (with_reducible refine drawF_of (c022) ?_)
    | (with_reducible refine callF_of (tt0) ?_)
    | (with_reducible refine drawF_of (tt0) ?_)
    | (with_reducible refine callF_of (c111) ?_)
    | (with_reducible refine drawF_of (c111) ?_)
    | (with_reducible refine callF_of (c112) ?_)
    | (with_reducible refine drawF_of (c112) ?_)
    | (with_reducible refine callF_of (c121) ?_)
    | (with_reducible refine drawF_of (c121) ?_)
    | (with_reducible refine callF_of (c122) ?_)
    | (with_reducible refine drawF_of (c122) ?_)
    | (with_reducible refine callF_of (tt1) ?_)
    | (with_reducible refine drawF_of (tt1) ?_)
    | (with_reducible refine callF_of (c211) ?_)
    | (with_reducible refine drawF_of (c211) ?_)
    | (with_reducible refine callF_of (c212) ?_)
    | (with_reducible refine drawF_of (c212) ?_)
    | (with_reducible refine callF_of (c221) ?_)
    | (with_reducible refine drawF_of (c221) ?_)
    | (with_reducible refine callF_of (c222) ?_)
    | (with_reducible refine drawF_of (c222) ?_)
    | (with_reducible refine callF_of (tt2) ?_)
    | (with_reducible refine drawF_of (tt2) ?_)
    | (with_reducible refine callF_of (c311) ?_)
    | (with_reducible refine drawF_of (c311) ?_)
    | (with_reducible refine callF_of (c312) ?_)
    | (with_reducible refine drawF_of (c312) ?_)
    | (with_reducible refine callF_of (c321) ?_)
    | (with_reducible refine drawF_of (c321) ?_)
    | (with_reducible refine callF_of (c322) ?_)
    | (with_reducible refine drawF_of (c322) ?_)
    | (with_reducible refine callF_of (tt3) ?_)
    | (with_reducible refine drawF_of (tt3) ?_)
    | (refine after_lit ti_ok ?_)
    | (refine drawAfter_lit ti_ok ?_)
    | (refine drawEnd_of (by kernel_rfl) ?_)
    | ((first | refine cond_cases (fun hc => ?_) (fun hc => ?_) | refine guard_split (fun hc => ?_) (fun hc => ?_) | refine drawGuard_split (fun hc => ?_) (fun hc => ?_)) <;> first | (exfalso; simp only [decide_eq_true_eq, decide_eq_false_iff_not, Bool.not_eq_true, Bool.not_eq_false, Bool.not_eq_true', Bool.not_eq_false'] at hc; omega) | (simp only [hc]; try simp only [decide_eq_true_eq, decide_eq_false_iff_not, Bool.not_eq_true, Bool.not_eq_false, Bool.not_eq_true', Bool.not_eq_false'] at hc))
    | (refine after_need (by omega) ?_)
    | (refine drawAfter_need (by omega) ?_))
  refine loop_weak (s' := ⟨[(2, .p 0 6 0 0), (3, .p 1 6 0 0), (6, .p 7 6 0 0), (7, .ps 10 3 0 0), (8, .ps 11 3 0 0), (9, .ps 12 3 0 0), (10, .ps 13 3 0 0), (33, .sl 3 [crow a1.lo, crow a1.hi]), (34, .v (.int .i64 2)), (35, .v (.int .i64 0))], [(0, ⟨6, [[.v (.bool s1), .sl 1 (u32s w1), .v (.int .i64 d1), .v (.bool t1), .sl 1 (u32s u1), .v (.int .i64 e1)]]⟩), (1, ⟨6, [[.v (.bool s2), .sl 1 (u32s w2), .v (.int .i64 d2), .v (.bool t2), .sl 1 (u32s u2), .v (.int .i64 e2)]]⟩), (6, ⟨6, [[.v (.bool (sg a1.lo)), .sl 1 (u32s (ms a1.lo)), .v (.int .i64 (dn a1.lo)), .v (.bool (sg a1.hi)), .sl 1 (u32s (ms a1.hi)), .v (.int .i64 (dn a1.hi))]]⟩), (7, ⟨6, [[.v (.bool (sg a2.lo)), .sl 1 (u32s (ms a2.lo)), .v (.int .i64 (dn a2.lo)), .v (.bool (sg a2.hi)), .sl 1 (u32s (ms a2.hi)), .v (.int .i64 (dn a2.hi))]]⟩), (10, ⟨3, []⟩), (11, ⟨3, []⟩), (12, ⟨3, []⟩), (13, ⟨3, []⟩)], 14⟩) ?_ (by first | exact Nat.le_refl _ | exact Nat.le_of_ble_eq_true rfl) ?_
  · refine Weak.trans (Weak.newnil 10 3 (Nat.le_refl _)) (Nat.le_of_ble_eq_true rfl) ?_
    refine Weak.trans (Weak.newnil 11 3 (Nat.le_refl _)) (Nat.le_of_ble_eq_true rfl) ?_
    refine Weak.trans (Weak.newnil 12 3 (Nat.le_refl _)) (Nat.le_of_ble_eq_true rfl) ?_
    refine Weak.trans (Weak.newnil 13 3 (Nat.le_refl _)) (Nat.le_of_ble_eq_true rfl) ?_
    exact byWeak
  refine l_unroll 3 _ byFresh ?_
  unfold crow
  repeat' (first
    | (simp only [go_sem, Int.reduceAdd, Int.reduceEq, Int.reduceLE, Int.reduceLT, Int.reduceMul, Int.reduceNeg, Int.reducePow, Int.reduceSub, Int.reduceToNat, Nat.reduceAdd, Nat.reduceBEq, Nat.reduceEqDiff, Nat.reduceLT, Nat.reduceLeDiff, Nat.reduceMul, Nat.reducePow, Nat.reduceSub, reduceCtorEq, reduceIte, IntKind.bits.eq_def, ti, tin])
    | (simp (disch := omega) only [w64, wu64, wu32, Nat.min_eq_left])
    | (refine callF_frz 109 rfl (.cons .same (.cons (frz_ps rfl (Nat.le_of_ble_eq_true rfl)) .nil)) (.cons (.refl _) (.cons (.refl _) .nil)) (tt0) ?_)
    | (refine callF_frz 115 rfl (.cons .same (.cons (frz_ps rfl (Nat.le_of_ble_eq_true rfl)) .nil)) (.cons (.refl _) (.cons (.refl _) .nil)) (tt1) ?_)
    | (refine callF_frz 123 rfl (.cons .same (.cons (frz_ps rfl (Nat.le_of_ble_eq_true rfl)) .nil)) (.cons (.refl _) (.cons (.refl _) .nil)) (tt2) ?_)
    | (refine callF_frz 129 rfl (.cons .same (.cons (frz_ps rfl (Nat.le_of_ble_eq_true rfl)) .nil)) (.cons (.refl _) (.cons (.refl _) .nil)) (tt3) ?_)
    | (refine l_unroll 3 _ byFresh ?_)
    | (with_reducible refine callF_of (fw) ?_)
    | (with_reducible refine drawF_of (fw) ?_)
    | (with_reducible refine callF_of (awake03) ?_)
    | (with_reducible refine drawF_of (awake03) ?_)
    | (with_reducible refine callF_of (r1) ?_)
    | (with_reducible refine drawF_of (r1) ?_)
    | (with_reducible refine callF_of (r2) ?_)
    | (with_reducible refine drawF_of (r2) ?_)
    | (with_reducible refine callF_of (o1) ?_)
    | (with_reducible refine drawF_of (o1) ?_)
    | (with_reducible refine callF_of (o2) ?_)
    | (with_reducible refine drawF_of (o2) ?_)
    | (with_reducible refine callF_of (o3) ?_)
    | (with_reducible refine drawF_of (o3) ?_)
    | (with_reducible refine callF_of (o4) ?_)
    | (with_reducible refine drawF_of (o4) ?_)
    | (with_reducible refine callF_of (c011) ?_)
    | (with_reducible refine drawF_of (c011) ?_)
    | (with_reducible refine callF_of (c012) ?_)
    | (with_reducible refine drawF_of (c012) ?_)
    | (with_reducible refine callF_of (c021) ?_)
    | (with_reducible refine drawF_of (c021) ?_)
    | (with_reducible refine callF_of (c022) ?_)
    | (with_reducible refine drawF_of (c022) ?_)
    | (with_reducible refine callF_of (tt0) ?_)
    | (with_reducible refine drawF_of (tt0) ?_)
    | (with_reducible refine callF_of (c111) ?_)
    | (with_reducible refine drawF_of (c111) ?_)
    | (with_reducible refine callF_of (c112) ?_)
    | (with_reducible refine drawF_of (c112) ?_)
    | (with_reducible refine callF_of (c121) ?_)
    | (with_reducible refine drawF_of (c121) ?_)
    | (with_reducible refine callF_of (c122) ?_)
    | (with_reducible refine drawF_of (c122) ?_)
    | (with_reducible refine callF_of (tt1) ?_)
    | (with_reducible refine drawF_of (tt1) ?_)
    | (with_reducible refine callF_of (c211) ?_)
    | (with_reducible refine drawF_of (c211) ?_)
    | (with_reducible refine callF_of (c212) ?_)
    | (with_reducible refine drawF_of (c212) ?_)
    | (with_reducible refine callF_of (c221) ?_)
    | (with_reducible refine drawF_of (c221) ?_)
    | (with_reducible refine callF_of (c222) ?_)
    | (with_reducible refine drawF_of (c222) ?_)
    | (with_reducible refine callF_of (tt2) ?_)
    | (with_reducible refine drawF_of (tt2) ?_)
    | (with_reducible refine callF_of (c311) ?_)
    | (with_reducible refine drawF_of (c311) ?_)
    | (with_reducible refine callF_of (c312) ?_)
    | (with_reducible refine drawF_of (c312) ?_)
    | (with_reducible refine callF_of (c321) ?_)
    | (with_reducible refine drawF_of (c321) ?_)
    | (with_reducible refine callF_of (c322) ?_)
    | (with_reducible refine drawF_of (c322) ?_)
    | (with_reducible refine callF_of (tt3) ?_)
    | (with_reducible refine drawF_of (tt3) ?_)
    | (refine drawAfter_app ti_ok rfl rfl rfl rfl rfl ⟨rfl, rfl, by decide⟩ rfl ⟨trivial, by (try simp only [List.length_cons, List.length_nil]); omega, by (try simp only [List.length_cons, List.length_nil]); omega, by (try simp only [List.length_cons, List.length_nil]); omega⟩ byRows ?_)
    | (refine after_lit ti_ok ?_)
    | (refine drawAfter_lit ti_ok ?_)
    | (refine drawEnd_of (by kernel_rfl) ?_)
    | ((first | refine cond_cases (fun hc => ?_) (fun hc => ?_) | refine guard_split (fun hc => ?_) (fun hc => ?_) | refine drawGuard_split (fun hc => ?_) (fun hc => ?_)) <;> first | (exfalso; simp only [decide_eq_true_eq, decide_eq_false_iff_not, Bool.not_eq_true, Bool.not_eq_false, Bool.not_eq_true', Bool.not_eq_false'] at hc; omega) | (simp only [hc]; try simp only [decide_eq_true_eq, decide_eq_false_iff_not, Bool.not_eq_true, Bool.not_eq_false, Bool.not_eq_true', Bool.not_eq_false'] at hc))
    | (refine after_need (by omega) ?_)
    | (refine drawAfter_need (by omega) ?_))
  all_goals exact fin_same trivial rfl
theorem ends_law (s1 : Bool) (w1 : List (List AV)) (d1 : Int) (t1 : Bool) (u1 : List (List AV)) (e1 : Int) (s2 : Bool) (w2 : List (List AV)) (d2 : Int) (t2 : Bool) (u2 : List (List AV)) (e2 : Int) (m1 : w1.length ≤ maxLen) (f1 : ∀ x ∈ w1, FitL [.int .u32] x) (n1 : u1.length ≤ maxLen) (g1 : ∀ x ∈ u1, FitL [.int .u32] x) (m2 : w2.length ≤ maxLen) (f2 : ∀ x ∈ w2, FitL [.int .u32] x) (n2 : u2.length ≤ maxLen) (g2 : ∀ x ∈ u2, FitL [.int .u32] x) : CallOK Tryd.prog gl 4 [.agg [.v (.bool s1), .sl 1 w1, .v (.int .i64 d1), .v (.bool t1), .sl 1 u1, .v (.int .i64 e1)], .agg [.v (.bool s2), .sl 1 w2, .v (.int .i64 d2), .v (.bool t2), .sl 1 u2, .v (.int .i64 e2)]] (.v (.bool true)) := by
  unfold maxLen at *
  obtain ⟨w1, W1, rfl, z1⟩ := fit_u32s f1
  obtain ⟨u1, U1, rfl, y1⟩ := fit_u32s g1
  obtain ⟨w2, W2, rfl, z2⟩ := fit_u32s f2
  obtain ⟨u2, U2, rfl, y2⟩ := fit_u32s g2
  by_cases hf : shI ⟨s1, w1, d1, t1, u1, e1⟩ ∧ shI ⟨s2, w2, d2, t2, u2, e2⟩
  ·
    obtain ⟨x1, y1, a1, h1, g1, k1, p1, q1⟩ := sh_iarg W1 U1 hf.1
    obtain ⟨x2, y2, a2, h2, g2, k2, p2, q2⟩ := sh_iarg W2 U2 hf.2
    exact ends_in _ _ _ _ _ _ _ _ _ h1 g1 k1 p1 q1 _ _ _ _ _ _ _ _ _ h2 g2 k2 p2 q2 hf
  · exact ends_out s1 w1 d1 t1 u1 e1 ⟨by omega, by omega⟩ s2 w2 d2 t2 u2 e2 ⟨by omega, by omega⟩ hf
end Go.Proofs.YtkdpaoicekgalaaDoor
