/- Layer 8 (root), as layer 35 uses it. -/
import Derived.Test.YtfoadddlmehpnaaDoorPi
set_option linter.unusedSimpArgs false
set_option linter.unusedVariables false
set_option linter.deprecated false
namespace Go.Proofs.YtfoadddlmehpnaaDoor
open Go Go.Ax
set_option maxRecDepth 100000
set_option maxHeartbeats 2000000

theorem root_near2 (x y : Int) (h : -1073741824 ≤ x ∧ x ≤ 1073741824) (h' : -1073741824 ≤ y ∧ y ≤ 1073741824) : CallOK Tryd.prog gl 113 [.sl 1 [[.v (.int .i64 x)], [.v (.int .i64 y)]]] (.v (.bool (true))) := by
  refine call_ok (C := ⟨Tryd.prog, gl, ti, 18, false⟩) ti_ok mixed 3000 Tryd.call113 Tryd.func113 rfl Tryd.ntmps113 (by simp) (by (try simp only [List.mem_cons, List.not_mem_nil, or_false, forall_eq_or_imp, forall_eq]); (repeat' (first | exact Cl.v _ | exact Cl.u32s | exact Cl.i64s | exact Cl.sl (by assumption) | refine And.intro ?_ ?_ | refine Cl.agg ?_ | refine Cl.rp ?_ | refine Cl.sl ?_ | refine Cl.tup ?_ | simp only [List.mem_cons, List.not_mem_nil, or_false, forall_eq_or_imp, forall_eq, false_imp_iff, implies_true]))) (by (try simp only [List.mem_cons, List.not_mem_nil, or_false, forall_eq_or_imp, forall_eq]); (repeat' (first | exact Cl.v _ | exact Cl.u32s | exact Cl.i64s | exact Cl.sl (by assumption) | refine And.intro ?_ ?_ | refine Cl.agg ?_ | refine Cl.rp ?_ | refine Cl.sl ?_ | refine Cl.tup ?_ | simp only [List.mem_cons, List.not_mem_nil, or_false, forall_eq_or_imp, forall_eq, false_imp_iff, implies_true]))) ?_
  rw [Tryd.results113]
  repeat' (first
    | (simp only [go_sem, Int.reduceAdd, Int.reduceEq, Int.reduceLE, Int.reduceLT, Int.reduceMul, Int.reduceNeg, Int.reducePow, Int.reduceSub, Int.reduceToNat, Nat.reduceAdd, Nat.reduceBEq, Nat.reduceEqDiff, Nat.reduceLT, Nat.reduceLeDiff, Nat.reduceMul, Nat.reducePow, Nat.reduceSub, reduceCtorEq, reduceIte, IntKind.bits.eq_def, ti, tin])
    | (simp (disch := omega) only [w64, wu64, wu32, Nat.min_eq_left])
    | (refine l_unroll 3 _ rfl ?_)
    | (refine after_lit ti_ok ?_)
    | (refine drawAfter_lit ti_ok ?_)
    | (refine drawEnd_of (by kernel_rfl) ?_)
    | (refine cond_cases (fun hc => ?_) (fun hc => ?_) <;> first | (exfalso; simp only [decide_eq_true_eq, decide_eq_false_iff_not, Bool.not_eq_true, Bool.not_eq_false, Bool.not_eq_true', Bool.not_eq_false'] at hc; omega) | (simp only [hc]; try simp only [decide_eq_true_eq, decide_eq_false_iff_not, Bool.not_eq_true, Bool.not_eq_false, Bool.not_eq_true', Bool.not_eq_false'] at hc))
    | (refine guard_split (fun hc => ?_) (fun hc => ?_) <;> first | (exfalso; simp only [decide_eq_true_eq, decide_eq_false_iff_not, Bool.not_eq_true, Bool.not_eq_false, Bool.not_eq_true', Bool.not_eq_false'] at hc; omega) | (simp only [hc]; try simp only [decide_eq_true_eq, decide_eq_false_iff_not, Bool.not_eq_true, Bool.not_eq_false, Bool.not_eq_true', Bool.not_eq_false'] at hc))
    | (refine drawGuard_split (fun hc => ?_) (fun hc => ?_) <;> first | (exfalso; simp only [decide_eq_true_eq, decide_eq_false_iff_not, Bool.not_eq_true, Bool.not_eq_false, Bool.not_eq_true', Bool.not_eq_false'] at hc; omega) | (simp only [hc]; try simp only [decide_eq_true_eq, decide_eq_false_iff_not, Bool.not_eq_true, Bool.not_eq_false, Bool.not_eq_true', Bool.not_eq_false'] at hc))
    | (refine after_need (by omega) ?_)
    | (refine drawAfter_need (by omega) ?_))
  exact fin_same trivial rfl

/-- The root after j bits. -/
def rtA (n : Int) : Nat → Int
  | 0 => 0
  | j + 1 => if (rtA n j + 2 ^ (31 - j)) * (rtA n j + 2 ^ (31 - j)) ≤ n then rtA n j + 2 ^ (31 - j) else rtA n j
def rt (n : Int) : Int := rtA n 32

theorem two_step {j : Nat} (h : j < 32) : (2 : Int) ^ (32 - j) = 2 * 2 ^ (31 - j) := by
  rw [show 32 - j = (31 - j) + 1 by omega, Int.pow_succ, Int.mul_comm]

theorem rtA_inv {n : Int} (h0 : 0 ≤ n) (h1 : n < 18446744073709551616) : ∀ j : Nat, j ≤ 32 → 0 ≤ rtA n j ∧ rtA n j % 2 ^ (32 - j) = 0 ∧ rtA n j + 2 ^ (32 - j) ≤ 4294967296 ∧ rtA n j * rtA n j ≤ n ∧ n < (rtA n j + 2 ^ (32 - j)) * (rtA n j + 2 ^ (32 - j))
  | 0, _ => by simp [rtA]; omega
  | j + 1, hj => by
    obtain ⟨a1, a2, a3, a4, a5⟩ := rtA_inv h0 h1 j (by omega)
    have e1 := two_step (j := j) (by omega)
    have e2 : 32 - (j + 1) = 31 - j := by omega
    have hp := (pow_bd (n := 31 - j) (m := 31 - j) (Nat.le_refl _)).1
    rw [e1] at a2 a3 a5
    have a2' : rtA n j % 2 ^ (31 - j) = 0 := by
      have h3 : (2 : Int) ^ (31 - j) ∣ 2 * 2 ^ (31 - j) := Int.dvd_mul_left ..
      exact Int.emod_eq_zero_of_dvd (Int.dvd_trans h3 (Int.dvd_of_emod_eq_zero a2))
    rw [e2]
    simp only [rtA]
    generalize (2 : Int) ^ (31 - j) = b at *
    generalize rtA n j = r at *
    split
    · rename_i hc
      refine ⟨by omega, ?_, by omega, hc, ?_⟩
      · rw [Int.add_emod_right]; exact a2'
      · rw [show r + b + b = r + 2 * b by omega]; exact a5
    · rename_i hc
      exact ⟨a1, a2', by omega, a4, by omega⟩
theorem rt_spec {n : Int} (h0 : 0 ≤ n) (h1 : n < 18446744073709551616) : 0 ≤ rt n ∧ rt n * rt n ≤ n ∧ n < (rt n + 1) * (rt n + 1) := by
  obtain ⟨a1, a2, a3, a4, a5⟩ := rtA_inv h0 h1 32 (Nat.le_refl _)
  exact ⟨a1, a4, (by simpa using a5 : n < (rtA n 32 + 1) * (rtA n 32 + 1))⟩

/-- The bit of round j. -/
def rtB (j : Nat) : Int := if j < 32 then 2 ^ (31 - j) else 0
theorem rtB_lt {j : Nat} (h : j < 32) : rtB j = 2 ^ (31 - j) := if_pos h
theorem rtB_half {j : Nat} (h : j < 32) : rtB j / 2 = rtB (j + 1) := by
  unfold rtB
  rw [if_pos h]
  by_cases h2 : j + 1 < 32
  · rw [if_pos h2, show 31 - j = (31 - (j + 1)) + 1 by omega, Int.pow_succ, Int.mul_ediv_cancel _ (by omega)]
  · rw [if_neg h2, show 31 - j = 0 by omega]; rfl
theorem rt_test {n r b : Int} (hn : 0 ≤ n) (hr : 0 ≤ r) (hb : 0 < b) : r + b ≤ n.tdiv (r + b) ↔ (r + b) * (r + b) ≤ n := by
  rw [Int.tdiv_eq_ediv_of_nonneg hn]
  exact Int.le_ediv_iff_mul_le (by omega)

theorem root_Sqrt (n : Int) (h0 : 0 ≤ n) (h1 : n ≤ 9223372036854775807) : CallOK Tryd.prog gl 114 [.v (.int .i64 n)] (.v (.int .i64 (rt n))) := by
  refine call_ok (C := ⟨Tryd.prog, gl, ti, 22, false⟩) ti_ok mixed 3000 Tryd.call114 Tryd.func114 rfl Tryd.ntmps114 (by simp) (by (try simp only [List.mem_cons, List.not_mem_nil, or_false, forall_eq_or_imp, forall_eq]); (repeat' (first | exact Cl.v _ | exact Cl.u32s | exact Cl.i64s | exact Cl.sl (by assumption) | refine And.intro ?_ ?_ | refine Cl.agg ?_ | refine Cl.rp ?_ | refine Cl.sl ?_ | refine Cl.tup ?_ | simp only [List.mem_cons, List.not_mem_nil, or_false, forall_eq_or_imp, forall_eq, false_imp_iff, implies_true]))) (by (try simp only [List.mem_cons, List.not_mem_nil, or_false, forall_eq_or_imp, forall_eq]); (repeat' (first | exact Cl.v _ | exact Cl.u32s | exact Cl.i64s | exact Cl.sl (by assumption) | refine And.intro ?_ ?_ | refine Cl.agg ?_ | refine Cl.rp ?_ | refine Cl.sl ?_ | refine Cl.tup ?_ | simp only [List.mem_cons, List.not_mem_nil, or_false, forall_eq_or_imp, forall_eq, false_imp_iff, implies_true]))) ?_
  rw [Tryd.results114]
  repeat' (first
    | (simp only [go_sem, Int.reduceAdd, Int.reduceEq, Int.reduceLE, Int.reduceLT, Int.reduceMul, Int.reduceNeg, Int.reducePow, Int.reduceSub, Int.reduceToNat, Nat.reduceAdd, Nat.reduceBEq, Nat.reduceEqDiff, Nat.reduceLT, Nat.reduceLeDiff, Nat.reduceMul, Nat.reducePow, Nat.reduceSub, reduceCtorEq, reduceIte, IntKind.bits.eq_def, ti, tin])
    | (simp (disch := omega) only [w64, wu64, wu32, Nat.min_eq_left])
    | (refine after_lit ti_ok ?_)
    | (refine drawAfter_lit ti_ok ?_)
    | (refine drawEnd_of (by kernel_rfl) ?_)
    | (refine cond_cases (fun hc => ?_) (fun hc => ?_) <;> first | (exfalso; simp only [decide_eq_true_eq, decide_eq_false_iff_not, Bool.not_eq_true, Bool.not_eq_false, Bool.not_eq_true', Bool.not_eq_false'] at hc; omega) | (simp only [hc]; try simp only [decide_eq_true_eq, decide_eq_false_iff_not, Bool.not_eq_true, Bool.not_eq_false, Bool.not_eq_true', Bool.not_eq_false'] at hc))
    | (refine guard_split (fun hc => ?_) (fun hc => ?_) <;> first | (exfalso; simp only [decide_eq_true_eq, decide_eq_false_iff_not, Bool.not_eq_true, Bool.not_eq_false, Bool.not_eq_true', Bool.not_eq_false'] at hc; omega) | (simp only [hc]; try simp only [decide_eq_true_eq, decide_eq_false_iff_not, Bool.not_eq_true, Bool.not_eq_false, Bool.not_eq_true', Bool.not_eq_false'] at hc))
    | (refine drawGuard_split (fun hc => ?_) (fun hc => ?_) <;> first | (exfalso; simp only [decide_eq_true_eq, decide_eq_false_iff_not, Bool.not_eq_true, Bool.not_eq_false, Bool.not_eq_true', Bool.not_eq_false'] at hc; omega) | (simp only [hc]; try simp only [decide_eq_true_eq, decide_eq_false_iff_not, Bool.not_eq_true, Bool.not_eq_false, Bool.not_eq_true', Bool.not_eq_false'] at hc))
    | (refine after_need (by omega) ?_)
    | (refine drawAfter_need (by omega) ?_))
  refine l_loop (α := Nat) (fun j => ⟨[(4, .v (.int .i64 (rtB j))), (3, .v (.int .i64 (rtA n j))), (0, .v (.int .i64 n)), (2, .v (.int .i64 0))], [], 0⟩) (fun j => j ≤ 32) (fun j => 32 - j) 0 _ rfl (fun _ h => by cases h) (Nat.zero_le _)
    (Weak.of ⟨⟨_, rfl, .refl _⟩, ⟨_, rfl, .refl _⟩, ⟨_, rfl, .refl _⟩, ⟨_, rfl, .refl _⟩, trivial⟩ trivial (Nat.le_refl _)) ?_
  intro j hj
  by_cases hlt : j < 32
  ·
    obtain ⟨a1, a2, a3, a4, a5⟩ := rtA_inv h0 (by omega) j hj
    have hb := rtB_lt hlt
    have hp := pow_bd (n := 31 - j) (m := 31) (by omega)
    have hor := or_bit (k := 31 - j) a1 (by omega) hb (by omega) (by rw [show 31 - j + 1 = 32 - j by omega]; exact a2)
    have hhalf := rtB_half hlt
    rw [two_step hlt] at a3
    rw [← hb] at a3 hp
    have hs : rtA n (j + 1) = if (rtA n j + rtB j) * (rtA n j + rtB j) ≤ n then rtA n j + rtB j else rtA n j := by rw [hb]; rfl
    have ht := rt_test (n := n) (r := rtA n j) (b := rtB j) h0 a1 (by omega)
    have hq := tdiv_bd (a := n) (b := rtA n j + rtB j) (by omega) (by omega)
    generalize rtB j = b at *
    generalize rtA n j = r at *
    repeat' (first
      | (simp only [go_sem, Int.reduceAdd, Int.reduceEq, Int.reduceLE, Int.reduceLT, Int.reduceMul, Int.reduceNeg, Int.reducePow, Int.reduceSub, Int.reduceToNat, Nat.reduceAdd, Nat.reduceBEq, Nat.reduceEqDiff, Nat.reduceLT, Nat.reduceLeDiff, Nat.reduceMul, Nat.reducePow, Nat.reduceSub, reduceCtorEq, reduceIte, IntKind.bits.eq_def, ti, tin, hor, hhalf])
      | (simp (disch := omega) only [w64, wu64, wu32, Nat.min_eq_left])
      | (refine after_lit ti_ok ?_)
      | (refine drawAfter_lit ti_ok ?_)
      | (refine drawEnd_of (by kernel_rfl) ?_)
      | (refine cond_cases (fun hc => ?_) (fun hc => ?_) <;> first | (exfalso; simp only [decide_eq_true_eq, decide_eq_false_iff_not, Bool.not_eq_true, Bool.not_eq_false, Bool.not_eq_true', Bool.not_eq_false'] at hc; omega) | (simp only [hc]; try simp only [decide_eq_true_eq, decide_eq_false_iff_not, Bool.not_eq_true, Bool.not_eq_false, Bool.not_eq_true', Bool.not_eq_false'] at hc))
      | (refine guard_split (fun hc => ?_) (fun hc => ?_) <;> first | (exfalso; simp only [decide_eq_true_eq, decide_eq_false_iff_not, Bool.not_eq_true, Bool.not_eq_false, Bool.not_eq_true', Bool.not_eq_false'] at hc; omega) | (simp only [hc]; try simp only [decide_eq_true_eq, decide_eq_false_iff_not, Bool.not_eq_true, Bool.not_eq_false, Bool.not_eq_true', Bool.not_eq_false'] at hc))
      | (refine drawGuard_split (fun hc => ?_) (fun hc => ?_) <;> first | (exfalso; simp only [decide_eq_true_eq, decide_eq_false_iff_not, Bool.not_eq_true, Bool.not_eq_false, Bool.not_eq_true', Bool.not_eq_false'] at hc; omega) | (simp only [hc]; try simp only [decide_eq_true_eq, decide_eq_false_iff_not, Bool.not_eq_true, Bool.not_eq_false, Bool.not_eq_true', Bool.not_eq_false'] at hc))
      | (refine after_need (by omega) ?_)
      | (refine drawAfter_need (by omega) ?_))
    · refine roundEnd_of (α := Nat) (j + 1) hlt (by show 32 - (j + 1) < 32 - j; omega) (Weak.of ⟨⟨_, rfl, .refl _⟩, ⟨_, rfl, ?_⟩, ⟨_, rfl, .refl _⟩, ⟨_, rfl, .refl _⟩, trivial⟩ trivial (Nat.le_refl _))
      rw [hs, if_pos (ht.1 (by omega))]; exact .refl _
    · refine roundEnd_of (α := Nat) (j + 1) hlt (by show 32 - (j + 1) < 32 - j; omega) (Weak.of ⟨⟨_, rfl, .refl _⟩, ⟨_, rfl, ?_⟩, ⟨_, rfl, .refl _⟩, ⟨_, rfl, .refl _⟩, trivial⟩ trivial (Nat.le_refl _))
      rw [hs, if_neg (fun q => by have := ht.2 q; omega)]; exact .refl _
  ·
    have e : j = 32 := by omega
    subst e
    have e0 : rtB 32 = 0 := rfl
    repeat' (first
      | (simp only [go_sem, Int.reduceAdd, Int.reduceEq, Int.reduceLE, Int.reduceLT, Int.reduceMul, Int.reduceNeg, Int.reducePow, Int.reduceSub, Int.reduceToNat, Nat.reduceAdd, Nat.reduceBEq, Nat.reduceEqDiff, Nat.reduceLT, Nat.reduceLeDiff, Nat.reduceMul, Nat.reducePow, Nat.reduceSub, reduceCtorEq, reduceIte, IntKind.bits.eq_def, ti, tin, e0])
      | (simp (disch := omega) only [w64, wu64, wu32, Nat.min_eq_left])
      | (refine after_lit ti_ok ?_)
      | (refine drawAfter_lit ti_ok ?_)
      | (refine drawEnd_of (by kernel_rfl) ?_)
      | (refine cond_cases (fun hc => ?_) (fun hc => ?_) <;> first | (exfalso; simp only [decide_eq_true_eq, decide_eq_false_iff_not, Bool.not_eq_true, Bool.not_eq_false, Bool.not_eq_true', Bool.not_eq_false'] at hc; omega) | (simp only [hc]; try simp only [decide_eq_true_eq, decide_eq_false_iff_not, Bool.not_eq_true, Bool.not_eq_false, Bool.not_eq_true', Bool.not_eq_false'] at hc))
      | (refine guard_split (fun hc => ?_) (fun hc => ?_) <;> first | (exfalso; simp only [decide_eq_true_eq, decide_eq_false_iff_not, Bool.not_eq_true, Bool.not_eq_false, Bool.not_eq_true', Bool.not_eq_false'] at hc; omega) | (simp only [hc]; try simp only [decide_eq_true_eq, decide_eq_false_iff_not, Bool.not_eq_true, Bool.not_eq_false, Bool.not_eq_true', Bool.not_eq_false'] at hc))
      | (refine drawGuard_split (fun hc => ?_) (fun hc => ?_) <;> first | (exfalso; simp only [decide_eq_true_eq, decide_eq_false_iff_not, Bool.not_eq_true, Bool.not_eq_false, Bool.not_eq_true', Bool.not_eq_false'] at hc; omega) | (simp only [hc]; try simp only [decide_eq_true_eq, decide_eq_false_iff_not, Bool.not_eq_true, Bool.not_eq_false, Bool.not_eq_true', Bool.not_eq_false'] at hc))
      | (refine after_need (by omega) ?_)
      | (refine drawAfter_need (by omega) ?_))
    exact fin_same trivial rfl

theorem sq_le {a b : Int} (h0 : 0 ≤ a) (h : a ≤ b) : a * a ≤ b * b := Int.mul_le_mul h h h0 (by omega)
theorem rt_unique {n r : Int} (h0 : 0 ≤ n) (h1 : n < 18446744073709551616) (hr : 0 ≤ r) (h2 : r * r ≤ n) (h3 : n < (r + 1) * (r + 1)) : r = rt n := by
  obtain ⟨a1, a2, a3⟩ := rt_spec h0 h1
  rcases Int.lt_trichotomy r (rt n) with h | h | h
  · have := sq_le (a := r + 1) (b := rt n) (by omega) (by omega); omega
  · exact h
  · have := sq_le (a := rt n + 1) (b := r) (by omega) (by omega); omega

theorem rest_bd {m d : Int} (hm : 0 ≤ m ∧ m ≤ 1073741824) (hd : -m ≤ d ∧ d ≤ m) : 0 ≤ m * m - d * d ∧ m * m - d * d ≤ 1152921504606846976 ∧ 0 ≤ d * d ∧ m * m ≤ 1152921504606846976 := by
  have h1 := mul_bd (a := d) (b := d) (A := m) (B := m) hd hd
  have h2 := mul_bd (a := m) (b := m) (A := 1073741824) (B := 1073741824) (by omega) (by omega)
  have h3 : 0 ≤ d * d := by
    by_cases h : 0 ≤ d
    · exact Int.mul_nonneg h h
    · have := Int.mul_nonneg (a := -d) (b := -d) (by omega) (by omega)
      rw [Int.neg_mul_neg] at this; exact this
  omega

theorem root_Rest (m d : Int) (hm : 0 ≤ m ∧ m ≤ 1073741824) (hd : -m ≤ d ∧ d ≤ m) : CallOK Tryd.prog gl 88 [.v (.int .i64 m), .v (.int .i64 d)] (.tup [.v (.int .i64 (rt (m * m - d * d))), .v .nilIface]) := by
  refine call_ok (C := ⟨Tryd.prog, gl, ti, 35, false⟩) ti_ok mixed 3000 Tryd.call88 Tryd.func88 rfl Tryd.ntmps88 (by simp) (by (try simp only [List.mem_cons, List.not_mem_nil, or_false, forall_eq_or_imp, forall_eq]); (repeat' (first | exact Cl.v _ | exact Cl.u32s | exact Cl.i64s | exact Cl.sl (by assumption) | refine And.intro ?_ ?_ | refine Cl.agg ?_ | refine Cl.rp ?_ | refine Cl.sl ?_ | refine Cl.tup ?_ | simp only [List.mem_cons, List.not_mem_nil, or_false, forall_eq_or_imp, forall_eq, false_imp_iff, implies_true]))) (by (try simp only [List.mem_cons, List.not_mem_nil, or_false, forall_eq_or_imp, forall_eq]); (repeat' (first | exact Cl.v _ | exact Cl.u32s | exact Cl.i64s | exact Cl.sl (by assumption) | refine And.intro ?_ ?_ | refine Cl.agg ?_ | refine Cl.rp ?_ | refine Cl.sl ?_ | refine Cl.tup ?_ | simp only [List.mem_cons, List.not_mem_nil, or_false, forall_eq_or_imp, forall_eq, false_imp_iff, implies_true]))) ?_
  rw [Tryd.results88]
  have hb := rest_bd hm hd
  repeat' (first
    | (simp only [go_sem, Int.reduceAdd, Int.reduceEq, Int.reduceLE, Int.reduceLT, Int.reduceMul, Int.reduceNeg, Int.reducePow, Int.reduceSub, Int.reduceToNat, Nat.reduceAdd, Nat.reduceBEq, Nat.reduceEqDiff, Nat.reduceLT, Nat.reduceLeDiff, Nat.reduceMul, Nat.reducePow, Nat.reduceSub, reduceCtorEq, reduceIte, IntKind.bits.eq_def, ti, tin])
    | (simp (disch := omega) only [w64, wu64, wu32, Nat.min_eq_left])
    | (with_reducible refine callF_of (root_near2 _ _ (by omega) (by omega)) ?_)
    | (with_reducible refine drawF_of (root_near2 _ _ (by omega) (by omega)) ?_)
    | (with_reducible refine callF_of (root_Sqrt _ (by omega) (by omega)) ?_)
    | (with_reducible refine drawF_of (root_Sqrt _ (by omega) (by omega)) ?_)
    | (refine after_lit ti_ok ?_)
    | (refine drawAfter_lit ti_ok ?_)
    | (refine drawEnd_of (by kernel_rfl) ?_)
    | (refine cond_cases (fun hc => ?_) (fun hc => ?_) <;> first | (exfalso; simp only [decide_eq_true_eq, decide_eq_false_iff_not, Bool.not_eq_true, Bool.not_eq_false, Bool.not_eq_true', Bool.not_eq_false'] at hc; omega) | (simp only [hc]; try simp only [decide_eq_true_eq, decide_eq_false_iff_not, Bool.not_eq_true, Bool.not_eq_false, Bool.not_eq_true', Bool.not_eq_false'] at hc))
    | (refine guard_split (fun hc => ?_) (fun hc => ?_) <;> first | (exfalso; simp only [decide_eq_true_eq, decide_eq_false_iff_not, Bool.not_eq_true, Bool.not_eq_false, Bool.not_eq_true', Bool.not_eq_false'] at hc; omega) | (simp only [hc]; try simp only [decide_eq_true_eq, decide_eq_false_iff_not, Bool.not_eq_true, Bool.not_eq_false, Bool.not_eq_true', Bool.not_eq_false'] at hc))
    | (refine drawGuard_split (fun hc => ?_) (fun hc => ?_) <;> first | (exfalso; simp only [decide_eq_true_eq, decide_eq_false_iff_not, Bool.not_eq_true, Bool.not_eq_false, Bool.not_eq_true', Bool.not_eq_false'] at hc; omega) | (simp only [hc]; try simp only [decide_eq_true_eq, decide_eq_false_iff_not, Bool.not_eq_true, Bool.not_eq_false, Bool.not_eq_true', Bool.not_eq_false'] at hc))
    | (refine after_need (by omega) ?_)
    | (refine drawAfter_need (by omega) ?_))
  exact fin_same trivial rfl

end Go.Proofs.YtfoadddlmehpnaaDoor
