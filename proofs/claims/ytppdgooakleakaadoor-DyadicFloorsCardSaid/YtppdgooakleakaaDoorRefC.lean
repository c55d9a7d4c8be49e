/- The plain arithmetic of the reference (ref02), part 12: Bits. -/
import Derived.Test.YtppdgooakleakaaDoorRefB
set_option linter.unusedSimpArgs false
set_option linter.unusedVariables false
set_option linter.deprecated false
namespace Go.Proofs.YtppdgooakleakaaDoor
open Go Go.Ax
set_option maxRecDepth 100000
set_option maxHeartbeats 4000000

theorem ref_Bits (s : Bool) (ws : List Nat) (d : Int) (x : Dy) (h : Arg s ws d x) : CallOK Tryd.prog gl 22 [.agg [.v (.bool s), .sl 1 (u32s ws), .v (.int .i64 d)]] (.v (.int .i64 ((blen x.n.natAbs : Nat)))) := by
  refine call_ok (C := ⟨Tryd.prog, gl, ti, 31, false⟩) ti_ok mixed 3000 Tryd.call22 Tryd.func22 rfl Tryd.ntmps22 (by simp) byClL byCl ?_
  rw [Tryd.results22]
  have pa := ref_Norm s ws d x h
  have hl : (words x.n.natAbs).length ≤ _ := h.mlen
  have emx : ms x = words x.n.natAbs := rfl
  rw [emx] at pa
  generalize x.n.natAbs = a at *
  generalize sg x = sx at *
  generalize dn x = dx at *
  obtain ⟨la, hla⟩ : ∃ la : Nat, (words a).length = la := ⟨_, rfl⟩
  rw [hla] at hl
  have e0 : 32 * (la : Int) = ((32 * la : Nat) : Int) := by omega
  repeat' (first
    | (simp only [go_sem, Int.reduceAdd, Int.reduceEq, Int.reduceLE, Int.reduceLT, Int.reduceMul, Int.reduceNeg, Int.reducePow, Int.reduceSub, Int.reduceToNat, Nat.reduceAdd, Nat.reduceBEq, Nat.reduceEqDiff, Nat.reduceLT, Nat.reduceLeDiff, Nat.reduceMul, Nat.reducePow, Nat.reduceSub, reduceCtorEq, reduceIte, IntKind.bits.eq_def, ti, tin, u32s_length, hla, e0])
    | (simp (disch := omega) only [w64, wu64, wu32, Nat.min_eq_left])
    | (with_reducible refine callF_of (pa) ?_)
    | (with_reducible refine drawF_of (pa) ?_)
    | (refine after_lit ti_ok ?_)
    | (refine drawAfter_lit ti_ok ?_)
    | (refine drawEnd_of (by kernel_rfl) ?_)
    | ((first | refine cond_cases (fun hc => ?_) (fun hc => ?_) | refine guard_split (fun hc => ?_) (fun hc => ?_) | refine drawGuard_split (fun hc => ?_) (fun hc => ?_)) <;> first | (exfalso; simp only [decide_eq_true_eq, decide_eq_false_iff_not, Bool.not_eq_true, Bool.not_eq_false, Bool.not_eq_true', Bool.not_eq_false'] at hc; omega) | (simp only [hc]; try simp only [decide_eq_true_eq, decide_eq_false_iff_not, Bool.not_eq_true, Bool.not_eq_false, Bool.not_eq_true', Bool.not_eq_false'] at hc))
    | (refine after_need (by omega) ?_)
    | (refine drawAfter_need (by omega) ?_))
  refine l_loop (α := Nat) (fun k => ⟨[(1, .p 0 3 0 0), (3, .v (.int .i64 k))], [(0, ⟨3, [[.v (.bool sx), .sl 1 (u32s (words a)), .v (.int .i64 dx)]]⟩)], 1⟩) (fun k => k ≤ 32 * la ∧ a < 2 ^ k) (fun k => k) (32 * la) _ byFresh (fun _ h => by first | (cases h; done) | exact Nat.le_of_ble_eq_true rfl) ?_ ?_ ?_
  · exact ⟨Nat.le_refl _, by have := lt_words a; rwa [hla, two_pow_32] at this⟩
  · exact byWeak
  rintro k ⟨hk, hlt⟩
  cases k with
  | zero =>
    have ha : a = 0 := by simpa using hlt
    have hb : blen a = 0 := by rw [ha]; rfl
    rw [hb]
    clear ha hb hlt
    repeat' (first
      | (simp only [go_sem, Int.reduceAdd, Int.reduceEq, Int.reduceLE, Int.reduceLT, Int.reduceMul, Int.reduceNeg, Int.reducePow, Int.reduceSub, Int.reduceToNat, Nat.reduceAdd, Nat.reduceBEq, Nat.reduceEqDiff, Nat.reduceLT, Nat.reduceLeDiff, Nat.reduceMul, Nat.reducePow, Nat.reduceSub, reduceCtorEq, reduceIte, IntKind.bits.eq_def, ti, tin, u32s_length, hla])
      | (simp (disch := omega) only [w64, wu64, wu32, Nat.min_eq_left])
      | (refine after_lit ti_ok ?_)
      | (refine drawAfter_lit ti_ok ?_)
      | (refine drawEnd_of (by kernel_rfl) ?_)
      | ((first | refine cond_cases (fun hc => ?_) (fun hc => ?_) | refine guard_split (fun hc => ?_) (fun hc => ?_) | refine drawGuard_split (fun hc => ?_) (fun hc => ?_)) <;> first | (exfalso; simp only [decide_eq_true_eq, decide_eq_false_iff_not, Bool.not_eq_true, Bool.not_eq_false, Bool.not_eq_true', Bool.not_eq_false'] at hc; omega) | (simp only [hc]; try simp only [decide_eq_true_eq, decide_eq_false_iff_not, Bool.not_eq_true, Bool.not_eq_false, Bool.not_eq_true', Bool.not_eq_false'] at hc))
      | (refine after_need (by omega) ?_)
      | (refine drawAfter_need (by omega) ?_))
    exact fin_same trivial rfl
  | succ m =>
    have e1 : ((m + 1 : Nat) : Int) - 1 = (m : Int) := by omega
    have d1 : (m : Int).tdiv 32 = ((m / 32 : Nat) : Int) := rfl
    have d2 : (m : Int).tmod 32 = ((m % 32 : Nat) : Int) := rfl
    have hb := word_bit a m
    have hx := (Wd.words a).get (m / 32)
    have ra := u32s_getD (ws := words a) (i := m / 32) (by omega)
    have hj : m / 32 < la := by omega
    have hk1 : m % 32 < 32 := by omega
    have hq : a / 2 ^ m < 2 := Nat.div_lt_of_lt_mul (by rw [← Nat.pow_succ]; exact hlt)
    generalize (words a).getD (m / 32) 0 = x at *
    generalize m / 32 = j at *
    generalize m % 32 = i at *
    have hd := Nat.div_le_self x (2 ^ i)
    have f2 : (x : Int) / 2 ^ i = ((x / 2 ^ i : Nat) : Int) := by simp
    have f3 := and32_one (y := x / 2 ^ i) (by omega)
    generalize x / 2 ^ i = y at *
    by_cases hbit : y % 2 = 0
    ·
      rw [hbit] at f3 hb
      have hz : a < 2 ^ m := by
        have hgen : ∀ q : Nat, 0 = q % 2 → q < 2 → q = 0 := by omega
        have : a / 2 ^ m = 0 := hgen _ hb hq
        have hp : 0 < 2 ^ m := Nat.pow_pos (by omega)
        rcases Nat.div_eq_zero_iff.1 this with h | h
        · rw [h] at hp; exact absurd hp (Nat.lt_irrefl _)
        · exact h
      clear hb hq hlt
      repeat' (first
        | (simp only [go_sem, Int.reduceAdd, Int.reduceEq, Int.reduceLE, Int.reduceLT, Int.reduceMul, Int.reduceNeg, Int.reducePow, Int.reduceSub, Int.reduceToNat, Nat.reduceAdd, Nat.reduceBEq, Nat.reduceEqDiff, Nat.reduceLT, Nat.reduceLeDiff, Nat.reduceMul, Nat.reducePow, Nat.reduceSub, reduceCtorEq, reduceIte, IntKind.bits.eq_def, ti, tin, u32s_length, hla, e1, d1, d2, ra, f2, f3])
        | (simp (disch := omega) only [w64, wu64, wu32, Nat.min_eq_left])
        | (refine after_lit ti_ok ?_)
        | (refine drawAfter_lit ti_ok ?_)
        | (refine drawEnd_of (by kernel_rfl) ?_)
        | ((first | refine cond_cases (fun hc => ?_) (fun hc => ?_) | refine guard_split (fun hc => ?_) (fun hc => ?_) | refine drawGuard_split (fun hc => ?_) (fun hc => ?_)) <;> first | (exfalso; simp only [decide_eq_true_eq, decide_eq_false_iff_not, Bool.not_eq_true, Bool.not_eq_false, Bool.not_eq_true', Bool.not_eq_false'] at hc; omega) | (simp only [hc]; try simp only [decide_eq_true_eq, decide_eq_false_iff_not, Bool.not_eq_true, Bool.not_eq_false, Bool.not_eq_true', Bool.not_eq_false'] at hc))
        | (refine after_need (by omega) ?_)
        | (refine drawAfter_need (by omega) ?_))
      refine roundEnd_of (α := Nat) m ⟨by omega, hz⟩ (by omega) ?_
      exact byWeak
    ·
      have hbit1 : y % 2 = 1 := by omega
      rw [hbit1] at f3 hb
      have hbl : blen a = m + 1 := by
        have h1 := blen_le.2 hlt
        have h2 : ¬ blen a ≤ m := fun hh => by
          have := blen_le.1 hh
          rw [Nat.div_eq_of_lt this] at hb; simp at hb
        omega
      rw [hbl]
      clear hb hq hlt hbl
      repeat' (first
        | (simp only [go_sem, Int.reduceAdd, Int.reduceEq, Int.reduceLE, Int.reduceLT, Int.reduceMul, Int.reduceNeg, Int.reducePow, Int.reduceSub, Int.reduceToNat, Nat.reduceAdd, Nat.reduceBEq, Nat.reduceEqDiff, Nat.reduceLT, Nat.reduceLeDiff, Nat.reduceMul, Nat.reducePow, Nat.reduceSub, reduceCtorEq, reduceIte, IntKind.bits.eq_def, ti, tin, u32s_length, hla, e1, d1, d2, ra, f2, f3])
        | (simp (disch := omega) only [w64, wu64, wu32, Nat.min_eq_left])
        | (refine after_lit ti_ok ?_)
        | (refine drawAfter_lit ti_ok ?_)
        | (refine drawEnd_of (by kernel_rfl) ?_)
        | ((first | refine cond_cases (fun hc => ?_) (fun hc => ?_) | refine guard_split (fun hc => ?_) (fun hc => ?_) | refine drawGuard_split (fun hc => ?_) (fun hc => ?_)) <;> first | (exfalso; simp only [decide_eq_true_eq, decide_eq_false_iff_not, Bool.not_eq_true, Bool.not_eq_false, Bool.not_eq_true', Bool.not_eq_false'] at hc; omega) | (simp only [hc]; try simp only [decide_eq_true_eq, decide_eq_false_iff_not, Bool.not_eq_true, Bool.not_eq_false, Bool.not_eq_true', Bool.not_eq_false'] at hc))
        | (refine after_need (by omega) ?_)
        | (refine drawAfter_need (by omega) ?_))
      exact fin_same trivial rfl
end Go.Proofs.YtppdgooakleakaaDoor
