/- The plain arithmetic of the reference (ref02), part 1: words. -/
import Derived.Test.YtfmgfjmfogmeeaaGreatDoorDy6
import Derived.Test.YtfmgfjmfogmeeaaGreatDoorU2
set_option linter.unusedSimpArgs false
set_option linter.unusedVariables false
set_option linter.deprecated false
namespace Go.Proofs.YtfmgfjmfogmeeaaGreatDoor
open Go Go.Ax
set_option maxRecDepth 100000
set_option maxHeartbeats 4000000
theorem u32s_snoc {ws : List Nat} {k w : Nat} (h : ws.length = k) : (u32s ws).take k ++ [[AV.v (.int .u32 (w : Nat))]] = u32s (ws ++ [w]) := by
  rw [u32s_take, List.take_of_length_le (by omega), ← u32s_append]; rfl
theorem ref_trim (ws : List Nat) (h : Wd ws) (hl : ws.length ≤ 4611686018427387904) : CallOK Tryz.prog gl 81 [.sl 1 (u32s (ws))] (.sl 1 (u32s (words (val ws)))) := by
  refine call_ok (C := ⟨Tryz.prog, gl, ti, 21, false⟩) ti_ok mixed 3000 Tryz.call81 Tryz.func81 rfl Tryz.ntmps81 (by simp) byClL byCl ?_
  rw [Tryz.results81]
  repeat' (first | (simp only [go_sem, Int.reduceAdd, Int.reduceEq, Int.reduceLE, Int.reduceLT, Int.reduceMul, Int.reduceNeg, Int.reducePow, Int.reduceSub, Int.reduceToNat, Nat.reduceAdd, Nat.reduceBEq, Nat.reduceEqDiff, Nat.reduceLT, Nat.reduceLeDiff, Nat.reduceMul, Nat.reducePow, Nat.reduceSub, reduceCtorEq, reduceIte, IntKind.bits.eq_def, ti, tin, u32s_length]) | (simp (disch := omega) only [wA]) | refine aL ti_ok ?_ | refine dL ti_ok ?_ | refine dG ?_ | ((first | refine cC ?_ ?_ | refine gS ?_ ?_ | refine dS ?_ ?_) <;> intro hc <;> first | (exfalso; simp only [dcA] at hc; omega) | (simp only [hc]; try simp only [dcA] at hc)) | refine aO ?_ | refine dO ?_)
  refine l_loop (α := Nat) (fun k => ⟨[(0, .sl 1 (u32s (ws))), (3, .v (.int .i64 k)), (2, .v (.slice none 0 0))], [], 0⟩) (fun k => k ≤ ws.length ∧ val (ws.take k) = val ws) (fun k => k) (ws.length) _ byFresh (fun _ h => by first | (cases h; done) | exact Nat.le_of_ble_eq_true rfl) ?_ ?_ ?_
  · exact ⟨Nat.le_refl _, by simp⟩
  · exact byWeak
  rintro k ⟨hk, hv⟩
  have fin : (k = 0 ∨ ws.getD (k - 1) 0 ≠ 0) → ((u32s ws).drop 0).take (k - 0) = u32s (words (val ws)) := fun ht => by
    rw [List.drop_zero, Nat.sub_zero, u32s_take, trim_end h hk hv ht]
  cases k with
  | zero =>
    repeat' (first | (simp only [go_sem, Int.reduceAdd, Int.reduceEq, Int.reduceLE, Int.reduceLT, Int.reduceMul, Int.reduceNeg, Int.reducePow, Int.reduceSub, Int.reduceToNat, Nat.reduceAdd, Nat.reduceBEq, Nat.reduceEqDiff, Nat.reduceLT, Nat.reduceLeDiff, Nat.reduceMul, Nat.reducePow, Nat.reduceSub, reduceCtorEq, reduceIte, IntKind.bits.eq_def, ti, tin, u32s_length]) | (simp (disch := omega) only [wA]) | refine aL ti_ok ?_ | refine dL ti_ok ?_ | refine dG ?_ | ((first | refine cC ?_ ?_ | refine gS ?_ ?_ | refine dS ?_ ?_) <;> intro hc <;> first | (exfalso; simp only [dcA] at hc; omega) | (simp only [hc]; try simp only [dcA] at hc)) | refine aO ?_ | refine dO ?_)
    have fin := fin (.inl rfl)
    simp only [List.drop_zero, Nat.sub_zero] at fin
    refine fin_same trivial ?_
    simp [one, ← fin]
  | succ m =>
    have e1 : ((m + 1 : Nat) : Int) - 1 = (m : Int) := by omega
    have r := u32s_getD (ws := ws) (i := m) (by omega)
    by_cases h0 : ws.getD m 0 = 0
    ·
      rw [h0] at r
      repeat' (first | (simp only [go_sem, Int.reduceAdd, Int.reduceEq, Int.reduceLE, Int.reduceLT, Int.reduceMul, Int.reduceNeg, Int.reducePow, Int.reduceSub, Int.reduceToNat, Nat.reduceAdd, Nat.reduceBEq, Nat.reduceEqDiff, Nat.reduceLT, Nat.reduceLeDiff, Nat.reduceMul, Nat.reducePow, Nat.reduceSub, reduceCtorEq, reduceIte, IntKind.bits.eq_def, ti, tin, u32s_length, e1, r]) | (simp (disch := omega) only [wA]) | refine aL ti_ok ?_ | refine dL ti_ok ?_ | refine dG ?_ | ((first | refine cC ?_ ?_ | refine gS ?_ ?_ | refine dS ?_ ?_) <;> intro hc <;> first | (exfalso; simp only [dcA] at hc; omega) | (simp only [hc]; try simp only [dcA] at hc)) | refine aO ?_ | refine dO ?_)
      refine roundEnd_of (α := Nat) m ⟨by omega, ?_⟩ (by omega) ?_
      · rw [← hv, val_take_succ (by omega), h0, Nat.mul_zero, Nat.add_zero]
      · exact byWeak
    ·
      have fin := fin (.inr h0)
      have h1 : ¬ ((ws.getD m 0 : Nat) : Int) = 0 := by omega
      generalize ws.getD m 0 = x at *
      repeat' (first | (simp only [go_sem, Int.reduceAdd, Int.reduceEq, Int.reduceLE, Int.reduceLT, Int.reduceMul, Int.reduceNeg, Int.reducePow, Int.reduceSub, Int.reduceToNat, Nat.reduceAdd, Nat.reduceBEq, Nat.reduceEqDiff, Nat.reduceLT, Nat.reduceLeDiff, Nat.reduceMul, Nat.reducePow, Nat.reduceSub, reduceCtorEq, reduceIte, IntKind.bits.eq_def, ti, tin, u32s_length, e1, r]) | (simp (disch := omega) only [wA]) | refine aL ti_ok ?_ | refine dL ti_ok ?_ | refine dG ?_ | ((first | refine cC ?_ ?_ | refine gS ?_ ?_ | refine dS ?_ ?_) <;> intro hc <;> first | (exfalso; simp only [dcA] at hc; omega) | (simp only [hc]; try simp only [dcA] at hc)) | refine aO ?_ | refine dO ?_)
      refine fin_same trivial ?_
      simp only [List.drop_zero] at fin
      simp only [one, Int.toNat_natCast, fin]
end Go.Proofs.YtfmgfjmfogmeeaaGreatDoor
/- The plain arithmetic of the reference (ref02), part 2: minus, less. -/
set_option linter.unusedSimpArgs false
set_option linter.unusedVariables false
set_option linter.deprecated false
namespace Go.Proofs.YtfmgfjmfogmeeaaGreatDoor
open Go Go.Ax
set_option maxRecDepth 100000
set_option maxHeartbeats 4000000
end Go.Proofs.YtfmgfjmfogmeeaaGreatDoor
/- The plain arithmetic of the reference (ref02), part 3: less, left. -/
set_option linter.unusedSimpArgs false
set_option linter.unusedVariables false
set_option linter.deprecated false
namespace Go.Proofs.YtfmgfjmfogmeeaaGreatDoor
open Go Go.Ax
set_option maxRecDepth 100000
set_option maxHeartbeats 4000000
end Go.Proofs.YtfmgfjmfogmeeaaGreatDoor
/- The plain arithmetic of the reference (ref02), part 4: right. -/
set_option linter.unusedSimpArgs false
set_option linter.unusedVariables false
set_option linter.deprecated false
namespace Go.Proofs.YtfmgfjmfogmeeaaGreatDoor
open Go Go.Ax
set_option maxRecDepth 100000
set_option maxHeartbeats 4000000
def low (a n : Nat) : Bool := decide (a % 2 ^ n ≠ 0)
end Go.Proofs.YtfmgfjmfogmeeaaGreatDoor
/- The plain arithmetic of the reference (ref02), part 5: number. -/
set_option linter.unusedSimpArgs false
set_option linter.unusedVariables false
set_option linter.deprecated false
namespace Go.Proofs.YtfmgfjmfogmeeaaGreatDoor
open Go Go.Ax
set_option maxRecDepth 100000
set_option maxHeartbeats 4000000
end Go.Proofs.YtfmgfjmfogmeeaaGreatDoor
/- The plain arithmetic of the reference (ref02), part 6: its numbers. -/
set_option linter.unusedSimpArgs false
set_option linter.unusedVariables false
set_option linter.deprecated false
namespace Go.Proofs.YtfmgfjmfogmeeaaGreatDoor
open Go Go.Ax
set_option maxRecDepth 100000
set_option maxHeartbeats 4000000
theorem ref_Valid (s : Bool) (ws : List Nat) (d : Int) (hl : ws.length ≤ 4611686018427387904) : CallOK Tryz.prog gl 41 [.agg [.v (.bool s), .sl 1 (u32s ws), .v (.int .i64 d)]] (.v (.bool (validR s ws d))) := by
  refine call_ok (C := ⟨Tryz.prog, gl, ti, 47, false⟩) ti_ok mixed 3000 Tryz.call41 Tryz.func41 rfl Tryz.ntmps41 (by simp) byClL byCl ?_
  rw [Tryz.results41]
  by_cases h2 : ws.length = 0
  · have : ws = [] := List.length_eq_zero_iff.1 h2
    subst this
    have e : validR s [] d = (!s && decide (d = 0)) := by
      unfold validR
      by_cases h1 : d < 0 ∨ 65536 < d
      · rw [if_pos h1, decide_eq_false (by omega), Bool.and_false]
      · rw [if_neg h1, if_pos h2]
    rw [e]
    cases s
    ·
      repeat' (first | (simp only [go_sem, seval, IntKind.bits.eq_def, ti, tin, u32s_nil]) | (simp (disch := omega) only [wA]) | refine aL ti_ok ?_ | refine dL ti_ok ?_ | refine dG ?_ | ((first | refine cC ?_ ?_ | refine gS ?_ ?_ | refine dS ?_ ?_) <;> intro hc <;> first | (exfalso; simp only [dcA] at hc; omega) | (simp only [hc]; try simp only [dcA] at hc)) | refine aO ?_ | refine dO ?_)
      all_goals (refine fin_same trivial ?_; simp [one])
    ·
      repeat' (first | (simp only [go_sem, seval, IntKind.bits.eq_def, ti, tin, u32s_nil]) | (simp (disch := omega) only [wA]) | refine aL ti_ok ?_ | refine dL ti_ok ?_ | refine dG ?_ | ((first | refine cC ?_ ?_ | refine gS ?_ ?_ | refine dS ?_ ?_) <;> intro hc <;> first | (exfalso; simp only [dcA] at hc; omega) | (simp only [hc]; try simp only [dcA] at hc)) | refine aO ?_ | refine dO ?_)
      all_goals (refine fin_same trivial ?_; simp [one])
  · have r0 := u32s_getD (ws := ws) (i := 0) (by omega)
    obtain ⟨n, hn⟩ : ∃ n, ws.length = n + 1 := ⟨ws.length - 1, by omega⟩
    have r1 := u32s_getD (ws := ws) (i := n) (by omega)
    have e1 : ((n + 1 : Nat) : Int) - 1 = (n : Int) := by omega
    have e2 : ¬ ((n + 1 : Nat) : Int) = 0 := by omega
    have hx : (ws.getD 0 0 : Int).tmod 2 = ((ws.getD 0 0 % 2 : Nat) : Int) := rfl
    by_cases h1 : d < 0 ∨ 65536 < d
    · have e : validR s ws d = false := by unfold validR; rw [if_pos h1]
      rw [e]
      generalize ws.getD n 0 = a at *
      generalize ws.getD 0 0 = b at *
      by_cases ha : (a : Int) = 0
      ·
        repeat' (first | (simp only [go_sem, seval, IntKind.bits.eq_def, ti, tin, u32s_length, hn, e1, e2, r0, r1, hx]) | (simp (disch := omega) only [wA]) | refine aL ti_ok ?_ | refine dL ti_ok ?_ | refine dG ?_ | ((first | refine cC ?_ ?_ | refine gS ?_ ?_ | refine dS ?_ ?_) <;> intro hc <;> first | (exfalso; simp only [dcA] at hc; omega) | (simp only [hc]; try simp only [dcA] at hc)) | refine aO ?_ | refine dO ?_)
        all_goals first | exact fin_same trivial rfl | (refine fin_same trivial ?_; simp [one]; omega)
      · rcases h1 with h1 | h1
        · have h1' : ¬ 0 ≤ d := by omega
          repeat' (first | (simp only [go_sem, seval, IntKind.bits.eq_def, ti, tin, u32s_length, hn, e1, e2, r0, r1, hx]) | (simp (disch := omega) only [wA]) | refine aL ti_ok ?_ | refine dL ti_ok ?_ | refine dG ?_ | ((first | refine cC ?_ ?_ | refine gS ?_ ?_ | refine dS ?_ ?_) <;> intro hc <;> first | (exfalso; simp only [dcA] at hc; omega) | (simp only [hc]; try simp only [dcA] at hc)) | refine aO ?_ | refine dO ?_)
          all_goals first | exact fin_same trivial rfl | (refine fin_same trivial ?_; simp [one]; omega)
        · have h1' : 0 ≤ d := by omega
          have h1'' : ¬ d ≤ 65536 := by omega
          repeat' (first | (simp only [go_sem, seval, IntKind.bits.eq_def, ti, tin, u32s_length, hn, e1, e2, r0, r1, hx]) | (simp (disch := omega) only [wA]) | refine aL ti_ok ?_ | refine dL ti_ok ?_ | refine dG ?_ | ((first | refine cC ?_ ?_ | refine gS ?_ ?_ | refine dS ?_ ?_) <;> intro hc <;> first | (exfalso; simp only [dcA] at hc; omega) | (simp only [hc]; try simp only [dcA] at hc)) | refine aO ?_ | refine dO ?_)
          all_goals first | exact fin_same trivial rfl | (refine fin_same trivial ?_; simp [one]; omega)
    · have e : validR s ws d = (decide (ws.getD (ws.length - 1) 0 ≠ 0) && (decide (d = 0) || decide (ws.getD 0 0 % 2 = 1))) := by unfold validR; rw [if_neg h1, if_neg h2]
      rw [e]
      rw [show ws.length - 1 = n by omega]
      generalize ws.getD n 0 = a at *
      generalize ws.getD 0 0 = b at *
      have g1 : 0 ≤ d := by omega
      have g2 : d ≤ 65536 := by omega
      by_cases ha : a = 0
      · subst ha
        repeat' (first | (simp only [go_sem, seval, IntKind.bits.eq_def, ti, tin, u32s_length, hn, e1, e2, r0, r1, hx]) | (simp (disch := omega) only [wA]) | refine aL ti_ok ?_ | refine dL ti_ok ?_ | refine dG ?_ | ((first | refine cC ?_ ?_ | refine gS ?_ ?_ | refine dS ?_ ?_) <;> intro hc <;> first | (exfalso; simp only [dcA] at hc; omega) | (simp only [hc]; try simp only [dcA] at hc)) | refine aO ?_ | refine dO ?_)
        all_goals (refine fin_same trivial ?_; simp [one])
      · have ha' : ¬ (a : Int) = 0 := by omega
        by_cases hd : d = 0
        · subst hd
          repeat' (first | (simp only [go_sem, seval, IntKind.bits.eq_def, ti, tin, u32s_length, hn, e1, e2, r0, r1, hx]) | (simp (disch := omega) only [wA]) | refine aL ti_ok ?_ | refine dL ti_ok ?_ | refine dG ?_ | ((first | refine cC ?_ ?_ | refine gS ?_ ?_ | refine dS ?_ ?_) <;> intro hc <;> first | (exfalso; simp only [dcA] at hc; omega) | (simp only [hc]; try simp only [dcA] at hc)) | refine aO ?_ | refine dO ?_)
          all_goals (refine fin_same trivial ?_; simp [one, ha])
        ·
          repeat' (first | (simp only [go_sem, seval, IntKind.bits.eq_def, ti, tin, u32s_length, hn, e1, e2, r0, r1, hx]) | (simp (disch := omega) only [wA]) | refine aL ti_ok ?_ | refine dL ti_ok ?_ | refine dG ?_ | ((first | refine cC ?_ ?_ | refine gS ?_ ?_ | refine dS ?_ ?_) <;> intro hc <;> first | (exfalso; simp only [dcA] at hc; omega) | (simp only [hc]; try simp only [dcA] at hc)) | refine aO ?_ | refine dO ?_)
          all_goals (refine fin_same trivial ?_; simp [one, ha, hd]; try omega)
end Go.Proofs.YtfmgfjmfogmeeaaGreatDoor
/- The plain arithmetic of the reference (ref02), part 7: sums and orders. -/
set_option linter.unusedSimpArgs false
set_option linter.unusedVariables false
set_option linter.deprecated false
namespace Go.Proofs.YtfmgfjmfogmeeaaGreatDoor
open Go Go.Ax
set_option maxRecDepth 100000
set_option maxHeartbeats 4000000
theorem ref_Norm (s : Bool) (ws : List Nat) (d : Int) (x : Dy) (h : Arg s ws d x) : CallOK Tryz.prog gl 12 [.agg [.v (.bool s), .sl 1 (u32s ws), .v (.int .i64 d)]] (.agg [.v (.bool (sg (x))), .sl 1 (u32s (ms (x))), .v (.int .i64 (dn (x)))]) := by
  refine call_ok (C := ⟨Tryz.prog, gl, ti, 7, false⟩) ti_ok mixed 3000 Tryz.call12 Tryz.func12 rfl Tryz.ntmps12 (by simp) byClL byCl ?_
  rw [Tryz.results12]
  have va := ref_Valid s ws d (by have := h.len; omega)
  rcases h.is with ⟨hv, rfl, h2, rfl⟩ | ⟨hv, rfl⟩
  · subst h2
    rw [hv] at va
    repeat' (first | (simp only [go_sem, seval, IntKind.bits.eq_def, ti, tin]) | (simp (disch := omega) only [wA]) | (with_reducible first | refine cF va ?_ | refine dF va ?_) | refine aL ti_ok ?_ | refine dL ti_ok ?_ | refine dG ?_ | ((first | refine cC ?_ ?_ | refine gS ?_ ?_ | refine dS ?_ ?_) <;> intro hc <;> first | (exfalso; simp only [dcA] at hc; omega) | (simp only [hc]; try simp only [dcA] at hc)) | refine aO ?_ | refine dO ?_)
    exact fin_same trivial rfl
  · rw [hv] at va
    repeat' (first | (simp only [go_sem, seval, IntKind.bits.eq_def, ti, tin]) | (simp (disch := omega) only [wA]) | (with_reducible first | refine cF va ?_ | refine dF va ?_) | refine aL ti_ok ?_ | refine dL ti_ok ?_ | refine dG ?_ | ((first | refine cC ?_ ?_ | refine gS ?_ ?_ | refine dS ?_ ?_) <;> intro hc <;> first | (exfalso; simp only [dcA] at hc; omega) | (simp only [hc]; try simp only [dcA] at hc)) | refine aO ?_ | refine dO ?_)
    exact fin_le trivial Le.dy0
end Go.Proofs.YtfmgfjmfogmeeaaGreatDoor
/- The plain arithmetic of the reference (ref02), part 8: Cmp, Min, Max, Shift, Of, Make. -/
set_option linter.unusedSimpArgs false
set_option linter.unusedVariables false
set_option linter.deprecated false
namespace Go.Proofs.YtfmgfjmfogmeeaaGreatDoor
open Go Go.Ax
set_option maxRecDepth 100000
set_option maxHeartbeats 4000000
theorem add_zero (x : Dy) : x.add Dy.zero = x := Dy.ext_v (by rw [Dy.v_add, Dy.v_zero]; grind)
end Go.Proofs.YtfmgfjmfogmeeaaGreatDoor
/- The plain arithmetic of the reference (ref02), part 9: Shift, Same. -/
set_option linter.unusedSimpArgs false
set_option linter.unusedVariables false
set_option linter.deprecated false
namespace Go.Proofs.YtfmgfjmfogmeeaaGreatDoor
open Go Go.Ax
set_option maxRecDepth 100000
set_option maxHeartbeats 4000000
end Go.Proofs.YtfmgfjmfogmeeaaGreatDoor
