/- The text of a dyadic number (layer 2). -/
import Derived.Test.YtdjgckcninibhaaGreatDoorDec
import Derived.Test.YtdjgckcninibhaaGreatDoorDy6
set_option linter.unusedSimpArgs false
set_option linter.unusedVariables false
set_option linter.deprecated false
namespace Go.Proofs.YtdjgckcninibhaaGreatDoor
open Go Go.Ax
set_option maxRecDepth 100000
set_option maxHeartbeats 4000000

def dyText (x : Dy) : List UInt8 := (if sg x = true then [45] else []) ++ Lib.decDigits x.n.natAbs ++ (if 0 < x.d then [47, 50, 94] ++ Lib.decDigits x.d else [])
theorem size_mk (l : List UInt8) : (⟨l.toArray⟩ : ByteArray).size = l.length := (rfl)
theorem decDigits_bits {n K : Nat} (h : n < 2 ^ K) : (Lib.decDigits n).length ≤ K + 1 :=
  decDigits_len K n (Nat.lt_of_lt_of_le h (Nat.le_trans (Nat.pow_le_pow_left (by omega) K) (Nat.pow_le_pow_right (by omega) (by omega))))
theorem dec_words {n L : Nat} (h : (words n).length ≤ L) : (Lib.decDigits n).length ≤ 32 * L + 1 := by
  refine decDigits_bits (K := 32 * L) (Nat.lt_of_lt_of_le (lt_words n) ?_)
  rw [two_pow_32]
  exact Nat.pow_le_pow_right (by omega) (by omega)
theorem minus_app (l : List UInt8) : (⟨#[45]⟩ : ByteArray) ++ ⟨l.toArray⟩ = ⟨(45 :: l).toArray⟩ := bytes_append [45] l
theorem over_app (l : List UInt8) : (⟨#[47, 50, 94]⟩ : ByteArray) ++ ⟨l.toArray⟩ = ⟨(47 :: 50 :: 94 :: l).toArray⟩ := bytes_append [47, 50, 94] l
theorem Text_ok (s : Bool) (ws : List Nat) (d : Int) (x : Dy) (h : Arg s ws d x) : CallOK Tryz.prog gl 175 [.agg [.v (.bool s), .sl 1 (u32s ws), .v (.int .i64 d)]] (.v (.string ⟨(dyText x).toArray⟩)) := by
  refine call_ok (C := ⟨Tryz.prog, gl, ti, 26, false⟩) ti_ok mixed 3000 Tryz.call175 Tryz.func175 rfl Tryz.ntmps175 (by simp) byClL byCl ?_
  rw [Tryz.results175]
  have pa := parts_ok s ws d x h
  have hl : (words x.n.natAbs).length ≤ _ := h.mlen
  have hdd := x.ok.1
  have dc := nat_decimal x.n.natAbs (by omega)
  have it := itoa_nat x.d (by omega)
  have h1 := dec_words (n := x.n.natAbs) (L := 68719476736) hl
  have h2 := decDigits_len 5 x.d (by omega)
  have ed : dn x = (x.d : Int) := rfl
  unfold dyText
  generalize Lib.decDigits x.n.natAbs = D at *
  generalize Lib.decDigits x.d = E at *
  rw [ed] at pa
  generalize x.d = e at *
  by_cases hs : sg x = true
  · rw [hs] at pa
    rw [if_pos hs]
    by_cases he : 0 < e
    · rw [if_pos he]
      repeat' (first | (simp only [go_sem, Int.reduceAdd, Int.reduceEq, Int.reduceLE, Int.reduceLT, Int.reduceMul, Int.reduceNeg, Int.reducePow, Int.reduceSub, Int.reduceToNat, Nat.reduceAdd, Nat.reduceBEq, Nat.reduceEqDiff, Nat.reduceLT, Nat.reduceLeDiff, Nat.reduceMul, Nat.reducePow, Nat.reduceSub, reduceCtorEq, reduceIte, IntKind.bits.eq_def, ti, tin, minus_app, over_app, bytes_append, size_mk, List.length_cons]) | (simp (disch := omega) only [w64, wu64, wu32, Nat.min_eq_left]) | (with_reducible first | refine cF (pa) ?_ | refine dF (pa) ?_) | (with_reducible first | refine cF (dc) ?_ | refine dF (dc) ?_) | (with_reducible first | refine cF (it) ?_ | refine dF (it) ?_) | (refine aL ti_ok ?_) | (refine dL ti_ok ?_) | (refine dE (by kernel_rfl) ?_) | ((first | refine cC ?_ ?_ | refine gS ?_ ?_ | refine dS ?_ ?_) <;> intro hc <;> first | (exfalso; simp only [dcT, dcF, bnT, bnF, bnU, bnV] at hc; omega) | (simp only [hc]; try simp only [dcT, dcF, bnT, bnF, bnU, bnV] at hc)) | (refine aN (by omega) ?_) | (refine dN (by omega) ?_))
      exact fin_same trivial (by simp [one])
    · rw [if_neg he]
      repeat' (first | (simp only [go_sem, Int.reduceAdd, Int.reduceEq, Int.reduceLE, Int.reduceLT, Int.reduceMul, Int.reduceNeg, Int.reducePow, Int.reduceSub, Int.reduceToNat, Nat.reduceAdd, Nat.reduceBEq, Nat.reduceEqDiff, Nat.reduceLT, Nat.reduceLeDiff, Nat.reduceMul, Nat.reducePow, Nat.reduceSub, reduceCtorEq, reduceIte, IntKind.bits.eq_def, ti, tin, minus_app, size_mk, List.length_cons]) | (simp (disch := omega) only [w64, wu64, wu32, Nat.min_eq_left]) | (with_reducible first | refine cF (pa) ?_ | refine dF (pa) ?_) | (with_reducible first | refine cF (dc) ?_ | refine dF (dc) ?_) | (refine aL ti_ok ?_) | (refine dL ti_ok ?_) | (refine dE (by kernel_rfl) ?_) | ((first | refine cC ?_ ?_ | refine gS ?_ ?_ | refine dS ?_ ?_) <;> intro hc <;> first | (exfalso; simp only [dcT, dcF, bnT, bnF, bnU, bnV] at hc; omega) | (simp only [hc]; try simp only [dcT, dcF, bnT, bnF, bnU, bnV] at hc)) | (refine aN (by omega) ?_) | (refine dN (by omega) ?_))
      exact fin_same trivial (by simp [one])
  · have hs : sg x = false := by simpa using hs
    rw [hs] at pa
    rw [if_neg (by simp [hs])]
    by_cases he : 0 < e
    · rw [if_pos he]
      repeat' (first | (simp only [go_sem, Int.reduceAdd, Int.reduceEq, Int.reduceLE, Int.reduceLT, Int.reduceMul, Int.reduceNeg, Int.reducePow, Int.reduceSub, Int.reduceToNat, Nat.reduceAdd, Nat.reduceBEq, Nat.reduceEqDiff, Nat.reduceLT, Nat.reduceLeDiff, Nat.reduceMul, Nat.reducePow, Nat.reduceSub, reduceCtorEq, reduceIte, IntKind.bits.eq_def, ti, tin, over_app, bytes_append, size_mk, List.length_cons]) | (simp (disch := omega) only [w64, wu64, wu32, Nat.min_eq_left]) | (with_reducible first | refine cF (pa) ?_ | refine dF (pa) ?_) | (with_reducible first | refine cF (dc) ?_ | refine dF (dc) ?_) | (with_reducible first | refine cF (it) ?_ | refine dF (it) ?_) | (refine aL ti_ok ?_) | (refine dL ti_ok ?_) | (refine dE (by kernel_rfl) ?_) | ((first | refine cC ?_ ?_ | refine gS ?_ ?_ | refine dS ?_ ?_) <;> intro hc <;> first | (exfalso; simp only [dcT, dcF, bnT, bnF, bnU, bnV] at hc; omega) | (simp only [hc]; try simp only [dcT, dcF, bnT, bnF, bnU, bnV] at hc)) | (refine aN (by omega) ?_) | (refine dN (by omega) ?_))
      exact fin_same trivial (by simp [one])
    · rw [if_neg he]
      repeat' (first | (simp only [go_sem, Int.reduceAdd, Int.reduceEq, Int.reduceLE, Int.reduceLT, Int.reduceMul, Int.reduceNeg, Int.reducePow, Int.reduceSub, Int.reduceToNat, Nat.reduceAdd, Nat.reduceBEq, Nat.reduceEqDiff, Nat.reduceLT, Nat.reduceLeDiff, Nat.reduceMul, Nat.reducePow, Nat.reduceSub, reduceCtorEq, reduceIte, IntKind.bits.eq_def, ti, tin, size_mk]) | (simp (disch := omega) only [w64, wu64, wu32, Nat.min_eq_left]) | (with_reducible first | refine cF (pa) ?_ | refine dF (pa) ?_) | (with_reducible first | refine cF (dc) ?_ | refine dF (dc) ?_) | (refine aL ti_ok ?_) | (refine dL ti_ok ?_) | (refine dE (by kernel_rfl) ?_) | ((first | refine cC ?_ ?_ | refine gS ?_ ?_ | refine dS ?_ ?_) <;> intro hc <;> first | (exfalso; simp only [dcT, dcF, bnT, bnF, bnU, bnV] at hc; omega) | (simp only [hc]; try simp only [dcT, dcF, bnT, bnF, bnU, bnV] at hc)) | (refine aN (by omega) ?_) | (refine dN (by omega) ?_))
      exact fin_same trivial (by simp [one])
end Go.Proofs.YtdjgckcninibhaaGreatDoor
