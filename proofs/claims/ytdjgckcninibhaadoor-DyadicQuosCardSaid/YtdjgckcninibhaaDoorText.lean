/- Layer 2 (dyadic.go), part 5: Make, Floor, Ceil, Int. -/
import Derived.Test.YtdjgckcninibhaaDoorDy4
import Derived.Test.YtdjgckcninibhaaDoorU2
import Derived.Test.YtdjgckcninibhaaDoorDec
set_option linter.unusedSimpArgs false
set_option linter.unusedVariables false
set_option linter.deprecated false
namespace Go.Proofs.YtdjgckcninibhaaDoor
open Go Go.Ax
set_option maxRecDepth 100000
set_option maxHeartbeats 4000000

theorem Make_ok (n : Int) (den : Nat) (hn : -9223372036854775808 ≤ n ∧ n ≤ 9223372036854775807) (hd : den ≤ 65536) : CallOK Tryd.prog gl 33 [.v (.int .i64 n), .v (.int .i64 den)] (.tup [.agg [.v (.bool (sg (nrm n den))), .sl 1 (u32s (ms (nrm n den))), .v (.int .i64 (dn (nrm n den)))], .v .nilIface]) := by
  refine call_ok (C := ⟨Tryd.prog, gl, ti, 23, false⟩) ti_ok mixed 3000 Tryd.call33 Tryd.func33 rfl Tryd.ntmps33 (by simp) byClL byCl ?_
  rw [Tryd.results33]
  have oo := Of_ok n hn
  have hl : (ms (Dy.int n)).length ≤ 2 := words_length_le (by show n.natAbs < _; omega)
  have rs := result_ok (sg (Dy.int n)) (ms (Dy.int n)) den (ms_wd _) (by omega) (by omega) (by omega)
  rw [Int.toNat_natCast, res_make] at rs
  repeat' (first | (simp only [go_sem, Int.reduceAdd, Int.reduceEq, Int.reduceLE, Int.reduceLT, Int.reduceMul, Int.reduceNeg, Int.reducePow, Int.reduceSub, Int.reduceToNat, Nat.reduceAdd, Nat.reduceBEq, Nat.reduceEqDiff, Nat.reduceLT, Nat.reduceLeDiff, Nat.reduceMul, Nat.reducePow, Nat.reduceSub, reduceCtorEq, reduceIte, IntKind.bits.eq_def, ti, tin]) | (simp (disch := omega) only [w64, wu64, wu32, Nat.min_eq_left]) | (with_reducible first | refine cF (oo) ?_ | refine dF (oo) ?_) | (with_reducible first | refine cF (rs) ?_ | refine dF (rs) ?_) | (refine aL ti_ok ?_) | (refine dL ti_ok ?_) | (refine dE (by kernel_rfl) ?_) | ((first | refine cC ?_ ?_ | refine gS ?_ ?_ | refine dS ?_ ?_) <;> intro hc <;> first | (exfalso; simp only [dcT, dcF, bnT, bnF, bnU, bnV] at hc; omega) | (simp only [hc]; try simp only [dcT, dcF, bnT, bnF, bnU, bnV] at hc)) | (refine aN (by omega) ?_) | (refine dN (by omega) ?_))
  exact fin_same trivial rfl

theorem Floor_ok (s : Bool) (ws : List Nat) (d : Int) (den : Nat) (x : Dy) (h : Arg s ws d x) (hd : den ≤ 65536) : CallOK Tryd.prog gl 71 [.agg [.v (.bool s), .sl 1 (u32s ws), .v (.int .i64 d)], .v (.int .i64 den)] (.tup [.agg [.v (.bool (sg (x.floor den))), .sl 1 (u32s (ms (x.floor den))), .v (.int .i64 (dn (x.floor den)))], .v .nilIface]) := by
  refine call_ok (C := ⟨Tryd.prog, gl, ti, 43, false⟩) ti_ok mixed 3000 Tryd.call71 Tryd.func71 rfl Tryd.ntmps71 (by simp) byClL byCl ?_
  rw [Tryd.results71]
  have pa := parts_ok s ws d x h
  have hl : (words x.n.natAbs).length ≤ _ := h.mlen
  have hl2 := h.mlen
  have hdn := dn_nn x
  have hdd : dn x = (x.d : Int) := rfl
  by_cases hc1 : x.d ≤ den
  · have rs := result_ok (sg x) (ms x) (dn x) (ms_wd x) (by omega) (by omega) (by omega)
    rw [res_self] at rs
    rw [Dy.floor_fine hc1 hd]
    repeat' (first | (simp only [go_sem, Int.reduceAdd, Int.reduceEq, Int.reduceLE, Int.reduceLT, Int.reduceMul, Int.reduceNeg, Int.reducePow, Int.reduceSub, Int.reduceToNat, Nat.reduceAdd, Nat.reduceBEq, Nat.reduceEqDiff, Nat.reduceLT, Nat.reduceLeDiff, Nat.reduceMul, Nat.reducePow, Nat.reduceSub, reduceCtorEq, reduceIte, IntKind.bits.eq_def, ti, tin]) | (simp (disch := omega) only [w64, wu64, wu32, Nat.min_eq_left]) | (with_reducible first | refine cF (pa) ?_ | refine dF (pa) ?_) | (with_reducible first | refine cF (rs) ?_ | refine dF (rs) ?_) | (refine aL ti_ok ?_) | (refine dL ti_ok ?_) | (refine dE (by kernel_rfl) ?_) | ((first | refine cC ?_ ?_ | refine gS ?_ ?_ | refine dS ?_ ?_) <;> intro hc <;> first | (exfalso; simp only [dcT, dcF, bnT, bnF, bnU, bnV] at hc; omega) | (simp only [hc]; try simp only [dcT, dcF, bnT, bnF, bnU, bnV] at hc)) | (refine aN (by omega) ?_) | (refine dN (by omega) ?_))
    exact fin_same trivial rfl
  · have key := res_floor (x := x) (den := den) (by omega)
    have ri := nat_right x.n.natAbs (x.d - den) (by omega) (by omega)
    have ld := words_div_len (a := x.n.natAbs) (b := 2 ^ (x.d - den)) (k := 68719476736) (by omega)
    have e1 : dn x - (den : Int) = ((x.d - den : Nat) : Int) := by omega
    generalize x.n.natAbs / 2 ^ (x.d - den) = m at *
    generalize x.d - den = k at *
    generalize x.floor den = y at *
    cases hs : sg x
    · rw [hs] at key pa
      rw [if_neg (by simp)] at key
      have rs := result_ok false (words m) den (Wd.words _) (by omega) (by omega) (by omega)
      rw [key] at rs
      repeat' (first | (simp only [go_sem, Int.reduceAdd, Int.reduceEq, Int.reduceLE, Int.reduceLT, Int.reduceMul, Int.reduceNeg, Int.reducePow, Int.reduceSub, Int.reduceToNat, Nat.reduceAdd, Nat.reduceBEq, Nat.reduceEqDiff, Nat.reduceLT, Nat.reduceLeDiff, Nat.reduceMul, Nat.reducePow, Nat.reduceSub, reduceCtorEq, reduceIte, IntKind.bits.eq_def, ti, tin, e1]) | (simp (disch := omega) only [w64, wu64, wu32, Nat.min_eq_left]) | (with_reducible first | refine cF (pa) ?_ | refine dF (pa) ?_) | (with_reducible first | refine cF (ri) ?_ | refine dF (ri) ?_) | (with_reducible first | refine cF (rs) ?_ | refine dF (rs) ?_) | (refine aL ti_ok ?_) | (refine dL ti_ok ?_) | (refine dE (by kernel_rfl) ?_) | ((first | refine cC ?_ ?_ | refine gS ?_ ?_ | refine dS ?_ ?_) <;> intro hc <;> first | (exfalso; simp only [dcT, dcF, bnT, bnF, bnU, bnV] at hc; omega) | (simp only [hc]; try simp only [dcT, dcF, bnT, bnF, bnU, bnV] at hc)) | (refine aN (by omega) ?_) | (refine dN (by omega) ?_))
      exact fin_same trivial rfl
    · rw [hs] at key pa
      rw [if_pos rfl] at key
      have ad := nat_add m 1 (by omega) (by rw [words_one]; simp)
      have la := words_add_len (a := m) (b := 1) (k := 68719476736) (by omega) (by rw [words_one]; simp)
      have rs := result_ok true (words (m + 1)) den (Wd.words _) (by omega) (by omega) (by omega)
      rw [key] at rs
      rw [u32s_one] at ad
      repeat' (first | (simp only [go_sem, Int.reduceAdd, Int.reduceEq, Int.reduceLE, Int.reduceLT, Int.reduceMul, Int.reduceNeg, Int.reducePow, Int.reduceSub, Int.reduceToNat, Nat.reduceAdd, Nat.reduceBEq, Nat.reduceEqDiff, Nat.reduceLT, Nat.reduceLeDiff, Nat.reduceMul, Nat.reducePow, Nat.reduceSub, reduceCtorEq, reduceIte, IntKind.bits.eq_def, ti, tin, e1]) | (simp (disch := omega) only [w64, wu64, wu32, Nat.min_eq_left]) | (with_reducible first | refine cF (pa) ?_ | refine dF (pa) ?_) | (with_reducible first | refine cF (ri) ?_ | refine dF (ri) ?_) | (with_reducible first | refine cF (ad) ?_ | refine dF (ad) ?_) | (with_reducible first | refine cF (rs) ?_ | refine dF (rs) ?_) | (refine aL ti_ok ?_) | (refine dL ti_ok ?_) | (refine dE (by kernel_rfl) ?_) | ((first | refine cC ?_ ?_ | refine gS ?_ ?_ | refine dS ?_ ?_) <;> intro hc <;> first | (exfalso; simp only [dcT, dcF, bnT, bnF, bnU, bnV] at hc; omega) | (simp only [hc]; try simp only [dcT, dcF, bnT, bnF, bnU, bnV] at hc)) | (refine aN (by omega) ?_) | (refine dN (by omega) ?_))
      exact fin_same trivial rfl

end Go.Proofs.YtdjgckcninibhaaDoor
/- The text of a dyadic number (layer 2). -/
set_option linter.unusedSimpArgs false
set_option linter.unusedVariables false
set_option linter.deprecated false
namespace Go.Proofs.YtdjgckcninibhaaDoor
open Go Go.Ax
set_option maxRecDepth 100000
set_option maxHeartbeats 4000000

def dyText (x : Dy) : List UInt8 := (if sg x = true then [45] else []) ++ Lib.decDigits x.n.natAbs ++ (if 0 < x.d then [47, 50, 94] ++ Lib.decDigits x.d else [])
theorem size_mk (l : List UInt8) : (⟨l.toArray⟩ : ByteArray).size = l.length := (rfl)
theorem decDigits_bits {n K : Nat} (h : n < 2 ^ K) : (Lib.decDigits n).length ≤ K + 1 :=
  decDigits_len K n (Nat.lt_of_lt_of_le h (Nat.le_trans (Nat.pow_le_pow_left (by omega) K) (Nat.pow_le_pow_right (by omega) (by omega))))
theorem dec_words {n L : Nat} (h : (words n).length ≤ L) : (Lib.decDigits n).length ≤ 32 * L + 1 := by
  refine decDigits_bits (K := 32 * L) (Nat.lt_of_lt_of_le (lt_words n) ?_)
  rw [two_pow_32]
  exact Nat.pow_le_pow_right (by omega) (by omega)
theorem minus_app (l : List UInt8) : (⟨#[45]⟩ : ByteArray) ++ ⟨l.toArray⟩ = ⟨(45 :: l).toArray⟩ := bytes_append [45] l
theorem over_app (l : List UInt8) : (⟨#[47, 50, 94]⟩ : ByteArray) ++ ⟨l.toArray⟩ = ⟨(47 :: 50 :: 94 :: l).toArray⟩ := bytes_append [47, 50, 94] l
theorem Text_ok (s : Bool) (ws : List Nat) (d : Int) (x : Dy) (h : Arg s ws d x) : CallOK Tryd.prog gl 73 [.agg [.v (.bool s), .sl 1 (u32s ws), .v (.int .i64 d)]] (.v (.string ⟨(dyText x).toArray⟩)) := by
  refine call_ok (C := ⟨Tryd.prog, gl, ti, 26, false⟩) ti_ok mixed 3000 Tryd.call73 Tryd.func73 rfl Tryd.ntmps73 (by simp) byClL byCl ?_
  rw [Tryd.results73]
  have pa := parts_ok s ws d x h
  have hl : (words x.n.natAbs).length ≤ _ := h.mlen
  have hdd := x.ok.1
  have dc := nat_decimal x.n.natAbs (by omega)
  have it := itoa_nat x.d (by omega)
  have h1 := dec_words (n := x.n.natAbs) (L := 68719476736) hl
  have h2 := decDigits_len 5 x.d (by omega)
  have ed : dn x = (x.d : Int) := rfl
  unfold dyText
  generalize Lib.decDigits x.n.natAbs = D at *
  generalize Lib.decDigits x.d = E at *
  rw [ed] at pa
  generalize x.d = e at *
  by_cases hs : sg x = true
  · rw [hs] at pa
    rw [if_pos hs]
    by_cases he : 0 < e
    · rw [if_pos he]
      repeat' (first | (simp only [go_sem, Int.reduceAdd, Int.reduceEq, Int.reduceLE, Int.reduceLT, Int.reduceMul, Int.reduceNeg, Int.reducePow, Int.reduceSub, Int.reduceToNat, Nat.reduceAdd, Nat.reduceBEq, Nat.reduceEqDiff, Nat.reduceLT, Nat.reduceLeDiff, Nat.reduceMul, Nat.reducePow, Nat.reduceSub, reduceCtorEq, reduceIte, IntKind.bits.eq_def, ti, tin, minus_app, over_app, bytes_append, size_mk, List.length_cons]) | (simp (disch := omega) only [w64, wu64, wu32, Nat.min_eq_left]) | (with_reducible first | refine cF (pa) ?_ | refine dF (pa) ?_) | (with_reducible first | refine cF (dc) ?_ | refine dF (dc) ?_) | (with_reducible first | refine cF (it) ?_ | refine dF (it) ?_) | (refine aL ti_ok ?_) | (refine dL ti_ok ?_) | (refine dE (by kernel_rfl) ?_) | ((first | refine cC ?_ ?_ | refine gS ?_ ?_ | refine dS ?_ ?_) <;> intro hc <;> first | (exfalso; simp only [dcT, dcF, bnT, bnF, bnU, bnV] at hc; omega) | (simp only [hc]; try simp only [dcT, dcF, bnT, bnF, bnU, bnV] at hc)) | (refine aN (by omega) ?_) | (refine dN (by omega) ?_))
      exact fin_same trivial (by simp [one])
    · rw [if_neg he]
      repeat' (first | (simp only [go_sem, Int.reduceAdd, Int.reduceEq, Int.reduceLE, Int.reduceLT, Int.reduceMul, Int.reduceNeg, Int.reducePow, Int.reduceSub, Int.reduceToNat, Nat.reduceAdd, Nat.reduceBEq, Nat.reduceEqDiff, Nat.reduceLT, Nat.reduceLeDiff, Nat.reduceMul, Nat.reducePow, Nat.reduceSub, reduceCtorEq, reduceIte, IntKind.bits.eq_def, ti, tin, minus_app, size_mk, List.length_cons]) | (simp (disch := omega) only [w64, wu64, wu32, Nat.min_eq_left]) | (with_reducible first | refine cF (pa) ?_ | refine dF (pa) ?_) | (with_reducible first | refine cF (dc) ?_ | refine dF (dc) ?_) | (refine aL ti_ok ?_) | (refine dL ti_ok ?_) | (refine dE (by kernel_rfl) ?_) | ((first | refine cC ?_ ?_ | refine gS ?_ ?_ | refine dS ?_ ?_) <;> intro hc <;> first | (exfalso; simp only [dcT, dcF, bnT, bnF, bnU, bnV] at hc; omega) | (simp only [hc]; try simp only [dcT, dcF, bnT, bnF, bnU, bnV] at hc)) | (refine aN (by omega) ?_) | (refine dN (by omega) ?_))
      exact fin_same trivial (by simp [one])
  · have hs : sg x = false := by simpa using hs
    rw [hs] at pa
    rw [if_neg (by simp [hs])]
    by_cases he : 0 < e
    · rw [if_pos he]
      repeat' (first | (simp only [go_sem, Int.reduceAdd, Int.reduceEq, Int.reduceLE, Int.reduceLT, Int.reduceMul, Int.reduceNeg, Int.reducePow, Int.reduceSub, Int.reduceToNat, Nat.reduceAdd, Nat.reduceBEq, Nat.reduceEqDiff, Nat.reduceLT, Nat.reduceLeDiff, Nat.reduceMul, Nat.reducePow, Nat.reduceSub, reduceCtorEq, reduceIte, IntKind.bits.eq_def, ti, tin, over_app, bytes_append, size_mk, List.length_cons]) | (simp (disch := omega) only [w64, wu64, wu32, Nat.min_eq_left]) | (with_reducible first | refine cF (pa) ?_ | refine dF (pa) ?_) | (with_reducible first | refine cF (dc) ?_ | refine dF (dc) ?_) | (with_reducible first | refine cF (it) ?_ | refine dF (it) ?_) | (refine aL ti_ok ?_) | (refine dL ti_ok ?_) | (refine dE (by kernel_rfl) ?_) | ((first | refine cC ?_ ?_ | refine gS ?_ ?_ | refine dS ?_ ?_) <;> intro hc <;> first | (exfalso; simp only [dcT, dcF, bnT, bnF, bnU, bnV] at hc; omega) | (simp only [hc]; try simp only [dcT, dcF, bnT, bnF, bnU, bnV] at hc)) | (refine aN (by omega) ?_) | (refine dN (by omega) ?_))
      exact fin_same trivial (by simp [one])
    · rw [if_neg he]
      repeat' (first | (simp only [go_sem, Int.reduceAdd, Int.reduceEq, Int.reduceLE, Int.reduceLT, Int.reduceMul, Int.reduceNeg, Int.reducePow, Int.reduceSub, Int.reduceToNat, Nat.reduceAdd, Nat.reduceBEq, Nat.reduceEqDiff, Nat.reduceLT, Nat.reduceLeDiff, Nat.reduceMul, Nat.reducePow, Nat.reduceSub, reduceCtorEq, reduceIte, IntKind.bits.eq_def, ti, tin, size_mk]) | (simp (disch := omega) only [w64, wu64, wu32, Nat.min_eq_left]) | (with_reducible first | refine cF (pa) ?_ | refine dF (pa) ?_) | (with_reducible first | refine cF (dc) ?_ | refine dF (dc) ?_) | (refine aL ti_ok ?_) | (refine dL ti_ok ?_) | (refine dE (by kernel_rfl) ?_) | ((first | refine cC ?_ ?_ | refine gS ?_ ?_ | refine dS ?_ ?_) <;> intro hc <;> first | (exfalso; simp only [dcT, dcF, bnT, bnF, bnU, bnV] at hc; omega) | (simp only [hc]; try simp only [dcT, dcF, bnT, bnF, bnU, bnV] at hc)) | (refine aN (by omega) ?_) | (refine dN (by omega) ?_))
      exact fin_same trivial (by simp [one])
end Go.Proofs.YtdjgckcninibhaaDoor
