/- Layer 2 (dyadic.go), part 3: Of, Neg, Abs, Sign, Cmp. -/
import Derived.Test.YtfmgfjmfogmeeaaGreatDoorDy2
import Derived.Test.YtfmgfjmfogmeeaaGreatDoorU2
import Derived.Test.YtfmgfjmfogmeeaaGreatDoorDec
set_option linter.unusedSimpArgs false
set_option linter.unusedVariables false
set_option linter.deprecated false
namespace Go.Proofs.YtfmgfjmfogmeeaaGreatDoor
open Go Go.Ax
set_option maxRecDepth 100000
set_option maxHeartbeats 4000000
theorem Of_ok (n : Int) (h : -9223372036854775808 ≤ n ∧ n ≤ 9223372036854775807) : CallOK Tryz.prog gl 25 [.v (.int .i64 n)] (.agg [.v (.bool (sg (Dy.int n))), .sl 1 (u32s (ms (Dy.int n))), .v (.int .i64 (dn (Dy.int n)))]) := by
  refine call_ok (C := ⟨Tryz.prog, gl, ti, 15, false⟩) ti_ok mixed 3000 Tryz.call25 Tryz.func25 rfl Tryz.ntmps25 (by simp) byClL byCl ?_
  rw [Tryz.results25]
  have ou := ofUint_ok n.natAbs (by omega)
  have hl : (words n.natAbs).length ≤ 2 := words_length_le (by omega)
  have rs := result_ok (decide (n < 0)) (words n.natAbs) 0 (Wd.words _) (by omega) (by omega) (by omega)
  rw [res_int] at rs
  by_cases hn : n < 0
  · have e1 : IntKind.u64.wrap n = n + 18446744073709551616 := by simp only [IntKind.wrap, IntKind.bits, IntKind.signed]; simp; omega
    have e2 : IntKind.u64.wrap (0 - (n + 18446744073709551616)) = (n.natAbs : Int) := by simp only [IntKind.wrap, IntKind.bits, IntKind.signed]; simp; omega
    repeat' (first | (simp only [go_sem, seval, IntKind.bits.eq_def, ti, tin, e1, e2]) | (simp (disch := omega) only [wA]) | (with_reducible first | refine cF ou ?_ | refine dF ou ?_ | refine cF rs ?_ | refine dF rs ?_) | refine aL ti_ok ?_ | refine dL ti_ok ?_ | refine dG ?_ | ((first | refine cC ?_ ?_ | refine gS ?_ ?_ | refine dS ?_ ?_) <;> intro hc <;> first | (exfalso; simp only [dcA] at hc; omega) | (simp only [hc]; try simp only [dcA] at hc)) | refine aO ?_ | refine dO ?_)
    exact fin_same trivial rfl
  · have e1 : IntKind.u64.wrap n = (n.natAbs : Int) := by simp only [IntKind.wrap, IntKind.bits, IntKind.signed]; simp; omega
    repeat' (first | (simp only [go_sem, seval, IntKind.bits.eq_def, ti, tin, e1]) | (simp (disch := omega) only [wA]) | (with_reducible first | refine cF ou ?_ | refine dF ou ?_ | refine cF rs ?_ | refine dF rs ?_) | refine aL ti_ok ?_ | refine dL ti_ok ?_ | refine dG ?_ | ((first | refine cC ?_ ?_ | refine gS ?_ ?_ | refine dS ?_ ?_) <;> intro hc <;> first | (exfalso; simp only [dcA] at hc; omega) | (simp only [hc]; try simp only [dcA] at hc)) | refine aO ?_ | refine dO ?_)
    exact fin_same trivial rfl
theorem Neg_ok (s : Bool) (ws : List Nat) (d : Int) (x : Dy) (h : Arg s ws d x) : CallOK Tryz.prog gl 30 [.agg [.v (.bool s), .sl 1 (u32s ws), .v (.int .i64 d)]] (.agg [.v (.bool (sg (x.neg))), .sl 1 (u32s (ms (x.neg))), .v (.int .i64 (dn (x.neg)))]) := by
  refine call_ok (C := ⟨Tryz.prog, gl, ti, 17, false⟩) ti_ok mixed 3000 Tryz.call30 Tryz.func30 rfl Tryz.ntmps30 (by simp) byClL byCl ?_
  rw [Tryz.results30]
  have pa := parts_ok s ws d x h
  have hl := h.mlen
  have hd := dn_nn x
  have rs := result_ok (!sg x) (ms x) (dn x) (ms_wd x) (by omega) (by omega) (by omega)
  rw [res_neg] at rs
  repeat' (first | (simp only [go_sem, seval, IntKind.bits.eq_def, ti, tin]) | (simp (disch := omega) only [wA]) | (with_reducible first | refine cF pa ?_ | refine dF pa ?_ | refine cF rs ?_ | refine dF rs ?_) | refine aL ti_ok ?_ | refine dL ti_ok ?_ | refine dG ?_ | ((first | refine cC ?_ ?_ | refine gS ?_ ?_ | refine dS ?_ ?_) <;> intro hc <;> first | (exfalso; simp only [dcA] at hc; omega) | (simp only [hc]; try simp only [dcA] at hc)) | refine aO ?_ | refine dO ?_)
  exact fin_same trivial rfl
end Go.Proofs.YtfmgfjmfogmeeaaGreatDoor
/- Layer 2 (dyadic.go), part 4: Cmp, Add, Sub, Mul, Shift, Min, Max. -/
set_option linter.unusedSimpArgs false
set_option linter.unusedVariables false
set_option linter.deprecated false
namespace Go.Proofs.YtfmgfjmfogmeeaaGreatDoor
open Go Go.Ax
set_option maxRecDepth 100000
set_option maxHeartbeats 4000000
end Go.Proofs.YtfmgfjmfogmeeaaGreatDoor
/- Layer 2 (dyadic.go), part 5: Make, Floor, Ceil, Int. -/
set_option linter.unusedSimpArgs false
set_option linter.unusedVariables false
set_option linter.deprecated false
namespace Go.Proofs.YtfmgfjmfogmeeaaGreatDoor
open Go Go.Ax
set_option maxRecDepth 100000
set_option maxHeartbeats 4000000
theorem Make_ok (n : Int) (den : Nat) (hn : -9223372036854775808 ≤ n ∧ n ≤ 9223372036854775807) (hd : den ≤ 65536) : CallOK Tryz.prog gl 28 [.v (.int .i64 n), .v (.int .i64 den)] (.tup [.agg [.v (.bool (sg (nrm n den))), .sl 1 (u32s (ms (nrm n den))), .v (.int .i64 (dn (nrm n den)))], .v .nilIface]) := by
  refine call_ok (C := ⟨Tryz.prog, gl, ti, 23, false⟩) ti_ok mixed 3000 Tryz.call28 Tryz.func28 rfl Tryz.ntmps28 (by simp) byClL byCl ?_
  rw [Tryz.results28]
  have oo := Of_ok n hn
  have hl : (ms (Dy.int n)).length ≤ 2 := words_length_le (by show n.natAbs < _; omega)
  have rs := result_ok (sg (Dy.int n)) (ms (Dy.int n)) den (ms_wd _) (by omega) (by omega) (by omega)
  rw [Int.toNat_natCast, res_make] at rs
  repeat' (first | (simp only [go_sem, seval, IntKind.bits.eq_def, ti, tin]) | (simp (disch := omega) only [wA]) | (with_reducible first | refine cF oo ?_ | refine dF oo ?_ | refine cF rs ?_ | refine dF rs ?_) | refine aL ti_ok ?_ | refine dL ti_ok ?_ | refine dG ?_ | ((first | refine cC ?_ ?_ | refine gS ?_ ?_ | refine dS ?_ ?_) <;> intro hc <;> first | (exfalso; simp only [dcA] at hc; omega) | (simp only [hc]; try simp only [dcA] at hc)) | refine aO ?_ | refine dO ?_)
  exact fin_same trivial rfl
theorem Floor_ok (s : Bool) (ws : List Nat) (d : Int) (den : Nat) (x : Dy) (h : Arg s ws d x) (hd : den ≤ 65536) : CallOK Tryz.prog gl 29 [.agg [.v (.bool s), .sl 1 (u32s ws), .v (.int .i64 d)], .v (.int .i64 den)] (.tup [.agg [.v (.bool (sg (x.floor den))), .sl 1 (u32s (ms (x.floor den))), .v (.int .i64 (dn (x.floor den)))], .v .nilIface]) := by
  refine call_ok (C := ⟨Tryz.prog, gl, ti, 43, false⟩) ti_ok mixed 3000 Tryz.call29 Tryz.func29 rfl Tryz.ntmps29 (by simp) byClL byCl ?_
  rw [Tryz.results29]
  have pa := parts_ok s ws d x h
  have hl : (words x.n.natAbs).length ≤ _ := h.mlen
  have hl2 := h.mlen
  have hdn := dn_nn x
  have hdd : dn x = (x.d : Int) := rfl
  by_cases hc1 : x.d ≤ den
  · have rs := result_ok (sg x) (ms x) (dn x) (ms_wd x) (by omega) (by omega) (by omega)
    rw [res_self] at rs
    rw [Dy.floor_fine hc1 hd]
    repeat' (first | (simp only [go_sem, seval, IntKind.bits.eq_def, ti, tin]) | (simp (disch := omega) only [wA]) | (with_reducible first | refine cF pa ?_ | refine dF pa ?_ | refine cF rs ?_ | refine dF rs ?_) | refine aL ti_ok ?_ | refine dL ti_ok ?_ | refine dG ?_ | ((first | refine cC ?_ ?_ | refine gS ?_ ?_ | refine dS ?_ ?_) <;> intro hc <;> first | (exfalso; simp only [dcA] at hc; omega) | (simp only [hc]; try simp only [dcA] at hc)) | refine aO ?_ | refine dO ?_)
    exact fin_same trivial rfl
  · have key := res_floor (x := x) (den := den) (by omega)
    have ri := nat_right x.n.natAbs (x.d - den) (by omega) (by omega)
    have ld := words_div_len (a := x.n.natAbs) (b := 2 ^ (x.d - den)) (k := 68719476736) (by omega)
    have e1 : dn x - (den : Int) = ((x.d - den : Nat) : Int) := by omega
    generalize x.n.natAbs / 2 ^ (x.d - den) = m at *
    generalize x.d - den = k at *
    generalize x.floor den = y at *
    cases hs : sg x
    · rw [hs] at key pa
      rw [if_neg (by simp)] at key
      have rs := result_ok false (words m) den (Wd.words _) (by omega) (by omega) (by omega)
      rw [key] at rs
      repeat' (first | (simp only [go_sem, seval, IntKind.bits.eq_def, ti, tin, e1]) | (simp (disch := omega) only [wA]) | (with_reducible first | refine cF pa ?_ | refine dF pa ?_ | refine cF ri ?_ | refine dF ri ?_ | refine cF rs ?_ | refine dF rs ?_) | refine aL ti_ok ?_ | refine dL ti_ok ?_ | refine dG ?_ | ((first | refine cC ?_ ?_ | refine gS ?_ ?_ | refine dS ?_ ?_) <;> intro hc <;> first | (exfalso; simp only [dcA] at hc; omega) | (simp only [hc]; try simp only [dcA] at hc)) | refine aO ?_ | refine dO ?_)
      exact fin_same trivial rfl
    · rw [hs] at key pa
      rw [if_pos rfl] at key
      have ad := nat_add m 1 (by omega) (by rw [words_one]; simp)
      have la := words_add_len (a := m) (b := 1) (k := 68719476736) (by omega) (by rw [words_one]; simp)
      have rs := result_ok true (words (m + 1)) den (Wd.words _) (by omega) (by omega) (by omega)
      rw [key] at rs
      rw [u32s_one] at ad
      repeat' (first | (simp only [go_sem, seval, IntKind.bits.eq_def, ti, tin, e1]) | (simp (disch := omega) only [wA]) | (with_reducible first | refine cF pa ?_ | refine dF pa ?_ | refine cF ri ?_ | refine dF ri ?_ | refine cF ad ?_ | refine dF ad ?_ | refine cF rs ?_ | refine dF rs ?_) | refine aL ti_ok ?_ | refine dL ti_ok ?_ | refine dG ?_ | ((first | refine cC ?_ ?_ | refine gS ?_ ?_ | refine dS ?_ ?_) <;> intro hc <;> first | (exfalso; simp only [dcA] at hc; omega) | (simp only [hc]; try simp only [dcA] at hc)) | refine aO ?_ | refine dO ?_)
      exact fin_same trivial rfl
end Go.Proofs.YtfmgfjmfogmeeaaGreatDoor
/- The text of a dyadic number (layer 2). -/
set_option linter.unusedSimpArgs false
set_option linter.unusedVariables false
set_option linter.deprecated false
namespace Go.Proofs.YtfmgfjmfogmeeaaGreatDoor
open Go Go.Ax
set_option maxRecDepth 100000
set_option maxHeartbeats 4000000
def dyText (x : Dy) : List UInt8 := (if sg x = true then [45] else []) ++ Lib.decDigits x.n.natAbs ++ (if 0 < x.d then [47, 50, 94] ++ Lib.decDigits x.d else [])
theorem size_mk (l : List UInt8) : (⟨l.toArray⟩ : ByteArray).size = l.length := (rfl)
theorem decDigits_bits {n K : Nat} (h : n < 2 ^ K) : (Lib.decDigits n).length ≤ K + 1 :=
  decDigits_len K n (Nat.lt_of_lt_of_le h (Nat.le_trans (Nat.pow_le_pow_left (by omega) K) (Nat.pow_le_pow_right (by omega) (by omega))))
theorem dec_words {n L : Nat} (h : (words n).length ≤ L) : (Lib.decDigits n).length ≤ 32 * L + 1 := by
  refine decDigits_bits (K := 32 * L) (Nat.lt_of_lt_of_le (lt_words n) ?_)
  rw [two_pow_32]
  exact Nat.pow_le_pow_right (by omega) (by omega)
theorem minus_app (l : List UInt8) : (⟨#[45]⟩ : ByteArray) ++ ⟨l.toArray⟩ = ⟨(45 :: l).toArray⟩ := bytes_append [45] l
theorem over_app (l : List UInt8) : (⟨#[47, 50, 94]⟩ : ByteArray) ++ ⟨l.toArray⟩ = ⟨(47 :: 50 :: 94 :: l).toArray⟩ := bytes_append [47, 50, 94] l
theorem Text_ok (s : Bool) (ws : List Nat) (d : Int) (x : Dy) (h : Arg s ws d x) : CallOK Tryz.prog gl 8 [.agg [.v (.bool s), .sl 1 (u32s ws), .v (.int .i64 d)]] (.v (.string ⟨(dyText x).toArray⟩)) := by
  refine call_ok (C := ⟨Tryz.prog, gl, ti, 26, false⟩) ti_ok mixed 3000 Tryz.call8 Tryz.func8 rfl Tryz.ntmps8 (by simp) byClL byCl ?_
  rw [Tryz.results8]
  have pa := parts_ok s ws d x h
  have hl : (words x.n.natAbs).length ≤ _ := h.mlen
  have hdd := x.ok.1
  have dc := nat_decimal x.n.natAbs (by omega)
  have it := itoa_nat x.d (by omega)
  have h1 := dec_words (n := x.n.natAbs) (L := 68719476736) hl
  have h2 := decDigits_len 5 x.d (by omega)
  have ed : dn x = (x.d : Int) := rfl
  unfold dyText
  generalize Lib.decDigits x.n.natAbs = D at *
  generalize Lib.decDigits x.d = E at *
  rw [ed] at pa
  generalize x.d = e at *
  by_cases hs : sg x = true
  · rw [hs] at pa
    rw [if_pos hs]
    by_cases he : 0 < e
    · rw [if_pos he]
      repeat' (first | (simp only [go_sem, seval, IntKind.bits.eq_def, ti, tin, minus_app, over_app, bytes_append, size_mk, List.length_cons]) | (simp (disch := omega) only [wA]) | (with_reducible first | refine cF pa ?_ | refine dF pa ?_ | refine cF dc ?_ | refine dF dc ?_ | refine cF it ?_ | refine dF it ?_) | refine aL ti_ok ?_ | refine dL ti_ok ?_ | refine dG ?_ | ((first | refine cC ?_ ?_ | refine gS ?_ ?_ | refine dS ?_ ?_) <;> intro hc <;> first | (exfalso; simp only [dcA] at hc; omega) | (simp only [hc]; try simp only [dcA] at hc)) | refine aO ?_ | refine dO ?_)
      exact fin_same trivial (by simp [one])
    · rw [if_neg he]
      repeat' (first | (simp only [go_sem, seval, IntKind.bits.eq_def, ti, tin, minus_app, size_mk, List.length_cons]) | (simp (disch := omega) only [wA]) | (with_reducible first | refine cF pa ?_ | refine dF pa ?_ | refine cF dc ?_ | refine dF dc ?_) | refine aL ti_ok ?_ | refine dL ti_ok ?_ | refine dG ?_ | ((first | refine cC ?_ ?_ | refine gS ?_ ?_ | refine dS ?_ ?_) <;> intro hc <;> first | (exfalso; simp only [dcA] at hc; omega) | (simp only [hc]; try simp only [dcA] at hc)) | refine aO ?_ | refine dO ?_)
      exact fin_same trivial (by simp [one])
  · have hs : sg x = false := by simpa using hs
    rw [hs] at pa
    rw [if_neg (by simp [hs])]
    by_cases he : 0 < e
    · rw [if_pos he]
      repeat' (first | (simp only [go_sem, seval, IntKind.bits.eq_def, ti, tin, over_app, bytes_append, size_mk, List.length_cons]) | (simp (disch := omega) only [wA]) | (with_reducible first | refine cF pa ?_ | refine dF pa ?_ | refine cF dc ?_ | refine dF dc ?_ | refine cF it ?_ | refine dF it ?_) | refine aL ti_ok ?_ | refine dL ti_ok ?_ | refine dG ?_ | ((first | refine cC ?_ ?_ | refine gS ?_ ?_ | refine dS ?_ ?_) <;> intro hc <;> first | (exfalso; simp only [dcA] at hc; omega) | (simp only [hc]; try simp only [dcA] at hc)) | refine aO ?_ | refine dO ?_)
      exact fin_same trivial (by simp [one])
    · rw [if_neg he]
      repeat' (first | (simp only [go_sem, seval, IntKind.bits.eq_def, ti, tin, size_mk]) | (simp (disch := omega) only [wA]) | (with_reducible first | refine cF pa ?_ | refine dF pa ?_ | refine cF dc ?_ | refine dF dc ?_) | refine aL ti_ok ?_ | refine dL ti_ok ?_ | refine dG ?_ | ((first | refine cC ?_ ?_ | refine gS ?_ ?_ | refine dS ?_ ?_) <;> intro hc <;> first | (exfalso; simp only [dcA] at hc; omega) | (simp only [hc]; try simp only [dcA] at hc)) | refine aO ?_ | refine dO ?_)
      exact fin_same trivial (by simp [one])
end Go.Proofs.YtfmgfjmfogmeeaaGreatDoor
