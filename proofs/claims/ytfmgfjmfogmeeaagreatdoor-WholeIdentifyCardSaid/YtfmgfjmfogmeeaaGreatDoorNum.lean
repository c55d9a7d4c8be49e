/- Dyadic numbers (layer 2), part 6: Quo, Bits. -/
import Derived.Test.YtfmgfjmfogmeeaaGreatDoorNat7
import Derived.Test.YtfmgfjmfogmeeaaGreatDoorNatC
import Derived.Test.YtfmgfjmfogmeeaaGreatDoorTy
import Derived.Test.YtfmgfjmfogmeeaaGreatDoorU2
set_option linter.unusedSimpArgs false
set_option linter.unusedVariables false
set_option linter.deprecated false
namespace Go.Proofs.YtfmgfjmfogmeeaaGreatDoor
open Go Go.Ax
set_option maxRecDepth 100000
set_option maxHeartbeats 4000000
theorem words_shl2 {a n : Nat} : (words (a * 2 ^ n)).length ≤ (words a).length + (n / 32 + 1) := by
  refine words_length_le ?_
  have h1 := lt_words a
  have h2 : 2 ^ n ≤ 4294967296 ^ (n / 32 + 1) := by
    rw [two_pow_32]
    exact Nat.pow_le_pow_right (by omega) (by omega)
  rw [Nat.pow_add 4294967296 (words a).length]
  exact Nat.lt_of_lt_of_le (Nat.mul_lt_mul_of_pos_right h1 (Nat.pow_pos (by omega))) (Nat.mul_le_mul_left _ h2)
theorem Quo_ok (s : Bool) (ws : List Nat) (d : Int) (s' : Bool) (ws' : List Nat) (d' : Int) (den : Nat) (hd : den ≤ 65536) (x y : Dy) (h : Arg s ws d x) (h' : Arg s' ws' d' y) (hy : y.n ≠ 0) : CallOK Tryz.prog gl 31 [.agg [.v (.bool s), .sl 1 (u32s ws), .v (.int .i64 d)], .agg [.v (.bool s'), .sl 1 (u32s ws'), .v (.int .i64 d')], .v (.int .i64 den)] (.tup [.agg [.v (.bool (sg (x.quo y den))), .sl 1 (u32s (ms (x.quo y den))), .v (.int .i64 (dn (x.quo y den)))], .v .nilIface]) := by
  refine call_ok (C := ⟨Tryz.prog, gl, ti, 79, false⟩) ti_ok mixed 3000 Tryz.call31 Tryz.func31 rfl Tryz.ntmps31 (by simp) byClL byCl ?_
  rw [Tryz.results31]
  have pa := parts_ok s ws d x h
  have pb := parts_ok s' ws' d' y h'
  have hl : (words x.n.natAbs).length ≤ _ := h.mlen
  have hl' : (words y.n.natAbs).length ≤ _ := h'.mlen
  have hdn := dn_nn x
  have hdn' := dn_nn y
  have hdd : dn x = (x.d : Int) := rfl
  have hdd' : dn y = (y.d : Int) := rfl
  have hyn : 0 < y.n.natAbs := by omega
  have e0 : ¬ (words y.n.natAbs).length = 0 := by have := words_length_pos.2 (show y.n.natAbs ≠ 0 by omega); omega
  have e0' : ¬ ((words y.n.natAbs).length : Int) = 0 := by omega
  by_cases hk : x.d ≤ y.d + den
  ·
    obtain ⟨k, hkd⟩ : ∃ k : Nat, k = y.d + den - x.d := ⟨_, rfl⟩
    have e1 : dn y + (den : Int) - dn x = (k : Int) := by omega
    have e2 : True := trivial
    have lf := nat_left x.n.natAbs k (by omega) (by omega)
    have ll := words_shl2 (a := x.n.natAbs) (n := k)
    have e3 : x.n.natAbs * 2 ^ k * (y.n.natAbs * 2 ^ x.d) = y.n.natAbs * (x.n.natAbs * 2 ^ (y.d + den)) := by rw [show y.d + den = k + x.d by omega, Nat.pow_add]; grind
    have key := res_quo (x := x) (y := y) (den := den) hy (show y.n.natAbs ≠ 0 by omega) e3
    have dv := nat_divide (x.n.natAbs * 2 ^ k) (y.n.natAbs) (by omega) (by omega) (by omega)
    have hq := words_div_len (a := x.n.natAbs * 2 ^ k) (b := y.n.natAbs) (k := 68719484928) (by omega)
    have hz : (words ((x.n.natAbs * 2 ^ k) % (y.n.natAbs))).length = 0 ↔ (x.n.natAbs * 2 ^ k) % (y.n.natAbs) = 0 := by rw [List.length_eq_zero_iff, words_nil]
    generalize (x.n.natAbs * 2 ^ k) / (y.n.natAbs) = q at *
    generalize (x.n.natAbs * 2 ^ k) % (y.n.natAbs) = r at *
    by_cases hs : sg x = sg y
    ·
      have hsd : (!decide (sg x = sg y)) = false := by rw [hs]; simp
      rw [if_neg (by simp [hs]), hsd] at key
      have rs := result_ok false (words q) den (Wd.words _) (by omega) (by omega) (by omega)
      rw [key] at rs
      generalize x.quo y den = z at *
      repeat' (first | (simp only [go_sem, seval, IntKind.bits.eq_def, ti, tin, e1, e2, hsd, u32s_length, e0']) | (simp (disch := omega) only [wA]) | (with_reducible first | refine cF pa ?_ | refine dF pa ?_ | refine cF pb ?_ | refine dF pb ?_ | refine cF lf ?_ | refine dF lf ?_ | refine cF dv ?_ | refine dF dv ?_ | refine cF rs ?_ | refine dF rs ?_) | refine aL ti_ok ?_ | refine dL ti_ok ?_ | refine dG ?_ | ((first | refine cC ?_ ?_ | refine gS ?_ ?_ | refine dS ?_ ?_) <;> intro hc <;> first | (exfalso; simp only [dcA] at hc; omega) | (simp only [hc]; try simp only [dcA] at hc)) | refine aO ?_ | refine dO ?_)
      exact fin_same trivial rfl
    ·
      have hsd : (!decide (sg x = sg y)) = true := by simp [hs]
      rw [hsd] at key
      by_cases hr : r = 0
      ·
        have hr0 := hz.2 hr
        rw [if_neg (by simp [hr])] at key
        have rs := result_ok true (words q) den (Wd.words _) (by omega) (by omega) (by omega)
        rw [key] at rs
        generalize x.quo y den = z at *
        repeat' (first | (simp only [go_sem, seval, IntKind.bits.eq_def, ti, tin, e1, e2, hsd, u32s_length, e0', hr0]) | (simp (disch := omega) only [wA]) | (with_reducible first | refine cF pa ?_ | refine dF pa ?_ | refine cF pb ?_ | refine dF pb ?_ | refine cF lf ?_ | refine dF lf ?_ | refine cF dv ?_ | refine dF dv ?_ | refine cF rs ?_ | refine dF rs ?_) | refine aL ti_ok ?_ | refine dL ti_ok ?_ | refine dG ?_ | ((first | refine cC ?_ ?_ | refine gS ?_ ?_ | refine dS ?_ ?_) <;> intro hc <;> first | (exfalso; simp only [dcA] at hc; omega) | (simp only [hc]; try simp only [dcA] at hc)) | refine aO ?_ | refine dO ?_)
        exact fin_same trivial rfl
      ·
        have hr0 : 0 < (words r).length := words_length_pos.2 hr
        rw [if_pos ⟨by simpa using hs, hr⟩] at key
        have ad := nat_add q 1 (by omega) (by rw [words_one]; simp)
        have la := words_add_len (a := q) (b := 1) (k := 68719484928) (by omega) (by rw [words_one]; simp)
        have rs := result_ok true (words (q + 1)) den (Wd.words _) (by omega) (by omega) (by omega)
        rw [key] at rs
        rw [u32s_one] at ad
        generalize x.quo y den = z at *
        repeat' (first | (simp only [go_sem, seval, IntKind.bits.eq_def, ti, tin, e1, e2, hsd, u32s_length, e0', hr0]) | (simp (disch := omega) only [wA]) | (with_reducible first | refine cF pa ?_ | refine dF pa ?_ | refine cF pb ?_ | refine dF pb ?_ | refine cF lf ?_ | refine dF lf ?_ | refine cF dv ?_ | refine dF dv ?_ | refine cF ad ?_ | refine dF ad ?_ | refine cF rs ?_ | refine dF rs ?_) | refine aL ti_ok ?_ | refine dL ti_ok ?_ | refine dG ?_ | ((first | refine cC ?_ ?_ | refine gS ?_ ?_ | refine dS ?_ ?_) <;> intro hc <;> first | (exfalso; simp only [dcA] at hc; omega) | (simp only [hc]; try simp only [dcA] at hc)) | refine aO ?_ | refine dO ?_)
        exact fin_same trivial rfl
  ·
    obtain ⟨k, hkd⟩ : ∃ k : Nat, k = x.d - (y.d + den) := ⟨_, rfl⟩
    have hk0 : 0 < k := by omega
    have hp : 0 < y.n.natAbs * 2 ^ k := Nat.mul_pos hyn (Nat.pow_pos (by omega))
    have e1 : dn y + (den : Int) - dn x = -(k : Int) := by omega
    have e2 : 0 - (-(k : Int)) = (k : Int) := by omega
    have lf := nat_left y.n.natAbs k (by omega) (by omega)
    have ll := words_shl2 (a := y.n.natAbs) (n := k)
    have e3 : x.n.natAbs * (y.n.natAbs * 2 ^ x.d) = y.n.natAbs * 2 ^ k * (x.n.natAbs * 2 ^ (y.d + den)) := by rw [show x.d = k + (y.d + den) by omega, Nat.pow_add]; grind
    have key := res_quo (x := x) (y := y) (den := den) hy (show y.n.natAbs * 2 ^ k ≠ 0 by omega) e3
    have dv := nat_divide (x.n.natAbs) (y.n.natAbs * 2 ^ k) (by omega) (by omega) (by omega)
    have hq := words_div_len (a := x.n.natAbs) (b := y.n.natAbs * 2 ^ k) (k := 68719484928) (by omega)
    have hz : (words ((x.n.natAbs) % (y.n.natAbs * 2 ^ k))).length = 0 ↔ (x.n.natAbs) % (y.n.natAbs * 2 ^ k) = 0 := by rw [List.length_eq_zero_iff, words_nil]
    generalize (x.n.natAbs) / (y.n.natAbs * 2 ^ k) = q at *
    generalize (x.n.natAbs) % (y.n.natAbs * 2 ^ k) = r at *
    by_cases hs : sg x = sg y
    ·
      have hsd : (!decide (sg x = sg y)) = false := by rw [hs]; simp
      rw [if_neg (by simp [hs]), hsd] at key
      have rs := result_ok false (words q) den (Wd.words _) (by omega) (by omega) (by omega)
      rw [key] at rs
      generalize x.quo y den = z at *
      repeat' (first | (simp only [go_sem, seval, IntKind.bits.eq_def, ti, tin, e1, e2, hsd, u32s_length, e0']) | (simp (disch := omega) only [wA]) | (with_reducible first | refine cF pa ?_ | refine dF pa ?_ | refine cF pb ?_ | refine dF pb ?_ | refine cF lf ?_ | refine dF lf ?_ | refine cF dv ?_ | refine dF dv ?_ | refine cF rs ?_ | refine dF rs ?_) | refine aL ti_ok ?_ | refine dL ti_ok ?_ | refine dG ?_ | ((first | refine cC ?_ ?_ | refine gS ?_ ?_ | refine dS ?_ ?_) <;> intro hc <;> first | (exfalso; simp only [dcA] at hc; omega) | (simp only [hc]; try simp only [dcA] at hc)) | refine aO ?_ | refine dO ?_)
      exact fin_same trivial rfl
    ·
      have hsd : (!decide (sg x = sg y)) = true := by simp [hs]
      rw [hsd] at key
      by_cases hr : r = 0
      ·
        have hr0 := hz.2 hr
        rw [if_neg (by simp [hr])] at key
        have rs := result_ok true (words q) den (Wd.words _) (by omega) (by omega) (by omega)
        rw [key] at rs
        generalize x.quo y den = z at *
        repeat' (first | (simp only [go_sem, seval, IntKind.bits.eq_def, ti, tin, e1, e2, hsd, u32s_length, e0', hr0]) | (simp (disch := omega) only [wA]) | (with_reducible first | refine cF pa ?_ | refine dF pa ?_ | refine cF pb ?_ | refine dF pb ?_ | refine cF lf ?_ | refine dF lf ?_ | refine cF dv ?_ | refine dF dv ?_ | refine cF rs ?_ | refine dF rs ?_) | refine aL ti_ok ?_ | refine dL ti_ok ?_ | refine dG ?_ | ((first | refine cC ?_ ?_ | refine gS ?_ ?_ | refine dS ?_ ?_) <;> intro hc <;> first | (exfalso; simp only [dcA] at hc; omega) | (simp only [hc]; try simp only [dcA] at hc)) | refine aO ?_ | refine dO ?_)
        exact fin_same trivial rfl
      ·
        have hr0 : 0 < (words r).length := words_length_pos.2 hr
        rw [if_pos ⟨by simpa using hs, hr⟩] at key
        have ad := nat_add q 1 (by omega) (by rw [words_one]; simp)
        have la := words_add_len (a := q) (b := 1) (k := 68719484928) (by omega) (by rw [words_one]; simp)
        have rs := result_ok true (words (q + 1)) den (Wd.words _) (by omega) (by omega) (by omega)
        rw [key] at rs
        rw [u32s_one] at ad
        generalize x.quo y den = z at *
        repeat' (first | (simp only [go_sem, seval, IntKind.bits.eq_def, ti, tin, e1, e2, hsd, u32s_length, e0', hr0]) | (simp (disch := omega) only [wA]) | (with_reducible first | refine cF pa ?_ | refine dF pa ?_ | refine cF pb ?_ | refine dF pb ?_ | refine cF lf ?_ | refine dF lf ?_ | refine cF dv ?_ | refine dF dv ?_ | refine cF ad ?_ | refine dF ad ?_ | refine cF rs ?_ | refine dF rs ?_) | refine aL ti_ok ?_ | refine dL ti_ok ?_ | refine dG ?_ | ((first | refine cC ?_ ?_ | refine gS ?_ ?_ | refine dS ?_ ?_) <;> intro hc <;> first | (exfalso; simp only [dcA] at hc; omega) | (simp only [hc]; try simp only [dcA] at hc)) | refine aO ?_ | refine dO ?_)
        exact fin_same trivial rfl
end Go.Proofs.YtfmgfjmfogmeeaaGreatDoor
/- The numbers of errors. -/
set_option linter.unusedSimpArgs false
set_option linter.unusedVariables false
set_option linter.deprecated false
namespace Go.Proofs.YtfmgfjmfogmeeaaGreatDoor
open Go Go.Ax
set_option maxRecDepth 100000
set_option maxHeartbeats 2000000
end Go.Proofs.YtfmgfjmfogmeeaaGreatDoor
