/- The quotient of the reference (ref02). -/
import Derived.Test.YtpggiabnhodjpaaGreatDoorQuo3
import Derived.Test.YtpggiabnhodjpaaGreatDoorDy6
import Derived.Test.YtpggiabnhodjpaaGreatDoorRef7
import Derived.Test.YtpggiabnhodjpaaGreatDoorRef5
set_option linter.unusedSimpArgs false
set_option linter.unusedVariables false
set_option linter.deprecated false
namespace Go.Proofs.YtpggiabnhodjpaaGreatDoor
open Go Go.Ax
set_option maxRecDepth 100000
set_option maxHeartbeats 4000000
theorem ref_Quo (s : Bool) (ws : List Nat) (d : Int) (s' : Bool) (ws' : List Nat) (d' : Int) (den : Nat) (hd : den ≤ 65536) (x y : Dy) (h : Arg s ws d x) (h' : Arg s' ws' d' y) (hy : y.n ≠ 0) : CallOK Tryz.prog gl 139 [.agg [.v (.bool s), .sl 1 (u32s ws), .v (.int .i64 d)], .agg [.v (.bool s'), .sl 1 (u32s ws'), .v (.int .i64 d')], .v (.int .i64 den)] (.tup [.agg [.v (.bool (sg (x.quo y den))), .sl 1 (u32s (ms (x.quo y den))), .v (.int .i64 (dn (x.quo y den)))], .v (.int .i64 0)]) := by
  refine call_ok (C := ⟨Tryz.prog, gl, ti, 59, false⟩) ti_ok mixed 3000 Tryz.call139 Tryz.func139 rfl Tryz.ntmps139 (by simp) byClL byCl ?_
  rw [Tryz.results139]
  have pa := ref_Norm _ _ _ _ h
  have pb := ref_Norm _ _ _ _ h'
  have hl : (words x.n.natAbs).length ≤ _ := h.mlen
  have hl' : (words y.n.natAbs).length ≤ _ := h'.mlen
  have hdn := dn_nn x
  have hdn' := dn_nn y
  have hdd : dn x = ((x.d : Nat) : Int) := rfl
  have hdd' : dn y = ((y.d : Nat) : Int) := rfl
  have hyn : 0 < y.n.natAbs := by omega
  have e0 : ¬ (words y.n.natAbs).length = 0 := by have := words_length_pos.2 (show y.n.natAbs ≠ 0 by omega); omega
  have e0' : ¬ ((words y.n.natAbs).length : Int) = 0 := by omega
  have e1 : (den : Int) + dn y = ((y.d + den : Nat) : Int) := by omega
  have lx := ref_left x.n.natAbs (y.d + den) (by omega) (by omega)
  have ly := ref_left y.n.natAbs x.d (by omega) (by omega)
  have llx := words_shl2 (a := x.n.natAbs) (n := y.d + den)
  have lly := words_shl2 (a := y.n.natAbs) (n := x.d)
  rw [← hdd] at ly
  have hb : 0 < y.n.natAbs * 2 ^ x.d := Nat.mul_pos hyn (Nat.pow_pos (by omega))
  have key := res_quo (x := x) (y := y) (den := den) (a := x.n.natAbs * 2 ^ (y.d + den)) (b := y.n.natAbs * 2 ^ x.d) hy (by omega) (Nat.mul_comm _ _)
  have dv := ref_divide (x.n.natAbs * 2 ^ (y.d + den)) (y.n.natAbs * 2 ^ x.d) hb _ _ rfl rfl (by omega) (by omega)
  have hq := words_div_len (a := x.n.natAbs * 2 ^ (y.d + den)) (b := y.n.natAbs * 2 ^ x.d) (k := 68719484928) (by omega)
  generalize (x.n.natAbs * 2 ^ (y.d + den)) / (y.n.natAbs * 2 ^ x.d) = q at *
  generalize (x.n.natAbs * 2 ^ (y.d + den)) % (y.n.natAbs * 2 ^ x.d) = r at *
  by_cases hs : sg x = sg y
  ·
    have hsd : (!decide (sg x = sg y)) = false := by rw [hs]; simp
    rw [if_neg (by simp [hs]), hsd] at key
    have rs := ref_num false (words q) den (Wd.words _) (by omega) (by omega) (by omega)
    rw [key] at rs
    generalize decide (r ≠ 0) = br at *
    generalize x.quo y den = z at *
    repeat' (first | (simp only [go_sem, seval, IntKind.bits.eq_def, ti, tin, e1, hsd, u32s_length, e0']) | (simp (disch := omega) only [wA]) | (with_reducible first | refine cF pa ?_ | refine dF pa ?_ | refine cF pb ?_ | refine dF pb ?_ | refine cF lx ?_ | refine dF lx ?_ | refine cF ly ?_ | refine dF ly ?_ | refine cF dv ?_ | refine dF dv ?_ | refine cF rs ?_ | refine dF rs ?_) | refine aL ti_ok ?_ | refine dL ti_ok ?_ | refine dG ?_ | ((first | refine cC ?_ ?_ | refine gS ?_ ?_ | refine dS ?_ ?_) <;> intro hc <;> first | (exfalso; simp only [dcA] at hc; omega) | (simp only [hc]; try simp only [dcA] at hc)) | refine aO ?_ | refine dO ?_)
    all_goals exact fin_same trivial rfl
  ·
    have hsd : (!decide (sg x = sg y)) = true := by simp [hs]
    rw [hsd] at key
    by_cases hr : r = 0
    ·
      rw [if_neg (by simp [hr])] at key
      rw [decide_eq_false (by omega)] at dv
      have rs := ref_num true (words q) den (Wd.words _) (by omega) (by omega) (by omega)
      rw [key] at rs
      generalize x.quo y den = z at *
      repeat' (first | (simp only [go_sem, seval, IntKind.bits.eq_def, ti, tin, e1, hsd, u32s_length, e0']) | (simp (disch := omega) only [wA]) | (with_reducible first | refine cF pa ?_ | refine dF pa ?_ | refine cF pb ?_ | refine dF pb ?_ | refine cF lx ?_ | refine dF lx ?_ | refine cF ly ?_ | refine dF ly ?_ | refine cF dv ?_ | refine dF dv ?_ | refine cF rs ?_ | refine dF rs ?_) | refine aL ti_ok ?_ | refine dL ti_ok ?_ | refine dG ?_ | ((first | refine cC ?_ ?_ | refine gS ?_ ?_ | refine dS ?_ ?_) <;> intro hc <;> first | (exfalso; simp only [dcA] at hc; omega) | (simp only [hc]; try simp only [dcA] at hc)) | refine aO ?_ | refine dO ?_)
      all_goals exact fin_same trivial rfl
    ·
      rw [if_pos ⟨by simpa using hs, hr⟩] at key
      rw [decide_eq_true hr] at dv
      have ad := ref_plus q 1 (by omega) (by rw [words_one]; simp)
      have la := words_add_len (a := q) (b := 1) (k := 68719484928) (by omega) (by rw [words_one]; simp)
      have rs := ref_num true (words (q + 1)) den (Wd.words _) (by omega) (by omega) (by omega)
      rw [key] at rs
      rw [u32s_one] at ad
      generalize x.quo y den = z at *
      repeat' (first | (simp only [go_sem, seval, IntKind.bits.eq_def, ti, tin, e1, hsd, u32s_length, e0']) | (simp (disch := omega) only [wA]) | (with_reducible first | refine cF pa ?_ | refine dF pa ?_ | refine cF pb ?_ | refine dF pb ?_ | refine cF lx ?_ | refine dF lx ?_ | refine cF ly ?_ | refine dF ly ?_ | refine cF dv ?_ | refine dF dv ?_ | refine cF ad ?_ | refine dF ad ?_ | refine cF rs ?_ | refine dF rs ?_) | refine aL ti_ok ?_ | refine dL ti_ok ?_ | refine dG ?_ | ((first | refine cC ?_ ?_ | refine gS ?_ ?_ | refine dS ?_ ?_) <;> intro hc <;> first | (exfalso; simp only [dcA] at hc; omega) | (simp only [hc]; try simp only [dcA] at hc)) | refine aO ?_ | refine dO ?_)
      all_goals exact fin_same trivial rfl
end Go.Proofs.YtpggiabnhodjpaaGreatDoor
