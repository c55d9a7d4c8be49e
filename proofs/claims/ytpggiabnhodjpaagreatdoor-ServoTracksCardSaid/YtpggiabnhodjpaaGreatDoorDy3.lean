/- Layer 2 (dyadic.go), part 3: Of, Neg, Abs, Sign, Cmp. -/
import Derived.Test.YtpggiabnhodjpaaGreatDoorDy2
set_option linter.unusedSimpArgs false
set_option linter.unusedVariables false
set_option linter.deprecated false
namespace Go.Proofs.YtpggiabnhodjpaaGreatDoor
open Go Go.Ax
set_option maxRecDepth 100000
set_option maxHeartbeats 4000000
theorem Of_ok (n : Int) (h : -9223372036854775808 ≤ n ∧ n ≤ 9223372036854775807) : CallOK Tryz.prog gl 58 [.v (.int .i64 n)] (.agg [.v (.bool (sg (Dy.int n))), .sl 1 (u32s (ms (Dy.int n))), .v (.int .i64 (dn (Dy.int n)))]) := by
  refine call_ok (C := ⟨Tryz.prog, gl, ti, 15, false⟩) ti_ok mixed 3000 Tryz.call58 Tryz.func58 rfl Tryz.ntmps58 (by simp) byClL byCl ?_
  rw [Tryz.results58]
  have ou := ofUint_ok n.natAbs (by omega)
  have hl : (words n.natAbs).length ≤ 2 := words_length_le (by omega)
  have rs := result_ok (decide (n < 0)) (words n.natAbs) 0 (Wd.words _) (by omega) (by omega) (by omega)
  rw [res_int] at rs
  by_cases hn : n < 0
  · have e1 : IntKind.u64.wrap n = n + 18446744073709551616 := by simp only [IntKind.wrap, IntKind.bits, IntKind.signed]; simp; omega
    have e2 : IntKind.u64.wrap (0 - (n + 18446744073709551616)) = (n.natAbs : Int) := by simp only [IntKind.wrap, IntKind.bits, IntKind.signed]; simp; omega
    repeat' (first | (simp only [go_sem, seval, IntKind.bits.eq_def, ti, tin, e1, e2]) | (simp (disch := omega) only [wA]) | (with_reducible first | refine cF ou ?_ | refine dF ou ?_ | refine cF rs ?_ | refine dF rs ?_) | refine aL ti_ok ?_ | refine dL ti_ok ?_ | refine dG ?_ | ((first | refine cC ?_ ?_ | refine gS ?_ ?_ | refine dS ?_ ?_) <;> intro hc <;> first | (exfalso; simp only [dcA] at hc; omega) | (simp only [hc]; try simp only [dcA] at hc)) | refine aO ?_ | refine dO ?_)
    exact fin_same trivial rfl
  · have e1 : IntKind.u64.wrap n = (n.natAbs : Int) := by simp only [IntKind.wrap, IntKind.bits, IntKind.signed]; simp; omega
    repeat' (first | (simp only [go_sem, seval, IntKind.bits.eq_def, ti, tin, e1]) | (simp (disch := omega) only [wA]) | (with_reducible first | refine cF ou ?_ | refine dF ou ?_ | refine cF rs ?_ | refine dF rs ?_) | refine aL ti_ok ?_ | refine dL ti_ok ?_ | refine dG ?_ | ((first | refine cC ?_ ?_ | refine gS ?_ ?_ | refine dS ?_ ?_) <;> intro hc <;> first | (exfalso; simp only [dcA] at hc; omega) | (simp only [hc]; try simp only [dcA] at hc)) | refine aO ?_ | refine dO ?_)
    exact fin_same trivial rfl
theorem Neg_ok (s : Bool) (ws : List Nat) (d : Int) (x : Dy) (h : Arg s ws d x) : CallOK Tryz.prog gl 97 [.agg [.v (.bool s), .sl 1 (u32s ws), .v (.int .i64 d)]] (.agg [.v (.bool (sg (x.neg))), .sl 1 (u32s (ms (x.neg))), .v (.int .i64 (dn (x.neg)))]) := by
  refine call_ok (C := ⟨Tryz.prog, gl, ti, 17, false⟩) ti_ok mixed 3000 Tryz.call97 Tryz.func97 rfl Tryz.ntmps97 (by simp) byClL byCl ?_
  rw [Tryz.results97]
  have pa := parts_ok s ws d x h
  have hl := h.mlen
  have hd := dn_nn x
  have rs := result_ok (!sg x) (ms x) (dn x) (ms_wd x) (by omega) (by omega) (by omega)
  rw [res_neg] at rs
  repeat' (first | (simp only [go_sem, seval, IntKind.bits.eq_def, ti, tin]) | (simp (disch := omega) only [wA]) | (with_reducible first | refine cF pa ?_ | refine dF pa ?_ | refine cF rs ?_ | refine dF rs ?_) | refine aL ti_ok ?_ | refine dL ti_ok ?_ | refine dG ?_ | ((first | refine cC ?_ ?_ | refine gS ?_ ?_ | refine dS ?_ ?_) <;> intro hc <;> first | (exfalso; simp only [dcA] at hc; omega) | (simp only [hc]; try simp only [dcA] at hc)) | refine aO ?_ | refine dO ?_)
  exact fin_same trivial rfl
theorem Abs_ok (s : Bool) (ws : List Nat) (d : Int) (x : Dy) (h : Arg s ws d x) : CallOK Tryz.prog gl 122 [.agg [.v (.bool s), .sl 1 (u32s ws), .v (.int .i64 d)]] (.agg [.v (.bool (sg (x.abs))), .sl 1 (u32s (ms (x.abs))), .v (.int .i64 (dn (x.abs)))]) := by
  refine call_ok (C := ⟨Tryz.prog, gl, ti, 15, false⟩) ti_ok mixed 3000 Tryz.call122 Tryz.func122 rfl Tryz.ntmps122 (by simp) byClL byCl ?_
  rw [Tryz.results122]
  have pa := parts_ok s ws d x h
  have hl := h.mlen
  have hd := dn_nn x
  have rs := result_ok false (ms x) (dn x) (ms_wd x) (by omega) (by omega) (by omega)
  rw [res_abs] at rs
  repeat' (first | (simp only [go_sem, seval, IntKind.bits.eq_def, ti, tin]) | (simp (disch := omega) only [wA]) | (with_reducible first | refine cF pa ?_ | refine dF pa ?_ | refine cF rs ?_ | refine dF rs ?_) | refine aL ti_ok ?_ | refine dL ti_ok ?_ | refine dG ?_ | ((first | refine cC ?_ ?_ | refine gS ?_ ?_ | refine dS ?_ ?_) <;> intro hc <;> first | (exfalso; simp only [dcA] at hc; omega) | (simp only [hc]; try simp only [dcA] at hc)) | refine aO ?_ | refine dO ?_)
  exact fin_same trivial rfl
theorem Sign_ok (s : Bool) (ws : List Nat) (d : Int) (x : Dy) (h : Arg s ws d x) : CallOK Tryz.prog gl 61 [.agg [.v (.bool s), .sl 1 (u32s ws), .v (.int .i64 d)]] (.v (.int .i64 x.sign)) := by
  refine call_ok (C := ⟨Tryz.prog, gl, ti, 18, false⟩) ti_ok mixed 3000 Tryz.call61 Tryz.func61 rfl Tryz.ntmps61 (by simp) byClL byCl ?_
  rw [Tryz.results61]
  have pa := parts_ok s ws d x h
  have hl := h.mlen
  rw [sign_sg]
  by_cases h0 : x.n = 0
  · have h1 : (ms x).length = 0 := by show (words x.n.natAbs).length = 0; rw [h0, Int.natAbs_zero, words_zero]; rfl
    rw [if_pos h0]
    repeat' (first | (simp only [go_sem, seval, IntKind.bits.eq_def, ti, tin, u32s_length, h1]) | (simp (disch := omega) only [wA]) | (with_reducible first | refine cF pa ?_ | refine dF pa ?_) | refine aL ti_ok ?_ | refine dL ti_ok ?_ | refine dG ?_ | ((first | refine cC ?_ ?_ | refine gS ?_ ?_ | refine dS ?_ ?_) <;> intro hc <;> first | (exfalso; simp only [dcA] at hc; omega) | (simp only [hc]; try simp only [dcA] at hc)) | refine aO ?_ | refine dO ?_)
    exact fin_same trivial rfl
  · have h1 : 0 < (ms x).length := words_length_pos.2 (by omega)
    rw [if_neg h0]
    cases hs : sg x
    · rw [hs] at pa
      repeat' (first | (simp only [go_sem, seval, IntKind.bits.eq_def, ti, tin, u32s_length]) | (simp (disch := omega) only [wA]) | (with_reducible first | refine cF pa ?_ | refine dF pa ?_) | refine aL ti_ok ?_ | refine dL ti_ok ?_ | refine dG ?_ | ((first | refine cC ?_ ?_ | refine gS ?_ ?_ | refine dS ?_ ?_) <;> intro hc <;> first | (exfalso; simp only [dcA] at hc; omega) | (simp only [hc]; try simp only [dcA] at hc)) | refine aO ?_ | refine dO ?_)
      exact fin_same trivial rfl
    · rw [hs] at pa
      repeat' (first | (simp only [go_sem, seval, IntKind.bits.eq_def, ti, tin, u32s_length]) | (simp (disch := omega) only [wA]) | (with_reducible first | refine cF pa ?_ | refine dF pa ?_) | refine aL ti_ok ?_ | refine dL ti_ok ?_ | refine dG ?_ | ((first | refine cC ?_ ?_ | refine gS ?_ ?_ | refine dS ?_ ?_) <;> intro hc <;> first | (exfalso; simp only [dcA] at hc; omega) | (simp only [hc]; try simp only [dcA] at hc)) | refine aO ?_ | refine dO ?_)
      exact fin_same trivial rfl
theorem align_ok (s : Bool) (ws : List Nat) (d : Int) (s' : Bool) (ws' : List Nat) (d' : Int) (x y : Dy) (h : Arg s ws d x) (h' : Arg s' ws' d' y) : CallOK Tryz.prog gl 130 [.agg [.v (.bool s), .sl 1 (u32s ws), .v (.int .i64 d)], .agg [.v (.bool s'), .sl 1 (u32s ws'), .v (.int .i64 d')]] (.tup [.v (.bool (sg x)), .sl 1 (u32s (words (x.n.natAbs * 2 ^ (max x.d y.d - x.d)))), .v (.bool (sg y)), .sl 1 (u32s (words (y.n.natAbs * 2 ^ (max x.d y.d - y.d)))), .v (.int .i64 (((max x.d y.d : Nat) : Int)))]) := by
  refine call_ok (C := ⟨Tryz.prog, gl, ti, 39, false⟩) ti_ok mixed 3000 Tryz.call130 Tryz.func130 rfl Tryz.ntmps130 (by simp) byClL byCl ?_
  rw [Tryz.results130]
  have pa := parts_ok s ws d x h
  have pb := parts_ok s' ws' d' y h'
  have hl : (words x.n.natAbs).length ≤ _ := h.mlen
  have hl' : (words y.n.natAbs).length ≤ _ := h'.mlen
  have hd := x.ok.1
  have hd' := y.ok.1
  have e1 := max_dn x y
  have e2 : ((max x.d y.d : Nat) : Int) - dn x = ((max x.d y.d - x.d : Nat) : Int) := by unfold dn; omega
  have e3 : ((max x.d y.d : Nat) : Int) - dn y = ((max x.d y.d - y.d : Nat) : Int) := by unfold dn; omega
  have la := nat_left x.n.natAbs (max x.d y.d - x.d) (by omega) (by omega)
  have lb := nat_left y.n.natAbs (max x.d y.d - y.d) (by omega) (by omega)
  have hD : max x.d y.d ≤ 65536 := by omega
  generalize x.n.natAbs * 2 ^ (max x.d y.d - x.d) = a at *
  generalize y.n.natAbs * 2 ^ (max x.d y.d - y.d) = b at *
  have g1 : max x.d y.d - x.d ≤ 65536 := by omega
  have g2 : max x.d y.d - y.d ≤ 65536 := by omega
  generalize max x.d y.d - x.d = k at *
  generalize max x.d y.d - y.d = l at *
  generalize max x.d y.d = D at *
  repeat' (first | (simp only [go_sem, seval, IntKind.bits.eq_def, ti, tin, e1, e2, e3]) | (simp (disch := omega) only [wA]) | (with_reducible first | refine cF pa ?_ | refine dF pa ?_ | refine cF pb ?_ | refine dF pb ?_ | refine cF la ?_ | refine dF la ?_ | refine cF lb ?_ | refine dF lb ?_) | refine aL ti_ok ?_ | refine dL ti_ok ?_ | refine dG ?_ | ((first | refine cC ?_ ?_ | refine gS ?_ ?_ | refine dS ?_ ?_) <;> intro hc <;> first | (exfalso; simp only [dcA] at hc; omega) | (simp only [hc]; try simp only [dcA] at hc)) | refine aO ?_ | refine dO ?_)
  exact fin_same trivial rfl
end Go.Proofs.YtpggiabnhodjpaaGreatDoor
