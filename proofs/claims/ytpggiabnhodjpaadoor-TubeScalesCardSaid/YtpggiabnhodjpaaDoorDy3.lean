/- Layer 2 (dyadic.go), part 3: Of, Neg, Abs, Sign, Cmp. -/
import Derived.Test.YtpggiabnhodjpaaDoorDy2
set_option linter.unusedSimpArgs false
set_option linter.unusedVariables false
set_option linter.deprecated false
namespace Go.Proofs.YtpggiabnhodjpaaDoor
open Go Go.Ax
set_option maxRecDepth 100000
set_option maxHeartbeats 4000000

theorem Of_ok (n : Int) (h : -9223372036854775808 ≤ n ∧ n ≤ 9223372036854775807) : CallOK Tryd.prog gl 37 [.v (.int .i64 n)] (.agg [.v (.bool (sg (Dy.int n))), .sl 1 (u32s (ms (Dy.int n))), .v (.int .i64 (dn (Dy.int n)))]) := by
  refine call_ok (C := ⟨Tryd.prog, gl, ti, 15, false⟩) ti_ok mixed 3000 Tryd.call37 Tryd.func37 rfl Tryd.ntmps37 (by simp) byClL byCl ?_
  rw [Tryd.results37]
  have ou := ofUint_ok n.natAbs (by omega)
  have hl : (words n.natAbs).length ≤ 2 := words_length_le (by omega)
  have rs := result_ok (decide (n < 0)) (words n.natAbs) 0 (Wd.words _) (by omega) (by omega) (by omega)
  rw [res_int] at rs
  by_cases hn : n < 0
  · have e1 : IntKind.u64.wrap n = n + 18446744073709551616 := by simp only [IntKind.wrap, IntKind.bits, IntKind.signed]; simp; omega
    have e2 : IntKind.u64.wrap (0 - (n + 18446744073709551616)) = (n.natAbs : Int) := by simp only [IntKind.wrap, IntKind.bits, IntKind.signed]; simp; omega
    repeat' (first | (simp only [go_sem, Int.reduceAdd, Int.reduceEq, Int.reduceLE, Int.reduceLT, Int.reduceMul, Int.reduceNeg, Int.reducePow, Int.reduceSub, Int.reduceToNat, Nat.reduceAdd, Nat.reduceBEq, Nat.reduceEqDiff, Nat.reduceLT, Nat.reduceLeDiff, Nat.reduceMul, Nat.reducePow, Nat.reduceSub, reduceCtorEq, reduceIte, IntKind.bits.eq_def, ti, tin, e1, e2]) | (simp (disch := omega) only [w64, wu64, wu32, Nat.min_eq_left]) | (with_reducible first | refine cF (ou) ?_ | refine dF (ou) ?_) | (with_reducible first | refine cF (rs) ?_ | refine dF (rs) ?_) | (refine aL ti_ok ?_) | (refine dL ti_ok ?_) | (refine dE (by kernel_rfl) ?_) | ((first | refine cC ?_ ?_ | refine gS ?_ ?_ | refine dS ?_ ?_) <;> intro hc <;> first | (exfalso; simp only [dcT, dcF, bnT, bnF, bnU, bnV] at hc; omega) | (simp only [hc]; try simp only [dcT, dcF, bnT, bnF, bnU, bnV] at hc)) | (refine aN (by omega) ?_) | (refine dN (by omega) ?_))
    exact fin_same trivial rfl
  · have e1 : IntKind.u64.wrap n = (n.natAbs : Int) := by simp only [IntKind.wrap, IntKind.bits, IntKind.signed]; simp; omega
    repeat' (first | (simp only [go_sem, Int.reduceAdd, Int.reduceEq, Int.reduceLE, Int.reduceLT, Int.reduceMul, Int.reduceNeg, Int.reducePow, Int.reduceSub, Int.reduceToNat, Nat.reduceAdd, Nat.reduceBEq, Nat.reduceEqDiff, Nat.reduceLT, Nat.reduceLeDiff, Nat.reduceMul, Nat.reducePow, Nat.reduceSub, reduceCtorEq, reduceIte, IntKind.bits.eq_def, ti, tin, e1]) | (simp (disch := omega) only [w64, wu64, wu32, Nat.min_eq_left]) | (with_reducible first | refine cF (ou) ?_ | refine dF (ou) ?_) | (with_reducible first | refine cF (rs) ?_ | refine dF (rs) ?_) | (refine aL ti_ok ?_) | (refine dL ti_ok ?_) | (refine dE (by kernel_rfl) ?_) | ((first | refine cC ?_ ?_ | refine gS ?_ ?_ | refine dS ?_ ?_) <;> intro hc <;> first | (exfalso; simp only [dcT, dcF, bnT, bnF, bnU, bnV] at hc; omega) | (simp only [hc]; try simp only [dcT, dcF, bnT, bnF, bnU, bnV] at hc)) | (refine aN (by omega) ?_) | (refine dN (by omega) ?_))
    exact fin_same trivial rfl

theorem Neg_ok (s : Bool) (ws : List Nat) (d : Int) (x : Dy) (h : Arg s ws d x) : CallOK Tryd.prog gl 64 [.agg [.v (.bool s), .sl 1 (u32s ws), .v (.int .i64 d)]] (.agg [.v (.bool (sg (x.neg))), .sl 1 (u32s (ms (x.neg))), .v (.int .i64 (dn (x.neg)))]) := by
  refine call_ok (C := ⟨Tryd.prog, gl, ti, 17, false⟩) ti_ok mixed 3000 Tryd.call64 Tryd.func64 rfl Tryd.ntmps64 (by simp) byClL byCl ?_
  rw [Tryd.results64]
  have pa := parts_ok s ws d x h
  have hl := h.mlen
  have hd := dn_nn x
  have rs := result_ok (!sg x) (ms x) (dn x) (ms_wd x) (by omega) (by omega) (by omega)
  rw [res_neg] at rs
  repeat' (first | (simp only [go_sem, Int.reduceAdd, Int.reduceEq, Int.reduceLE, Int.reduceLT, Int.reduceMul, Int.reduceNeg, Int.reducePow, Int.reduceSub, Int.reduceToNat, Nat.reduceAdd, Nat.reduceBEq, Nat.reduceEqDiff, Nat.reduceLT, Nat.reduceLeDiff, Nat.reduceMul, Nat.reducePow, Nat.reduceSub, reduceCtorEq, reduceIte, IntKind.bits.eq_def, ti, tin]) | (simp (disch := omega) only [w64, wu64, wu32, Nat.min_eq_left]) | (with_reducible first | refine cF (pa) ?_ | refine dF (pa) ?_) | (with_reducible first | refine cF (rs) ?_ | refine dF (rs) ?_) | (refine aL ti_ok ?_) | (refine dL ti_ok ?_) | (refine dE (by kernel_rfl) ?_) | ((first | refine cC ?_ ?_ | refine gS ?_ ?_ | refine dS ?_ ?_) <;> intro hc <;> first | (exfalso; simp only [dcT, dcF, bnT, bnF, bnU, bnV] at hc; omega) | (simp only [hc]; try simp only [dcT, dcF, bnT, bnF, bnU, bnV] at hc)) | (refine aN (by omega) ?_) | (refine dN (by omega) ?_))
  exact fin_same trivial rfl

theorem Abs_ok (s : Bool) (ws : List Nat) (d : Int) (x : Dy) (h : Arg s ws d x) : CallOK Tryd.prog gl 59 [.agg [.v (.bool s), .sl 1 (u32s ws), .v (.int .i64 d)]] (.agg [.v (.bool (sg (x.abs))), .sl 1 (u32s (ms (x.abs))), .v (.int .i64 (dn (x.abs)))]) := by
  refine call_ok (C := ⟨Tryd.prog, gl, ti, 15, false⟩) ti_ok mixed 3000 Tryd.call59 Tryd.func59 rfl Tryd.ntmps59 (by simp) byClL byCl ?_
  rw [Tryd.results59]
  have pa := parts_ok s ws d x h
  have hl := h.mlen
  have hd := dn_nn x
  have rs := result_ok false (ms x) (dn x) (ms_wd x) (by omega) (by omega) (by omega)
  rw [res_abs] at rs
  repeat' (first | (simp only [go_sem, Int.reduceAdd, Int.reduceEq, Int.reduceLE, Int.reduceLT, Int.reduceMul, Int.reduceNeg, Int.reducePow, Int.reduceSub, Int.reduceToNat, Nat.reduceAdd, Nat.reduceBEq, Nat.reduceEqDiff, Nat.reduceLT, Nat.reduceLeDiff, Nat.reduceMul, Nat.reducePow, Nat.reduceSub, reduceCtorEq, reduceIte, IntKind.bits.eq_def, ti, tin]) | (simp (disch := omega) only [w64, wu64, wu32, Nat.min_eq_left]) | (with_reducible first | refine cF (pa) ?_ | refine dF (pa) ?_) | (with_reducible first | refine cF (rs) ?_ | refine dF (rs) ?_) | (refine aL ti_ok ?_) | (refine dL ti_ok ?_) | (refine dE (by kernel_rfl) ?_) | ((first | refine cC ?_ ?_ | refine gS ?_ ?_ | refine dS ?_ ?_) <;> intro hc <;> first | (exfalso; simp only [dcT, dcF, bnT, bnF, bnU, bnV] at hc; omega) | (simp only [hc]; try simp only [dcT, dcF, bnT, bnF, bnU, bnV] at hc)) | (refine aN (by omega) ?_) | (refine dN (by omega) ?_))
  exact fin_same trivial rfl

theorem Sign_ok (s : Bool) (ws : List Nat) (d : Int) (x : Dy) (h : Arg s ws d x) : CallOK Tryd.prog gl 40 [.agg [.v (.bool s), .sl 1 (u32s ws), .v (.int .i64 d)]] (.v (.int .i64 x.sign)) := by
  refine call_ok (C := ⟨Tryd.prog, gl, ti, 18, false⟩) ti_ok mixed 3000 Tryd.call40 Tryd.func40 rfl Tryd.ntmps40 (by simp) byClL byCl ?_
  rw [Tryd.results40]
  have pa := parts_ok s ws d x h
  have hl := h.mlen
  rw [sign_sg]
  by_cases h0 : x.n = 0
  · have h1 : (ms x).length = 0 := by show (words x.n.natAbs).length = 0; rw [h0, Int.natAbs_zero, words_zero]; rfl
    rw [if_pos h0]
    repeat' (first | (simp only [go_sem, Int.reduceAdd, Int.reduceEq, Int.reduceLE, Int.reduceLT, Int.reduceMul, Int.reduceNeg, Int.reducePow, Int.reduceSub, Int.reduceToNat, Nat.reduceAdd, Nat.reduceBEq, Nat.reduceEqDiff, Nat.reduceLT, Nat.reduceLeDiff, Nat.reduceMul, Nat.reducePow, Nat.reduceSub, reduceCtorEq, reduceIte, IntKind.bits.eq_def, ti, tin, u32s_length, h1]) | (simp (disch := omega) only [w64, wu64, wu32, Nat.min_eq_left]) | (with_reducible first | refine cF (pa) ?_ | refine dF (pa) ?_) | (refine aL ti_ok ?_) | (refine dL ti_ok ?_) | (refine dE (by kernel_rfl) ?_) | ((first | refine cC ?_ ?_ | refine gS ?_ ?_ | refine dS ?_ ?_) <;> intro hc <;> first | (exfalso; simp only [dcT, dcF, bnT, bnF, bnU, bnV] at hc; omega) | (simp only [hc]; try simp only [dcT, dcF, bnT, bnF, bnU, bnV] at hc)) | (refine aN (by omega) ?_) | (refine dN (by omega) ?_))
    exact fin_same trivial rfl
  · have h1 : 0 < (ms x).length := words_length_pos.2 (by omega)
    rw [if_neg h0]
    cases hs : sg x
    · rw [hs] at pa
      repeat' (first | (simp only [go_sem, Int.reduceAdd, Int.reduceEq, Int.reduceLE, Int.reduceLT, Int.reduceMul, Int.reduceNeg, Int.reducePow, Int.reduceSub, Int.reduceToNat, Nat.reduceAdd, Nat.reduceBEq, Nat.reduceEqDiff, Nat.reduceLT, Nat.reduceLeDiff, Nat.reduceMul, Nat.reducePow, Nat.reduceSub, reduceCtorEq, reduceIte, IntKind.bits.eq_def, ti, tin, u32s_length]) | (simp (disch := omega) only [w64, wu64, wu32, Nat.min_eq_left]) | (with_reducible first | refine cF (pa) ?_ | refine dF (pa) ?_) | (refine aL ti_ok ?_) | (refine dL ti_ok ?_) | (refine dE (by kernel_rfl) ?_) | ((first | refine cC ?_ ?_ | refine gS ?_ ?_ | refine dS ?_ ?_) <;> intro hc <;> first | (exfalso; simp only [dcT, dcF, bnT, bnF, bnU, bnV] at hc; omega) | (simp only [hc]; try simp only [dcT, dcF, bnT, bnF, bnU, bnV] at hc)) | (refine aN (by omega) ?_) | (refine dN (by omega) ?_))
      exact fin_same trivial rfl
    · rw [hs] at pa
      repeat' (first | (simp only [go_sem, Int.reduceAdd, Int.reduceEq, Int.reduceLE, Int.reduceLT, Int.reduceMul, Int.reduceNeg, Int.reducePow, Int.reduceSub, Int.reduceToNat, Nat.reduceAdd, Nat.reduceBEq, Nat.reduceEqDiff, Nat.reduceLT, Nat.reduceLeDiff, Nat.reduceMul, Nat.reducePow, Nat.reduceSub, reduceCtorEq, reduceIte, IntKind.bits.eq_def, ti, tin, u32s_length]) | (simp (disch := omega) only [w64, wu64, wu32, Nat.min_eq_left]) | (with_reducible first | refine cF (pa) ?_ | refine dF (pa) ?_) | (refine aL ti_ok ?_) | (refine dL ti_ok ?_) | (refine dE (by kernel_rfl) ?_) | ((first | refine cC ?_ ?_ | refine gS ?_ ?_ | refine dS ?_ ?_) <;> intro hc <;> first | (exfalso; simp only [dcT, dcF, bnT, bnF, bnU, bnV] at hc; omega) | (simp only [hc]; try simp only [dcT, dcF, bnT, bnF, bnU, bnV] at hc)) | (refine aN (by omega) ?_) | (refine dN (by omega) ?_))
      exact fin_same trivial rfl

theorem align_ok (s : Bool) (ws : List Nat) (d : Int) (s' : Bool) (ws' : List Nat) (d' : Int) (x y : Dy) (h : Arg s ws d x) (h' : Arg s' ws' d' y) : CallOK Tryd.prog gl 67 [.agg [.v (.bool s), .sl 1 (u32s ws), .v (.int .i64 d)], .agg [.v (.bool s'), .sl 1 (u32s ws'), .v (.int .i64 d')]] (.tup [.v (.bool (sg x)), .sl 1 (u32s (words (x.n.natAbs * 2 ^ (max x.d y.d - x.d)))), .v (.bool (sg y)), .sl 1 (u32s (words (y.n.natAbs * 2 ^ (max x.d y.d - y.d)))), .v (.int .i64 (((max x.d y.d : Nat) : Int)))]) := by
  refine call_ok (C := ⟨Tryd.prog, gl, ti, 39, false⟩) ti_ok mixed 3000 Tryd.call67 Tryd.func67 rfl Tryd.ntmps67 (by simp) byClL byCl ?_
  rw [Tryd.results67]
  have pa := parts_ok s ws d x h
  have pb := parts_ok s' ws' d' y h'
  have hl : (words x.n.natAbs).length ≤ _ := h.mlen
  have hl' : (words y.n.natAbs).length ≤ _ := h'.mlen
  have hd := x.ok.1
  have hd' := y.ok.1
  have e1 := max_dn x y
  have e2 : ((max x.d y.d : Nat) : Int) - dn x = ((max x.d y.d - x.d : Nat) : Int) := by unfold dn; omega
  have e3 : ((max x.d y.d : Nat) : Int) - dn y = ((max x.d y.d - y.d : Nat) : Int) := by unfold dn; omega
  have la := nat_left x.n.natAbs (max x.d y.d - x.d) (by omega) (by omega)
  have lb := nat_left y.n.natAbs (max x.d y.d - y.d) (by omega) (by omega)
  have hD : max x.d y.d ≤ 65536 := by omega
  generalize x.n.natAbs * 2 ^ (max x.d y.d - x.d) = a at *
  generalize y.n.natAbs * 2 ^ (max x.d y.d - y.d) = b at *
  have g1 : max x.d y.d - x.d ≤ 65536 := by omega
  have g2 : max x.d y.d - y.d ≤ 65536 := by omega
  generalize max x.d y.d - x.d = k at *
  generalize max x.d y.d - y.d = l at *
  generalize max x.d y.d = D at *
  repeat' (first | (simp only [go_sem, Int.reduceAdd, Int.reduceEq, Int.reduceLE, Int.reduceLT, Int.reduceMul, Int.reduceNeg, Int.reducePow, Int.reduceSub, Int.reduceToNat, Nat.reduceAdd, Nat.reduceBEq, Nat.reduceEqDiff, Nat.reduceLT, Nat.reduceLeDiff, Nat.reduceMul, Nat.reducePow, Nat.reduceSub, reduceCtorEq, reduceIte, IntKind.bits.eq_def, ti, tin, e1, e2, e3]) | (simp (disch := omega) only [w64, wu64, wu32, Nat.min_eq_left]) | (with_reducible first | refine cF (pa) ?_ | refine dF (pa) ?_) | (with_reducible first | refine cF (pb) ?_ | refine dF (pb) ?_) | (with_reducible first | refine cF (la) ?_ | refine dF (la) ?_) | (with_reducible first | refine cF (lb) ?_ | refine dF (lb) ?_) | (refine aL ti_ok ?_) | (refine dL ti_ok ?_) | (refine dE (by kernel_rfl) ?_) | ((first | refine cC ?_ ?_ | refine gS ?_ ?_ | refine dS ?_ ?_) <;> intro hc <;> first | (exfalso; simp only [dcT, dcF, bnT, bnF, bnU, bnV] at hc; omega) | (simp only [hc]; try simp only [dcT, dcF, bnT, bnF, bnU, bnV] at hc)) | (refine aN (by omega) ?_) | (refine dN (by omega) ?_))
  exact fin_same trivial rfl
end Go.Proofs.YtpggiabnhodjpaaDoor
