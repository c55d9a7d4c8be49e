/- The plain arithmetic of the reference (ref02), part 7: sums and orders. -/
import Derived.Test.YtpggiabnhodjpaaDoorRef6
import Derived.Test.YtpggiabnhodjpaaDoorU2
set_option linter.unusedSimpArgs false
set_option linter.unusedVariables false
set_option linter.deprecated false
namespace Go.Proofs.YtpggiabnhodjpaaDoor
open Go Go.Ax
set_option maxRecDepth 100000
set_option maxHeartbeats 4000000

theorem ref_num (s : Bool) (ws : List Nat) (den : Int) (hW : Wd ws) (hl : ws.length ≤ 1099511627776) (h0 : 0 ≤ den) (h1 : den ≤ 549755813888) : CallOK Tryd.prog gl 29 [.v (.bool s), .sl 1 (u32s ws), .v (.int .i64 den)] (.agg [.v (.bool (sg (nrm (sgn s (val ws)) den.toNat))), .sl 1 (u32s (ms (nrm (sgn s (val ws)) den.toNat))), .v (.int .i64 (dn (nrm (sgn s (val ws)) den.toNat)))]) := by
  obtain ⟨e, rfl⟩ : ∃ e : Nat, den = e := ⟨den.toNat, by omega⟩
  rw [Int.toNat_natCast]
  exact ref_number s ws e hW hl (by omega)

theorem ref_Norm (s : Bool) (ws : List Nat) (d : Int) (x : Dy) (h : Arg s ws d x) : CallOK Tryd.prog gl 28 [.agg [.v (.bool s), .sl 1 (u32s ws), .v (.int .i64 d)]] (.agg [.v (.bool (sg (x))), .sl 1 (u32s (ms (x))), .v (.int .i64 (dn (x)))]) := by
  refine call_ok (C := ⟨Tryd.prog, gl, ti, 7, false⟩) ti_ok mixed 3000 Tryd.call28 Tryd.func28 rfl Tryd.ntmps28 (by simp) byClL byCl ?_
  rw [Tryd.results28]
  have va := ref_Valid s ws d (by have := h.len; omega)
  rcases h.is with ⟨hv, rfl, h2, rfl⟩ | ⟨hv, rfl⟩
  · subst h2
    rw [hv] at va
    repeat' (first | (simp only [go_sem, Int.reduceAdd, Int.reduceEq, Int.reduceLE, Int.reduceLT, Int.reduceMul, Int.reduceNeg, Int.reducePow, Int.reduceSub, Int.reduceToNat, Nat.reduceAdd, Nat.reduceBEq, Nat.reduceEqDiff, Nat.reduceLT, Nat.reduceLeDiff, Nat.reduceMul, Nat.reducePow, Nat.reduceSub, reduceCtorEq, reduceIte, IntKind.bits.eq_def, ti, tin]) | (simp (disch := omega) only [w64, wu64, wu32, Nat.min_eq_left]) | (with_reducible first | refine cF (va) ?_ | refine dF (va) ?_) | (refine aL ti_ok ?_) | (refine dL ti_ok ?_) | (refine dE (by kernel_rfl) ?_) | ((first | refine cC ?_ ?_ | refine gS ?_ ?_ | refine dS ?_ ?_) <;> intro hc <;> first | (exfalso; simp only [dcT, dcF, bnT, bnF, bnU, bnV] at hc; omega) | (simp only [hc]; try simp only [dcT, dcF, bnT, bnF, bnU, bnV] at hc)) | (refine aN (by omega) ?_) | (refine dN (by omega) ?_))
    exact fin_same trivial rfl
  · rw [hv] at va
    repeat' (first | (simp only [go_sem, Int.reduceAdd, Int.reduceEq, Int.reduceLE, Int.reduceLT, Int.reduceMul, Int.reduceNeg, Int.reducePow, Int.reduceSub, Int.reduceToNat, Nat.reduceAdd, Nat.reduceBEq, Nat.reduceEqDiff, Nat.reduceLT, Nat.reduceLeDiff, Nat.reduceMul, Nat.reducePow, Nat.reduceSub, reduceCtorEq, reduceIte, IntKind.bits.eq_def, ti, tin]) | (simp (disch := omega) only [w64, wu64, wu32, Nat.min_eq_left]) | (with_reducible first | refine cF (va) ?_ | refine dF (va) ?_) | (refine aL ti_ok ?_) | (refine dL ti_ok ?_) | (refine dE (by kernel_rfl) ?_) | ((first | refine cC ?_ ?_ | refine gS ?_ ?_ | refine dS ?_ ?_) <;> intro hc <;> first | (exfalso; simp only [dcT, dcF, bnT, bnF, bnU, bnV] at hc; omega) | (simp only [hc]; try simp only [dcT, dcF, bnT, bnF, bnU, bnV] at hc)) | (refine aN (by omega) ?_) | (refine dN (by omega) ?_))
    exact fin_le trivial Le.dy0
theorem ref_Abs (s : Bool) (ws : List Nat) (d : Int) (x : Dy) (h : Arg s ws d x) : CallOK Tryd.prog gl 10 [.agg [.v (.bool s), .sl 1 (u32s ws), .v (.int .i64 d)]] (.agg [.v (.bool (sg (x.abs))), .sl 1 (u32s (ms (x.abs))), .v (.int .i64 (dn (x.abs)))]) := by
  refine call_ok (C := ⟨Tryd.prog, gl, ti, 10, false⟩) ti_ok mixed 3000 Tryd.call10 Tryd.func10 rfl Tryd.ntmps10 (by simp) byClL byCl ?_
  rw [Tryd.results10]
  have pa := ref_Norm s ws d x h
  have hl := h.mlen
  have hd := dn_nn x
  have rs := ref_num false (ms x) (dn x) (ms_wd x) (by omega) (by omega) (by omega)
  rw [res_abs] at rs
  repeat' (first | (simp only [go_sem, Int.reduceAdd, Int.reduceEq, Int.reduceLE, Int.reduceLT, Int.reduceMul, Int.reduceNeg, Int.reducePow, Int.reduceSub, Int.reduceToNat, Nat.reduceAdd, Nat.reduceBEq, Nat.reduceEqDiff, Nat.reduceLT, Nat.reduceLeDiff, Nat.reduceMul, Nat.reducePow, Nat.reduceSub, reduceCtorEq, reduceIte, IntKind.bits.eq_def, ti, tin]) | (simp (disch := omega) only [w64, wu64, wu32, Nat.min_eq_left]) | (with_reducible first | refine cF (pa) ?_ | refine dF (pa) ?_) | (with_reducible first | refine cF (rs) ?_ | refine dF (rs) ?_) | (refine aL ti_ok ?_) | (refine dL ti_ok ?_) | (refine dE (by kernel_rfl) ?_) | ((first | refine cC ?_ ?_ | refine gS ?_ ?_ | refine dS ?_ ?_) <;> intro hc <;> first | (exfalso; simp only [dcT, dcF, bnT, bnF, bnU, bnV] at hc; omega) | (simp only [hc]; try simp only [dcT, dcF, bnT, bnF, bnU, bnV] at hc)) | (refine aN (by omega) ?_) | (refine dN (by omega) ?_))
  exact fin_same trivial rfl

theorem ref_Sign (s : Bool) (ws : List Nat) (d : Int) (x : Dy) (h : Arg s ws d x) : CallOK Tryd.prog gl 49 [.agg [.v (.bool s), .sl 1 (u32s ws), .v (.int .i64 d)]] (.v (.int .i64 x.sign)) := by
  refine call_ok (C := ⟨Tryd.prog, gl, ti, 11, false⟩) ti_ok mixed 3000 Tryd.call49 Tryd.func49 rfl Tryd.ntmps49 (by simp) byClL byCl ?_
  rw [Tryd.results49]
  have pa := ref_Norm s ws d x h
  have hl := h.mlen
  rw [sign_sg]
  by_cases h0 : x.n = 0
  · have h1 : (ms x).length = 0 := by show (words x.n.natAbs).length = 0; rw [h0, Int.natAbs_zero, words_zero]; rfl
    rw [if_pos h0]
    repeat' (first | (simp only [go_sem, Int.reduceAdd, Int.reduceEq, Int.reduceLE, Int.reduceLT, Int.reduceMul, Int.reduceNeg, Int.reducePow, Int.reduceSub, Int.reduceToNat, Nat.reduceAdd, Nat.reduceBEq, Nat.reduceEqDiff, Nat.reduceLT, Nat.reduceLeDiff, Nat.reduceMul, Nat.reducePow, Nat.reduceSub, reduceCtorEq, reduceIte, IntKind.bits.eq_def, ti, tin, u32s_length, h1]) | (simp (disch := omega) only [w64, wu64, wu32, Nat.min_eq_left]) | (with_reducible first | refine cF (pa) ?_ | refine dF (pa) ?_) | (refine aL ti_ok ?_) | (refine dL ti_ok ?_) | (refine dE (by kernel_rfl) ?_) | ((first | refine cC ?_ ?_ | refine gS ?_ ?_ | refine dS ?_ ?_) <;> intro hc <;> first | (exfalso; simp only [dcT, dcF, bnT, bnF, bnU, bnV] at hc; omega) | (simp only [hc]; try simp only [dcT, dcF, bnT, bnF, bnU, bnV] at hc)) | (refine aN (by omega) ?_) | (refine dN (by omega) ?_))
    exact fin_same trivial rfl
  · have h1 : 0 < (ms x).length := words_length_pos.2 (by omega)
    have h1' : ¬ ((ms x).length : Int) = 0 := by omega
    rw [if_neg h0]
    cases hs : sg x
    · rw [hs] at pa
      repeat' (first | (simp only [go_sem, Int.reduceAdd, Int.reduceEq, Int.reduceLE, Int.reduceLT, Int.reduceMul, Int.reduceNeg, Int.reducePow, Int.reduceSub, Int.reduceToNat, Nat.reduceAdd, Nat.reduceBEq, Nat.reduceEqDiff, Nat.reduceLT, Nat.reduceLeDiff, Nat.reduceMul, Nat.reducePow, Nat.reduceSub, reduceCtorEq, reduceIte, IntKind.bits.eq_def, ti, tin, u32s_length, h1']) | (simp (disch := omega) only [w64, wu64, wu32, Nat.min_eq_left]) | (with_reducible first | refine cF (pa) ?_ | refine dF (pa) ?_) | (refine aL ti_ok ?_) | (refine dL ti_ok ?_) | (refine dE (by kernel_rfl) ?_) | ((first | refine cC ?_ ?_ | refine gS ?_ ?_ | refine dS ?_ ?_) <;> intro hc <;> first | (exfalso; simp only [dcT, dcF, bnT, bnF, bnU, bnV] at hc; omega) | (simp only [hc]; try simp only [dcT, dcF, bnT, bnF, bnU, bnV] at hc)) | (refine aN (by omega) ?_) | (refine dN (by omega) ?_))
      exact fin_same trivial rfl
    · rw [hs] at pa
      repeat' (first | (simp only [go_sem, Int.reduceAdd, Int.reduceEq, Int.reduceLE, Int.reduceLT, Int.reduceMul, Int.reduceNeg, Int.reducePow, Int.reduceSub, Int.reduceToNat, Nat.reduceAdd, Nat.reduceBEq, Nat.reduceEqDiff, Nat.reduceLT, Nat.reduceLeDiff, Nat.reduceMul, Nat.reducePow, Nat.reduceSub, reduceCtorEq, reduceIte, IntKind.bits.eq_def, ti, tin, u32s_length, h1']) | (simp (disch := omega) only [w64, wu64, wu32, Nat.min_eq_left]) | (with_reducible first | refine cF (pa) ?_ | refine dF (pa) ?_) | (refine aL ti_ok ?_) | (refine dL ti_ok ?_) | (refine dE (by kernel_rfl) ?_) | ((first | refine cC ?_ ?_ | refine gS ?_ ?_ | refine dS ?_ ?_) <;> intro hc <;> first | (exfalso; simp only [dcT, dcF, bnT, bnF, bnU, bnV] at hc; omega) | (simp only [hc]; try simp only [dcT, dcF, bnT, bnF, bnU, bnV] at hc)) | (refine aN (by omega) ?_) | (refine dN (by omega) ?_))
      exact fin_same trivial rfl

end Go.Proofs.YtpggiabnhodjpaaDoor
/- The plain arithmetic of the reference (ref02), part 8: Cmp, Min, Max, Shift, Of, Make. -/
set_option linter.unusedSimpArgs false
set_option linter.unusedVariables false
set_option linter.deprecated false
namespace Go.Proofs.YtpggiabnhodjpaaDoor
open Go Go.Ax
set_option maxRecDepth 100000
set_option maxHeartbeats 4000000

theorem add_zero (x : Dy) : x.add Dy.zero = x := Dy.ext_v (by rw [Dy.v_add, Dy.v_zero]; grind)
theorem u32s_two (n : Nat) : [[AV.v (.int .u32 (n % 4294967296 : Nat))], [AV.v (.int .u32 (n / 4294967296 : Nat))]] = u32s [n % 4294967296, n / 4294967296] := rfl
theorem ref_Of (n : Int) (h : -9223372036854775808 ≤ n ∧ n ≤ 9223372036854775807) : CallOK Tryd.prog gl 14 [.v (.int .i64 n)] (.agg [.v (.bool (sg (Dy.int n))), .sl 1 (u32s (ms (Dy.int n))), .v (.int .i64 (dn (Dy.int n)))]) := by
  refine call_ok (C := ⟨Tryd.prog, gl, ti, 22, false⟩) ti_ok mixed 3000 Tryd.call14 Tryd.func14 rfl Tryd.ntmps14 (by simp) byClL byCl ?_
  rw [Tryd.results14]
  have hv : val [n.natAbs % 4294967296, n.natAbs / 4294967296] = n.natAbs := by simp only [val]; omega
  have hq : n.natAbs / 4294967296 < 4294967296 := by omega
  have rs := ref_num (decide (n < 0)) [n.natAbs % 4294967296, n.natAbs / 4294967296] 0 (.cons (Nat.mod_lt _ (by omega)) (.cons hq .nil)) (by simp) (by omega) (by omega)
  have ri := res_int n
  rw [val_words] at ri
  rw [hv, ri, ← u32s_two] at rs
  have f1 := wrap_u32 n.natAbs
  have f2 : (n.natAbs : Int) / 4294967296 = ((n.natAbs / 4294967296 : Nat) : Int) := rfl
  have f3 := wrap_u32 (n.natAbs / 4294967296)
  rw [Nat.mod_eq_of_lt hq] at f3
  by_cases hn : n < 0
  · have e1 : IntKind.u64.wrap n = n + 18446744073709551616 := by simp only [IntKind.wrap, IntKind.bits, IntKind.signed]; simp; omega
    have e2 : (0 : Int) - (n + 1) + 1 = (n.natAbs : Int) := by omega
    clear hv ri hq
    repeat' (first | (simp only [go_sem, Int.reduceAdd, Int.reduceEq, Int.reduceLE, Int.reduceLT, Int.reduceMul, Int.reduceNeg, Int.reducePow, Int.reduceSub, Int.reduceToNat, Nat.reduceAdd, Nat.reduceBEq, Nat.reduceEqDiff, Nat.reduceLT, Nat.reduceLeDiff, Nat.reduceMul, Nat.reducePow, Nat.reduceSub, reduceCtorEq, reduceIte, IntKind.bits.eq_def, ti, tin, e1, e2, f1, f2, f3]) | (simp (disch := omega) only [w64, wu64, wu32, Nat.min_eq_left]) | (with_reducible first | refine cF (rs) ?_ | refine dF (rs) ?_) | (refine aL ti_ok ?_) | (refine dL ti_ok ?_) | (refine dE (by kernel_rfl) ?_) | ((first | refine cC ?_ ?_ | refine gS ?_ ?_ | refine dS ?_ ?_) <;> intro hc <;> first | (exfalso; simp only [dcT, dcF, bnT, bnF, bnU, bnV] at hc; omega) | (simp only [hc]; try simp only [dcT, dcF, bnT, bnF, bnU, bnV] at hc)) | (refine aN (by omega) ?_) | (refine dN (by omega) ?_))
    exact fin_same trivial rfl
  · have e1 : IntKind.u64.wrap n = (n.natAbs : Int) := by simp only [IntKind.wrap, IntKind.bits, IntKind.signed]; simp; omega
    clear hv ri hq
    repeat' (first | (simp only [go_sem, Int.reduceAdd, Int.reduceEq, Int.reduceLE, Int.reduceLT, Int.reduceMul, Int.reduceNeg, Int.reducePow, Int.reduceSub, Int.reduceToNat, Nat.reduceAdd, Nat.reduceBEq, Nat.reduceEqDiff, Nat.reduceLT, Nat.reduceLeDiff, Nat.reduceMul, Nat.reducePow, Nat.reduceSub, reduceCtorEq, reduceIte, IntKind.bits.eq_def, ti, tin, e1, f1, f2, f3]) | (simp (disch := omega) only [w64, wu64, wu32, Nat.min_eq_left]) | (with_reducible first | refine cF (rs) ?_ | refine dF (rs) ?_) | (refine aL ti_ok ?_) | (refine dL ti_ok ?_) | (refine dE (by kernel_rfl) ?_) | ((first | refine cC ?_ ?_ | refine gS ?_ ?_ | refine dS ?_ ?_) <;> intro hc <;> first | (exfalso; simp only [dcT, dcF, bnT, bnF, bnU, bnV] at hc; omega) | (simp only [hc]; try simp only [dcT, dcF, bnT, bnF, bnU, bnV] at hc)) | (refine aN (by omega) ?_) | (refine dN (by omega) ?_))
    exact fin_same trivial rfl

theorem ref_Make (n : Int) (den : Nat) (hn : -9223372036854775808 ≤ n ∧ n ≤ 9223372036854775807) (hd : den ≤ 65536) : CallOK Tryd.prog gl 30 [.v (.int .i64 n), .v (.int .i64 den)] (.tup [.agg [.v (.bool (sg (nrm n den))), .sl 1 (u32s (ms (nrm n den))), .v (.int .i64 (dn (nrm n den)))], .v (.int .i64 0)]) := by
  refine call_ok (C := ⟨Tryd.prog, gl, ti, 22, false⟩) ti_ok mixed 3000 Tryd.call30 Tryd.func30 rfl Tryd.ntmps30 (by simp) byClL byCl ?_
  rw [Tryd.results30]
  have oo := ref_Of n hn
  have hl : (ms (Dy.int n)).length ≤ 2 := words_length_le (by show n.natAbs < _; omega)
  have rs := ref_num (sg (Dy.int n)) (ms (Dy.int n)) den (ms_wd _) (by omega) (by omega) (by omega)
  rw [Int.toNat_natCast, res_make] at rs
  repeat' (first | (simp only [go_sem, Int.reduceAdd, Int.reduceEq, Int.reduceLE, Int.reduceLT, Int.reduceMul, Int.reduceNeg, Int.reducePow, Int.reduceSub, Int.reduceToNat, Nat.reduceAdd, Nat.reduceBEq, Nat.reduceEqDiff, Nat.reduceLT, Nat.reduceLeDiff, Nat.reduceMul, Nat.reducePow, Nat.reduceSub, reduceCtorEq, reduceIte, IntKind.bits.eq_def, ti, tin]) | (simp (disch := omega) only [w64, wu64, wu32, Nat.min_eq_left]) | (with_reducible first | refine cF (oo) ?_ | refine dF (oo) ?_) | (with_reducible first | refine cF (rs) ?_ | refine dF (rs) ?_) | (refine aL ti_ok ?_) | (refine dL ti_ok ?_) | (refine dE (by kernel_rfl) ?_) | ((first | refine cC ?_ ?_ | refine gS ?_ ?_ | refine dS ?_ ?_) <;> intro hc <;> first | (exfalso; simp only [dcT, dcF, bnT, bnF, bnU, bnV] at hc; omega) | (simp only [hc]; try simp only [dcT, dcF, bnT, bnF, bnU, bnV] at hc)) | (refine aN (by omega) ?_) | (refine dN (by omega) ?_))
  exact fin_same trivial rfl
end Go.Proofs.YtpggiabnhodjpaaDoor
/- The plain arithmetic of the reference (ref02), part 9: Shift, Same. -/
set_option linter.unusedSimpArgs false
set_option linter.unusedVariables false
set_option linter.deprecated false
namespace Go.Proofs.YtpggiabnhodjpaaDoor
open Go Go.Ax
set_option maxRecDepth 100000
set_option maxHeartbeats 4000000

end Go.Proofs.YtpggiabnhodjpaaDoor
