/- The plain arithmetic of the reference (ref02), part 8: Cmp, Min, Max, Shift, Of, Make. -/
import Derived.Test.YtdjgckcninibhaaDoorRef7
import Derived.Test.YtdjgckcninibhaaDoorU2
set_option linter.unusedSimpArgs false
set_option linter.unusedVariables false
set_option linter.deprecated false
namespace Go.Proofs.YtdjgckcninibhaaDoor
open Go Go.Ax
set_option maxRecDepth 100000
set_option maxHeartbeats 4000000

theorem add_zero (x : Dy) : x.add Dy.zero = x := Dy.ext_v (by rw [Dy.v_add, Dy.v_zero]; grind)
theorem u32s_two (n : Nat) : [[AV.v (.int .u32 (n % 4294967296 : Nat))], [AV.v (.int .u32 (n / 4294967296 : Nat))]] = u32s [n % 4294967296, n / 4294967296] := rfl
theorem ref_Of (n : Int) (h : -9223372036854775808 ≤ n ∧ n ≤ 9223372036854775807) : CallOK Tryd.prog gl 18 [.v (.int .i64 n)] (.agg [.v (.bool (sg (Dy.int n))), .sl 1 (u32s (ms (Dy.int n))), .v (.int .i64 (dn (Dy.int n)))]) := by
  refine call_ok (C := ⟨Tryd.prog, gl, ti, 22, false⟩) ti_ok mixed 3000 Tryd.call18 Tryd.func18 rfl Tryd.ntmps18 (by simp) byClL byCl ?_
  rw [Tryd.results18]
  have hv : val [n.natAbs % 4294967296, n.natAbs / 4294967296] = n.natAbs := by simp only [val]; omega
  have hq : n.natAbs / 4294967296 < 4294967296 := by omega
  have rs := ref_num (decide (n < 0)) [n.natAbs % 4294967296, n.natAbs / 4294967296] 0 (.cons (Nat.mod_lt _ (by omega)) (.cons hq .nil)) (by simp) (by omega) (by omega)
  have ri := res_int n
  rw [val_words] at ri
  rw [hv, ri, ← u32s_two] at rs
  have f1 := wrap_u32 n.natAbs
  have f2 : (n.natAbs : Int) / 4294967296 = ((n.natAbs / 4294967296 : Nat) : Int) := rfl
  have f3 := wrap_u32 (n.natAbs / 4294967296)
  rw [Nat.mod_eq_of_lt hq] at f3
  by_cases hn : n < 0
  · have e1 : IntKind.u64.wrap n = n + 18446744073709551616 := by simp only [IntKind.wrap, IntKind.bits, IntKind.signed]; simp; omega
    have e2 : (0 : Int) - (n + 1) + 1 = (n.natAbs : Int) := by omega
    clear hv ri hq
    repeat' (first | (simp only [go_sem, Int.reduceAdd, Int.reduceEq, Int.reduceLE, Int.reduceLT, Int.reduceMul, Int.reduceNeg, Int.reducePow, Int.reduceSub, Int.reduceToNat, Nat.reduceAdd, Nat.reduceBEq, Nat.reduceEqDiff, Nat.reduceLT, Nat.reduceLeDiff, Nat.reduceMul, Nat.reducePow, Nat.reduceSub, reduceCtorEq, reduceIte, IntKind.bits.eq_def, ti, tin, e1, e2, f1, f2, f3]) | (simp (disch := omega) only [w64, wu64, wu32, Nat.min_eq_left]) | (with_reducible first | refine cF (rs) ?_ | refine dF (rs) ?_) | (refine aL ti_ok ?_) | (refine dL ti_ok ?_) | (refine dE (by kernel_rfl) ?_) | ((first | refine cC ?_ ?_ | refine gS ?_ ?_ | refine dS ?_ ?_) <;> intro hc <;> first | (exfalso; simp only [dcT, dcF, bnT, bnF, bnU, bnV] at hc; omega) | (simp only [hc]; try simp only [dcT, dcF, bnT, bnF, bnU, bnV] at hc)) | (refine aN (by omega) ?_) | (refine dN (by omega) ?_))
    exact fin_same trivial rfl
  · have e1 : IntKind.u64.wrap n = (n.natAbs : Int) := by simp only [IntKind.wrap, IntKind.bits, IntKind.signed]; simp; omega
    clear hv ri hq
    repeat' (first | (simp only [go_sem, Int.reduceAdd, Int.reduceEq, Int.reduceLE, Int.reduceLT, Int.reduceMul, Int.reduceNeg, Int.reducePow, Int.reduceSub, Int.reduceToNat, Nat.reduceAdd, Nat.reduceBEq, Nat.reduceEqDiff, Nat.reduceLT, Nat.reduceLeDiff, Nat.reduceMul, Nat.reducePow, Nat.reduceSub, reduceCtorEq, reduceIte, IntKind.bits.eq_def, ti, tin, e1, f1, f2, f3]) | (simp (disch := omega) only [w64, wu64, wu32, Nat.min_eq_left]) | (with_reducible first | refine cF (rs) ?_ | refine dF (rs) ?_) | (refine aL ti_ok ?_) | (refine dL ti_ok ?_) | (refine dE (by kernel_rfl) ?_) | ((first | refine cC ?_ ?_ | refine gS ?_ ?_ | refine dS ?_ ?_) <;> intro hc <;> first | (exfalso; simp only [dcT, dcF, bnT, bnF, bnU, bnV] at hc; omega) | (simp only [hc]; try simp only [dcT, dcF, bnT, bnF, bnU, bnV] at hc)) | (refine aN (by omega) ?_) | (refine dN (by omega) ?_))
    exact fin_same trivial rfl

end Go.Proofs.YtdjgckcninibhaaDoor
