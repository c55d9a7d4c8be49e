/- Layer 2 (dyadic.go), part 5: Make, Floor, Ceil, Int. -/
import Derived.Test.YtkdpaoicekgalaaGreatDoorDy4
import Derived.Test.YtkdpaoicekgalaaGreatDoorU2
set_option linter.unusedSimpArgs false
set_option linter.unusedVariables false
set_option linter.deprecated false
namespace Go.Proofs.YtkdpaoicekgalaaGreatDoor
open Go Go.Ax
set_option maxRecDepth 100000
set_option maxHeartbeats 4000000

theorem Floor_err (s : Bool) (ws : List Nat) (d : Int) (den : Int) (hd : den < 0 ∨ 65536 < den) : CallOK Tryz.prog gl 114 [.agg [.v (.bool s), .sl 1 (u32s ws), .v (.int .i64 d)], .v (.int .i64 den)] (.tup [.agg [.v (.bool (sg (Dy.zero))), .sl 1 (u32s (ms (Dy.zero))), .v (.int .i64 (dn (Dy.zero)))], .v (.iface 80 (.int .i64 3))]) := by
  refine call_ok (C := ⟨Tryz.prog, gl, ti, 43, false⟩) ti_ok mixed 3000 Tryz.call114 Tryz.func114 rfl Tryz.ntmps114 (by simp) byClL byCl ?_
  rw [Tryz.results114]
  by_cases h0 : den < 0
  ·
    repeat' (first | (simp only [go_sem, Int.reduceAdd, Int.reduceEq, Int.reduceLE, Int.reduceLT, Int.reduceMul, Int.reduceNeg, Int.reducePow, Int.reduceSub, Int.reduceToNat, Nat.reduceAdd, Nat.reduceBEq, Nat.reduceEqDiff, Nat.reduceLT, Nat.reduceLeDiff, Nat.reduceMul, Nat.reducePow, Nat.reduceSub, reduceCtorEq, reduceIte, IntKind.bits.eq_def, ti, tin]) | (simp (disch := omega) only [w64, wu64, wu32, Nat.min_eq_left]) | (refine aL ti_ok ?_) | (refine dL ti_ok ?_) | (refine dE (by kernel_rfl) ?_) | ((first | refine cC ?_ ?_ | refine gS ?_ ?_ | refine dS ?_ ?_) <;> intro hc <;> first | (exfalso; simp only [dcT, dcF, bnT, bnF, bnU, bnV] at hc; omega) | (simp only [hc]; try simp only [dcT, dcF, bnT, bnF, bnU, bnV] at hc)) | (refine aN (by omega) ?_) | (refine dN (by omega) ?_))
    all_goals exact fin_le trivial (Le.tup (.cons Le.dy0 (.cons (.refl _) .nil)))
  ·
    have h1 : 65536 < den := by omega
    repeat' (first | (simp only [go_sem, Int.reduceAdd, Int.reduceEq, Int.reduceLE, Int.reduceLT, Int.reduceMul, Int.reduceNeg, Int.reducePow, Int.reduceSub, Int.reduceToNat, Nat.reduceAdd, Nat.reduceBEq, Nat.reduceEqDiff, Nat.reduceLT, Nat.reduceLeDiff, Nat.reduceMul, Nat.reducePow, Nat.reduceSub, reduceCtorEq, reduceIte, IntKind.bits.eq_def, ti, tin]) | (simp (disch := omega) only [w64, wu64, wu32, Nat.min_eq_left]) | (refine aL ti_ok ?_) | (refine dL ti_ok ?_) | (refine dE (by kernel_rfl) ?_) | ((first | refine cC ?_ ?_ | refine gS ?_ ?_ | refine dS ?_ ?_) <;> intro hc <;> first | (exfalso; simp only [dcT, dcF, bnT, bnF, bnU, bnV] at hc; omega) | (simp only [hc]; try simp only [dcT, dcF, bnT, bnF, bnU, bnV] at hc)) | (refine aN (by omega) ?_) | (refine dN (by omega) ?_))
    all_goals exact fin_le trivial (Le.tup (.cons Le.dy0 (.cons (.refl _) .nil)))
theorem Floor_ok (s : Bool) (ws : List Nat) (d : Int) (den : Nat) (x : Dy) (h : Arg s ws d x) (hd : den ≤ 65536) : CallOK Tryz.prog gl 114 [.agg [.v (.bool s), .sl 1 (u32s ws), .v (.int .i64 d)], .v (.int .i64 den)] (.tup [.agg [.v (.bool (sg (x.floor den))), .sl 1 (u32s (ms (x.floor den))), .v (.int .i64 (dn (x.floor den)))], .v .nilIface]) := by
  refine call_ok (C := ⟨Tryz.prog, gl, ti, 43, false⟩) ti_ok mixed 3000 Tryz.call114 Tryz.func114 rfl Tryz.ntmps114 (by simp) byClL byCl ?_
  rw [Tryz.results114]
  have pa := parts_ok s ws d x h
  have hl : (words x.n.natAbs).length ≤ _ := h.mlen
  have hl2 := h.mlen
  have hdn := dn_nn x
  have hdd : dn x = (x.d : Int) := rfl
  by_cases hc1 : x.d ≤ den
  · have rs := result_ok (sg x) (ms x) (dn x) (ms_wd x) (by omega) (by omega) (by omega)
    rw [res_self] at rs
    rw [Dy.floor_fine hc1 hd]
    repeat' (first | (simp only [go_sem, Int.reduceAdd, Int.reduceEq, Int.reduceLE, Int.reduceLT, Int.reduceMul, Int.reduceNeg, Int.reducePow, Int.reduceSub, Int.reduceToNat, Nat.reduceAdd, Nat.reduceBEq, Nat.reduceEqDiff, Nat.reduceLT, Nat.reduceLeDiff, Nat.reduceMul, Nat.reducePow, Nat.reduceSub, reduceCtorEq, reduceIte, IntKind.bits.eq_def, ti, tin]) | (simp (disch := omega) only [w64, wu64, wu32, Nat.min_eq_left]) | (with_reducible first | refine cF (pa) ?_ | refine dF (pa) ?_) | (with_reducible first | refine cF (rs) ?_ | refine dF (rs) ?_) | (refine aL ti_ok ?_) | (refine dL ti_ok ?_) | (refine dE (by kernel_rfl) ?_) | ((first | refine cC ?_ ?_ | refine gS ?_ ?_ | refine dS ?_ ?_) <;> intro hc <;> first | (exfalso; simp only [dcT, dcF, bnT, bnF, bnU, bnV] at hc; omega) | (simp only [hc]; try simp only [dcT, dcF, bnT, bnF, bnU, bnV] at hc)) | (refine aN (by omega) ?_) | (refine dN (by omega) ?_))
    exact fin_same trivial rfl
  · have key := res_floor (x := x) (den := den) (by omega)
    have ri := nat_right x.n.natAbs (x.d - den) (by omega) (by omega)
    have ld := words_div_len (a := x.n.natAbs) (b := 2 ^ (x.d - den)) (k := 68719476736) (by omega)
    have e1 : dn x - (den : Int) = ((x.d - den : Nat) : Int) := by omega
    generalize x.n.natAbs / 2 ^ (x.d - den) = m at *
    generalize x.d - den = k at *
    generalize x.floor den = y at *
    cases hs : sg x
    · rw [hs] at key pa
      rw [if_neg (by simp)] at key
      have rs := result_ok false (words m) den (Wd.words _) (by omega) (by omega) (by omega)
      rw [key] at rs
      repeat' (first | (simp only [go_sem, Int.reduceAdd, Int.reduceEq, Int.reduceLE, Int.reduceLT, Int.reduceMul, Int.reduceNeg, Int.reducePow, Int.reduceSub, Int.reduceToNat, Nat.reduceAdd, Nat.reduceBEq, Nat.reduceEqDiff, Nat.reduceLT, Nat.reduceLeDiff, Nat.reduceMul, Nat.reducePow, Nat.reduceSub, reduceCtorEq, reduceIte, IntKind.bits.eq_def, ti, tin, e1]) | (simp (disch := omega) only [w64, wu64, wu32, Nat.min_eq_left]) | (with_reducible first | refine cF (pa) ?_ | refine dF (pa) ?_) | (with_reducible first | refine cF (ri) ?_ | refine dF (ri) ?_) | (with_reducible first | refine cF (rs) ?_ | refine dF (rs) ?_) | (refine aL ti_ok ?_) | (refine dL ti_ok ?_) | (refine dE (by kernel_rfl) ?_) | ((first | refine cC ?_ ?_ | refine gS ?_ ?_ | refine dS ?_ ?_) <;> intro hc <;> first | (exfalso; simp only [dcT, dcF, bnT, bnF, bnU, bnV] at hc; omega) | (simp only [hc]; try simp only [dcT, dcF, bnT, bnF, bnU, bnV] at hc)) | (refine aN (by omega) ?_) | (refine dN (by omega) ?_))
      exact fin_same trivial rfl
    · rw [hs] at key pa
      rw [if_pos rfl] at key
      have ad := nat_add m 1 (by omega) (by rw [words_one]; simp)
      have la := words_add_len (a := m) (b := 1) (k := 68719476736) (by omega) (by rw [words_one]; simp)
      have rs := result_ok true (words (m + 1)) den (Wd.words _) (by omega) (by omega) (by omega)
      rw [key] at rs
      rw [u32s_one] at ad
      repeat' (first | (simp only [go_sem, Int.reduceAdd, Int.reduceEq, Int.reduceLE, Int.reduceLT, Int.reduceMul, Int.reduceNeg, Int.reducePow, Int.reduceSub, Int.reduceToNat, Nat.reduceAdd, Nat.reduceBEq, Nat.reduceEqDiff, Nat.reduceLT, Nat.reduceLeDiff, Nat.reduceMul, Nat.reducePow, Nat.reduceSub, reduceCtorEq, reduceIte, IntKind.bits.eq_def, ti, tin, e1]) | (simp (disch := omega) only [w64, wu64, wu32, Nat.min_eq_left]) | (with_reducible first | refine cF (pa) ?_ | refine dF (pa) ?_) | (with_reducible first | refine cF (ri) ?_ | refine dF (ri) ?_) | (with_reducible first | refine cF (ad) ?_ | refine dF (ad) ?_) | (with_reducible first | refine cF (rs) ?_ | refine dF (rs) ?_) | (refine aL ti_ok ?_) | (refine dL ti_ok ?_) | (refine dE (by kernel_rfl) ?_) | ((first | refine cC ?_ ?_ | refine gS ?_ ?_ | refine dS ?_ ?_) <;> intro hc <;> first | (exfalso; simp only [dcT, dcF, bnT, bnF, bnU, bnV] at hc; omega) | (simp only [hc]; try simp only [dcT, dcF, bnT, bnF, bnU, bnV] at hc)) | (refine aN (by omega) ?_) | (refine dN (by omega) ?_))
      exact fin_same trivial rfl

theorem Ceil_err (s : Bool) (ws : List Nat) (d : Int) (den : Int) (x : Dy) (h : Arg s ws d x) (hd : den < 0 ∨ 65536 < den) : CallOK Tryz.prog gl 115 [.agg [.v (.bool s), .sl 1 (u32s ws), .v (.int .i64 d)], .v (.int .i64 den)] (.tup [.agg [.v (.bool (sg (Dy.zero))), .sl 1 (u32s (ms (Dy.zero))), .v (.int .i64 (dn (Dy.zero)))], .v (.iface 80 (.int .i64 3))]) := by
  refine call_ok (C := ⟨Tryz.prog, gl, ti, 18, false⟩) ti_ok mixed 3000 Tryz.call115 Tryz.func115 rfl Tryz.ntmps115 (by simp) byClL byCl ?_
  rw [Tryz.results115]
  have ne := Neg_ok s ws d x h
  have fl := Floor_err (sg x.neg) (ms x.neg) (dn x.neg) den hd
  have nf := Neg_ok _ _ _ Dy.zero (Arg.of (Mg.zero 0) (by omega))
  rw [dy_neg_zero] at nf
  repeat' (first | (simp only [go_sem, Int.reduceAdd, Int.reduceEq, Int.reduceLE, Int.reduceLT, Int.reduceMul, Int.reduceNeg, Int.reducePow, Int.reduceSub, Int.reduceToNat, Nat.reduceAdd, Nat.reduceBEq, Nat.reduceEqDiff, Nat.reduceLT, Nat.reduceLeDiff, Nat.reduceMul, Nat.reducePow, Nat.reduceSub, reduceCtorEq, reduceIte, IntKind.bits.eq_def, ti, tin]) | (simp (disch := omega) only [w64, wu64, wu32, Nat.min_eq_left]) | (with_reducible first | refine cF (ne) ?_ | refine dF (ne) ?_) | (with_reducible first | refine cF (fl) ?_ | refine dF (fl) ?_) | (with_reducible first | refine cF (nf) ?_ | refine dF (nf) ?_) | (refine aL ti_ok ?_) | (refine dL ti_ok ?_) | (refine dE (by kernel_rfl) ?_) | ((first | refine cC ?_ ?_ | refine gS ?_ ?_ | refine dS ?_ ?_) <;> intro hc <;> first | (exfalso; simp only [dcT, dcF, bnT, bnF, bnU, bnV] at hc; omega) | (simp only [hc]; try simp only [dcT, dcF, bnT, bnF, bnU, bnV] at hc)) | (refine aN (by omega) ?_) | (refine dN (by omega) ?_))
  exact fin_same trivial rfl
theorem Ceil_ok (s : Bool) (ws : List Nat) (d : Int) (den : Nat) (x : Dy) (k : Nat) (h : Arg s ws d x) (hk : Mg k x) (hk2 : k ≤ 1099511627775) (hd : den ≤ 65536) : CallOK Tryz.prog gl 115 [.agg [.v (.bool s), .sl 1 (u32s ws), .v (.int .i64 d)], .v (.int .i64 den)] (.tup [.agg [.v (.bool (sg (x.ceil den))), .sl 1 (u32s (ms (x.ceil den))), .v (.int .i64 (dn (x.ceil den)))], .v .nilIface]) := by
  refine call_ok (C := ⟨Tryz.prog, gl, ti, 18, false⟩) ti_ok mixed 3000 Tryz.call115 Tryz.func115 rfl Tryz.ntmps115 (by simp) byClL byCl ?_
  rw [Tryz.results115]
  have ne := Neg_ok s ws d x h
  have fl := Floor_ok (sg x.neg) (ms x.neg) (dn x.neg) den x.neg h.neg_of hd
  have nf := Neg_ok _ _ _ (x.neg.floor den) (Arg.of (Mg.floor hk.neg) (by omega))
  repeat' (first | (simp only [go_sem, Int.reduceAdd, Int.reduceEq, Int.reduceLE, Int.reduceLT, Int.reduceMul, Int.reduceNeg, Int.reducePow, Int.reduceSub, Int.reduceToNat, Nat.reduceAdd, Nat.reduceBEq, Nat.reduceEqDiff, Nat.reduceLT, Nat.reduceLeDiff, Nat.reduceMul, Nat.reducePow, Nat.reduceSub, reduceCtorEq, reduceIte, IntKind.bits.eq_def, ti, tin]) | (simp (disch := omega) only [w64, wu64, wu32, Nat.min_eq_left]) | (with_reducible first | refine cF (ne) ?_ | refine dF (ne) ?_) | (with_reducible first | refine cF (fl) ?_ | refine dF (fl) ?_) | (with_reducible first | refine cF (nf) ?_ | refine dF (nf) ?_) | (refine aL ti_ok ?_) | (refine dL ti_ok ?_) | (refine dE (by kernel_rfl) ?_) | ((first | refine cC ?_ ?_ | refine gS ?_ ?_ | refine dS ?_ ?_) <;> intro hc <;> first | (exfalso; simp only [dcT, dcF, bnT, bnF, bnU, bnV] at hc; omega) | (simp only [hc]; try simp only [dcT, dcF, bnT, bnF, bnU, bnV] at hc)) | (refine aN (by omega) ?_) | (refine dN (by omega) ?_))
  exact fin_same trivial rfl

end Go.Proofs.YtkdpaoicekgalaaGreatDoor
