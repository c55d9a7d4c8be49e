/- The plain arithmetic of the reference (ref02), part 14: Int. -/
import Derived.Test.YtppdgooakleakaaDoorRefD
import Derived.Test.YtppdgooakleakaaDoorDy5
set_option linter.unusedSimpArgs false
set_option linter.unusedVariables false
set_option linter.deprecated false
namespace Go.Proofs.YtppdgooakleakaaDoor
open Go Go.Ax
set_option maxRecDepth 100000
set_option maxHeartbeats 4000000

theorem ref_Int_no (s : Bool) (ws : List Nat) (d : Int) (x : Dy) (h : Arg s ws d x) (h0 : x.d ≠ 0 ∨ 2 < (ms x).length) : CallOK Tryd.prog gl 49 [.agg [.v (.bool s), .sl 1 (u32s ws), .v (.int .i64 d)]] (.tup [.v (.int .i64 0), .v (.bool (false))]) := by
  refine call_ok (C := ⟨Tryd.prog, gl, ti, 47, false⟩) ti_ok mixed 3000 Tryd.call49 Tryd.func49 rfl Tryd.ntmps49 (by simp) byClL byCl ?_
  rw [Tryd.results49]
  have pa := ref_Norm s ws d x h
  have hl2 := h.mlen
  have hdn := dn_nn x
  have hdd : dn x = (x.d : Int) := rfl
  by_cases h1 : x.d = 0
  · have ed : dn x = 0 := by omega
    rw [ed] at pa
    have h2 : 2 < (ms x).length := by omega
    repeat' (first
      | (simp only [go_sem, Int.reduceAdd, Int.reduceEq, Int.reduceLE, Int.reduceLT, Int.reduceMul, Int.reduceNeg, Int.reducePow, Int.reduceSub, Int.reduceToNat, Nat.reduceAdd, Nat.reduceBEq, Nat.reduceEqDiff, Nat.reduceLT, Nat.reduceLeDiff, Nat.reduceMul, Nat.reducePow, Nat.reduceSub, reduceCtorEq, reduceIte, IntKind.bits.eq_def, ti, tin, u32s_length])
      | (simp (disch := omega) only [w64, wu64, wu32, Nat.min_eq_left])
      | (with_reducible refine callF_of (pa) ?_)
      | (with_reducible refine drawF_of (pa) ?_)
      | (refine after_lit ti_ok ?_)
      | (refine drawAfter_lit ti_ok ?_)
      | (refine drawEnd_of (by kernel_rfl) ?_)
      | ((first | refine cond_cases (fun hc => ?_) (fun hc => ?_) | refine guard_split (fun hc => ?_) (fun hc => ?_) | refine drawGuard_split (fun hc => ?_) (fun hc => ?_)) <;> first | (exfalso; simp only [decide_eq_true_eq, decide_eq_false_iff_not, Bool.not_eq_true, Bool.not_eq_false, Bool.not_eq_true', Bool.not_eq_false'] at hc; omega) | (simp only [hc]; try simp only [decide_eq_true_eq, decide_eq_false_iff_not, Bool.not_eq_true, Bool.not_eq_false, Bool.not_eq_true', Bool.not_eq_false'] at hc))
      | (refine after_need (by omega) ?_)
      | (refine drawAfter_need (by omega) ?_))
    all_goals exact fin_same trivial rfl
  ·
    repeat' (first
      | (simp only [go_sem, Int.reduceAdd, Int.reduceEq, Int.reduceLE, Int.reduceLT, Int.reduceMul, Int.reduceNeg, Int.reducePow, Int.reduceSub, Int.reduceToNat, Nat.reduceAdd, Nat.reduceBEq, Nat.reduceEqDiff, Nat.reduceLT, Nat.reduceLeDiff, Nat.reduceMul, Nat.reducePow, Nat.reduceSub, reduceCtorEq, reduceIte, IntKind.bits.eq_def, ti, tin, u32s_length])
      | (simp (disch := omega) only [w64, wu64, wu32, Nat.min_eq_left])
      | (with_reducible refine callF_of (pa) ?_)
      | (with_reducible refine drawF_of (pa) ?_)
      | (refine after_lit ti_ok ?_)
      | (refine drawAfter_lit ti_ok ?_)
      | (refine drawEnd_of (by kernel_rfl) ?_)
      | ((first | refine cond_cases (fun hc => ?_) (fun hc => ?_) | refine guard_split (fun hc => ?_) (fun hc => ?_) | refine drawGuard_split (fun hc => ?_) (fun hc => ?_)) <;> first | (exfalso; simp only [decide_eq_true_eq, decide_eq_false_iff_not, Bool.not_eq_true, Bool.not_eq_false, Bool.not_eq_true', Bool.not_eq_false'] at hc; omega) | (simp only [hc]; try simp only [decide_eq_true_eq, decide_eq_false_iff_not, Bool.not_eq_true, Bool.not_eq_false, Bool.not_eq_true', Bool.not_eq_false'] at hc))
      | (refine after_need (by omega) ?_)
      | (refine drawAfter_need (by omega) ?_))
    all_goals exact fin_same trivial rfl
theorem ref_Int_neg (s : Bool) (ws : List Nat) (d : Int) (x : Dy) (h : Arg s ws d x) (hd0 : x.d = 0) (hl : (ms x).length ≤ 2) (hn : x.n < 0) (hf : -9223372036854775808 ≤ x.n) : CallOK Tryd.prog gl 49 [.agg [.v (.bool s), .sl 1 (u32s ws), .v (.int .i64 d)]] (.tup [.v (.int .i64 (x.n)), .v (.bool (true))]) := by
  refine call_ok (C := ⟨Tryd.prog, gl, ti, 47, false⟩) ti_ok mixed 3000 Tryd.call49 Tryd.func49 rfl Tryd.ntmps49 (by simp) byClL byCl ?_
  rw [Tryd.results49]
  have pa := ref_Norm s ws d x h
  have ed : dn x = 0 := by show (x.d : Int) = 0; omega
  rw [ed] at pa
  have hv := ms_val x
  have hW := ms_wd x
  have hsg : sg x = decide (x.n < 0) := rfl
  clear h
  generalize ms x = qs at *
  rcases qs with _ | ⟨w, _ | ⟨v, _ | ⟨u, qs⟩⟩⟩
  ·
    have hv : 0 = x.n.natAbs := hv
    omega
  ·
    have hw : w < 4294967296 := hW w (by simp)
    have e := or_word (a := 0) (b := w) (by omega) hw
    rw [Nat.zero_mul, Nat.zero_add] at e
    have e : bOr .u64 0 (w : Int) = (w : Int) := e
    have ev : val [w] = w := by simp [val]
    have lu : u32s [w] = [[AV.v (.int .u32 (w : Nat))]] := rfl
    rw [ev] at hv
    rw [decide_eq_true hn] at hsg
    rw [hsg] at pa
    have f1 : IntKind.i64.wrap (((w : Nat) : Int) - 1) = ((w : Nat) : Int) - 1 := w64 (by omega)
    have f2 : (0 : Int) - (((w : Nat) : Int) - 1) - 1 = x.n := by omega
    repeat' (first
      | (simp only [go_sem, Int.reduceAdd, Int.reduceEq, Int.reduceLE, Int.reduceLT, Int.reduceMul, Int.reduceNeg, Int.reducePow, Int.reduceSub, Int.reduceToNat, Nat.reduceAdd, Nat.reduceBEq, Nat.reduceEqDiff, Nat.reduceLT, Nat.reduceLeDiff, Nat.reduceMul, Nat.reducePow, Nat.reduceSub, reduceCtorEq, reduceIte, IntKind.bits.eq_def, ti, tin, lu, e, Int.natCast_one, Int.cast_ofNat_Int, f1, f2])
      | (simp (disch := omega) only [w64, wu64, wu32, Nat.min_eq_left])
      | (refine l_unroll 2 _ rfl ?_)
      | (with_reducible refine callF_of (pa) ?_)
      | (with_reducible refine drawF_of (pa) ?_)
      | (refine after_lit ti_ok ?_)
      | (refine drawAfter_lit ti_ok ?_)
      | (refine drawEnd_of (by kernel_rfl) ?_)
      | ((first | refine cond_cases (fun hc => ?_) (fun hc => ?_) | refine guard_split (fun hc => ?_) (fun hc => ?_) | refine drawGuard_split (fun hc => ?_) (fun hc => ?_)) <;> first | (exfalso; simp only [decide_eq_true_eq, decide_eq_false_iff_not, Bool.not_eq_true, Bool.not_eq_false, Bool.not_eq_true', Bool.not_eq_false'] at hc; omega) | (simp only [hc]; try simp only [decide_eq_true_eq, decide_eq_false_iff_not, Bool.not_eq_true, Bool.not_eq_false, Bool.not_eq_true', Bool.not_eq_false'] at hc))
      | (refine after_need (by omega) ?_)
      | (refine drawAfter_need (by omega) ?_))
    all_goals exact fin_same trivial rfl
  ·
    have hw : w < 4294967296 := hW w (by simp)
    have hv0 : v < 4294967296 := hW v (by simp)
    have e := or_word (a := 0) (b := v) (by omega) hv0
    rw [Nat.zero_mul, Nat.zero_add] at e
    have e : bOr .u64 0 (v : Int) = (v : Int) := e
    have e2 := or_word (a := v) (b := w) hv0 hw
    have e3 : (v : Int) * 4294967296 = ((v * 4294967296 : Nat) : Int) := by omega
    have ev : val [w, v] = v * 4294967296 + w := by simp only [val]; omega
    have lu : u32s [w, v] = [[AV.v (.int .u32 (w : Nat))], [AV.v (.int .u32 (v : Nat))]] := rfl
    rw [ev] at hv
    obtain ⟨K, hK⟩ : ∃ K, v * 4294967296 = K := ⟨_, rfl⟩
    rw [hK] at e2 e3 hv
    obtain ⟨M, hM⟩ : ∃ M, K + w = M := ⟨_, rfl⟩
    rw [hM] at e2 hv
    have hK2 : K < 18446744073709551616 := by omega
    clear hK
    rw [decide_eq_true hn] at hsg
    rw [hsg] at pa
    have f1 : IntKind.i64.wrap (((M : Nat) : Int) - 1) = ((M : Nat) : Int) - 1 := w64 (by omega)
    have f2 : (0 : Int) - (((M : Nat) : Int) - 1) - 1 = x.n := by omega
    repeat' (first
      | (simp only [go_sem, Int.reduceAdd, Int.reduceEq, Int.reduceLE, Int.reduceLT, Int.reduceMul, Int.reduceNeg, Int.reducePow, Int.reduceSub, Int.reduceToNat, Nat.reduceAdd, Nat.reduceBEq, Nat.reduceEqDiff, Nat.reduceLT, Nat.reduceLeDiff, Nat.reduceMul, Nat.reducePow, Nat.reduceSub, reduceCtorEq, reduceIte, IntKind.bits.eq_def, ti, tin, lu, e, e2, e3, Int.natCast_one, Int.cast_ofNat_Int, f1, f2])
      | (simp (disch := omega) only [w64, wu64, wu32, Nat.min_eq_left])
      | (refine l_unroll 3 _ rfl ?_)
      | (with_reducible refine callF_of (pa) ?_)
      | (with_reducible refine drawF_of (pa) ?_)
      | (refine after_lit ti_ok ?_)
      | (refine drawAfter_lit ti_ok ?_)
      | (refine drawEnd_of (by kernel_rfl) ?_)
      | ((first | refine cond_cases (fun hc => ?_) (fun hc => ?_) | refine guard_split (fun hc => ?_) (fun hc => ?_) | refine drawGuard_split (fun hc => ?_) (fun hc => ?_)) <;> first | (exfalso; simp only [decide_eq_true_eq, decide_eq_false_iff_not, Bool.not_eq_true, Bool.not_eq_false, Bool.not_eq_true', Bool.not_eq_false'] at hc; omega) | (simp only [hc]; try simp only [decide_eq_true_eq, decide_eq_false_iff_not, Bool.not_eq_true, Bool.not_eq_false, Bool.not_eq_true', Bool.not_eq_false'] at hc))
      | (refine after_need (by omega) ?_)
      | (refine drawAfter_need (by omega) ?_))
    all_goals exact fin_same trivial rfl
  · simp at hl
theorem ref_Int_low (s : Bool) (ws : List Nat) (d : Int) (x : Dy) (h : Arg s ws d x) (hd0 : x.d = 0) (hl : (ms x).length ≤ 2) (hn : x.n < 0) (hu : x.n.natAbs < 18446744073709551616) (hf : x.n < -9223372036854775808) : CallOK Tryd.prog gl 49 [.agg [.v (.bool s), .sl 1 (u32s ws), .v (.int .i64 d)]] (.tup [.v (.int .i64 0), .v (.bool (false))]) := by
  refine call_ok (C := ⟨Tryd.prog, gl, ti, 47, false⟩) ti_ok mixed 3000 Tryd.call49 Tryd.func49 rfl Tryd.ntmps49 (by simp) byClL byCl ?_
  rw [Tryd.results49]
  have pa := ref_Norm s ws d x h
  have ed : dn x = 0 := by show (x.d : Int) = 0; omega
  rw [ed] at pa
  have hv := ms_val x
  have hW := ms_wd x
  have hsg : sg x = decide (x.n < 0) := rfl
  clear h
  generalize ms x = qs at *
  rcases qs with _ | ⟨w, _ | ⟨v, _ | ⟨u, qs⟩⟩⟩
  ·
    have hv : 0 = x.n.natAbs := hv
    omega
  ·
    have hw : w < 4294967296 := hW w (by simp)
    have e := or_word (a := 0) (b := w) (by omega) hw
    rw [Nat.zero_mul, Nat.zero_add] at e
    have e : bOr .u64 0 (w : Int) = (w : Int) := e
    have ev : val [w] = w := by simp [val]
    have lu : u32s [w] = [[AV.v (.int .u32 (w : Nat))]] := rfl
    rw [ev] at hv
    rw [decide_eq_true hn] at hsg
    rw [hsg] at pa
    repeat' (first
      | (simp only [go_sem, Int.reduceAdd, Int.reduceEq, Int.reduceLE, Int.reduceLT, Int.reduceMul, Int.reduceNeg, Int.reducePow, Int.reduceSub, Int.reduceToNat, Nat.reduceAdd, Nat.reduceBEq, Nat.reduceEqDiff, Nat.reduceLT, Nat.reduceLeDiff, Nat.reduceMul, Nat.reducePow, Nat.reduceSub, reduceCtorEq, reduceIte, IntKind.bits.eq_def, ti, tin, lu, e, Int.natCast_one, Int.cast_ofNat_Int])
      | (simp (disch := omega) only [w64, wu64, wu32, Nat.min_eq_left])
      | (refine l_unroll 2 _ rfl ?_)
      | (with_reducible refine callF_of (pa) ?_)
      | (with_reducible refine drawF_of (pa) ?_)
      | (refine after_lit ti_ok ?_)
      | (refine drawAfter_lit ti_ok ?_)
      | (refine drawEnd_of (by kernel_rfl) ?_)
      | ((first | refine cond_cases (fun hc => ?_) (fun hc => ?_) | refine guard_split (fun hc => ?_) (fun hc => ?_) | refine drawGuard_split (fun hc => ?_) (fun hc => ?_)) <;> first | (exfalso; simp only [decide_eq_true_eq, decide_eq_false_iff_not, Bool.not_eq_true, Bool.not_eq_false, Bool.not_eq_true', Bool.not_eq_false'] at hc; omega) | (simp only [hc]; try simp only [decide_eq_true_eq, decide_eq_false_iff_not, Bool.not_eq_true, Bool.not_eq_false, Bool.not_eq_true', Bool.not_eq_false'] at hc))
      | (refine after_need (by omega) ?_)
      | (refine drawAfter_need (by omega) ?_))
    all_goals exact fin_same trivial rfl
  ·
    have hw : w < 4294967296 := hW w (by simp)
    have hv0 : v < 4294967296 := hW v (by simp)
    have e := or_word (a := 0) (b := v) (by omega) hv0
    rw [Nat.zero_mul, Nat.zero_add] at e
    have e : bOr .u64 0 (v : Int) = (v : Int) := e
    have e2 := or_word (a := v) (b := w) hv0 hw
    have e3 : (v : Int) * 4294967296 = ((v * 4294967296 : Nat) : Int) := by omega
    have ev : val [w, v] = v * 4294967296 + w := by simp only [val]; omega
    have lu : u32s [w, v] = [[AV.v (.int .u32 (w : Nat))], [AV.v (.int .u32 (v : Nat))]] := rfl
    rw [ev] at hv
    obtain ⟨K, hK⟩ : ∃ K, v * 4294967296 = K := ⟨_, rfl⟩
    rw [hK] at e2 e3 hv
    obtain ⟨M, hM⟩ : ∃ M, K + w = M := ⟨_, rfl⟩
    rw [hM] at e2 hv
    have hK2 : K < 18446744073709551616 := by omega
    clear hK
    rw [decide_eq_true hn] at hsg
    rw [hsg] at pa
    repeat' (first
      | (simp only [go_sem, Int.reduceAdd, Int.reduceEq, Int.reduceLE, Int.reduceLT, Int.reduceMul, Int.reduceNeg, Int.reducePow, Int.reduceSub, Int.reduceToNat, Nat.reduceAdd, Nat.reduceBEq, Nat.reduceEqDiff, Nat.reduceLT, Nat.reduceLeDiff, Nat.reduceMul, Nat.reducePow, Nat.reduceSub, reduceCtorEq, reduceIte, IntKind.bits.eq_def, ti, tin, lu, e, e2, e3, Int.natCast_one, Int.cast_ofNat_Int])
      | (simp (disch := omega) only [w64, wu64, wu32, Nat.min_eq_left])
      | (refine l_unroll 3 _ rfl ?_)
      | (with_reducible refine callF_of (pa) ?_)
      | (with_reducible refine drawF_of (pa) ?_)
      | (refine after_lit ti_ok ?_)
      | (refine drawAfter_lit ti_ok ?_)
      | (refine drawEnd_of (by kernel_rfl) ?_)
      | ((first | refine cond_cases (fun hc => ?_) (fun hc => ?_) | refine guard_split (fun hc => ?_) (fun hc => ?_) | refine drawGuard_split (fun hc => ?_) (fun hc => ?_)) <;> first | (exfalso; simp only [decide_eq_true_eq, decide_eq_false_iff_not, Bool.not_eq_true, Bool.not_eq_false, Bool.not_eq_true', Bool.not_eq_false'] at hc; omega) | (simp only [hc]; try simp only [decide_eq_true_eq, decide_eq_false_iff_not, Bool.not_eq_true, Bool.not_eq_false, Bool.not_eq_true', Bool.not_eq_false'] at hc))
      | (refine after_need (by omega) ?_)
      | (refine drawAfter_need (by omega) ?_))
    all_goals exact fin_same trivial rfl
  · simp at hl
theorem ref_Int_pos (s : Bool) (ws : List Nat) (d : Int) (x : Dy) (h : Arg s ws d x) (hd0 : x.d = 0) (hl : (ms x).length ≤ 2) (hn : ¬ x.n < 0) (hf : x.n ≤ 9223372036854775807) : CallOK Tryd.prog gl 49 [.agg [.v (.bool s), .sl 1 (u32s ws), .v (.int .i64 d)]] (.tup [.v (.int .i64 (x.n)), .v (.bool (true))]) := by
  refine call_ok (C := ⟨Tryd.prog, gl, ti, 47, false⟩) ti_ok mixed 3000 Tryd.call49 Tryd.func49 rfl Tryd.ntmps49 (by simp) byClL byCl ?_
  rw [Tryd.results49]
  have pa := ref_Norm s ws d x h
  have ed : dn x = 0 := by show (x.d : Int) = 0; omega
  rw [ed] at pa
  have hv := ms_val x
  have hW := ms_wd x
  have hsg : sg x = decide (x.n < 0) := rfl
  clear h
  generalize ms x = qs at *
  rcases qs with _ | ⟨w, _ | ⟨v, _ | ⟨u, qs⟩⟩⟩
  ·
    have hv : 0 = x.n.natAbs := hv
    rw [decide_eq_false hn] at hsg
    rw [hsg] at pa
    have ex : x.n = 0 := by omega
    rw [ex]
    clear ex
    repeat' (first
      | (simp only [go_sem, Int.reduceAdd, Int.reduceEq, Int.reduceLE, Int.reduceLT, Int.reduceMul, Int.reduceNeg, Int.reducePow, Int.reduceSub, Int.reduceToNat, Nat.reduceAdd, Nat.reduceBEq, Nat.reduceEqDiff, Nat.reduceLT, Nat.reduceLeDiff, Nat.reduceMul, Nat.reducePow, Nat.reduceSub, reduceCtorEq, reduceIte, IntKind.bits.eq_def, ti, tin, u32s_nil])
      | (simp (disch := omega) only [w64, wu64, wu32, Nat.min_eq_left])
      | (refine l_unroll 1 _ rfl ?_)
      | (with_reducible refine callF_of (pa) ?_)
      | (with_reducible refine drawF_of (pa) ?_)
      | (refine after_lit ti_ok ?_)
      | (refine drawAfter_lit ti_ok ?_)
      | (refine drawEnd_of (by kernel_rfl) ?_)
      | ((first | refine cond_cases (fun hc => ?_) (fun hc => ?_) | refine guard_split (fun hc => ?_) (fun hc => ?_) | refine drawGuard_split (fun hc => ?_) (fun hc => ?_)) <;> first | (exfalso; simp only [decide_eq_true_eq, decide_eq_false_iff_not, Bool.not_eq_true, Bool.not_eq_false, Bool.not_eq_true', Bool.not_eq_false'] at hc; omega) | (simp only [hc]; try simp only [decide_eq_true_eq, decide_eq_false_iff_not, Bool.not_eq_true, Bool.not_eq_false, Bool.not_eq_true', Bool.not_eq_false'] at hc))
      | (refine after_need (by omega) ?_)
      | (refine drawAfter_need (by omega) ?_))
    all_goals exact fin_same trivial rfl
  ·
    have hw : w < 4294967296 := hW w (by simp)
    have e := or_word (a := 0) (b := w) (by omega) hw
    rw [Nat.zero_mul, Nat.zero_add] at e
    have e : bOr .u64 0 (w : Int) = (w : Int) := e
    have ev : val [w] = w := by simp [val]
    have lu : u32s [w] = [[AV.v (.int .u32 (w : Nat))]] := rfl
    rw [ev] at hv
    rw [decide_eq_false hn] at hsg
    rw [hsg] at pa
    have ex : x.n = ((w : Nat) : Int) := by omega
    have fd : decide (((w : Nat) : Int) < 9223372036854775808) = true := decide_eq_true (by omega)
    rw [ex]
    clear ex
    repeat' (first
      | (simp only [go_sem, Int.reduceAdd, Int.reduceEq, Int.reduceLE, Int.reduceLT, Int.reduceMul, Int.reduceNeg, Int.reducePow, Int.reduceSub, Int.reduceToNat, Nat.reduceAdd, Nat.reduceBEq, Nat.reduceEqDiff, Nat.reduceLT, Nat.reduceLeDiff, Nat.reduceMul, Nat.reducePow, Nat.reduceSub, reduceCtorEq, reduceIte, IntKind.bits.eq_def, ti, tin, lu, e, Int.natCast_one, Int.cast_ofNat_Int, fd])
      | (simp (disch := omega) only [w64, wu64, wu32, Nat.min_eq_left])
      | (refine l_unroll 2 _ rfl ?_)
      | (with_reducible refine callF_of (pa) ?_)
      | (with_reducible refine drawF_of (pa) ?_)
      | (refine after_lit ti_ok ?_)
      | (refine drawAfter_lit ti_ok ?_)
      | (refine drawEnd_of (by kernel_rfl) ?_)
      | ((first | refine cond_cases (fun hc => ?_) (fun hc => ?_) | refine guard_split (fun hc => ?_) (fun hc => ?_) | refine drawGuard_split (fun hc => ?_) (fun hc => ?_)) <;> first | (exfalso; simp only [decide_eq_true_eq, decide_eq_false_iff_not, Bool.not_eq_true, Bool.not_eq_false, Bool.not_eq_true', Bool.not_eq_false'] at hc; omega) | (simp only [hc]; try simp only [decide_eq_true_eq, decide_eq_false_iff_not, Bool.not_eq_true, Bool.not_eq_false, Bool.not_eq_true', Bool.not_eq_false'] at hc))
      | (refine after_need (by omega) ?_)
      | (refine drawAfter_need (by omega) ?_))
    all_goals exact fin_same trivial rfl
  ·
    have hw : w < 4294967296 := hW w (by simp)
    have hv0 : v < 4294967296 := hW v (by simp)
    have e := or_word (a := 0) (b := v) (by omega) hv0
    rw [Nat.zero_mul, Nat.zero_add] at e
    have e : bOr .u64 0 (v : Int) = (v : Int) := e
    have e2 := or_word (a := v) (b := w) hv0 hw
    have e3 : (v : Int) * 4294967296 = ((v * 4294967296 : Nat) : Int) := by omega
    have ev : val [w, v] = v * 4294967296 + w := by simp only [val]; omega
    have lu : u32s [w, v] = [[AV.v (.int .u32 (w : Nat))], [AV.v (.int .u32 (v : Nat))]] := rfl
    rw [ev] at hv
    obtain ⟨K, hK⟩ : ∃ K, v * 4294967296 = K := ⟨_, rfl⟩
    rw [hK] at e2 e3 hv
    obtain ⟨M, hM⟩ : ∃ M, K + w = M := ⟨_, rfl⟩
    rw [hM] at e2 hv
    have hK2 : K < 18446744073709551616 := by omega
    clear hK
    rw [decide_eq_false hn] at hsg
    rw [hsg] at pa
    have ex : x.n = ((M : Nat) : Int) := by omega
    have fd : decide (((M : Nat) : Int) < 9223372036854775808) = true := decide_eq_true (by omega)
    rw [ex]
    clear ex
    repeat' (first
      | (simp only [go_sem, Int.reduceAdd, Int.reduceEq, Int.reduceLE, Int.reduceLT, Int.reduceMul, Int.reduceNeg, Int.reducePow, Int.reduceSub, Int.reduceToNat, Nat.reduceAdd, Nat.reduceBEq, Nat.reduceEqDiff, Nat.reduceLT, Nat.reduceLeDiff, Nat.reduceMul, Nat.reducePow, Nat.reduceSub, reduceCtorEq, reduceIte, IntKind.bits.eq_def, ti, tin, lu, e, e2, e3, Int.natCast_one, Int.cast_ofNat_Int, fd])
      | (simp (disch := omega) only [w64, wu64, wu32, Nat.min_eq_left])
      | (refine l_unroll 3 _ rfl ?_)
      | (with_reducible refine callF_of (pa) ?_)
      | (with_reducible refine drawF_of (pa) ?_)
      | (refine after_lit ti_ok ?_)
      | (refine drawAfter_lit ti_ok ?_)
      | (refine drawEnd_of (by kernel_rfl) ?_)
      | ((first | refine cond_cases (fun hc => ?_) (fun hc => ?_) | refine guard_split (fun hc => ?_) (fun hc => ?_) | refine drawGuard_split (fun hc => ?_) (fun hc => ?_)) <;> first | (exfalso; simp only [decide_eq_true_eq, decide_eq_false_iff_not, Bool.not_eq_true, Bool.not_eq_false, Bool.not_eq_true', Bool.not_eq_false'] at hc; omega) | (simp only [hc]; try simp only [decide_eq_true_eq, decide_eq_false_iff_not, Bool.not_eq_true, Bool.not_eq_false, Bool.not_eq_true', Bool.not_eq_false'] at hc))
      | (refine after_need (by omega) ?_)
      | (refine drawAfter_need (by omega) ?_))
    all_goals exact fin_same trivial rfl
  · simp at hl
theorem ref_Int_high (s : Bool) (ws : List Nat) (d : Int) (x : Dy) (h : Arg s ws d x) (hd0 : x.d = 0) (hl : (ms x).length ≤ 2) (hn : ¬ x.n < 0) (hu : x.n.natAbs < 18446744073709551616) (hf : 9223372036854775807 < x.n) : CallOK Tryd.prog gl 49 [.agg [.v (.bool s), .sl 1 (u32s ws), .v (.int .i64 d)]] (.tup [.v (.int .i64 ((IntKind.i64.wrap (x.n.natAbs : Nat)))), .v (.bool (false))]) := by
  refine call_ok (C := ⟨Tryd.prog, gl, ti, 47, false⟩) ti_ok mixed 3000 Tryd.call49 Tryd.func49 rfl Tryd.ntmps49 (by simp) byClL byCl ?_
  rw [Tryd.results49]
  have pa := ref_Norm s ws d x h
  have ed : dn x = 0 := by show (x.d : Int) = 0; omega
  rw [ed] at pa
  have hv := ms_val x
  have hW := ms_wd x
  have hsg : sg x = decide (x.n < 0) := rfl
  clear h
  generalize ms x = qs at *
  rcases qs with _ | ⟨w, _ | ⟨v, _ | ⟨u, qs⟩⟩⟩
  ·
    have hv : 0 = x.n.natAbs := hv
    omega
  ·
    have hw : w < 4294967296 := hW w (by simp)
    have ev : val [w] = w := by simp [val]
    rw [ev] at hv
    omega
  ·
    have hw : w < 4294967296 := hW w (by simp)
    have hv0 : v < 4294967296 := hW v (by simp)
    have e := or_word (a := 0) (b := v) (by omega) hv0
    rw [Nat.zero_mul, Nat.zero_add] at e
    have e : bOr .u64 0 (v : Int) = (v : Int) := e
    have e2 := or_word (a := v) (b := w) hv0 hw
    have e3 : (v : Int) * 4294967296 = ((v * 4294967296 : Nat) : Int) := by omega
    have ev : val [w, v] = v * 4294967296 + w := by simp only [val]; omega
    have lu : u32s [w, v] = [[AV.v (.int .u32 (w : Nat))], [AV.v (.int .u32 (v : Nat))]] := rfl
    rw [ev] at hv
    obtain ⟨K, hK⟩ : ∃ K, v * 4294967296 = K := ⟨_, rfl⟩
    rw [hK] at e2 e3 hv
    obtain ⟨M, hM⟩ : ∃ M, K + w = M := ⟨_, rfl⟩
    rw [hM] at e2 hv
    have hK2 : K < 18446744073709551616 := by omega
    clear hK
    have fd : decide (((M : Nat) : Int) < 9223372036854775808) = false := decide_eq_false (by omega)
    rw [← hv]
    rw [decide_eq_false hn] at hsg
    rw [hsg] at pa
    repeat' (first
      | (simp only [go_sem, Int.reduceAdd, Int.reduceEq, Int.reduceLE, Int.reduceLT, Int.reduceMul, Int.reduceNeg, Int.reducePow, Int.reduceSub, Int.reduceToNat, Nat.reduceAdd, Nat.reduceBEq, Nat.reduceEqDiff, Nat.reduceLT, Nat.reduceLeDiff, Nat.reduceMul, Nat.reducePow, Nat.reduceSub, reduceCtorEq, reduceIte, IntKind.bits.eq_def, ti, tin, lu, e, e2, e3, Int.natCast_one, Int.cast_ofNat_Int, fd])
      | (simp (disch := omega) only [w64, wu64, wu32, Nat.min_eq_left])
      | (refine l_unroll 3 _ rfl ?_)
      | (with_reducible refine callF_of (pa) ?_)
      | (with_reducible refine drawF_of (pa) ?_)
      | (refine after_lit ti_ok ?_)
      | (refine drawAfter_lit ti_ok ?_)
      | (refine drawEnd_of (by kernel_rfl) ?_)
      | ((first | refine cond_cases (fun hc => ?_) (fun hc => ?_) | refine guard_split (fun hc => ?_) (fun hc => ?_) | refine drawGuard_split (fun hc => ?_) (fun hc => ?_)) <;> first | (exfalso; simp only [decide_eq_true_eq, decide_eq_false_iff_not, Bool.not_eq_true, Bool.not_eq_false, Bool.not_eq_true', Bool.not_eq_false'] at hc; omega) | (simp only [hc]; try simp only [decide_eq_true_eq, decide_eq_false_iff_not, Bool.not_eq_true, Bool.not_eq_false, Bool.not_eq_true', Bool.not_eq_false'] at hc))
      | (refine after_need (by omega) ?_)
      | (refine drawAfter_need (by omega) ?_))
    all_goals exact fin_same trivial rfl
  · simp at hl
/-- What the loop has summed up is the number. -/
theorem ref_Int_ok (s : Bool) (ws : List Nat) (d : Int) (x : Dy) (h : Arg s ws d x) : ∃ v : Int, (x.fits = true → v = x.n) ∧ CallOK Tryd.prog gl 49 [.agg [.v (.bool s), .sl 1 (u32s ws), .v (.int .i64 d)]] (.tup [.v (.int .i64 v), .v (.bool x.fits)]) := by
  by_cases h0 : x.d ≠ 0 ∨ 2 < (ms x).length
  · have ef : x.fits = false := by
      unfold Dy.fits
      refine decide_eq_false fun hh => ?_
      rcases h0 with h0 | h0
      · exact h0 hh.1
      · have : (ms x).length ≤ 2 := words_length_le (by omega)
        omega
    rw [ef]
    exact ⟨0, fun h => (by cases h), ref_Int_no s ws d x h h0⟩
  · have hd0 : x.d = 0 := by omega
    have hl : (ms x).length ≤ 2 := by omega
    have hu : x.n.natAbs < 18446744073709551616 := by
      have h1 := lt_words x.n.natAbs
      have h3 : 4294967296 ^ (words x.n.natAbs).length ≤ 4294967296 ^ 2 := Nat.pow_le_pow_right (by omega) hl
      omega
    by_cases hn : x.n < 0
    · by_cases hf : -9223372036854775808 ≤ x.n
      · have ef : x.fits = true := by unfold Dy.fits; exact decide_eq_true ⟨hd0, hf, by omega⟩
        rw [ef]
        exact ⟨x.n, fun _ => rfl, ref_Int_neg s ws d x h hd0 hl hn hf⟩
      · have ef : x.fits = false := by unfold Dy.fits; exact decide_eq_false (by omega)
        rw [ef]
        exact ⟨0, fun h => (by cases h), ref_Int_low s ws d x h hd0 hl hn hu (by omega)⟩
    · by_cases hf : x.n ≤ 9223372036854775807
      · have ef : x.fits = true := by unfold Dy.fits; exact decide_eq_true ⟨hd0, by omega, hf⟩
        rw [ef]
        exact ⟨x.n, fun _ => rfl, ref_Int_pos s ws d x h hd0 hl hn hf⟩
      · have ef : x.fits = false := by unfold Dy.fits; exact decide_eq_false (by omega)
        rw [ef]
        exact ⟨_, fun h => (by cases h), ref_Int_high s ws d x h hd0 hl hn hu (by omega)⟩
end Go.Proofs.YtppdgooakleakaaDoor
