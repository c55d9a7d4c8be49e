/- The statement DyadicQuos: its code returns true. -/
import Derived.Test.YtdjgckcninibhaaDoorL02b
import Derived.Test.YtdjgckcninibhaaDoorQuo4
import Derived.Test.YtdjgckcninibhaaDoorU3
import Derived.Test.YtdjgckcninibhaaDoorU4
set_option linter.unusedSimpArgs false
set_option linter.unusedVariables false
set_option linter.deprecated false
namespace Go.Proofs.YtdjgckcninibhaaDoor
open Go Go.Ax
set_option maxRecDepth 100000
set_option maxHeartbeats 4000000

theorem quos_out (s : Bool) (ws : List Nat) (d : Int) (s' : Bool) (ws' : List Nat) (d' : Int) (den : Int) (hl : ws.length ≤ 9223372036854775807) (hl' : ws'.length ≤ 9223372036854775807) (hf : ¬ (fewR ⟨s, ws, d⟩ ∧ fewR ⟨s', ws', d'⟩)) : CallOK Tryd.prog gl 6 [.agg [.v (.bool s), .sl 1 (u32s ws), .v (.int .i64 d)], .agg [.v (.bool s'), .sl 1 (u32s ws'), .v (.int .i64 d')], .v (.int .i64 den)] (.v (.bool (true))) := by
  refine call_ok (C := ⟨Tryd.prog, gl, ti, 125, false⟩) ti_ok mixed 3000 Tryd.call6 Tryd.func6 rfl Tryd.ntmps6 (by simp) byClL byCl ?_
  rw [Tryd.results6]
  have fw := few02_2 s ws d s' ws' d' hl hl'
  rw [decide_eq_false hf] at fw
  clear hf
  repeat' (first | (simp only [go_sem, Int.reduceAdd, Int.reduceEq, Int.reduceLE, Int.reduceLT, Int.reduceMul, Int.reduceNeg, Int.reducePow, Int.reduceSub, Int.reduceToNat, Nat.reduceAdd, Nat.reduceBEq, Nat.reduceEqDiff, Nat.reduceLT, Nat.reduceLeDiff, Nat.reduceMul, Nat.reducePow, Nat.reduceSub, reduceCtorEq, reduceIte, IntKind.bits.eq_def, ti, tin]) | (simp (disch := omega) only [w64, wu64, wu32, Nat.min_eq_left]) | (with_reducible first | refine cF (fw) ?_ | refine dF (fw) ?_) | (with_reducible first | refine cF (awake02) ?_ | refine dF (awake02) ?_) | (refine aL ti_ok ?_) | (refine dL ti_ok ?_) | (refine dE (by kernel_rfl) ?_) | ((first | refine cC ?_ ?_ | refine gS ?_ ?_ | refine dS ?_ ?_) <;> intro hc <;> first | (exfalso; simp only [dcT, dcF, bnT, bnF, bnU, bnV] at hc; omega) | (simp only [hc]; try simp only [dcT, dcF, bnT, bnF, bnU, bnV] at hc)) | (refine aN (by omega) ?_) | (refine dN (by omega) ?_))
  all_goals exact fin_same trivial rfl

theorem quos_far (s : Bool) (ws : List Nat) (d : Int) (s' : Bool) (ws' : List Nat) (d' : Int) (den : Int) (hl : ws.length ≤ 9223372036854775807) (hl' : ws'.length ≤ 9223372036854775807) (hf : fewR ⟨s, ws, d⟩ ∧ fewR ⟨s', ws', d'⟩) (hg : 6 < ws.length ∨ 6 < ws'.length ∨ (100 < d ∧ d ≤ 65536) ∨ (100 < d' ∧ d' ≤ 65536) ∨ (100 < den ∧ den ≤ 65536)) : CallOK Tryd.prog gl 6 [.agg [.v (.bool s), .sl 1 (u32s ws), .v (.int .i64 d)], .agg [.v (.bool s'), .sl 1 (u32s ws'), .v (.int .i64 d')], .v (.int .i64 den)] (.v (.bool (true))) := by
  refine call_ok (C := ⟨Tryd.prog, gl, ti, 125, false⟩) ti_ok mixed 3000 Tryd.call6 Tryd.func6 rfl Tryd.ntmps6 (by simp) byClL byCl ?_
  rw [Tryd.results6]
  have fw := few02_2 s ws d s' ws' d' hl hl'
  rw [decide_eq_true hf] at fw
  clear hf
  by_cases h1 : 6 < ws.length
  ·
    repeat' (first | (simp only [go_sem, Int.reduceAdd, Int.reduceEq, Int.reduceLE, Int.reduceLT, Int.reduceMul, Int.reduceNeg, Int.reducePow, Int.reduceSub, Int.reduceToNat, Nat.reduceAdd, Nat.reduceBEq, Nat.reduceEqDiff, Nat.reduceLT, Nat.reduceLeDiff, Nat.reduceMul, Nat.reducePow, Nat.reduceSub, reduceCtorEq, reduceIte, IntKind.bits.eq_def, ti, tin, u32s_length]) | (simp (disch := omega) only [w64, wu64, wu32, Nat.min_eq_left]) | (with_reducible first | refine cF (fw) ?_ | refine dF (fw) ?_) | (with_reducible first | refine cF (awake02) ?_ | refine dF (awake02) ?_) | (refine aL ti_ok ?_) | (refine dL ti_ok ?_) | (refine dE (by kernel_rfl) ?_) | ((first | refine cC ?_ ?_ | refine gS ?_ ?_ | refine dS ?_ ?_) <;> intro hc <;> first | (exfalso; simp only [dcT, dcF, bnT, bnF, bnU, bnV] at hc; omega) | (simp only [hc]; try simp only [dcT, dcF, bnT, bnF, bnU, bnV] at hc)) | (refine aN (by omega) ?_) | (refine dN (by omega) ?_))
    all_goals exact fin_same trivial rfl
  by_cases h2 : 6 < ws'.length
  ·
    repeat' (first | (simp only [go_sem, Int.reduceAdd, Int.reduceEq, Int.reduceLE, Int.reduceLT, Int.reduceMul, Int.reduceNeg, Int.reducePow, Int.reduceSub, Int.reduceToNat, Nat.reduceAdd, Nat.reduceBEq, Nat.reduceEqDiff, Nat.reduceLT, Nat.reduceLeDiff, Nat.reduceMul, Nat.reducePow, Nat.reduceSub, reduceCtorEq, reduceIte, IntKind.bits.eq_def, ti, tin, u32s_length]) | (simp (disch := omega) only [w64, wu64, wu32, Nat.min_eq_left]) | (with_reducible first | refine cF (fw) ?_ | refine dF (fw) ?_) | (with_reducible first | refine cF (awake02) ?_ | refine dF (awake02) ?_) | (refine aL ti_ok ?_) | (refine dL ti_ok ?_) | (refine dE (by kernel_rfl) ?_) | ((first | refine cC ?_ ?_ | refine gS ?_ ?_ | refine dS ?_ ?_) <;> intro hc <;> first | (exfalso; simp only [dcT, dcF, bnT, bnF, bnU, bnV] at hc; omega) | (simp only [hc]; try simp only [dcT, dcF, bnT, bnF, bnU, bnV] at hc)) | (refine aN (by omega) ?_) | (refine dN (by omega) ?_))
    all_goals exact fin_same trivial rfl
  have hg2 : (100 < d ∧ d ≤ 65536) ∨ (100 < d' ∧ d' ≤ 65536) ∨ (100 < den ∧ den ≤ 65536) := by omega
  clear hg
  by_cases h3 : 100 < d
  · by_cases h4 : d ≤ 65536
    ·
      clear hg2
      repeat' (first | (simp only [go_sem, Int.reduceAdd, Int.reduceEq, Int.reduceLE, Int.reduceLT, Int.reduceMul, Int.reduceNeg, Int.reducePow, Int.reduceSub, Int.reduceToNat, Nat.reduceAdd, Nat.reduceBEq, Nat.reduceEqDiff, Nat.reduceLT, Nat.reduceLeDiff, Nat.reduceMul, Nat.reducePow, Nat.reduceSub, reduceCtorEq, reduceIte, IntKind.bits.eq_def, ti, tin, u32s_length]) | (simp (disch := omega) only [w64, wu64, wu32, Nat.min_eq_left]) | (with_reducible first | refine cF (fw) ?_ | refine dF (fw) ?_) | (with_reducible first | refine cF (awake02) ?_ | refine dF (awake02) ?_) | (refine aL ti_ok ?_) | (refine dL ti_ok ?_) | (refine dE (by kernel_rfl) ?_) | ((first | refine cC ?_ ?_ | refine gS ?_ ?_ | refine dS ?_ ?_) <;> intro hc <;> first | (exfalso; simp only [dcT, dcF, bnT, bnF, bnU, bnV] at hc; omega) | (simp only [hc]; try simp only [dcT, dcF, bnT, bnF, bnU, bnV] at hc)) | (refine aN (by omega) ?_) | (refine dN (by omega) ?_))
      all_goals exact fin_same trivial rfl
    · by_cases h5 : 100 < d'
      · by_cases h6 : d' ≤ 65536
        ·
          clear hg2
          repeat' (first | (simp only [go_sem, Int.reduceAdd, Int.reduceEq, Int.reduceLE, Int.reduceLT, Int.reduceMul, Int.reduceNeg, Int.reducePow, Int.reduceSub, Int.reduceToNat, Nat.reduceAdd, Nat.reduceBEq, Nat.reduceEqDiff, Nat.reduceLT, Nat.reduceLeDiff, Nat.reduceMul, Nat.reducePow, Nat.reduceSub, reduceCtorEq, reduceIte, IntKind.bits.eq_def, ti, tin, u32s_length]) | (simp (disch := omega) only [w64, wu64, wu32, Nat.min_eq_left]) | (with_reducible first | refine cF (fw) ?_ | refine dF (fw) ?_) | (with_reducible first | refine cF (awake02) ?_ | refine dF (awake02) ?_) | (refine aL ti_ok ?_) | (refine dL ti_ok ?_) | (refine dE (by kernel_rfl) ?_) | ((first | refine cC ?_ ?_ | refine gS ?_ ?_ | refine dS ?_ ?_) <;> intro hc <;> first | (exfalso; simp only [dcT, dcF, bnT, bnF, bnU, bnV] at hc; omega) | (simp only [hc]; try simp only [dcT, dcF, bnT, bnF, bnU, bnV] at hc)) | (refine aN (by omega) ?_) | (refine dN (by omega) ?_))
          all_goals exact fin_same trivial rfl
        ·
          have h7 : 100 < den ∧ den ≤ 65536 := by omega
          obtain ⟨h8, h9⟩ := h7
          clear hg2
          repeat' (first | (simp only [go_sem, Int.reduceAdd, Int.reduceEq, Int.reduceLE, Int.reduceLT, Int.reduceMul, Int.reduceNeg, Int.reducePow, Int.reduceSub, Int.reduceToNat, Nat.reduceAdd, Nat.reduceBEq, Nat.reduceEqDiff, Nat.reduceLT, Nat.reduceLeDiff, Nat.reduceMul, Nat.reducePow, Nat.reduceSub, reduceCtorEq, reduceIte, IntKind.bits.eq_def, ti, tin, u32s_length]) | (simp (disch := omega) only [w64, wu64, wu32, Nat.min_eq_left]) | (with_reducible first | refine cF (fw) ?_ | refine dF (fw) ?_) | (with_reducible first | refine cF (awake02) ?_ | refine dF (awake02) ?_) | (refine aL ti_ok ?_) | (refine dL ti_ok ?_) | (refine dE (by kernel_rfl) ?_) | ((first | refine cC ?_ ?_ | refine gS ?_ ?_ | refine dS ?_ ?_) <;> intro hc <;> first | (exfalso; simp only [dcT, dcF, bnT, bnF, bnU, bnV] at hc; omega) | (simp only [hc]; try simp only [dcT, dcF, bnT, bnF, bnU, bnV] at hc)) | (refine aN (by omega) ?_) | (refine dN (by omega) ?_))
          all_goals exact fin_same trivial rfl
      ·
        have h7 : 100 < den ∧ den ≤ 65536 := by omega
        obtain ⟨h8, h9⟩ := h7
        clear hg2
        repeat' (first | (simp only [go_sem, Int.reduceAdd, Int.reduceEq, Int.reduceLE, Int.reduceLT, Int.reduceMul, Int.reduceNeg, Int.reducePow, Int.reduceSub, Int.reduceToNat, Nat.reduceAdd, Nat.reduceBEq, Nat.reduceEqDiff, Nat.reduceLT, Nat.reduceLeDiff, Nat.reduceMul, Nat.reducePow, Nat.reduceSub, reduceCtorEq, reduceIte, IntKind.bits.eq_def, ti, tin, u32s_length]) | (simp (disch := omega) only [w64, wu64, wu32, Nat.min_eq_left]) | (with_reducible first | refine cF (fw) ?_ | refine dF (fw) ?_) | (with_reducible first | refine cF (awake02) ?_ | refine dF (awake02) ?_) | (refine aL ti_ok ?_) | (refine dL ti_ok ?_) | (refine dE (by kernel_rfl) ?_) | ((first | refine cC ?_ ?_ | refine gS ?_ ?_ | refine dS ?_ ?_) <;> intro hc <;> first | (exfalso; simp only [dcT, dcF, bnT, bnF, bnU, bnV] at hc; omega) | (simp only [hc]; try simp only [dcT, dcF, bnT, bnF, bnU, bnV] at hc)) | (refine aN (by omega) ?_) | (refine dN (by omega) ?_))
        all_goals exact fin_same trivial rfl
  · by_cases h5 : 100 < d'
    · by_cases h6 : d' ≤ 65536
      ·
        clear hg2
        repeat' (first | (simp only [go_sem, Int.reduceAdd, Int.reduceEq, Int.reduceLE, Int.reduceLT, Int.reduceMul, Int.reduceNeg, Int.reducePow, Int.reduceSub, Int.reduceToNat, Nat.reduceAdd, Nat.reduceBEq, Nat.reduceEqDiff, Nat.reduceLT, Nat.reduceLeDiff, Nat.reduceMul, Nat.reducePow, Nat.reduceSub, reduceCtorEq, reduceIte, IntKind.bits.eq_def, ti, tin, u32s_length]) | (simp (disch := omega) only [w64, wu64, wu32, Nat.min_eq_left]) | (with_reducible first | refine cF (fw) ?_ | refine dF (fw) ?_) | (with_reducible first | refine cF (awake02) ?_ | refine dF (awake02) ?_) | (refine aL ti_ok ?_) | (refine dL ti_ok ?_) | (refine dE (by kernel_rfl) ?_) | ((first | refine cC ?_ ?_ | refine gS ?_ ?_ | refine dS ?_ ?_) <;> intro hc <;> first | (exfalso; simp only [dcT, dcF, bnT, bnF, bnU, bnV] at hc; omega) | (simp only [hc]; try simp only [dcT, dcF, bnT, bnF, bnU, bnV] at hc)) | (refine aN (by omega) ?_) | (refine dN (by omega) ?_))
        all_goals exact fin_same trivial rfl
      ·
        have h7 : 100 < den ∧ den ≤ 65536 := by omega
        obtain ⟨h8, h9⟩ := h7
        clear hg2
        repeat' (first | (simp only [go_sem, Int.reduceAdd, Int.reduceEq, Int.reduceLE, Int.reduceLT, Int.reduceMul, Int.reduceNeg, Int.reducePow, Int.reduceSub, Int.reduceToNat, Nat.reduceAdd, Nat.reduceBEq, Nat.reduceEqDiff, Nat.reduceLT, Nat.reduceLeDiff, Nat.reduceMul, Nat.reducePow, Nat.reduceSub, reduceCtorEq, reduceIte, IntKind.bits.eq_def, ti, tin, u32s_length]) | (simp (disch := omega) only [w64, wu64, wu32, Nat.min_eq_left]) | (with_reducible first | refine cF (fw) ?_ | refine dF (fw) ?_) | (with_reducible first | refine cF (awake02) ?_ | refine dF (awake02) ?_) | (refine aL ti_ok ?_) | (refine dL ti_ok ?_) | (refine dE (by kernel_rfl) ?_) | ((first | refine cC ?_ ?_ | refine gS ?_ ?_ | refine dS ?_ ?_) <;> intro hc <;> first | (exfalso; simp only [dcT, dcF, bnT, bnF, bnU, bnV] at hc; omega) | (simp only [hc]; try simp only [dcT, dcF, bnT, bnF, bnU, bnV] at hc)) | (refine aN (by omega) ?_) | (refine dN (by omega) ?_))
        all_goals exact fin_same trivial rfl
    ·
      have h7 : 100 < den ∧ den ≤ 65536 := by omega
      obtain ⟨h8, h9⟩ := h7
      clear hg2
      repeat' (first | (simp only [go_sem, Int.reduceAdd, Int.reduceEq, Int.reduceLE, Int.reduceLT, Int.reduceMul, Int.reduceNeg, Int.reducePow, Int.reduceSub, Int.reduceToNat, Nat.reduceAdd, Nat.reduceBEq, Nat.reduceEqDiff, Nat.reduceLT, Nat.reduceLeDiff, Nat.reduceMul, Nat.reducePow, Nat.reduceSub, reduceCtorEq, reduceIte, IntKind.bits.eq_def, ti, tin, u32s_length]) | (simp (disch := omega) only [w64, wu64, wu32, Nat.min_eq_left]) | (with_reducible first | refine cF (fw) ?_ | refine dF (fw) ?_) | (with_reducible first | refine cF (awake02) ?_ | refine dF (awake02) ?_) | (refine aL ti_ok ?_) | (refine dL ti_ok ?_) | (refine dE (by kernel_rfl) ?_) | ((first | refine cC ?_ ?_ | refine gS ?_ ?_ | refine dS ?_ ?_) <;> intro hc <;> first | (exfalso; simp only [dcT, dcF, bnT, bnF, bnU, bnV] at hc; omega) | (simp only [hc]; try simp only [dcT, dcF, bnT, bnF, bnU, bnV] at hc)) | (refine aN (by omega) ?_) | (refine dN (by omega) ?_))
      all_goals exact fin_same trivial rfl

theorem quos_err (s : Bool) (ws : List Nat) (d : Int) (s' : Bool) (ws' : List Nat) (d' : Int) (den : Int) (hl : ws.length ≤ 9223372036854775807) (hl' : ws'.length ≤ 9223372036854775807) (hf : fewR ⟨s, ws, d⟩ ∧ fewR ⟨s', ws', d'⟩) (h1 : ws.length ≤ 6) (h2 : ws'.length ≤ 6) (h3 : d ≤ 100 ∨ 65536 < d) (h4 : d' ≤ 100 ∨ 65536 < d') (hd : den < 0 ∨ 65536 < den) : CallOK Tryd.prog gl 6 [.agg [.v (.bool s), .sl 1 (u32s ws), .v (.int .i64 d)], .agg [.v (.bool s'), .sl 1 (u32s ws'), .v (.int .i64 d')], .v (.int .i64 den)] (.v (.bool (true))) := by
  refine call_ok (C := ⟨Tryd.prog, gl, ti, 125, false⟩) ti_ok mixed 3000 Tryd.call6 Tryd.func6 rfl Tryd.ntmps6 (by simp) byClL byCl ?_
  rw [Tryd.results6]
  have fw := few02_2 s ws d s' ws' d' hl hl'
  rw [decide_eq_true hf] at fw
  clear hf
  have q1 := Quo_err s ws d s' ws' d' den hd
  have q2 := ref_Quo_err s ws d s' ws' d' den hd
  have s1 := same_ok (Mg.zero 0)
  repeat' (first | (simp only [go_sem, Int.reduceAdd, Int.reduceEq, Int.reduceLE, Int.reduceLT, Int.reduceMul, Int.reduceNeg, Int.reducePow, Int.reduceSub, Int.reduceToNat, Nat.reduceAdd, Nat.reduceBEq, Nat.reduceEqDiff, Nat.reduceLT, Nat.reduceLeDiff, Nat.reduceMul, Nat.reducePow, Nat.reduceSub, reduceCtorEq, reduceIte, IntKind.bits.eq_def, ti, tin, u32s_length]) | (simp (disch := omega) only [w64, wu64, wu32, Nat.min_eq_left]) | (with_reducible first | refine cF (fw) ?_ | refine dF (fw) ?_) | (with_reducible first | refine cF (awake02) ?_ | refine dF (awake02) ?_) | (with_reducible first | refine cF (q1) ?_ | refine dF (q1) ?_) | (with_reducible first | refine cF (q2) ?_ | refine dF (q2) ?_) | (with_reducible first | refine cF (base_Num 3) ?_ | refine dF (base_Num 3) ?_) | (with_reducible first | refine cF (s1) ?_ | refine dF (s1) ?_) | (refine aL ti_ok ?_) | (refine dL ti_ok ?_) | (refine dE (by kernel_rfl) ?_) | ((first | refine cC ?_ ?_ | refine gS ?_ ?_ | refine dS ?_ ?_) <;> intro hc <;> first | (exfalso; simp only [dcT, dcF, bnT, bnF, bnU, bnV] at hc; omega) | (simp only [hc]; try simp only [dcT, dcF, bnT, bnF, bnU, bnV] at hc)) | (refine aN (by omega) ?_) | (refine dN (by omega) ?_))
  all_goals exact fin_same trivial rfl

theorem quos_zero (s : Bool) (ws : List Nat) (d : Int) (s' : Bool) (ws' : List Nat) (d' : Int) (den : Nat) (x y : Dy) (h : Arg s ws d x) (h' : Arg s' ws' d' y) (hf : fewR ⟨s, ws, d⟩ ∧ fewR ⟨s', ws', d'⟩) (h1 : ws.length ≤ 6) (h2 : ws'.length ≤ 6) (h3 : d ≤ 100 ∨ 65536 < d) (h4 : d' ≤ 100 ∨ 65536 < d') (hd : den ≤ 100) (hy : y.n = 0) : CallOK Tryd.prog gl 6 [.agg [.v (.bool s), .sl 1 (u32s ws), .v (.int .i64 d)], .agg [.v (.bool s'), .sl 1 (u32s ws'), .v (.int .i64 d')], .v (.int .i64 den)] (.v (.bool (true))) := by
  refine call_ok (C := ⟨Tryd.prog, gl, ti, 125, false⟩) ti_ok mixed 3000 Tryd.call6 Tryd.func6 rfl Tryd.ntmps6 (by simp) byClL byCl ?_
  rw [Tryd.results6]
  have fw := few02_2 s ws d s' ws' d' (by omega) (by omega)
  rw [decide_eq_true hf] at fw
  clear hf
  have q1 := Quo_zero _ _ _ _ _ _ den (by omega) _ _ h h' hy
  have q2 := ref_Quo_zero _ _ _ _ _ _ den (by omega) _ _ h h' hy
  have s1 := same_ok (Mg.zero 0)
  repeat' (first | (simp only [go_sem, Int.reduceAdd, Int.reduceEq, Int.reduceLE, Int.reduceLT, Int.reduceMul, Int.reduceNeg, Int.reducePow, Int.reduceSub, Int.reduceToNat, Nat.reduceAdd, Nat.reduceBEq, Nat.reduceEqDiff, Nat.reduceLT, Nat.reduceLeDiff, Nat.reduceMul, Nat.reducePow, Nat.reduceSub, reduceCtorEq, reduceIte, IntKind.bits.eq_def, ti, tin, u32s_length]) | (simp (disch := omega) only [w64, wu64, wu32, Nat.min_eq_left]) | (with_reducible first | refine cF (fw) ?_ | refine dF (fw) ?_) | (with_reducible first | refine cF (awake02) ?_ | refine dF (awake02) ?_) | (with_reducible first | refine cF (q1) ?_ | refine dF (q1) ?_) | (with_reducible first | refine cF (q2) ?_ | refine dF (q2) ?_) | (with_reducible first | refine cF (base_Num 8) ?_ | refine dF (base_Num 8) ?_) | (with_reducible first | refine cF (s1) ?_ | refine dF (s1) ?_) | (refine aL ti_ok ?_) | (refine dL ti_ok ?_) | (refine dE (by kernel_rfl) ?_) | ((first | refine cC ?_ ?_ | refine gS ?_ ?_ | refine dS ?_ ?_) <;> intro hc <;> first | (exfalso; simp only [dcT, dcF, bnT, bnF, bnU, bnV] at hc; omega) | (simp only [hc]; try simp only [dcT, dcF, bnT, bnF, bnU, bnV] at hc)) | (refine aN (by omega) ?_) | (refine dN (by omega) ?_))
  all_goals exact fin_same trivial rfl

theorem quo_grid {x y : Dy} {den : Nat} (hd : den ≤ 100) (hyd : y.d ≤ 100) (hy : y.n ≠ 0) :
    (((x.quo y den).mul y).cmp x * y.sign ≤ 0 ∧ x.cmp (((x.quo y den).add (nrm 1 den)).mul y) * y.sign < 0) ∧ (y.sign = 1 ∨ y.sign = -1) := by
  have hg : (nrm 1 den).v = 1 / 2 ^ den := by rw [v_nrm (by omega)]; rfl
  have hP : (0 : Rat) < 2 ^ den := p2pos den
  have d1 : (x.quo y den).d ≤ den := by unfold Dy.quo; exact (nrm_spec (by omega)).1
  have d2 : (nrm 1 den).d ≤ den := (nrm_spec (by omega)).1
  have d3 : ((x.quo y den).add (nrm 1 den)).d ≤ 200 := by
    have := Dy.d_add (x.quo y den) (nrm 1 den)
    omega
  have v1 : ((x.quo y den).mul y).v = (x.quo y den).v * y.v := Dy.v_mul_of _ _ (by omega)
  have v2 : (((x.quo y den).add (nrm 1 den)).mul y).v = ((x.quo y den).v + 1 / 2 ^ den) * y.v := by rw [Dy.v_mul_of _ _ (by omega), Dy.v_add, hg]
  have f1 := Rat.floor_le (x.v / y.v * 2 ^ den)
  have f2 := floor_lt (x.v / y.v * 2 ^ den)
  have f3 : (x.quo y den).v * 2 ^ den = _ := v_nrm_mul (z := (x.v / y.v * 2 ^ den).floor) (d := den) (by omega)
  rw [← f3] at f1 f2
  have f4 : 1 / 2 ^ den * 2 ^ den = (1 : Rat) := Rat.div_mul_cancel (p2ne _)
  have hyv : y.v ≠ 0 := fun h => hy ((Dy.v_zero_iff y).1 h)
  have hxy : x.v / y.v * y.v = x.v := Rat.div_mul_cancel hyv
  have e1 : (x.quo y den).v ≤ x.v / y.v := Rat.le_of_mul_le_mul_right f1 hP
  have e2 : x.v / y.v < (x.quo y den).v + 1 / 2 ^ den := Rat.lt_of_mul_lt_mul_right (by rw [Rat.add_mul, f4]; exact f2) (Rat.le_of_lt hP)
  clear f1 f2 f3 f4
  generalize x.v / y.v = q at *
  generalize (x.quo y den).v + 1 / 2 ^ den = B at *
  generalize hA : (x.quo y den).v = A at *
  by_cases h : 0 < y.v
  · rw [sign_pos_v h]
    refine ⟨⟨?_, ?_⟩, .inl rfl⟩
    · have := (cmp_le ((x.quo y den).mul y) x).2 (by rw [v1, ← hxy]; exact Rat.mul_le_mul_of_nonneg_right e1 (Rat.le_of_lt h))
      omega
    · have := (cmp_lt x (((x.quo y den).add (nrm 1 den)).mul y)).2 (by rw [v2, ← hxy]; exact Rat.mul_lt_mul_of_pos_right e2 h)
      omega
  · have h : y.v < 0 := by grind
    rw [sign_neg_v h]
    refine ⟨⟨?_, ?_⟩, .inr rfl⟩
    · have := (cmp_ge ((x.quo y den).mul y) x).2 (by rw [v1, ← hxy]; have := Rat.mul_le_mul_of_nonneg_right e1 (show 0 ≤ -y.v by grind); grind)
      omega
    · have := cmp_gt_v (x := x) (y := ((x.quo y den).add (nrm 1 den)).mul y) (by rw [v2, ← hxy]; have := Rat.mul_lt_mul_of_pos_right e2 (show 0 < -y.v by grind); grind)
      omega

theorem quos_ok (s : Bool) (ws : List Nat) (d : Int) (s' : Bool) (ws' : List Nat) (d' : Int) (den : Nat) (x y : Dy) (h : Arg s ws d x) (h' : Arg s' ws' d' y) (gx : Mg 512 x) (gy : Mg 512 y) (hf : fewR ⟨s, ws, d⟩ ∧ fewR ⟨s', ws', d'⟩) (h1 : ws.length ≤ 6) (h2 : ws'.length ≤ 6) (h3 : d ≤ 100 ∨ 65536 < d) (h4 : d' ≤ 100 ∨ 65536 < d') (hd : den ≤ 100) (hyd : y.d ≤ 100) (hy : y.n ≠ 0) : CallOK Tryd.prog gl 6 [.agg [.v (.bool s), .sl 1 (u32s ws), .v (.int .i64 d)], .agg [.v (.bool s'), .sl 1 (u32s ws'), .v (.int .i64 d')], .v (.int .i64 den)] (.v (.bool (true))) := by
  refine call_ok (C := ⟨Tryd.prog, gl, ti, 125, false⟩) ti_ok mixed 3000 Tryd.call6 Tryd.func6 rfl Tryd.ntmps6 (by simp) byClL byCl ?_
  rw [Tryd.results6]
  have fw := few02_2 s ws d s' ws' d' (by omega) (by omega)
  rw [decide_eq_true hf] at fw
  clear hf
  have q1 := Quo_ok _ _ _ _ _ _ den (by omega) _ _ h h' hy
  have q2 := ref_Quo _ _ _ _ _ _ den (by omega) _ _ h h' hy
  have gq : Mg 613 (x.quo y den) := (gx.quo hy).mono (by omega)
  have s1 := same_ok gq
  have k1 := Make_ok 1 den (by omega) (by omega)
  have gg : Mg 1 (nrm 1 den) := mg_nrm (by simp)
  have ga := gq.add (gg.mono (by omega))
  have sg1 := Sign_ok _ _ _ _ h'
  have m1 := Mul_ok _ _ _ _ _ _ _ _ gq.arg h'
  have a1 := Add_ok _ _ _ _ _ _ _ _ gq.arg gg.arg
  have m2 := Mul_ok _ _ _ _ _ _ _ _ ga.arg h'
  have c1 := Cmp_ok _ _ _ _ _ _ _ _ (gq.mul gy).arg h
  have c2 := Cmp_ok _ _ _ _ _ _ _ _ h (ga.mul gy).arg
  obtain ⟨⟨w1, w2⟩, w3⟩ := quo_grid (x := x) hd hyd hy
  have b1 := cmp_bd ((x.quo y den).mul y) x
  have b2 := cmp_bd x (((x.quo y den).add (nrm 1 den)).mul y)
  clear gq gg ga gx gy
  generalize ((x.quo y den).mul y).cmp x = n1 at *
  generalize x.cmp (((x.quo y den).add (nrm 1 den)).mul y) = n2 at *
  generalize ((x.quo y den).add (nrm 1 den)).mul y = z1 at *
  generalize (x.quo y den).add (nrm 1 den) = z2 at *
  generalize (x.quo y den).mul y = z3 at *
  generalize x.quo y den = z4 at *
  generalize nrm 1 den = z5 at *
  rcases w3 with w3 | w3
  ·
    rw [w3] at sg1 w1 w2
    repeat' (first | (simp only [go_sem, Int.reduceAdd, Int.reduceEq, Int.reduceLE, Int.reduceLT, Int.reduceMul, Int.reduceNeg, Int.reducePow, Int.reduceSub, Int.reduceToNat, Nat.reduceAdd, Nat.reduceBEq, Nat.reduceEqDiff, Nat.reduceLT, Nat.reduceLeDiff, Nat.reduceMul, Nat.reducePow, Nat.reduceSub, reduceCtorEq, reduceIte, IntKind.bits.eq_def, ti, tin, u32s_length]) | (simp (disch := omega) only [w64, wu64, wu32, Nat.min_eq_left]) | (with_reducible first | refine cF (fw) ?_ | refine dF (fw) ?_) | (with_reducible first | refine cF (awake02) ?_ | refine dF (awake02) ?_) | (with_reducible first | refine cF (q1) ?_ | refine dF (q1) ?_) | (with_reducible first | refine cF (q2) ?_ | refine dF (q2) ?_) | (with_reducible first | refine cF (base_Num_nil) ?_ | refine dF (base_Num_nil) ?_) | (with_reducible first | refine cF (s1) ?_ | refine dF (s1) ?_) | (with_reducible first | refine cF (k1) ?_ | refine dF (k1) ?_) | (with_reducible first | refine cF (sg1) ?_ | refine dF (sg1) ?_) | (with_reducible first | refine cF (m1) ?_ | refine dF (m1) ?_) | (with_reducible first | refine cF (a1) ?_ | refine dF (a1) ?_) | (with_reducible first | refine cF (m2) ?_ | refine dF (m2) ?_) | (with_reducible first | refine cF (c1) ?_ | refine dF (c1) ?_) | (with_reducible first | refine cF (c2) ?_ | refine dF (c2) ?_) | (refine aL ti_ok ?_) | (refine dL ti_ok ?_) | (refine dE (by kernel_rfl) ?_) | ((first | refine cC ?_ ?_ | refine gS ?_ ?_ | refine dS ?_ ?_) <;> intro hc <;> first | (exfalso; simp only [dcT, dcF, bnT, bnF, bnU, bnV] at hc; omega) | (simp only [hc]; try simp only [dcT, dcF, bnT, bnF, bnU, bnV] at hc)) | (refine aN (by omega) ?_) | (refine dN (by omega) ?_))
    all_goals first | exact fin_same trivial rfl | exact fin_same trivial (congrArg (fun b => AV.v (Value.bool b)) (decide_eq_true (by omega)))
  ·
    rw [w3] at sg1 w1 w2
    repeat' (first | (simp only [go_sem, Int.reduceAdd, Int.reduceEq, Int.reduceLE, Int.reduceLT, Int.reduceMul, Int.reduceNeg, Int.reducePow, Int.reduceSub, Int.reduceToNat, Nat.reduceAdd, Nat.reduceBEq, Nat.reduceEqDiff, Nat.reduceLT, Nat.reduceLeDiff, Nat.reduceMul, Nat.reducePow, Nat.reduceSub, reduceCtorEq, reduceIte, IntKind.bits.eq_def, ti, tin, u32s_length]) | (simp (disch := omega) only [w64, wu64, wu32, Nat.min_eq_left]) | (with_reducible first | refine cF (fw) ?_ | refine dF (fw) ?_) | (with_reducible first | refine cF (awake02) ?_ | refine dF (awake02) ?_) | (with_reducible first | refine cF (q1) ?_ | refine dF (q1) ?_) | (with_reducible first | refine cF (q2) ?_ | refine dF (q2) ?_) | (with_reducible first | refine cF (base_Num_nil) ?_ | refine dF (base_Num_nil) ?_) | (with_reducible first | refine cF (s1) ?_ | refine dF (s1) ?_) | (with_reducible first | refine cF (k1) ?_ | refine dF (k1) ?_) | (with_reducible first | refine cF (sg1) ?_ | refine dF (sg1) ?_) | (with_reducible first | refine cF (m1) ?_ | refine dF (m1) ?_) | (with_reducible first | refine cF (a1) ?_ | refine dF (a1) ?_) | (with_reducible first | refine cF (m2) ?_ | refine dF (m2) ?_) | (with_reducible first | refine cF (c1) ?_ | refine dF (c1) ?_) | (with_reducible first | refine cF (c2) ?_ | refine dF (c2) ?_) | (refine aL ti_ok ?_) | (refine dL ti_ok ?_) | (refine dE (by kernel_rfl) ?_) | ((first | refine cC ?_ ?_ | refine gS ?_ ?_ | refine dS ?_ ?_) <;> intro hc <;> first | (exfalso; simp only [dcT, dcF, bnT, bnF, bnU, bnV] at hc; omega) | (simp only [hc]; try simp only [dcT, dcF, bnT, bnF, bnU, bnV] at hc)) | (refine aN (by omega) ?_) | (refine dN (by omega) ?_))
    all_goals first | exact fin_same trivial rfl | exact fin_same trivial (congrArg (fun b => AV.v (Value.bool b)) (decide_eq_true (by omega)))

theorem quos_law (s : Bool) (r : List (List AV)) (d : Int) (s' : Bool) (r' : List (List AV)) (d' : Int) (den : Int) (hr : r.length ≤ maxLen) (fr : ∀ x ∈ r, FitL [.int .u32] x) (hr' : r'.length ≤ maxLen) (fr' : ∀ x ∈ r', FitL [.int .u32] x) (hden : -9223372036854775808 ≤ den ∧ den ≤ 9223372036854775807) : CallOK Tryd.prog gl 6 [.agg [.v (.bool s), .sl 1 r, .v (.int .i64 d)], .agg [.v (.bool s'), .sl 1 r', .v (.int .i64 d')], .v (.int .i64 den)] (.v (.bool true)) := by
  unfold maxLen at *
  obtain ⟨ws, hW, rfl, h1⟩ := fit_u32s fr
  obtain ⟨ws', hW', rfl, h1'⟩ := fit_u32s fr'
  by_cases hf : fewR ⟨s, ws, d⟩ ∧ fewR ⟨s', ws', d'⟩
  · by_cases hg : 6 < ws.length ∨ 6 < ws'.length ∨ (100 < d ∧ d ≤ 65536) ∨ (100 < d' ∧ d' ≤ 65536) ∨ (100 < den ∧ den ≤ 65536)
    · exact quos_far s ws d s' ws' d' den (by omega) (by omega) hf hg
    · by_cases hd : den < 0 ∨ 65536 < den
      · exact quos_err s ws d s' ws' d' den (by omega) (by omega) hf (by omega) (by omega) (by omega) (by omega) hd
      · obtain ⟨e, rfl⟩ : ∃ e : Nat, den = e := ⟨den.toNat, by omega⟩
        obtain ⟨x, h, gx, dx⟩ := few_arg hW hf.1
        obtain ⟨y, h', gy, dy⟩ := few_arg hW' hf.2
        by_cases hy : y.n = 0
        · exact quos_zero s ws d s' ws' d' e x y h h' hf (by omega) (by omega) (by omega) (by omega) (by omega) hy
        · have h2 := h'.den (k := 100) (by omega) (by omega)
          exact quos_ok s ws d s' ws' d' e x y h h' gx gy hf (by omega) (by omega) (by omega) (by omega) (by omega) (by unfold dn at h2; omega) hy
  · exact quos_out s ws d s' ws' d' den (by omega) (by omega) hf
end Go.Proofs.YtdjgckcninibhaaDoor
