/- The statement TubeChecks: its code returns true. -/
import Derived.Test.YtpggiabnhodjpaaDoorIs
set_option linter.unusedSimpArgs false
set_option linter.unusedVariables false
set_option linter.deprecated false
namespace Go.Proofs.YtpggiabnhodjpaaDoor
open Go Go.Ax
set_option maxRecDepth 100000
set_option maxHeartbeats 4000000

theorem chk18_out (a dv : List (List RD)) (w inner outer : List RD) (K j : Int) (ha : a.length ≤ 9223372036854775807) (hd : dv.length ≤ 9223372036854775807) (hw : w.length ≤ 9223372036854775807) (hi : inner.length ≤ 9223372036854775807) (ho : outer.length ≤ 9223372036854775807) (ga : argM a) (gd : argM dv) (gw : argV w) (gi : argV inner) (go : argV outer) (hl : ¬ (lightP a dv w ∧ shortP K inner outer)) : CallOK Tryd.prog gl 5 [.agg [.sl 1 (mrows a), .sl 1 (mrows dv), .sl 3 (vrows w)], .agg [.v (.int .i64 K), .sl 3 (vrows inner), .sl 3 (vrows outer)], .v (.int .i64 j)] (.v (.bool (true))) := by
  refine call_ok (C := ⟨Tryd.prog, gl, ti, 140, false⟩) ti_ok mixed 3000 Tryd.call5 Tryd.func5 rfl Tryd.ntmps5 (by simp) byClL byCl ?_
  rw [Tryd.results5]
  have f1 := law18_light a dv w ha hd hw ga gd gw
  have f2 := law18_short K inner outer hi ho gi go
  have aw := awake18
  by_cases h1 : lightP a dv w
  ·
    rw [decide_eq_true h1] at f1
    rw [decide_eq_false (fun h => hl ⟨h1, h⟩)] at f2
    clear hl h1
    repeat' (first | (simp only [go_sem, Int.reduceAdd, Int.reduceEq, Int.reduceLE, Int.reduceLT, Int.reduceMul, Int.reduceNeg, Int.reducePow, Int.reduceSub, Int.reduceToNat, Nat.reduceAdd, Nat.reduceBEq, Nat.reduceEqDiff, Nat.reduceLT, Nat.reduceLeDiff, Nat.reduceMul, Nat.reducePow, Nat.reduceSub, reduceCtorEq, reduceIte, IntKind.bits.eq_def, ti, tin]) | (simp (disch := omega) only [w64, wu64, wu32, Nat.min_eq_left]) | (with_reducible first | refine cF (f1) ?_ | refine dF (f1) ?_) | (with_reducible first | refine cF (f2) ?_ | refine dF (f2) ?_) | (with_reducible first | refine cF (aw) ?_ | refine dF (aw) ?_) | (refine aL ti_ok ?_) | (refine dL ti_ok ?_) | (refine dE (by kernel_rfl) ?_) | ((first | refine cC ?_ ?_ | refine gS ?_ ?_ | refine dS ?_ ?_) <;> intro hc <;> first | (exfalso; simp only [dcT, dcF, bnT, bnF, bnU, bnV] at hc; omega) | (simp only [hc]; try simp only [dcT, dcF, bnT, bnF, bnU, bnV] at hc)) | (refine aN (by omega) ?_) | (refine dN (by omega) ?_))
    all_goals exact fin_same trivial rfl
  ·
    rw [decide_eq_false h1] at f1
    clear hl h1
    repeat' (first | (simp only [go_sem, Int.reduceAdd, Int.reduceEq, Int.reduceLE, Int.reduceLT, Int.reduceMul, Int.reduceNeg, Int.reducePow, Int.reduceSub, Int.reduceToNat, Nat.reduceAdd, Nat.reduceBEq, Nat.reduceEqDiff, Nat.reduceLT, Nat.reduceLeDiff, Nat.reduceMul, Nat.reducePow, Nat.reduceSub, reduceCtorEq, reduceIte, IntKind.bits.eq_def, ti, tin]) | (simp (disch := omega) only [w64, wu64, wu32, Nat.min_eq_left]) | (with_reducible first | refine cF (f1) ?_ | refine dF (f1) ?_) | (with_reducible first | refine cF (aw) ?_ | refine dF (aw) ?_) | (refine aL ti_ok ?_) | (refine dL ti_ok ?_) | (refine dE (by kernel_rfl) ?_) | ((first | refine cC ?_ ?_ | refine gS ?_ ?_ | refine dS ?_ ?_) <;> intro hc <;> first | (exfalso; simp only [dcT, dcF, bnT, bnF, bnU, bnV] at hc; omega) | (simp only [hc]; try simp only [dcT, dcF, bnT, bnF, bnU, bnV] at hc)) | (refine aN (by omega) ?_) | (refine dN (by omega) ?_))
    all_goals exact fin_same trivial rfl
theorem chk18_one (a dv : List (List RD)) (w inner outer : List RD) (K j : Int) (hi : inner.length ≤ 9223372036854775807) (ho : outer.length ≤ 9223372036854775807) (ga : argM a) (gd : argM dv) (gw : argV w) (gi : argV inner) (go : argV outer) (hl : lightP a dv w) (hs : shortP K inner outer) (h1 : ckT a dv w ≠ 0) : CallOK Tryd.prog gl 5 [.agg [.sl 1 (mrows a), .sl 1 (mrows dv), .sl 3 (vrows w)], .agg [.v (.int .i64 K), .sl 3 (vrows inner), .sl 3 (vrows outer)], .v (.int .i64 j)] (.v (.bool (true))) := by
  refine call_ok (C := ⟨Tryd.prog, gl, ti, 140, false⟩) ti_ok mixed 3000 Tryd.call5 Tryd.func5 rfl Tryd.ntmps5 (by simp) byClL byCl ?_
  rw [Tryd.results5]
  have X := in18_of ga gd gw hl
  have Y := inC_of gi go hs
  have f1 := law18_light a dv w (by have := X.la; omega) (by have := X.ld; omega) (by have := X.lw; omega) ga gd gw
  have f2 := law18_short K inner outer hi ho gi go
  rw [decide_eq_true hl] at f1
  rw [decide_eq_true hs] at f2
  have aw := awake18
  have h2 : ckC a dv w K inner outer = ckT a dv w := by unfold ckC; rw [if_pos h1]
  have k1 := X.check
  have k2 := X.checkC Y K
  have k3 := X.tcheck
  have k4 := X.tcheckC Y K
  have k5 := X.rche Y K j (by rw [h2]; exact h1)
  have k6 := X.acce Y K (by rw [h2]; exact h1)
  have k7 := X.mke j h1
  have nu := num_eV (ckT a dv w)
  have sc := same_cert0
  rw [h2] at k2 k4 k5 k6
  clear X Y h2 hl hs gi go ga gd gw hi ho
  generalize ckT a dv w = e at *
  generalize eV e = ev at *
  repeat' (first | (simp only [go_sem, Int.reduceAdd, Int.reduceEq, Int.reduceLE, Int.reduceLT, Int.reduceMul, Int.reduceNeg, Int.reducePow, Int.reduceSub, Int.reduceToNat, Nat.reduceAdd, Nat.reduceBEq, Nat.reduceEqDiff, Nat.reduceLT, Nat.reduceLeDiff, Nat.reduceMul, Nat.reducePow, Nat.reduceSub, reduceCtorEq, reduceIte, IntKind.bits.eq_def, ti, tin]) | (simp (disch := omega) only [w64, wu64, wu32, Nat.min_eq_left]) | (with_reducible first | refine cF (f1) ?_ | refine dF (f1) ?_) | (with_reducible first | refine cF (f2) ?_ | refine dF (f2) ?_) | (with_reducible first | refine cF (aw) ?_ | refine dF (aw) ?_) | (with_reducible first | refine cF (k1) ?_ | refine dF (k1) ?_) | (with_reducible first | refine cF (k2) ?_ | refine dF (k2) ?_) | (with_reducible first | refine cF (k3) ?_ | refine dF (k3) ?_) | (with_reducible first | refine cF (k4) ?_ | refine dF (k4) ?_) | (with_reducible first | refine cF (k5) ?_ | refine dF (k5) ?_) | (with_reducible first | refine cF (k6) ?_ | refine dF (k6) ?_) | (with_reducible first | refine cF (k7) ?_ | refine dF (k7) ?_) | (with_reducible first | refine cF (nu) ?_ | refine dF (nu) ?_) | (with_reducible first | refine cF (sc) ?_ | refine dF (sc) ?_) | (refine aL ti_ok ?_) | (refine dL ti_ok ?_) | (refine dE (by kernel_rfl) ?_) | ((first | refine cC ?_ ?_ | refine gS ?_ ?_ | refine dS ?_ ?_) <;> intro hc <;> first | (exfalso; simp only [dcT, dcF, bnT, bnF, bnU, bnV] at hc; omega) | (simp only [hc]; try simp only [dcT, dcF, bnT, bnF, bnU, bnV] at hc)) | (refine aN (by omega) ?_) | (refine dN (by omega) ?_))
  all_goals exact fin_same trivial rfl
theorem chk18_two (a dv : List (List RD)) (w inner outer : List RD) (K j : Int) (hi : inner.length ≤ 9223372036854775807) (ho : outer.length ≤ 9223372036854775807) (ga : argM a) (gd : argM dv) (gw : argV w) (gi : argV inner) (go : argV outer) (hl : lightP a dv w) (hs : shortP K inner outer) (h1 : ckT a dv w = 0) (h2 : ckC a dv w K inner outer ≠ 0) : CallOK Tryd.prog gl 5 [.agg [.sl 1 (mrows a), .sl 1 (mrows dv), .sl 3 (vrows w)], .agg [.v (.int .i64 K), .sl 3 (vrows inner), .sl 3 (vrows outer)], .v (.int .i64 j)] (.v (.bool (true))) := by
  refine call_ok (C := ⟨Tryd.prog, gl, ti, 140, false⟩) ti_ok mixed 3000 Tryd.call5 Tryd.func5 rfl Tryd.ntmps5 (by simp) byClL byCl ?_
  rw [Tryd.results5]
  have X := in18_of ga gd gw hl
  have Y := inC_of gi go hs
  have f1 := law18_light a dv w (by have := X.la; omega) (by have := X.ld; omega) (by have := X.lw; omega) ga gd gw
  have f2 := law18_short K inner outer hi ho gi go
  rw [decide_eq_true hl] at f1
  rw [decide_eq_true hs] at f2
  have aw := awake18
  have k1 := X.check
  have k2 := X.checkC Y K
  have k3 := X.tcheck
  have k4 := X.tcheckC Y K
  have k5 := X.rche Y K j h2
  have k6 := X.acce Y K h2
  have nu := num_eV (ckC a dv w K inner outer)
  have nz := base_Num_nil
  have sc := same_cert0
  rw [h1] at k1 k3
  rw [eV_zero] at k3
  by_cases hj : j < 1 ∨ 32 < j
  ·
    have k7 := X.mkk j h1 hj
    have n3 := num_eV 3
    clear X Y hl hs gi go ga gd gw hi ho h1
    generalize ckC a dv w K inner outer = e at *
    generalize eV e = ev at *
    generalize eV 3 = e3 at *
    by_cases hj1 : j < 1
    ·
      clear hj
      repeat' (first | (simp only [go_sem, Int.reduceAdd, Int.reduceEq, Int.reduceLE, Int.reduceLT, Int.reduceMul, Int.reduceNeg, Int.reducePow, Int.reduceSub, Int.reduceToNat, Nat.reduceAdd, Nat.reduceBEq, Nat.reduceEqDiff, Nat.reduceLT, Nat.reduceLeDiff, Nat.reduceMul, Nat.reducePow, Nat.reduceSub, reduceCtorEq, reduceIte, IntKind.bits.eq_def, ti, tin]) | (simp (disch := omega) only [w64, wu64, wu32, Nat.min_eq_left]) | (with_reducible first | refine cF (f1) ?_ | refine dF (f1) ?_) | (with_reducible first | refine cF (f2) ?_ | refine dF (f2) ?_) | (with_reducible first | refine cF (aw) ?_ | refine dF (aw) ?_) | (with_reducible first | refine cF (k1) ?_ | refine dF (k1) ?_) | (with_reducible first | refine cF (k2) ?_ | refine dF (k2) ?_) | (with_reducible first | refine cF (k3) ?_ | refine dF (k3) ?_) | (with_reducible first | refine cF (k4) ?_ | refine dF (k4) ?_) | (with_reducible first | refine cF (k5) ?_ | refine dF (k5) ?_) | (with_reducible first | refine cF (k6) ?_ | refine dF (k6) ?_) | (with_reducible first | refine cF (k7) ?_ | refine dF (k7) ?_) | (with_reducible first | refine cF (nu) ?_ | refine dF (nu) ?_) | (with_reducible first | refine cF (nz) ?_ | refine dF (nz) ?_) | (with_reducible first | refine cF (n3) ?_ | refine dF (n3) ?_) | (with_reducible first | refine cF (sc) ?_ | refine dF (sc) ?_) | (refine aL ti_ok ?_) | (refine dL ti_ok ?_) | (refine dE (by kernel_rfl) ?_) | ((first | refine cC ?_ ?_ | refine gS ?_ ?_ | refine dS ?_ ?_) <;> intro hc <;> first | (exfalso; simp only [dcT, dcF, bnT, bnF, bnU, bnV] at hc; omega) | (simp only [hc]; try simp only [dcT, dcF, bnT, bnF, bnU, bnV] at hc)) | (refine aN (by omega) ?_) | (refine dN (by omega) ?_))
      all_goals exact fin_same trivial rfl
    ·
      have hj2 : 32 < j := by omega
      clear hj
      repeat' (first | (simp only [go_sem, Int.reduceAdd, Int.reduceEq, Int.reduceLE, Int.reduceLT, Int.reduceMul, Int.reduceNeg, Int.reducePow, Int.reduceSub, Int.reduceToNat, Nat.reduceAdd, Nat.reduceBEq, Nat.reduceEqDiff, Nat.reduceLT, Nat.reduceLeDiff, Nat.reduceMul, Nat.reducePow, Nat.reduceSub, reduceCtorEq, reduceIte, IntKind.bits.eq_def, ti, tin]) | (simp (disch := omega) only [w64, wu64, wu32, Nat.min_eq_left]) | (with_reducible first | refine cF (f1) ?_ | refine dF (f1) ?_) | (with_reducible first | refine cF (f2) ?_ | refine dF (f2) ?_) | (with_reducible first | refine cF (aw) ?_ | refine dF (aw) ?_) | (with_reducible first | refine cF (k1) ?_ | refine dF (k1) ?_) | (with_reducible first | refine cF (k2) ?_ | refine dF (k2) ?_) | (with_reducible first | refine cF (k3) ?_ | refine dF (k3) ?_) | (with_reducible first | refine cF (k4) ?_ | refine dF (k4) ?_) | (with_reducible first | refine cF (k5) ?_ | refine dF (k5) ?_) | (with_reducible first | refine cF (k6) ?_ | refine dF (k6) ?_) | (with_reducible first | refine cF (k7) ?_ | refine dF (k7) ?_) | (with_reducible first | refine cF (nu) ?_ | refine dF (nu) ?_) | (with_reducible first | refine cF (nz) ?_ | refine dF (nz) ?_) | (with_reducible first | refine cF (n3) ?_ | refine dF (n3) ?_) | (with_reducible first | refine cF (sc) ?_ | refine dF (sc) ?_) | (refine aL ti_ok ?_) | (refine dL ti_ok ?_) | (refine dE (by kernel_rfl) ?_) | ((first | refine cC ?_ ?_ | refine gS ?_ ?_ | refine dS ?_ ?_) <;> intro hc <;> first | (exfalso; simp only [dcT, dcF, bnT, bnF, bnU, bnV] at hc; omega) | (simp only [hc]; try simp only [dcT, dcF, bnT, bnF, bnU, bnV] at hc)) | (refine aN (by omega) ?_) | (refine dN (by omega) ?_))
      all_goals exact fin_same trivial rfl
  ·
    obtain ⟨j', rfl⟩ : ∃ j' : Nat, j = j' := ⟨j.toNat, by omega⟩
    have k7 := X.mko j' h1 (by omega) (by omega)
    cases hmo : makeD j' (dyM a) (dyM dv) (dyV w) with
    | none =>
      rw [hmo] at k7
      simp only [certAV, Option.isSome] at k7
      clear X Y hl hs gi go ga gd gw hi ho h1
      generalize ckC a dv w K inner outer = e at *
      generalize eV e = ev at *
      repeat' (first | (simp only [go_sem, Int.reduceAdd, Int.reduceEq, Int.reduceLE, Int.reduceLT, Int.reduceMul, Int.reduceNeg, Int.reducePow, Int.reduceSub, Int.reduceToNat, Nat.reduceAdd, Nat.reduceBEq, Nat.reduceEqDiff, Nat.reduceLT, Nat.reduceLeDiff, Nat.reduceMul, Nat.reducePow, Nat.reduceSub, reduceCtorEq, reduceIte, IntKind.bits.eq_def, ti, tin]) | (simp (disch := omega) only [w64, wu64, wu32, Nat.min_eq_left]) | (with_reducible first | refine cF (f1) ?_ | refine dF (f1) ?_) | (with_reducible first | refine cF (f2) ?_ | refine dF (f2) ?_) | (with_reducible first | refine cF (aw) ?_ | refine dF (aw) ?_) | (with_reducible first | refine cF (k1) ?_ | refine dF (k1) ?_) | (with_reducible first | refine cF (k2) ?_ | refine dF (k2) ?_) | (with_reducible first | refine cF (k3) ?_ | refine dF (k3) ?_) | (with_reducible first | refine cF (k4) ?_ | refine dF (k4) ?_) | (with_reducible first | refine cF (k5) ?_ | refine dF (k5) ?_) | (with_reducible first | refine cF (k6) ?_ | refine dF (k6) ?_) | (with_reducible first | refine cF (k7) ?_ | refine dF (k7) ?_) | (with_reducible first | refine cF (nu) ?_ | refine dF (nu) ?_) | (with_reducible first | refine cF (nz) ?_ | refine dF (nz) ?_) | (with_reducible first | refine cF (sc) ?_ | refine dF (sc) ?_) | (refine aL ti_ok ?_) | (refine dL ti_ok ?_) | (refine dE (by kernel_rfl) ?_) | ((first | refine cC ?_ ?_ | refine gS ?_ ?_ | refine dS ?_ ?_) <;> intro hc <;> first | (exfalso; simp only [dcT, dcF, bnT, bnF, bnU, bnV] at hc; omega) | (simp only [hc]; try simp only [dcT, dcF, bnT, bnF, bnU, bnV] at hc)) | (refine aN (by omega) ?_) | (refine dN (by omega) ?_))
      all_goals exact fin_same trivial rfl
    | some pr =>
      rw [hmo] at k7
      simp only [certAV, Option.isSome] at k7
      clear X Y hl hs gi go ga gd gw hi ho h1
      generalize ckC a dv w K inner outer = e at *
      generalize eV e = ev at *
      repeat' (first | (simp only [go_sem, Int.reduceAdd, Int.reduceEq, Int.reduceLE, Int.reduceLT, Int.reduceMul, Int.reduceNeg, Int.reducePow, Int.reduceSub, Int.reduceToNat, Nat.reduceAdd, Nat.reduceBEq, Nat.reduceEqDiff, Nat.reduceLT, Nat.reduceLeDiff, Nat.reduceMul, Nat.reducePow, Nat.reduceSub, reduceCtorEq, reduceIte, IntKind.bits.eq_def, ti, tin]) | (simp (disch := omega) only [w64, wu64, wu32, Nat.min_eq_left]) | (with_reducible first | refine cF (f1) ?_ | refine dF (f1) ?_) | (with_reducible first | refine cF (f2) ?_ | refine dF (f2) ?_) | (with_reducible first | refine cF (aw) ?_ | refine dF (aw) ?_) | (with_reducible first | refine cF (k1) ?_ | refine dF (k1) ?_) | (with_reducible first | refine cF (k2) ?_ | refine dF (k2) ?_) | (with_reducible first | refine cF (k3) ?_ | refine dF (k3) ?_) | (with_reducible first | refine cF (k4) ?_ | refine dF (k4) ?_) | (with_reducible first | refine cF (k5) ?_ | refine dF (k5) ?_) | (with_reducible first | refine cF (k6) ?_ | refine dF (k6) ?_) | (with_reducible first | refine cF (k7) ?_ | refine dF (k7) ?_) | (with_reducible first | refine cF (nu) ?_ | refine dF (nu) ?_) | (with_reducible first | refine cF (nz) ?_ | refine dF (nz) ?_) | (with_reducible first | refine cF (sc) ?_ | refine dF (sc) ?_) | (refine aL ti_ok ?_) | (refine dL ti_ok ?_) | (refine dE (by kernel_rfl) ?_) | ((first | refine cC ?_ ?_ | refine gS ?_ ?_ | refine dS ?_ ?_) <;> intro hc <;> first | (exfalso; simp only [dcT, dcF, bnT, bnF, bnU, bnV] at hc; omega) | (simp only [hc]; try simp only [dcT, dcF, bnT, bnF, bnU, bnV] at hc)) | (refine aN (by omega) ?_) | (refine dN (by omega) ?_))
      all_goals exact fin_same trivial rfl
theorem chk18_ok (a dv : List (List RD)) (w inner outer : List RD) (K : Nat) (j : Int) (hi : inner.length ≤ 9223372036854775807) (ho : outer.length ≤ 9223372036854775807) (ga : argM a) (gd : argM dv) (gw : argV w) (gi : argV inner) (go : argV outer) (hl : lightP a dv w) (hs : shortP K inner outer) (h2 : ckC a dv w K inner outer = 0) : CallOK Tryd.prog gl 5 [.agg [.sl 1 (mrows a), .sl 1 (mrows dv), .sl 3 (vrows w)], .agg [.v (.int .i64 K), .sl 3 (vrows inner), .sl 3 (vrows outer)], .v (.int .i64 j)] (.v (.bool (true))) := by
  refine call_ok (C := ⟨Tryd.prog, gl, ti, 140, false⟩) ti_ok mixed 3000 Tryd.call5 Tryd.func5 rfl Tryd.ntmps5 (by simp) byClL byCl ?_
  rw [Tryd.results5]
  have X := in18_of ga gd gw hl
  have Y := inC_of gi go hs
  have f1 := law18_light a dv w (by have := X.la; omega) (by have := X.ld; omega) (by have := X.lw; omega) ga gd gw
  have f2 := law18_short K inner outer hi ho gi go
  rw [decide_eq_true hl] at f1
  rw [decide_eq_true hs] at f2
  have aw := awake18
  obtain ⟨h1, hK1, hK2, _⟩ := ckC_zero h2
  have k1 := X.check
  have k2 := X.checkC Y K
  have k3 := X.tcheck
  have k4 := X.tcheckC Y K
  have k6 := X.acc Y K h2
  have nz := base_Num_nil
  have sc := same_cert0
  have tk := X.tok Y h2
  rw [h1] at k1 k3
  rw [h2] at k2 k4
  rw [eV_zero] at k3 k4
  generalize acceptsD K (dyM a) (dyM dv) (dyV w) (dyV inner) (dyV outer) = ac at *
  have is10 := base_Is 10 10
  rw [decide_eq_true rfl] at is10
  by_cases hjK : j < 0 ∨ K < j
  ·
    have k5 := tub_Reach_ix a dv w inner outer K j 64 64 a.length tk h2 hjK
    have e10 : eV 10 = .iface 57 (.int .i64 10) := rfl
    rw [e10] at k5
    by_cases hj : j < 1 ∨ 32 < j
    ·
      have k7 := X.mkk j h1 hj
      have n3 := num_eV 3
      clear X Y hl hs gi go ga gd gw hi ho h1 h2 tk
      generalize eV 3 = e3 at *
      by_cases hj1 : j < 0
      ·
        clear hj hjK
        repeat' (first | (simp only [go_sem, Int.reduceAdd, Int.reduceEq, Int.reduceLE, Int.reduceLT, Int.reduceMul, Int.reduceNeg, Int.reducePow, Int.reduceSub, Int.reduceToNat, Nat.reduceAdd, Nat.reduceBEq, Nat.reduceEqDiff, Nat.reduceLT, Nat.reduceLeDiff, Nat.reduceMul, Nat.reducePow, Nat.reduceSub, reduceCtorEq, reduceIte, IntKind.bits.eq_def, ti, tin]) | (simp (disch := omega) only [w64, wu64, wu32, Nat.min_eq_left]) | (with_reducible first | refine cF (f1) ?_ | refine dF (f1) ?_) | (with_reducible first | refine cF (f2) ?_ | refine dF (f2) ?_) | (with_reducible first | refine cF (aw) ?_ | refine dF (aw) ?_) | (with_reducible first | refine cF (k1) ?_ | refine dF (k1) ?_) | (with_reducible first | refine cF (k2) ?_ | refine dF (k2) ?_) | (with_reducible first | refine cF (k3) ?_ | refine dF (k3) ?_) | (with_reducible first | refine cF (k4) ?_ | refine dF (k4) ?_) | (with_reducible first | refine cF (k5) ?_ | refine dF (k5) ?_) | (with_reducible first | refine cF (k6) ?_ | refine dF (k6) ?_) | (with_reducible first | refine cF (k7) ?_ | refine dF (k7) ?_) | (with_reducible first | refine cF (nz) ?_ | refine dF (nz) ?_) | (with_reducible first | refine cF (n3) ?_ | refine dF (n3) ?_) | (with_reducible first | refine cF (is10) ?_ | refine dF (is10) ?_) | (with_reducible first | refine cF (sc) ?_ | refine dF (sc) ?_) | (refine aL ti_ok ?_) | (refine dL ti_ok ?_) | (refine dE (by kernel_rfl) ?_) | ((first | refine cC ?_ ?_ | refine gS ?_ ?_ | refine dS ?_ ?_) <;> intro hc <;> first | (exfalso; simp only [dcT, dcF, bnT, bnF, bnU, bnV] at hc; omega) | (simp only [hc]; try simp only [dcT, dcF, bnT, bnF, bnU, bnV] at hc)) | (refine aN (by omega) ?_) | (refine dN (by omega) ?_))
        all_goals exact fin_same trivial rfl
      ·
        have hj2 : K < j := by omega
        have hj3 : 32 < j := by omega
        clear hj hjK
        repeat' (first | (simp only [go_sem, Int.reduceAdd, Int.reduceEq, Int.reduceLE, Int.reduceLT, Int.reduceMul, Int.reduceNeg, Int.reducePow, Int.reduceSub, Int.reduceToNat, Nat.reduceAdd, Nat.reduceBEq, Nat.reduceEqDiff, Nat.reduceLT, Nat.reduceLeDiff, Nat.reduceMul, Nat.reducePow, Nat.reduceSub, reduceCtorEq, reduceIte, IntKind.bits.eq_def, ti, tin]) | (simp (disch := omega) only [w64, wu64, wu32, Nat.min_eq_left]) | (with_reducible first | refine cF (f1) ?_ | refine dF (f1) ?_) | (with_reducible first | refine cF (f2) ?_ | refine dF (f2) ?_) | (with_reducible first | refine cF (aw) ?_ | refine dF (aw) ?_) | (with_reducible first | refine cF (k1) ?_ | refine dF (k1) ?_) | (with_reducible first | refine cF (k2) ?_ | refine dF (k2) ?_) | (with_reducible first | refine cF (k3) ?_ | refine dF (k3) ?_) | (with_reducible first | refine cF (k4) ?_ | refine dF (k4) ?_) | (with_reducible first | refine cF (k5) ?_ | refine dF (k5) ?_) | (with_reducible first | refine cF (k6) ?_ | refine dF (k6) ?_) | (with_reducible first | refine cF (k7) ?_ | refine dF (k7) ?_) | (with_reducible first | refine cF (nz) ?_ | refine dF (nz) ?_) | (with_reducible first | refine cF (n3) ?_ | refine dF (n3) ?_) | (with_reducible first | refine cF (is10) ?_ | refine dF (is10) ?_) | (with_reducible first | refine cF (sc) ?_ | refine dF (sc) ?_) | (refine aL ti_ok ?_) | (refine dL ti_ok ?_) | (refine dE (by kernel_rfl) ?_) | ((first | refine cC ?_ ?_ | refine gS ?_ ?_ | refine dS ?_ ?_) <;> intro hc <;> first | (exfalso; simp only [dcT, dcF, bnT, bnF, bnU, bnV] at hc; omega) | (simp only [hc]; try simp only [dcT, dcF, bnT, bnF, bnU, bnV] at hc)) | (refine aN (by omega) ?_) | (refine dN (by omega) ?_))
        all_goals exact fin_same trivial rfl
    ·
      obtain ⟨j', rfl⟩ : ∃ j' : Nat, j = j' := ⟨j.toNat, by omega⟩
      have k7 := X.mko j' h1 (by omega) (by omega)
      cases hmo : makeD j' (dyM a) (dyM dv) (dyV w) with
      | none =>
        rw [hmo] at k7
        simp only [certAV, Option.isSome] at k7
        clear X Y hl hs gi go ga gd gw hi ho h1 h2 tk
        repeat' (first | (simp only [go_sem, Int.reduceAdd, Int.reduceEq, Int.reduceLE, Int.reduceLT, Int.reduceMul, Int.reduceNeg, Int.reducePow, Int.reduceSub, Int.reduceToNat, Nat.reduceAdd, Nat.reduceBEq, Nat.reduceEqDiff, Nat.reduceLT, Nat.reduceLeDiff, Nat.reduceMul, Nat.reducePow, Nat.reduceSub, reduceCtorEq, reduceIte, IntKind.bits.eq_def, ti, tin]) | (simp (disch := omega) only [w64, wu64, wu32, Nat.min_eq_left]) | (with_reducible first | refine cF (f1) ?_ | refine dF (f1) ?_) | (with_reducible first | refine cF (f2) ?_ | refine dF (f2) ?_) | (with_reducible first | refine cF (aw) ?_ | refine dF (aw) ?_) | (with_reducible first | refine cF (k1) ?_ | refine dF (k1) ?_) | (with_reducible first | refine cF (k2) ?_ | refine dF (k2) ?_) | (with_reducible first | refine cF (k3) ?_ | refine dF (k3) ?_) | (with_reducible first | refine cF (k4) ?_ | refine dF (k4) ?_) | (with_reducible first | refine cF (k5) ?_ | refine dF (k5) ?_) | (with_reducible first | refine cF (k6) ?_ | refine dF (k6) ?_) | (with_reducible first | refine cF (k7) ?_ | refine dF (k7) ?_) | (with_reducible first | refine cF (nz) ?_ | refine dF (nz) ?_) | (with_reducible first | refine cF (is10) ?_ | refine dF (is10) ?_) | (with_reducible first | refine cF (sc) ?_ | refine dF (sc) ?_) | (refine aL ti_ok ?_) | (refine dL ti_ok ?_) | (refine dE (by kernel_rfl) ?_) | ((first | refine cC ?_ ?_ | refine gS ?_ ?_ | refine dS ?_ ?_) <;> intro hc <;> first | (exfalso; simp only [dcT, dcF, bnT, bnF, bnU, bnV] at hc; omega) | (simp only [hc]; try simp only [dcT, dcF, bnT, bnF, bnU, bnV] at hc)) | (refine aN (by omega) ?_) | (refine dN (by omega) ?_))
        all_goals exact fin_same trivial rfl
      | some pr =>
        rw [hmo] at k7
        simp only [certAV, Option.isSome] at k7
        clear X Y hl hs gi go ga gd gw hi ho h1 h2 tk
        repeat' (first | (simp only [go_sem, Int.reduceAdd, Int.reduceEq, Int.reduceLE, Int.reduceLT, Int.reduceMul, Int.reduceNeg, Int.reducePow, Int.reduceSub, Int.reduceToNat, Nat.reduceAdd, Nat.reduceBEq, Nat.reduceEqDiff, Nat.reduceLT, Nat.reduceLeDiff, Nat.reduceMul, Nat.reducePow, Nat.reduceSub, reduceCtorEq, reduceIte, IntKind.bits.eq_def, ti, tin]) | (simp (disch := omega) only [w64, wu64, wu32, Nat.min_eq_left]) | (with_reducible first | refine cF (f1) ?_ | refine dF (f1) ?_) | (with_reducible first | refine cF (f2) ?_ | refine dF (f2) ?_) | (with_reducible first | refine cF (aw) ?_ | refine dF (aw) ?_) | (with_reducible first | refine cF (k1) ?_ | refine dF (k1) ?_) | (with_reducible first | refine cF (k2) ?_ | refine dF (k2) ?_) | (with_reducible first | refine cF (k3) ?_ | refine dF (k3) ?_) | (with_reducible first | refine cF (k4) ?_ | refine dF (k4) ?_) | (with_reducible first | refine cF (k5) ?_ | refine dF (k5) ?_) | (with_reducible first | refine cF (k6) ?_ | refine dF (k6) ?_) | (with_reducible first | refine cF (k7) ?_ | refine dF (k7) ?_) | (with_reducible first | refine cF (nz) ?_ | refine dF (nz) ?_) | (with_reducible first | refine cF (is10) ?_ | refine dF (is10) ?_) | (with_reducible first | refine cF (sc) ?_ | refine dF (sc) ?_) | (refine aL ti_ok ?_) | (refine dL ti_ok ?_) | (refine dE (by kernel_rfl) ?_) | ((first | refine cC ?_ ?_ | refine gS ?_ ?_ | refine dS ?_ ?_) <;> intro hc <;> first | (exfalso; simp only [dcT, dcF, bnT, bnF, bnU, bnV] at hc; omega) | (simp only [hc]; try simp only [dcT, dcF, bnT, bnF, bnU, bnV] at hc)) | (refine aN (by omega) ?_) | (refine dN (by omega) ?_))
        all_goals exact fin_same trivial rfl
  ·
    obtain ⟨j', rfl⟩ : ∃ j' : Nat, j = j' := ⟨j.toNat, by omega⟩
    have k5 := tub_Reach a dv w inner outer K j' 64 64 a.length tk h2 (by omega)
    have lR : (vrows ((reachD (dyM a) (dyM dv) (dyV w) (dyV inner) (dyV outer) j').map can)).length = a.length := by rw [vrows_length, List.length_map, reach_len tk]
    generalize (reachD (dyM a) (dyM dv) (dyV w) (dyV inner) (dyV outer) j').map can = R at *
    by_cases hj : (j' : Int) < 1
    ·
      have k7 := X.mkk j' h1 (.inl hj)
      have n3 := num_eV 3
      clear X Y hl hs gi go ga gd gw hi ho h1 h2 tk
      generalize eV 3 = e3 at *
      repeat' (first | (simp only [go_sem, Int.reduceAdd, Int.reduceEq, Int.reduceLE, Int.reduceLT, Int.reduceMul, Int.reduceNeg, Int.reducePow, Int.reduceSub, Int.reduceToNat, Nat.reduceAdd, Nat.reduceBEq, Nat.reduceEqDiff, Nat.reduceLT, Nat.reduceLeDiff, Nat.reduceMul, Nat.reducePow, Nat.reduceSub, reduceCtorEq, reduceIte, IntKind.bits.eq_def, ti, tin]) | (simp (disch := omega) only [w64, wu64, wu32, Nat.min_eq_left]) | (with_reducible first | refine cF (f1) ?_ | refine dF (f1) ?_) | (with_reducible first | refine cF (f2) ?_ | refine dF (f2) ?_) | (with_reducible first | refine cF (aw) ?_ | refine dF (aw) ?_) | (with_reducible first | refine cF (k1) ?_ | refine dF (k1) ?_) | (with_reducible first | refine cF (k2) ?_ | refine dF (k2) ?_) | (with_reducible first | refine cF (k3) ?_ | refine dF (k3) ?_) | (with_reducible first | refine cF (k4) ?_ | refine dF (k4) ?_) | (with_reducible first | refine cF (k5) ?_ | refine dF (k5) ?_) | (with_reducible first | refine cF (k6) ?_ | refine dF (k6) ?_) | (with_reducible first | refine cF (k7) ?_ | refine dF (k7) ?_) | (with_reducible first | refine cF (nz) ?_ | refine dF (nz) ?_) | (with_reducible first | refine cF (n3) ?_ | refine dF (n3) ?_) | (with_reducible first | refine cF (sc) ?_ | refine dF (sc) ?_) | (refine aL ti_ok ?_) | (refine dL ti_ok ?_) | (refine dE (by kernel_rfl) ?_) | ((first | refine cC ?_ ?_ | refine gS ?_ ?_ | refine dS ?_ ?_) <;> intro hc <;> first | (exfalso; simp only [dcT, dcF, bnT, bnF, bnU, bnV] at hc; omega) | (simp only [hc]; try simp only [dcT, dcF, bnT, bnF, bnU, bnV] at hc)) | (refine aN (by omega) ?_) | (refine dN (by omega) ?_))
      all_goals exact fin_same trivial rfl
    ·
      have k7 := X.mko j' h1 (by omega) (by omega)
      cases hmo : makeD j' (dyM a) (dyM dv) (dyV w) with
      | none =>
        rw [hmo] at k7
        simp only [certAV, Option.isSome] at k7
        clear X Y hl hs gi go ga gd gw hi ho h1 h2 tk
        repeat' (first | (simp only [go_sem, Int.reduceAdd, Int.reduceEq, Int.reduceLE, Int.reduceLT, Int.reduceMul, Int.reduceNeg, Int.reducePow, Int.reduceSub, Int.reduceToNat, Nat.reduceAdd, Nat.reduceBEq, Nat.reduceEqDiff, Nat.reduceLT, Nat.reduceLeDiff, Nat.reduceMul, Nat.reducePow, Nat.reduceSub, reduceCtorEq, reduceIte, IntKind.bits.eq_def, ti, tin]) | (simp (disch := omega) only [w64, wu64, wu32, Nat.min_eq_left]) | (with_reducible first | refine cF (f1) ?_ | refine dF (f1) ?_) | (with_reducible first | refine cF (f2) ?_ | refine dF (f2) ?_) | (with_reducible first | refine cF (aw) ?_ | refine dF (aw) ?_) | (with_reducible first | refine cF (k1) ?_ | refine dF (k1) ?_) | (with_reducible first | refine cF (k2) ?_ | refine dF (k2) ?_) | (with_reducible first | refine cF (k3) ?_ | refine dF (k3) ?_) | (with_reducible first | refine cF (k4) ?_ | refine dF (k4) ?_) | (with_reducible first | refine cF (k5) ?_ | refine dF (k5) ?_) | (with_reducible first | refine cF (k6) ?_ | refine dF (k6) ?_) | (with_reducible first | refine cF (k7) ?_ | refine dF (k7) ?_) | (with_reducible first | refine cF (nz) ?_ | refine dF (nz) ?_) | (with_reducible first | refine cF (sc) ?_ | refine dF (sc) ?_) | (refine aL ti_ok ?_) | (refine dL ti_ok ?_) | (refine dE (by kernel_rfl) ?_) | ((first | refine cC ?_ ?_ | refine gS ?_ ?_ | refine dS ?_ ?_) <;> intro hc <;> first | (exfalso; simp only [dcT, dcF, bnT, bnF, bnU, bnV] at hc; omega) | (simp only [hc]; try simp only [dcT, dcF, bnT, bnF, bnU, bnV] at hc)) | (refine aN (by omega) ?_) | (refine dN (by omega) ?_))
        all_goals exact fin_same trivial rfl
      | some pr =>
        rw [hmo] at k7
        simp only [certAV, Option.isSome] at k7
        clear X Y hl hs gi go ga gd gw hi ho h1 h2 tk
        repeat' (first | (simp only [go_sem, Int.reduceAdd, Int.reduceEq, Int.reduceLE, Int.reduceLT, Int.reduceMul, Int.reduceNeg, Int.reducePow, Int.reduceSub, Int.reduceToNat, Nat.reduceAdd, Nat.reduceBEq, Nat.reduceEqDiff, Nat.reduceLT, Nat.reduceLeDiff, Nat.reduceMul, Nat.reducePow, Nat.reduceSub, reduceCtorEq, reduceIte, IntKind.bits.eq_def, ti, tin]) | (simp (disch := omega) only [w64, wu64, wu32, Nat.min_eq_left]) | (with_reducible first | refine cF (f1) ?_ | refine dF (f1) ?_) | (with_reducible first | refine cF (f2) ?_ | refine dF (f2) ?_) | (with_reducible first | refine cF (aw) ?_ | refine dF (aw) ?_) | (with_reducible first | refine cF (k1) ?_ | refine dF (k1) ?_) | (with_reducible first | refine cF (k2) ?_ | refine dF (k2) ?_) | (with_reducible first | refine cF (k3) ?_ | refine dF (k3) ?_) | (with_reducible first | refine cF (k4) ?_ | refine dF (k4) ?_) | (with_reducible first | refine cF (k5) ?_ | refine dF (k5) ?_) | (with_reducible first | refine cF (k6) ?_ | refine dF (k6) ?_) | (with_reducible first | refine cF (k7) ?_ | refine dF (k7) ?_) | (with_reducible first | refine cF (nz) ?_ | refine dF (nz) ?_) | (with_reducible first | refine cF (sc) ?_ | refine dF (sc) ?_) | (refine aL ti_ok ?_) | (refine dL ti_ok ?_) | (refine dE (by kernel_rfl) ?_) | ((first | refine cC ?_ ?_ | refine gS ?_ ?_ | refine dS ?_ ?_) <;> intro hc <;> first | (exfalso; simp only [dcT, dcF, bnT, bnF, bnU, bnV] at hc; omega) | (simp only [hc]; try simp only [dcT, dcF, bnT, bnF, bnU, bnV] at hc)) | (refine aN (by omega) ?_) | (refine dN (by omega) ?_))
        all_goals exact fin_same trivial rfl
theorem checks18_law (r d : List (List AV)) (w : List (List AV)) (K : Int) (i o : List (List AV)) (j : Int) (hr : r.length ≤ maxLen) (fr : ∀ x ∈ r, FitL [.sl [.bool, .sl [.int .u32], .int .i64]] x) (hd : d.length ≤ maxLen) (fd : ∀ x ∈ d, FitL [.sl [.bool, .sl [.int .u32], .int .i64]] x)
    (hw : w.length ≤ maxLen) (fw : ∀ x ∈ w, FitL [.bool, .sl [.int .u32], .int .i64] x) (hi : i.length ≤ maxLen) (fi : ∀ x ∈ i, FitL [.bool, .sl [.int .u32], .int .i64] x) (ho : o.length ≤ maxLen) (fo : ∀ x ∈ o, FitL [.bool, .sl [.int .u32], .int .i64] x) :
    CallOK Tryd.prog gl 5 [.agg [.sl 1 r, .sl 1 d, .sl 3 w], .agg [.v (.int .i64 K), .sl 3 i, .sl 3 o], .v (.int .i64 j)] (.v (.bool true)) := by
  unfold maxLen at hr hd hw hi ho
  obtain ⟨a, ga, rfl, e1⟩ := fit_mrows fr
  obtain ⟨dv, gd, rfl, e2⟩ := fit_mrows fd
  obtain ⟨w, gw, rfl, e3⟩ := fit_vrows fw
  obtain ⟨i, gi, rfl, e4⟩ := fit_vrows fi
  obtain ⟨o, go, rfl, e5⟩ := fit_vrows fo
  by_cases h : lightP a dv w ∧ shortP K i o
  · by_cases h1 : ckT a dv w = 0
    · by_cases h2 : ckC a dv w K i o = 0
      · obtain ⟨_, hK, _⟩ := ckC_zero h2
        obtain ⟨K', rfl⟩ : ∃ K' : Nat, K = K' := ⟨K.toNat, by omega⟩
        exact chk18_ok a dv w i o K' j (by omega) (by omega) ga gd gw gi go h.1 h.2 h2
      · exact chk18_two a dv w i o K j (by omega) (by omega) ga gd gw gi go h.1 h.2 h1 h2
    · exact chk18_one a dv w i o K j (by omega) (by omega) ga gd gw gi go h.1 h.2 h1
  · exact chk18_out a dv w i o K j (by omega) (by omega) (by omega) (by omega) (by omega) ga gd gw gi go h
end Go.Proofs.YtpggiabnhodjpaaDoor
