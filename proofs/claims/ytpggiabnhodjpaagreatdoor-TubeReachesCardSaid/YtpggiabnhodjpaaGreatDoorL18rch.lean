/- The statement TubeReaches: its code returns true. -/
import Derived.Test.YtpggiabnhodjpaaGreatDoorT18r
set_option linter.unusedSimpArgs false
set_option linter.unusedVariables false
set_option linter.deprecated false
namespace Go.Proofs.YtpggiabnhodjpaaGreatDoor
open Go Go.Ax
set_option maxRecDepth 100000
set_option maxHeartbeats 4000000
theorem rch_out (a dv : List (List RD)) (w inner outer : List RD) (K b : Int) (ha : a.length ≤ 9223372036854775807) (hd : dv.length ≤ 9223372036854775807) (hw : w.length ≤ 9223372036854775807) (hi : inner.length ≤ 9223372036854775807) (ho : outer.length ≤ 9223372036854775807) (ga : argM a) (gd : argM dv) (gw : argV w) (gi : argV inner) (go : argV outer) (hl : ¬ (lightP a dv w ∧ shortP K inner outer)) : CallOK Tryz.prog gl 5 [.agg [.sl 1 (mrows a), .sl 1 (mrows dv), .sl 3 (vrows w)], .agg [.v (.int .i64 K), .sl 3 (vrows inner), .sl 3 (vrows outer)], .v (.int .u8 b)] (.v (.bool (true))) := by
  refine call_ok (C := ⟨Tryz.prog, gl, ti, 71, false⟩) ti_ok mixed 3000 Tryz.call5 Tryz.func5 rfl Tryz.ntmps5 (by simp) byClL byCl ?_
  rw [Tryz.results5]
  have f1 := law18_light a dv w ha hd hw ga gd gw
  have f2 := law18_short K inner outer hi ho gi go
  have aw := awake18
  by_cases h1 : lightP a dv w
  ·
    rw [decide_eq_true h1] at f1
    rw [decide_eq_false (fun h => hl ⟨h1, h⟩)] at f2
    clear hl h1
    repeat' (first | (simp only [go_sem, seval, IntKind.bits.eq_def, ti, tin]) | (simp (disch := omega) only [wA]) | (with_reducible first | refine cF f1 ?_ | refine dF f1 ?_ | refine cF f2 ?_ | refine dF f2 ?_ | refine cF aw ?_ | refine dF aw ?_) | refine aL ti_ok ?_ | refine dL ti_ok ?_ | refine dG ?_ | ((first | refine cC ?_ ?_ | refine gS ?_ ?_ | refine dS ?_ ?_) <;> intro hc <;> first | (exfalso; simp only [dcA] at hc; omega) | (simp only [hc]; try simp only [dcA] at hc)) | refine aO ?_ | refine dO ?_)
    all_goals exact fin_same trivial rfl
  ·
    rw [decide_eq_false h1] at f1
    clear hl h1
    repeat' (first | (simp only [go_sem, seval, IntKind.bits.eq_def, ti, tin]) | (simp (disch := omega) only [wA]) | (with_reducible first | refine cF f1 ?_ | refine dF f1 ?_ | refine cF aw ?_ | refine dF aw ?_) | refine aL ti_ok ?_ | refine dL ti_ok ?_ | refine dG ?_ | ((first | refine cC ?_ ?_ | refine gS ?_ ?_ | refine dS ?_ ?_) <;> intro hc <;> first | (exfalso; simp only [dcA] at hc; omega) | (simp only [hc]; try simp only [dcA] at hc)) | refine aO ?_ | refine dO ?_)
    all_goals exact fin_same trivial rfl
theorem rch_err (a dv : List (List RD)) (w inner outer : List RD) (K b : Int) (hi : inner.length ≤ 9223372036854775807) (ho : outer.length ≤ 9223372036854775807) (ga : argM a) (gd : argM dv) (gw : argV w) (gi : argV inner) (go : argV outer) (hl : lightP a dv w) (hs : shortP K inner outer) (h2 : ckC a dv w K inner outer ≠ 0) : CallOK Tryz.prog gl 5 [.agg [.sl 1 (mrows a), .sl 1 (mrows dv), .sl 3 (vrows w)], .agg [.v (.int .i64 K), .sl 3 (vrows inner), .sl 3 (vrows outer)], .v (.int .u8 b)] (.v (.bool (true))) := by
  refine call_ok (C := ⟨Tryz.prog, gl, ti, 71, false⟩) ti_ok mixed 3000 Tryz.call5 Tryz.func5 rfl Tryz.ntmps5 (by simp) byClL byCl ?_
  rw [Tryz.results5]
  have X := in18_of ga gd gw hl
  have Y := inC_of gi go hs
  have f1 := law18_light a dv w (by have := X.la; omega) (by have := X.ld; omega) (by have := X.lw; omega) ga gd gw
  have f2 := law18_short K inner outer hi ho gi go
  rw [decide_eq_true hl] at f1
  rw [decide_eq_true hs] at f2
  have aw := awake18
  have k2 := X.checkC Y K
  clear X Y hl hs gi go ga gd gw hi ho
  generalize ckC a dv w K inner outer = e at *
  repeat' (first | (simp only [go_sem, seval, IntKind.bits.eq_def, ti, tin]) | (simp (disch := omega) only [wA]) | (with_reducible first | refine cF f1 ?_ | refine dF f1 ?_ | refine cF f2 ?_ | refine dF f2 ?_ | refine cF aw ?_ | refine dF aw ?_ | refine cF k2 ?_ | refine dF k2 ?_) | refine aL ti_ok ?_ | refine dL ti_ok ?_ | refine dG ?_ | ((first | refine cC ?_ ?_ | refine gS ?_ ?_ | refine dS ?_ ?_) <;> intro hc <;> first | (exfalso; simp only [dcA] at hc; omega) | (simp only [hc]; try simp only [dcA] at hc)) | refine aO ?_ | refine dO ?_)
  all_goals exact fin_same trivial rfl
theorem rch_ok (a dv : List (List RD)) (w inner outer : List RD) (K : Nat) (b : Int) (n : Nat) (hb : 0 ≤ b ∧ b ≤ 255) (hn : a.length = n) (hi : inner.length ≤ 9223372036854775807) (ho : outer.length ≤ 9223372036854775807) (ga : argM a) (gd : argM dv) (gw : argV w) (gi : argV inner) (go : argV outer) (hl : lightP a dv w) (hs : shortP K inner outer) (h2 : ckC a dv w K inner outer = 0) : CallOK Tryz.prog gl 5 [.agg [.sl 1 (mrows a), .sl 1 (mrows dv), .sl 3 (vrows w)], .agg [.v (.int .i64 K), .sl 3 (vrows inner), .sl 3 (vrows outer)], .v (.int .u8 b)] (.v (.bool (true))) := by
  refine call_ok (C := ⟨Tryz.prog, gl, ti, 71, false⟩) ti_ok mixed 3000 Tryz.call5 Tryz.func5 rfl Tryz.ntmps5 (by simp) byClL byCl ?_
  rw [Tryz.results5]
  have X := in18_of ga gd gw hl
  have Y := inC_of gi go hs
  have f1 := law18_light a dv w (by have := X.la; omega) (by have := X.ld; omega) (by have := X.lw; omega) ga gd gw
  have f2 := law18_short K inner outer hi ho gi go
  rw [decide_eq_true hl] at f1
  rw [decide_eq_true hs] at f2
  have aw := awake18
  obtain ⟨h1, hK1, hK2, li, lo, _⟩ := ckC_zero h2
  have hK8 : K ≤ 8 := by have := hs.2.2; omega
  have kc := X.checkC Y K
  rw [h2] at kc
  have tk := X.tok Y h2
  have T := tubeD_of X Y h2
  obtain ⟨j, hj, hjK, j1, j2⟩ : ∃ j : Nat, b.tmod (K + 1) = (j : Int) ∧ j ≤ K ∧ 0 ≤ b.tmod (K + 1) ∧ b.tmod (K + 1) ≤ K := by
    have e := Int.tmod_eq_emod_of_nonneg (b := (K : Int) + 1) hb.1
    have e1 := Int.emod_nonneg b (show (K : Int) + 1 ≠ 0 by omega)
    have e2 := Int.emod_lt_of_pos b (show 0 < (K : Int) + 1 by omega)
    exact ⟨(b.tmod (K + 1)).toNat, by omega, by omega, by omega, by omega⟩
  have c1 := tub_Reach a dv w inner outer K j 64 64 a.length tk h2 (by omega)
  have c2 := X.acc Y K h2
  have c3 := r18_Reach tk K j (by omega)
  have c4 := r18_Accepts tk K (by omega)
  rw [T.acceptsR (by omega)] at c4
  have lR := reach_len tk j
  have sm := same_vec (n := n) (k := 6064) (a := reachD (dyM a) (dyM dv) (dyV w) (dyV inner) (dyV outer) j) (by omega) (by have := X.la; omega) (by omega) (fun i => tk.greach (by omega) i)
  have hk0 : ¬ (K : Int) + 1 = 0 := by omega
  rw [← hj] at c1 c3
  clear X Y hl hs gi go ga gd gw h1 li lo hi ho tk T lR
  generalize acceptsD K (dyM a) (dyM dv) (dyV w) (dyV inner) (dyV outer) = z at *
  generalize vrows ((reachD (dyM a) (dyM dv) (dyV w) (dyV inner) (dyV outer) j).map can) = R at *
  cases z
  ·
    repeat' (first | (simp only [go_sem, seval, IntKind.bits.eq_def, ti, tin, hk0]) | (simp (disch := omega) only [wA]) | (with_reducible first | refine cF f1 ?_ | refine dF f1 ?_ | refine cF f2 ?_ | refine dF f2 ?_ | refine cF aw ?_ | refine dF aw ?_ | refine cF kc ?_ | refine dF kc ?_ | refine cF c1 ?_ | refine dF c1 ?_ | refine cF c2 ?_ | refine dF c2 ?_ | refine cF c3 ?_ | refine dF c3 ?_ | refine cF c4 ?_ | refine dF c4 ?_ | refine cF sm ?_ | refine dF sm ?_) | refine aL ti_ok ?_ | refine dL ti_ok ?_ | refine dG ?_ | ((first | refine cC ?_ ?_ | refine gS ?_ ?_ | refine dS ?_ ?_) <;> intro hc <;> first | (exfalso; simp only [dcA] at hc; omega) | (simp only [hc]; try simp only [dcA] at hc)) | refine aO ?_ | refine dO ?_)
    all_goals exact fin_same trivial rfl
  ·
    repeat' (first | (simp only [go_sem, seval, IntKind.bits.eq_def, ti, tin, hk0]) | (simp (disch := omega) only [wA]) | (with_reducible first | refine cF f1 ?_ | refine dF f1 ?_ | refine cF f2 ?_ | refine dF f2 ?_ | refine cF aw ?_ | refine dF aw ?_ | refine cF kc ?_ | refine dF kc ?_ | refine cF c1 ?_ | refine dF c1 ?_ | refine cF c2 ?_ | refine dF c2 ?_ | refine cF c3 ?_ | refine dF c3 ?_ | refine cF c4 ?_ | refine dF c4 ?_ | refine cF sm ?_ | refine dF sm ?_) | refine aL ti_ok ?_ | refine dL ti_ok ?_ | refine dG ?_ | ((first | refine cC ?_ ?_ | refine gS ?_ ?_ | refine dS ?_ ?_) <;> intro hc <;> first | (exfalso; simp only [dcA] at hc; omega) | (simp only [hc]; try simp only [dcA] at hc)) | refine aO ?_ | refine dO ?_)
    all_goals exact fin_same trivial rfl
theorem reaches18_law (r d : List (List AV)) (w : List (List AV)) (K : Int) (i o : List (List AV)) (b : Int) (hb : (Lit.int .u8 b).wf = true) (hr : r.length ≤ maxLen) (fr : ∀ x ∈ r, FitL [.sl [.bool, .sl [.int .u32], .int .i64]] x) (hd : d.length ≤ maxLen) (fd : ∀ x ∈ d, FitL [.sl [.bool, .sl [.int .u32], .int .i64]] x)
    (hw : w.length ≤ maxLen) (fw : ∀ x ∈ w, FitL [.bool, .sl [.int .u32], .int .i64] x) (hi : i.length ≤ maxLen) (fi : ∀ x ∈ i, FitL [.bool, .sl [.int .u32], .int .i64] x) (ho : o.length ≤ maxLen) (fo : ∀ x ∈ o, FitL [.bool, .sl [.int .u32], .int .i64] x) :
    CallOK Tryz.prog gl 5 [.agg [.sl 1 r, .sl 1 d, .sl 3 w], .agg [.v (.int .i64 K), .sl 3 i, .sl 3 o], .v (.int .u8 b)] (.v (.bool true)) := by
  unfold maxLen at hr hd hw hi ho
  obtain ⟨a, ga, rfl, e1⟩ := fit_mrows fr
  obtain ⟨dv, gd, rfl, e2⟩ := fit_mrows fd
  obtain ⟨w, gw, rfl, e3⟩ := fit_vrows fw
  obtain ⟨i, gi, rfl, e4⟩ := fit_vrows fi
  obtain ⟨o, go, rfl, e5⟩ := fit_vrows fo
  have hb2 : 0 ≤ b ∧ b ≤ 255 := by simpa [Lit.wf, IntKind.min, IntKind.max, IntKind.signed, IntKind.bits] using hb
  by_cases h : lightP a dv w ∧ shortP K i o
  · by_cases h2 : ckC a dv w K i o = 0
    · obtain ⟨_, hK, _⟩ := ckC_zero h2
      obtain ⟨K', rfl⟩ : ∃ K' : Nat, K = K' := ⟨K.toNat, by omega⟩
      exact rch_ok a dv w i o K' b a.length hb2 rfl (by omega) (by omega) ga gd gw gi go h.1 h.2 h2
    · exact rch_err a dv w i o K b (by omega) (by omega) ga gd gw gi go h.1 h.2 h2
  · exact rch_out a dv w i o K b (by omega) (by omega) (by omega) (by omega) (by omega) ga gd gw gi go h
end Go.Proofs.YtpggiabnhodjpaaGreatDoor
