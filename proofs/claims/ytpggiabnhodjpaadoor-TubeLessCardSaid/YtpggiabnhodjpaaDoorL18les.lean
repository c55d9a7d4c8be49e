/- The statement TubeLess: its code returns true. -/
import Derived.Test.YtpggiabnhodjpaaDoorT18f
import Derived.Test.YtpggiabnhodjpaaDoorU4
set_option linter.unusedSimpArgs false
set_option linter.unusedVariables false
set_option linter.deprecated false
namespace Go.Proofs.YtpggiabnhodjpaaDoor
open Go Go.Ax
set_option maxRecDepth 100000
set_option maxHeartbeats 4000000

theorem les_out (a dv : List (List RD)) (w inner outer : List RD) (K : Int) (s : List Int) (hcs : ∀ r ∈ rws bytes s, ∀ a ∈ r, Cl a) (hsl : s.length ≤ 9223372036854775807) (ha : a.length ≤ 9223372036854775807) (hd : dv.length ≤ 9223372036854775807) (hw : w.length ≤ 9223372036854775807) (hi : inner.length ≤ 9223372036854775807) (ho : outer.length ≤ 9223372036854775807) (ga : argM a) (gd : argM dv) (gw : argV w) (gi : argV inner) (go : argV outer) (hl : ¬ (lightP a dv w ∧ shortP K inner outer)) : CallOK Tryd.prog gl 3 [.agg [.sl 1 (mrows a), .sl 1 (mrows dv), .sl 3 (vrows w)], .agg [.v (.int .i64 K), .sl 3 (vrows inner), .sl 3 (vrows outer)], .sl 1 (rws bytes s)] (.v (.bool (true))) := by
  refine call_ok (C := ⟨Tryd.prog, gl, ti, 123, false⟩) ti_ok mixed 3000 Tryd.call3 Tryd.func3 rfl Tryd.ntmps3 (by simp) byClL byCl ?_
  rw [Tryd.results3]
  have f1 := law18_light a dv w ha hd hw ga gd gw
  have f2 := law18_short K inner outer hi ho gi go
  have aw := awake18
  by_cases h1 : lightP a dv w
  ·
    rw [decide_eq_true h1] at f1
    rw [decide_eq_false (fun h => hl ⟨h1, h⟩)] at f2
    clear hl h1
    repeat' (first | (simp only [go_sem, Int.reduceAdd, Int.reduceEq, Int.reduceLE, Int.reduceLT, Int.reduceMul, Int.reduceNeg, Int.reducePow, Int.reduceSub, Int.reduceToNat, Nat.reduceAdd, Nat.reduceBEq, Nat.reduceEqDiff, Nat.reduceLT, Nat.reduceLeDiff, Nat.reduceMul, Nat.reducePow, Nat.reduceSub, reduceCtorEq, reduceIte, IntKind.bits.eq_def, ti, tin]) | (simp (disch := omega) only [w64, wu64, wu32, Nat.min_eq_left]) | (with_reducible first | refine cF (f1) ?_ | refine dF (f1) ?_) | (with_reducible first | refine cF (f2) ?_ | refine dF (f2) ?_) | (with_reducible first | refine cF (aw) ?_ | refine dF (aw) ?_) | (refine aL ti_ok ?_) | (refine dL ti_ok ?_) | (refine dE (by kernel_rfl) ?_) | ((first | refine cC ?_ ?_ | refine gS ?_ ?_ | refine dS ?_ ?_) <;> intro hc <;> first | (exfalso; simp only [dcT, dcF, bnT, bnF, bnU, bnV] at hc; omega) | (simp only [hc]; try simp only [dcT, dcF, bnT, bnF, bnU, bnV] at hc)) | (refine aN (by omega) ?_) | (refine dN (by omega) ?_))
    all_goals exact fin_same trivial rfl
  ·
    rw [decide_eq_false h1] at f1
    clear hl h1
    repeat' (first | (simp only [go_sem, Int.reduceAdd, Int.reduceEq, Int.reduceLE, Int.reduceLT, Int.reduceMul, Int.reduceNeg, Int.reducePow, Int.reduceSub, Int.reduceToNat, Nat.reduceAdd, Nat.reduceBEq, Nat.reduceEqDiff, Nat.reduceLT, Nat.reduceLeDiff, Nat.reduceMul, Nat.reducePow, Nat.reduceSub, reduceCtorEq, reduceIte, IntKind.bits.eq_def, ti, tin]) | (simp (disch := omega) only [w64, wu64, wu32, Nat.min_eq_left]) | (with_reducible first | refine cF (f1) ?_ | refine dF (f1) ?_) | (with_reducible first | refine cF (aw) ?_ | refine dF (aw) ?_) | (refine aL ti_ok ?_) | (refine dL ti_ok ?_) | (refine dE (by kernel_rfl) ?_) | ((first | refine cC ?_ ?_ | refine gS ?_ ?_ | refine dS ?_ ?_) <;> intro hc <;> first | (exfalso; simp only [dcT, dcF, bnT, bnF, bnU, bnV] at hc; omega) | (simp only [hc]; try simp only [dcT, dcF, bnT, bnF, bnU, bnV] at hc)) | (refine aN (by omega) ?_) | (refine dN (by omega) ?_))
    all_goals exact fin_same trivial rfl
theorem les_err (a dv : List (List RD)) (w inner outer : List RD) (K : Int) (s : List Int) (hcs : ∀ r ∈ rws bytes s, ∀ a ∈ r, Cl a) (hsl : s.length ≤ 9223372036854775807) (hi : inner.length ≤ 9223372036854775807) (ho : outer.length ≤ 9223372036854775807) (ga : argM a) (gd : argM dv) (gw : argV w) (gi : argV inner) (go : argV outer) (hl : lightP a dv w) (hs : shortP K inner outer) (h2 : ckC a dv w K inner outer ≠ 0 ∨ 60 < s.length) : CallOK Tryd.prog gl 3 [.agg [.sl 1 (mrows a), .sl 1 (mrows dv), .sl 3 (vrows w)], .agg [.v (.int .i64 K), .sl 3 (vrows inner), .sl 3 (vrows outer)], .sl 1 (rws bytes s)] (.v (.bool (true))) := by
  refine call_ok (C := ⟨Tryd.prog, gl, ti, 123, false⟩) ti_ok mixed 3000 Tryd.call3 Tryd.func3 rfl Tryd.ntmps3 (by simp) byClL byCl ?_
  rw [Tryd.results3]
  have X := in18_of ga gd gw hl
  have Y := inC_of gi go hs
  have f1 := law18_light a dv w (by have := X.la; omega) (by have := X.ld; omega) (by have := X.lw; omega) ga gd gw
  have f2 := law18_short K inner outer hi ho gi go
  rw [decide_eq_true hl] at f1
  rw [decide_eq_true hs] at f2
  have aw := awake18
  have k2 := X.checkC Y K
  clear X Y hl hs gi go ga gd gw hi ho
  generalize ckC a dv w K inner outer = e at *
  by_cases h3 : e = 0
  ·
    have h4 : 60 < s.length := by omega
    subst h3
    obtain ⟨m, hm⟩ : ∃ m, s.length = m := ⟨_, rfl⟩
    rw [hm] at h4 hsl
    clear h2
    repeat' (first | (simp only [go_sem, Int.reduceAdd, Int.reduceEq, Int.reduceLE, Int.reduceLT, Int.reduceMul, Int.reduceNeg, Int.reducePow, Int.reduceSub, Int.reduceToNat, Nat.reduceAdd, Nat.reduceBEq, Nat.reduceEqDiff, Nat.reduceLT, Nat.reduceLeDiff, Nat.reduceMul, Nat.reducePow, Nat.reduceSub, reduceCtorEq, reduceIte, IntKind.bits.eq_def, ti, tin, rws_length, hm]) | (simp (disch := omega) only [w64, wu64, wu32, Nat.min_eq_left]) | (with_reducible first | refine cF (f1) ?_ | refine dF (f1) ?_) | (with_reducible first | refine cF (f2) ?_ | refine dF (f2) ?_) | (with_reducible first | refine cF (aw) ?_ | refine dF (aw) ?_) | (with_reducible first | refine cF (k2) ?_ | refine dF (k2) ?_) | (refine aL ti_ok ?_) | (refine dL ti_ok ?_) | (refine dE (by kernel_rfl) ?_) | ((first | refine cC ?_ ?_ | refine gS ?_ ?_ | refine dS ?_ ?_) <;> intro hc <;> first | (exfalso; simp only [dcT, dcF, bnT, bnF, bnU, bnV] at hc; omega) | (simp only [hc]; try simp only [dcT, dcF, bnT, bnF, bnU, bnV] at hc)) | (refine aN (by omega) ?_) | (refine dN (by omega) ?_))
    all_goals exact fin_same trivial rfl
  ·
    clear h2
    repeat' (first | (simp only [go_sem, Int.reduceAdd, Int.reduceEq, Int.reduceLE, Int.reduceLT, Int.reduceMul, Int.reduceNeg, Int.reducePow, Int.reduceSub, Int.reduceToNat, Nat.reduceAdd, Nat.reduceBEq, Nat.reduceEqDiff, Nat.reduceLT, Nat.reduceLeDiff, Nat.reduceMul, Nat.reducePow, Nat.reduceSub, reduceCtorEq, reduceIte, IntKind.bits.eq_def, ti, tin]) | (simp (disch := omega) only [w64, wu64, wu32, Nat.min_eq_left]) | (with_reducible first | refine cF (f1) ?_ | refine dF (f1) ?_) | (with_reducible first | refine cF (f2) ?_ | refine dF (f2) ?_) | (with_reducible first | refine cF (aw) ?_ | refine dF (aw) ?_) | (with_reducible first | refine cF (k2) ?_ | refine dF (k2) ?_) | (refine aL ti_ok ?_) | (refine dL ti_ok ?_) | (refine dE (by kernel_rfl) ?_) | ((first | refine cC ?_ ?_ | refine gS ?_ ?_ | refine dS ?_ ?_) <;> intro hc <;> first | (exfalso; simp only [dcT, dcF, bnT, bnF, bnU, bnV] at hc; omega) | (simp only [hc]; try simp only [dcT, dcF, bnT, bnF, bnU, bnV] at hc)) | (refine aN (by omega) ?_) | (refine dN (by omega) ?_))
    all_goals exact fin_same trivial rfl
def lesD (dv : List (List RD)) (s : List Int) (n i l : Nat) : Dy := (partD ((dv.getD i []).getD l RD.zero).dy (pickL s (i * (n + 1) + l))).abs
def lesW (w : List RD) (s : List Int) (n i : Nat) : Dy := (partD (w.getD i RD.zero).dy (pickL s (i * (n + 1) + n))).abs
theorem les_acc {a dv : List (List RD)} {w inner outer : List RD} (X : In18 a dv w) (Y : InC inner outer) {K n : Nat} {s : List Int} (hs : ∀ n ∈ s, isByte n) (hn : a.length = n) (hc : ckC a dv w K inner outer = 0) (hK : K ≤ 8) :
    ∃ z z' : Bool, CallOK Tryd.prog gl 13 [.agg [.sl 1 (mrows a), .sl 1 (mrows dv), .sl 3 (vrows w)], .agg [.v (.int .i64 K), .sl 3 (vrows inner), .sl 3 (vrows outer)]] (.tup [.v (.bool z), .v .nilIface])
      ∧ CallOK Tryd.prog gl 13 [.agg [.sl 1 (mrows a), .sl 1 (mrows (crM (tabD n n (lesD dv s n)))), .sl 3 (vrows ((tabV n (lesW w s n)).map can))], .agg [.v (.int .i64 K), .sl 3 (vrows inner), .sl 3 (vrows outer)]] (.tup [.v (.bool z'), .v .nilIface])
      ∧ (z = true → z' = true) := by
  have T := tubeD_of X Y hc
  have k1 := X.acc Y K hc
  obtain ⟨c1, c2, c3, c4, c5, c6, c7⟩ := ckC_zero hc
  obtain ⟨t1, t2, t3, t4, t5, t6, t7, t8, t9⟩ := ckT_zero c1
  have hn0 := (ckM_zero t1).1.1
  rw [hn] at hn0 t3 t4 t5 t6 t7
  have dD : ∀ i l, ((dv.getD i []).getD l RD.zero).dy.d ≤ 40 := fun i l => by have := X.fd i l; rwa [dyM_el] at this
  have dW : ∀ i, (w.getD i RD.zero).dy.d ≤ 40 := fun i => by have := X.fw i; rwa [dyV_get] at this
  have nD : ∀ i l, i < n → l < n → 0 ≤ ((dv.getD i []).getD l RD.zero).dy.v := fun i l hi hl => by
    have := T.nd i l (by omega) (by omega)
    unfold elQ at this; rwa [dyM_el] at this
  have nW : ∀ i, i < n → 0 ≤ (w.getD i RD.zero).dy.v := fun i hi => by
    have := T.nw i (by omega)
    unfold vQ at this; rwa [dyV_get] at this
  have vD : ∀ i l, i < n → l < n → 0 ≤ (lesD dv s n i l).v ∧ (lesD dv s n i l).v ≤ ((dv.getD i []).getD l RD.zero).dy.v := fun i l hi hl => by
    unfold lesD; rw [v_abs]
    exact ⟨absQ_nn _, part_le (by have := dD i l; omega) (nD i l hi hl) (pickL_byte hs _)⟩
  have vW : ∀ i, i < n → 0 ≤ (lesW w s n i).v ∧ (lesW w s n i).v ≤ (w.getD i RD.zero).dy.v := fun i hi => by
    unfold lesW; rw [v_abs]
    exact ⟨absQ_nn _, part_le (by have := dW i; omega) (nW i hi) (pickL_byte hs _)⟩
  have gD : ∀ i l, Mg 72 (lesD dv s n i l) := fun i l => Mg.abs (part_mg (X.od i l).2 (pickL_byte hs _))
  have gW : ∀ i, Mg 72 (lesW w s n i) := fun i => Mg.abs (part_mg (X.ow i).2 (pickL_byte hs _))
  have rD : rect n n (tabD n n (lesD dv s n)) := tabD_rect
  have hM : ckM (crM (tabD n n (lesD dv s n))) = 0 := ckM_rect rD hn0 (by omega) hn0 (by omega)
  have hT' : ckT a (crM (tabD n n (lesD dv s n))) ((tabV n (lesW w s n)).map can) = 0 := ckT_mk c1 hM (by rw [crM_len, tabD_len, hn]) (by rw [crM_get, List.length_map, rD.2 0 hn0, hn]) (by rw [List.length_map, tabV_len, hn])
    (fun i hi => by
      rw [crM_len, tabD_len] at hi
      rw [crM_get, tabD_row hi]
      exact nonneg_can fun l hl => by
        rw [tabV_len] at hl
        unfold vQ; rw [tabV_get hl]; exact (vD i l hi hl).1)
    (nonneg_can fun i hi => by
      rw [tabV_len] at hi
      unfold vQ; rw [tabV_get hi]; exact (vW i hi).1)
  have hC' : ckC a (crM (tabD n n (lesD dv s n))) ((tabV n (lesW w s n)).map can) K inner outer = 0 := ckC_mk hT' c2 c3 c4 c5 c6 c7
  have oD : okM 72 (crM (tabD n n (lesD dv s n))) := okM_cr (mg_el_tab fun i j _ _ => gD i j) (by omega)
  have oW : okV 72 ((tabV n (lesW w s n)).map can) := okV_can (fun i => by
    by_cases hi : i < n
    · rw [tabV_get hi]; exact gW i
    · rw [List.getD, List.getElem?_eq_none (by rw [tabV_len]; omega)]; exact Mg.zero _) (by omega)
  have hO := tubOK_of (p := 72) (q := 72) (by omega) (by omega) (X.oa.mono (by omega)) oD oW (fun i => (Y.oi i).mono (by omega)) (fun i => (Y.oo i).mono (by omega)) hC'
  have fD : fine 47 (tabD n n (lesD dv s n)) := fine_of rD fun i j hi hj => by
    rw [tabD_el hi hj]
    have := part_d (x := ((dv.getD i []).getD j RD.zero).dy) (n := pickL s (i * (n + 1) + j)) (by have := dD i j; omega)
    have := dD i j
    show (partD _ _).d ≤ 47
    omega
  have fW : fineV 47 (tabV n (lesW w s n)) := fineV_of tabV_len fun i hi => by
    rw [tabV_get hi]
    have := part_d (x := (w.getD i RD.zero).dy) (n := pickL s (i * (n + 1) + n)) (by have := dW i; omega)
    have := dW i
    show (partD _ _).d ≤ 47
    omega
  have T' := tubeD_mk (P := 47) (Q := 47) hO hC' (fine.mono X.fa (by omega)) (by rw [dyM_cr]; exact fD) (by rw [dyV_can]; exact fW) (Y.fi.mono (by omega)) (Y.fo.mono (by omega))
  have T2 := tubeD_mk (P := 47) (Q := 47) (X.tok Y hc) hc (fine.mono X.fa (by omega)) (fine.mono X.fd (by omega)) (X.fw.mono (by omega)) (Y.fi.mono (by omega)) (Y.fo.mono (by omega))
  have k2 := tub_Accepts a _ _ inner outer K 72 72 a.length hO hC'
  rw [dyV_can, dyM_cr] at k2 T'
  refine ⟨_, _, k1, k2, fun h => less_accepts T2 T' (by omega) (fun i l hi hl => ?_) (fun i hi => ?_) h⟩
  · rw [hn] at hi hl
    unfold elQ; rw [tabD_el hi hl, dyM_el]; exact (vD i l hi hl).2
  · rw [hn] at hi
    unfold vQ; rw [tabV_get hi, dyV_get]; exact (vW i hi).2
theorem les_ok (a dv : List (List RD)) (w inner outer : List RD) (K n : Nat) (s : List Int) (hcs : ∀ r ∈ rws bytes s, ∀ a ∈ r, Cl a) (hsl : s.length ≤ 60) (hsb : ∀ n ∈ s, isByte n) (hn : a.length = n) (hi : inner.length ≤ 9223372036854775807) (ho : outer.length ≤ 9223372036854775807) (ga : argM a) (gd : argM dv) (gw : argV w) (gi : argV inner) (go : argV outer) (hl : lightP a dv w) (hs : shortP K inner outer) (h2 : ckC a dv w K inner outer = 0) : CallOK Tryd.prog gl 3 [.agg [.sl 1 (mrows a), .sl 1 (mrows dv), .sl 3 (vrows w)], .agg [.v (.int .i64 K), .sl 3 (vrows inner), .sl 3 (vrows outer)], .sl 1 (rws bytes s)] (.v (.bool (true))) := by
  refine call_ok (C := ⟨Tryd.prog, gl, ti, 123, false⟩) ti_ok mixed 3000 Tryd.call3 Tryd.func3 rfl Tryd.ntmps3 (by simp) byClL byCl ?_
  rw [Tryd.results3]
  have X := in18_of ga gd gw hl
  have Y := inC_of gi go hs
  have f1 := law18_light a dv w (by have := X.la; omega) (by have := X.ld; omega) (by have := X.lw; omega) ga gd gw
  have f2 := law18_short K inner outer hi ho gi go
  rw [decide_eq_true hl] at f1
  rw [decide_eq_true hs] at f2
  have aw := awake18
  obtain ⟨h1, hK1, hK2, li, lo, _⟩ := ckC_zero h2
  obtain ⟨t1, t2, t3, t4, t5, t6, t7, t8, t9⟩ := ckT_zero h1
  have hn0 := (ckM_zero t1).1.1
  have hn3 : n ≤ 3 := by have := X.few; omega
  obtain ⟨z, z', k1, k2, hz⟩ := les_acc X Y hsb hn h2 (by have := hs.2.2; omega)
  have kc := X.checkC Y K
  rw [h2] at kc
  rw [hn] at hn0 t5 t6 t7
  have hrow := (ckM_zero t2).2.2
  rw [t5, t6] at hrow
  have pk : ∀ i : Nat, i ≤ 1000 → CallOK Tryd.prog gl 12 [.sl 1 (rws bytes s), .v (.int .i64 i)] (.v (.int .i8 (pickL s i))) := fun i hi => law18_pick s i (by omega) hi
  have pt : ∀ (r : RD) (i : Nat), okR 64 r → CallOK Tryd.prog gl 11 [.agg [.v (.bool r.s), .sl 1 (u32s r.ws), .v (.int .i64 r.d)], .v (.int .i8 (pickL s i))] (.agg (crow (partD r.dy (pickL s i)))) := fun r i hr => law18_part _ _ _ _ (RD.arg hr.1) _ (pickL_byte hsb i)
  have ab : ∀ (r : RD) (i : Nat), okR 64 r → CallOK Tryd.prog gl 10 [.agg (crow (partD r.dy (pickL s i)))] (.agg (crow (partD r.dy (pickL s i)).abs)) := fun r i hr => ref_Abs _ _ _ _ ((part_mg hr.2 (pickL_byte hsb i)).arg)
  have od := X.od
  have ow := X.ow
  obtain ⟨ns, hns⟩ : ∃ ns, s.length = ns := ⟨_, rfl⟩
  rw [hns] at hsl
  clear X Y hl hs h1 h2 t1 t2 t3 t4 t8 t9 ga gd gw gi go hi ho
  repeat' (first | (simp only [go_sem, Int.reduceAdd, Int.reduceEq, Int.reduceLE, Int.reduceLT, Int.reduceMul, Int.reduceNeg, Int.reducePow, Int.reduceSub, Int.reduceToNat, Nat.reduceAdd, Nat.reduceBEq, Nat.reduceEqDiff, Nat.reduceLT, Nat.reduceLeDiff, Nat.reduceMul, Nat.reducePow, Nat.reduceSub, reduceCtorEq, reduceIte, IntKind.bits.eq_def, ti, tin, mrows_length, rws_length, hn, hns]) | (simp (disch := omega) only [w64, wu64, wu32, Nat.min_eq_left]) | (with_reducible first | refine cF (f1) ?_ | refine dF (f1) ?_) | (with_reducible first | refine cF (f2) ?_ | refine dF (f2) ?_) | (with_reducible first | refine cF (aw) ?_ | refine dF (aw) ?_) | (with_reducible first | refine cF (kc) ?_ | refine dF (kc) ?_) | (refine aL ti_ok ?_) | (refine dL ti_ok ?_) | (refine dE (by kernel_rfl) ?_) | ((first | refine cC ?_ ?_ | refine gS ?_ ?_ | refine dS ?_ ?_) <;> intro hc <;> first | (exfalso; simp only [dcT, dcF, bnT, bnF, bnU, bnV] at hc; omega) | (simp only [hc]; try simp only [dcT, dcF, bnT, bnF, bnU, bnV] at hc)) | (refine aN (by omega) ?_) | (refine dN (by omega) ?_))
  clear f1 f2 aw kc
  refine l_loop (α := Nat × Nat) (fun x => ⟨[(2, .sl 1 (rws bytes s)), (3, .p 0 3 0 0), (4, .p 1 3 0 0), (7, .p 2 3 0 0), (8, .v (.int .i64 (x.2 * (n + 1) : Nat))), (45, .v (.int .i64 n)), (46, .v (.int .i64 x.2))], fz x.1 [(2, ⟨3, [[.sl 1 (mrows a), .sl 1 (mrows (crM (tabD n n (lesD dv s n)))), .sl 3 (vrows ((tabV n (lesW w s n)).map can))]]⟩), (1, ⟨3, [[.v (.int .i64 K), .sl 3 (vrows inner), .sl 3 (vrows outer)]]⟩), (0, ⟨3, [[.sl 1 (mrows a), .sl 1 (mrows dv), .sl 3 (vrows w)]]⟩)] [(2, ⟨3, [[.sl 1 (mrows a), .ps 3 1 0 x.2, .ps 4 3 0 x.2]]⟩), (3, ⟨1, mrows (crM (tabD x.2 n (lesD dv s n)))⟩), (4, ⟨3, vrows ((tabV x.2 (lesW w s n)).map can)⟩), (1, ⟨3, [[.v (.int .i64 K), .sl 3 (vrows inner), .sl 3 (vrows outer)]]⟩), (0, ⟨3, [[.sl 1 (mrows a), .sl 1 (mrows dv), .sl 3 (vrows w)]]⟩)], 5⟩) (fun x => x.1 + x.2 = n) (fun x => x.1) ((n, 0)) _ byFresh (fun _ h => by first | (cases h; done) | exact Nat.le_of_ble_eq_true rfl) ?_ ?_ ?_
  · exact Nat.add_zero n
  ·
    simp only [fz_pos hn0, Nat.zero_mul]
    exact Weak.map [(0, 0), (1, 1), (2, 2)] rfl (by decide) (by decide) byGE byGM
  rintro ⟨r, m⟩ hrm
  simp only at hrm ⊢
  rcases r with _ | r
  ·
    have hm : m = n := by omega
    subst hm
    simp only [fz_zero]
    clear pk pt ab
    cases z
    ·
      cases z'
      ·
        repeat' (first | (simp only [go_sem, Int.reduceAdd, Int.reduceEq, Int.reduceLE, Int.reduceLT, Int.reduceMul, Int.reduceNeg, Int.reducePow, Int.reduceSub, Int.reduceToNat, Nat.reduceAdd, Nat.reduceBEq, Nat.reduceEqDiff, Nat.reduceLT, Nat.reduceLeDiff, Nat.reduceMul, Nat.reducePow, Nat.reduceSub, reduceCtorEq, reduceIte, IntKind.bits.eq_def, ti, tin]) | (simp (disch := omega) only [w64, wu64, wu32, Nat.min_eq_left]) | (with_reducible first | refine cF (k1) ?_ | refine dF (k1) ?_) | (with_reducible first | refine cF (k2) ?_ | refine dF (k2) ?_) | (refine aL ti_ok ?_) | (refine dL ti_ok ?_) | (refine dE (by kernel_rfl) ?_) | ((first | refine cC ?_ ?_ | refine gS ?_ ?_ | refine dS ?_ ?_) <;> intro hc <;> first | (exfalso; simp only [dcT, dcF, bnT, bnF, bnU, bnV] at hc; omega) | (simp only [hc]; try simp only [dcT, dcF, bnT, bnF, bnU, bnV] at hc)) | (refine aN (by omega) ?_) | (refine dN (by omega) ?_))
        all_goals exact fin_same trivial rfl
      ·
        repeat' (first | (simp only [go_sem, Int.reduceAdd, Int.reduceEq, Int.reduceLE, Int.reduceLT, Int.reduceMul, Int.reduceNeg, Int.reducePow, Int.reduceSub, Int.reduceToNat, Nat.reduceAdd, Nat.reduceBEq, Nat.reduceEqDiff, Nat.reduceLT, Nat.reduceLeDiff, Nat.reduceMul, Nat.reducePow, Nat.reduceSub, reduceCtorEq, reduceIte, IntKind.bits.eq_def, ti, tin]) | (simp (disch := omega) only [w64, wu64, wu32, Nat.min_eq_left]) | (with_reducible first | refine cF (k1) ?_ | refine dF (k1) ?_) | (with_reducible first | refine cF (k2) ?_ | refine dF (k2) ?_) | (refine aL ti_ok ?_) | (refine dL ti_ok ?_) | (refine dE (by kernel_rfl) ?_) | ((first | refine cC ?_ ?_ | refine gS ?_ ?_ | refine dS ?_ ?_) <;> intro hc <;> first | (exfalso; simp only [dcT, dcF, bnT, bnF, bnU, bnV] at hc; omega) | (simp only [hc]; try simp only [dcT, dcF, bnT, bnF, bnU, bnV] at hc)) | (refine aN (by omega) ?_) | (refine dN (by omega) ?_))
        all_goals exact fin_same trivial rfl
    ·
      have e := hz rfl
      subst e
      repeat' (first | (simp only [go_sem, Int.reduceAdd, Int.reduceEq, Int.reduceLE, Int.reduceLT, Int.reduceMul, Int.reduceNeg, Int.reducePow, Int.reduceSub, Int.reduceToNat, Nat.reduceAdd, Nat.reduceBEq, Nat.reduceEqDiff, Nat.reduceLT, Nat.reduceLeDiff, Nat.reduceMul, Nat.reducePow, Nat.reduceSub, reduceCtorEq, reduceIte, IntKind.bits.eq_def, ti, tin]) | (simp (disch := omega) only [w64, wu64, wu32, Nat.min_eq_left]) | (with_reducible first | refine cF (k1) ?_ | refine dF (k1) ?_) | (with_reducible first | refine cF (k2) ?_ | refine dF (k2) ?_) | (refine aL ti_ok ?_) | (refine dL ti_ok ?_) | (refine dE (by kernel_rfl) ?_) | ((first | refine cC ?_ ?_ | refine gS ?_ ?_ | refine dS ?_ ?_) <;> intro hc <;> first | (exfalso; simp only [dcT, dcF, bnT, bnF, bnU, bnV] at hc; omega) | (simp only [hc]; try simp only [dcT, dcF, bnT, bnF, bnU, bnV] at hc)) | (refine aN (by omega) ?_) | (refine dN (by omega) ?_))
      all_goals exact fin_same trivial rfl
  ·
    simp only [fz_succ]
    have hq4 : m * (n + 1) ≤ 3 * 4 := Nat.mul_le_mul (by omega) (by omega)
    have hqs : (m + 1) * (n + 1) = m * (n + 1) + n + 1 := by rw [Nat.succ_mul]; omega
    have eD : ∀ l, lesD dv s n m l = (partD ((dv.getD m []).getD l RD.zero).dy (pickL s (m * (n + 1) + l))).abs := fun l => rfl
    have eW : lesW w s n m = (partD (w.getD m RD.zero).dy (pickL s (m * (n + 1) + n))).abs := rfl
    obtain ⟨q, hq⟩ : ∃ q, m * (n + 1) = q := ⟨_, rfl⟩
    rw [hq] at hq4 hqs eW
    simp only [hq] at eD ⊢
    clear k1 k2 hz
    repeat' (first | (simp only [go_sem, Int.reduceAdd, Int.reduceEq, Int.reduceLE, Int.reduceLT, Int.reduceMul, Int.reduceNeg, Int.reducePow, Int.reduceSub, Int.reduceToNat, Nat.reduceAdd, Nat.reduceBEq, Nat.reduceEqDiff, Nat.reduceLT, Nat.reduceLeDiff, Nat.reduceMul, Nat.reducePow, Nat.reduceSub, reduceCtorEq, reduceIte, IntKind.bits.eq_def, ti, tin, mrows_length, hn]) | (simp (disch := omega) only [w64, wu64, wu32, Nat.min_eq_left]) | (refine aL ti_ok ?_) | (refine dL ti_ok ?_) | (refine dE (by kernel_rfl) ?_) | ((first | refine cC ?_ ?_ | refine gS ?_ ?_ | refine dS ?_ ?_) <;> intro hc <;> first | (exfalso; simp only [dcT, dcF, bnT, bnF, bnU, bnV] at hc; omega) | (simp only [hc]; try simp only [dcT, dcF, bnT, bnF, bnU, bnV] at hc)) | (refine aN (by omega) ?_) | (refine dN (by omega) ?_))
    refine l_loop (α := Nat × Nat) (fun y => ⟨[(2, .sl 1 (rws bytes s)), (3, .p 0 3 0 0), (4, .p 1 3 0 0), (7, .p 2 3 0 0), (8, .v (.int .i64 (q + y.2 : Nat))), (9, .v (.int .i64 m)), (10, fz y.1 (.sl 3 (vrows ((tabV n (lesD dv s n m)).map can))) (.ps 5 3 0 y.2)), (45, .v (.int .i64 n)), (46, .v (.int .i64 m)), (51, .v (.int .i64 n)), (52, .v (.int .i64 y.2))], fz y.1 [(2, ⟨3, [[.sl 1 (mrows a), .ps 3 1 0 m, .ps 4 3 0 m]]⟩), (3, ⟨1, mrows (crM (tabD m n (lesD dv s n)))⟩), (4, ⟨3, vrows ((tabV m (lesW w s n)).map can)⟩), (1, ⟨3, [[.v (.int .i64 K), .sl 3 (vrows inner), .sl 3 (vrows outer)]]⟩), (0, ⟨3, [[.sl 1 (mrows a), .sl 1 (mrows dv), .sl 3 (vrows w)]]⟩)] [(2, ⟨3, [[.sl 1 (mrows a), .ps 3 1 0 m, .ps 4 3 0 m]]⟩), (3, ⟨1, mrows (crM (tabD m n (lesD dv s n)))⟩), (4, ⟨3, vrows ((tabV m (lesW w s n)).map can)⟩), (5, ⟨3, vrows ((tabV y.2 (lesD dv s n m)).map can)⟩), (1, ⟨3, [[.v (.int .i64 K), .sl 3 (vrows inner), .sl 3 (vrows outer)]]⟩), (0, ⟨3, [[.sl 1 (mrows a), .sl 1 (mrows dv), .sl 3 (vrows w)]]⟩)], 6⟩) (fun y => y.1 + y.2 = n) (fun y => y.1) ((n, 0)) _ byFresh (fun _ h => by first | (cases h; done) | exact Nat.le_of_ble_eq_true rfl) ?_ ?_ ?_
    · exact Nat.add_zero n
    ·
      simp only [fz_pos hn0]
      exact Weak.map [(0, 0), (1, 1), (2, 2), (3, 3), (4, 4)] rfl (by decide) (by decide) byGE byGN
    rintro ⟨r', l⟩ hrl
    simp only at hrl ⊢
    rcases r' with _ | r'
    ·
      have hl2 : l = n := by omega
      subst hl2
      simp only [fz_zero]
      have rj := vrows_getD (l := w) (i := m) (by omega)
      have orr := ow m
      have c1 := pk (q + l) (by omega)
      have c2 := pt _ (q + l) orr
      have c3 := ab _ (q + l) orr
      rw [← eW] at c3
      have lD : (mrows (crM (tabD m l (lesD dv s l)))).length = m := by rw [mrows_length, crM_len, tabD_len]
      have lW : (vrows ((tabV m (lesW w s l)).map can)).length = m := vtab_len
      have sD := done_step (i := m) (n := l) (g := lesD dv s l)
      have sW := vtab_step (k := m) (f := lesW w s l)
      clear pk pt ab eD eW hrow
      unfold vrow at rj
      generalize hr : w.getD m RD.zero = rr at *
      generalize lesW w s l m = y at *
      generalize partD rr.dy (pickL s (q + l)) = y2 at *
      generalize pickL s (q + l) = nb at *
      repeat' (first | (simp only [go_sem, Int.reduceAdd, Int.reduceEq, Int.reduceLE, Int.reduceLT, Int.reduceMul, Int.reduceNeg, Int.reducePow, Int.reduceSub, Int.reduceToNat, Nat.reduceAdd, Nat.reduceBEq, Nat.reduceEqDiff, Nat.reduceLT, Nat.reduceLeDiff, Nat.reduceMul, Nat.reducePow, Nat.reduceSub, reduceCtorEq, reduceIte, IntKind.bits.eq_def, ti, tin, mrows_length, vrows_length, rj, t7, lD, lW]) | (simp (disch := omega) only [w64, wu64, wu32, Nat.min_eq_left]) | (with_reducible first | refine cF (c1) ?_ | refine dF (c1) ?_) | (with_reducible first | refine cF (c2) ?_ | refine dF (c2) ?_) | (with_reducible first | refine cF (c3) ?_ | refine dF (c3) ?_) | (refine drawAfter_app ti_ok rfl rfl rfl rfl rfl ⟨rfl, rfl, by decide⟩ rfl ⟨trivial, by (try simp only [List.length_cons, List.length_nil, List.length_append, u32s_length, List.length_map, mrows_length, vrows_length, rj, t7, lD, lW]); omega, by (try simp only [List.length_cons, List.length_nil, List.length_append, u32s_length, List.length_map, mrows_length, vrows_length, rj, t7, lD, lW]); omega, by (try simp only [List.length_cons, List.length_nil, List.length_append, u32s_length, List.length_map, mrows_length, vrows_length, rj, t7, lD, lW]); omega⟩ byRows ?_) | (refine aL ti_ok ?_) | (refine dL ti_ok ?_) | (refine dE (by kernel_rfl) ?_) | ((first | refine cC ?_ ?_ | refine gS ?_ ?_ | refine dS ?_ ?_) <;> intro hc <;> first | (exfalso; simp only [dcT, dcF, bnT, bnF, bnU, bnV] at hc; omega) | (simp only [hc]; try simp only [dcT, dcF, bnT, bnF, bnU, bnV] at hc)) | (refine aN (by omega) ?_) | (refine dN (by omega) ?_))
      rw [sD, sW]
      refine roundEnd_of (α := Nat × Nat) (r, m + 1) (show r + (m + 1) = l by omega) (show r < r + 1 by omega) ?_
      simp only [hqs]
      refine Weak.trans0 (s1 := ⟨[(2, .sl 1 (rws bytes s)), (3, .p 0 3 0 0), (4, .p 1 3 0 0), (7, .p 2 3 0 0), (8, .v (.int .i64 (q + l + 1 : Nat))), (45, .v (.int .i64 l)), (46, .v (.int .i64 ((m + 1 : Nat))))], [(2, ⟨3, [[.sl 1 (mrows a), .ps 3 1 0 (m + 1), .ps 4 3 0 (m + 1)]]⟩), (3, ⟨1, mrows (crM (tabD (m + 1) l (lesD dv s l)))⟩), (4, ⟨3, vrows ((tabV (m + 1) (lesW w s l)).map can)⟩), (1, ⟨3, [[.v (.int .i64 K), .sl 3 (vrows inner), .sl 3 (vrows outer)]]⟩), (0, ⟨3, [[.sl 1 (mrows a), .sl 1 (mrows dv), .sl 3 (vrows w)]]⟩)], 5⟩) (Weak.map [(0, 0), (1, 1), (2, 2), (3, 10), (4, 24)] rfl (by decide) (by decide) byGE byGN) (Nat.zero_lt_succ _) ?_
      cases r with
      | succ r => simp only [fz_succ]; exact byWeak
      | zero =>
        have hm2 : l = m + 1 := by omega
        subst hm2
        have l1 : (mrows (crM (tabD (m + 1) (m + 1) (lesD dv s (m + 1))))).length = m + 1 := by rw [mrows_length, crM_len, tabD_len]
        have l2 : (vrows ((tabV (m + 1) (lesW w s (m + 1))).map can)).length = m + 1 := vtab_len
        simp only [fz_zero]
        refine Weak.trans0 (s1 := ⟨[(2, .sl 1 (rws bytes s)), (3, .p 0 3 0 0), (4, .p 1 3 0 0), (7, .p 2 3 0 0), (8, .v (.int .i64 (q + (m + 1) + 1 : Nat))), (45, .v (.int .i64 ((m + 1 : Nat)))), (46, .v (.int .i64 ((m + 1 : Nat))))], [(2, ⟨3, [[.sl 1 (mrows a), .sl 1 (mrows (crM (tabD (m + 1) (m + 1) (lesD dv s (m + 1))))), .ps 4 3 0 (m + 1)]]⟩), (4, ⟨3, vrows ((tabV (m + 1) (lesW w s (m + 1))).map can)⟩), (1, ⟨3, [[.v (.int .i64 K), .sl 3 (vrows inner), .sl 3 (vrows outer)]]⟩), (0, ⟨3, [[.sl 1 (mrows a), .sl 1 (mrows dv), .sl 3 (vrows w)]]⟩)], 5⟩) (Weak.frzA 3 _ (m + 1) l1) (Nat.zero_lt_succ _) ?_
        refine Weak.trans0 (s1 := ⟨[(2, .sl 1 (rws bytes s)), (3, .p 0 3 0 0), (4, .p 1 3 0 0), (7, .p 2 3 0 0), (8, .v (.int .i64 (q + (m + 1) + 1 : Nat))), (45, .v (.int .i64 ((m + 1 : Nat)))), (46, .v (.int .i64 ((m + 1 : Nat))))], [(2, ⟨3, [[.sl 1 (mrows a), .sl 1 (mrows (crM (tabD (m + 1) (m + 1) (lesD dv s (m + 1))))), .sl 3 (vrows ((tabV (m + 1) (lesW w s (m + 1))).map can))]]⟩), (1, ⟨3, [[.v (.int .i64 K), .sl 3 (vrows inner), .sl 3 (vrows outer)]]⟩), (0, ⟨3, [[.sl 1 (mrows a), .sl 1 (mrows dv), .sl 3 (vrows w)]]⟩)], 5⟩) (Weak.frzA 4 _ (m + 1) l2) (Nat.zero_lt_succ _) ?_
        exact byWeak
    ·
      have hl : l < n := by omega
      have ri := mrows_getD (a := dv) (i := m) (by omega)
      have rl := hrow m (by omega)
      have rj := vrows_getD (l := dv.getD m []) (i := l) (by omega)
      have orr := od m l
      have c1 := pk (q + l) (by omega)
      have c2 := pt _ (q + l) orr
      have c3 := ab _ (q + l) orr
      rw [← eD l] at c3
      have lR : (vrows ((tabV l (lesD dv s n m)).map can)).length = l := vtab_len
      have sR := vtab_step (k := l) (f := lesD dv s n m)
      clear pk pt ab eD eW hrow
      unfold vrow at rj
      simp only [fz_succ]
      generalize (dv.getD m []) = row at *
      generalize hr : row.getD l RD.zero = rr at *
      generalize lesD dv s n m l = y at *
      generalize partD rr.dy (pickL s (q + l)) = y2 at *
      generalize pickL s (q + l) = nb at *
      repeat' (first | (simp only [go_sem, Int.reduceAdd, Int.reduceEq, Int.reduceLE, Int.reduceLT, Int.reduceMul, Int.reduceNeg, Int.reducePow, Int.reduceSub, Int.reduceToNat, Nat.reduceAdd, Nat.reduceBEq, Nat.reduceEqDiff, Nat.reduceLT, Nat.reduceLeDiff, Nat.reduceMul, Nat.reducePow, Nat.reduceSub, reduceCtorEq, reduceIte, IntKind.bits.eq_def, ti, tin, mrows_length, vrows_length, ri, rl, rj, t5, lR]) | (simp (disch := omega) only [w64, wu64, wu32, Nat.min_eq_left]) | (with_reducible first | refine cF (c1) ?_ | refine dF (c1) ?_) | (with_reducible first | refine cF (c2) ?_ | refine dF (c2) ?_) | (with_reducible first | refine cF (c3) ?_ | refine dF (c3) ?_) | (refine drawAfter_app ti_ok rfl rfl rfl rfl rfl ⟨rfl, rfl, by decide⟩ rfl ⟨trivial, by (try simp only [List.length_cons, List.length_nil, List.length_append, u32s_length, List.length_map, mrows_length, vrows_length, ri, rl, rj, t5, lR]); omega, by (try simp only [List.length_cons, List.length_nil, List.length_append, u32s_length, List.length_map, mrows_length, vrows_length, ri, rl, rj, t5, lR]); omega, by (try simp only [List.length_cons, List.length_nil, List.length_append, u32s_length, List.length_map, mrows_length, vrows_length, ri, rl, rj, t5, lR]); omega⟩ byRows ?_) | (refine aL ti_ok ?_) | (refine dL ti_ok ?_) | (refine dE (by kernel_rfl) ?_) | ((first | refine cC ?_ ?_ | refine gS ?_ ?_ | refine dS ?_ ?_) <;> intro hc <;> first | (exfalso; simp only [dcT, dcF, bnT, bnF, bnU, bnV] at hc; omega) | (simp only [hc]; try simp only [dcT, dcF, bnT, bnF, bnU, bnV] at hc)) | (refine aN (by omega) ?_) | (refine dN (by omega) ?_))
      rw [sR]
      refine roundEnd_of (α := Nat × Nat) (r', l + 1) (show r' + (l + 1) = n by omega) (show r' < r' + 1 by omega) ?_
      refine Weak.trans0 (s1 := ⟨[(2, .sl 1 (rws bytes s)), (3, .p 0 3 0 0), (4, .p 1 3 0 0), (7, .p 2 3 0 0), (8, .v (.int .i64 (q + (l + 1) : Nat))), (9, .v (.int .i64 m)), (10, .ps 5 3 0 (l + 1)), (45, .v (.int .i64 n)), (46, .v (.int .i64 m)), (51, .v (.int .i64 n)), (52, .v (.int .i64 ((l + 1))))], [(2, ⟨3, [[.sl 1 (mrows a), .ps 3 1 0 m, .ps 4 3 0 m]]⟩), (3, ⟨1, mrows (crM (tabD m n (lesD dv s n)))⟩), (4, ⟨3, vrows ((tabV m (lesW w s n)).map can)⟩), (5, ⟨3, vrows ((tabV (l + 1) (lesD dv s n m)).map can)⟩), (1, ⟨3, [[.v (.int .i64 K), .sl 3 (vrows inner), .sl 3 (vrows outer)]]⟩), (0, ⟨3, [[.sl 1 (mrows a), .sl 1 (mrows dv), .sl 3 (vrows w)]]⟩)], 6⟩) (Weak.map [(0, 0), (1, 1), (2, 2), (3, 3), (4, 4), (5, 21)] rfl (by decide) (by decide) byGE byGN) (Nat.zero_lt_succ _) ?_
      cases r' with
      | succ r' => simp only [fz_succ]; exact byWeak
      | zero =>
        have hm2 : n = l + 1 := by omega
        subst hm2
        have l1 : (vrows ((tabV (l + 1) (lesD dv s (l + 1) m)).map can)).length = l + 1 := vtab_len
        simp only [fz_zero]
        exact Weak.trans0 (Weak.frzA (s' := ⟨[(2, .sl 1 (rws bytes s)), (3, .p 0 3 0 0), (4, .p 1 3 0 0), (7, .p 2 3 0 0), (8, .v (.int .i64 (q + (l + 1) : Nat))), (9, .v (.int .i64 m)), (10, .sl 3 (vrows ((tabV (l + 1) (lesD dv s (l + 1) m)).map can))), (45, .v (.int .i64 ((l + 1 : Nat)))), (46, .v (.int .i64 m)), (51, .v (.int .i64 ((l + 1 : Nat)))), (52, .v (.int .i64 ((l + 1))))], [(2, ⟨3, [[.sl 1 (mrows a), .ps 3 1 0 m, .ps 4 3 0 m]]⟩), (3, ⟨1, mrows (crM (tabD m (l + 1) (lesD dv s (l + 1))))⟩), (4, ⟨3, vrows ((tabV m (lesW w s (l + 1))).map can)⟩), (1, ⟨3, [[.v (.int .i64 K), .sl 3 (vrows inner), .sl 3 (vrows outer)]]⟩), (0, ⟨3, [[.sl 1 (mrows a), .sl 1 (mrows dv), .sl 3 (vrows w)]]⟩)], 6⟩) 5 _ (l + 1) l1) (Nat.zero_lt_succ _) byWeak
theorem less18_law (r d : List (List AV)) (w : List (List AV)) (K : Int) (i o : List (List AV)) (s : List (List AV)) (hs : s.length ≤ maxLen) (fs : ∀ x ∈ s, FitL [.int .i8] x) (hr : r.length ≤ maxLen) (fr : ∀ x ∈ r, FitL [.sl [.bool, .sl [.int .u32], .int .i64]] x) (hd : d.length ≤ maxLen) (fd : ∀ x ∈ d, FitL [.sl [.bool, .sl [.int .u32], .int .i64]] x)
    (hw : w.length ≤ maxLen) (fw : ∀ x ∈ w, FitL [.bool, .sl [.int .u32], .int .i64] x) (hi : i.length ≤ maxLen) (fi : ∀ x ∈ i, FitL [.bool, .sl [.int .u32], .int .i64] x) (ho : o.length ≤ maxLen) (fo : ∀ x ∈ o, FitL [.bool, .sl [.int .u32], .int .i64] x) :
    CallOK Tryd.prog gl 3 [.agg [.sl 1 r, .sl 1 d, .sl 3 w], .agg [.v (.int .i64 K), .sl 3 i, .sl 3 o], .sl 1 s] (.v (.bool true)) := by
  unfold maxLen at hr hd hw hi ho hs
  obtain ⟨a, ga, rfl, e1⟩ := fit_mrows fr
  obtain ⟨dv, gd, rfl, e2⟩ := fit_mrows fd
  obtain ⟨w, gw, rfl, e3⟩ := fit_vrows fw
  obtain ⟨i, gi, rfl, e4⟩ := fit_vrows fi
  obtain ⟨o, go, rfl, e5⟩ := fit_vrows fo
  obtain ⟨s, gs, rfl, e6⟩ := fit_bytes fs
  have hcs : ∀ r ∈ rws bytes s, ∀ a ∈ r, Cl a := rws_cl clrow_b s
  by_cases h : lightP a dv w ∧ shortP K i o
  · by_cases h2 : ckC a dv w K i o = 0 ∧ s.length ≤ 60
    · obtain ⟨_, hK, _⟩ := ckC_zero h2.1
      obtain ⟨K', rfl⟩ : ∃ K' : Nat, K = K' := ⟨K.toNat, by omega⟩
      exact les_ok a dv w i o K' a.length s hcs h2.2 gs rfl (by omega) (by omega) ga gd gw gi go h.1 h.2 h2.1
    · exact les_err a dv w i o K s hcs (by omega) (by omega) (by omega) ga gd gw gi go h.1 h.2 (by
        by_cases h3 : ckC a dv w K i o = 0
        · right; omega
        · exact .inl h3)
  · exact les_out a dv w i o K s hcs (by omega) (by omega) (by omega) (by omega) (by omega) (by omega) ga gd gw gi go h
end Go.Proofs.YtpggiabnhodjpaaDoor
