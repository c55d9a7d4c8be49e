/- The statement TubeScales: its code returns true. -/
import Derived.Test.YtpggiabnhodjpaaDoorT18f
import Derived.Test.YtpggiabnhodjpaaDoorU4
set_option linter.unusedSimpArgs false
set_option linter.unusedVariables false
set_option linter.deprecated false
namespace Go.Proofs.YtpggiabnhodjpaaDoor
open Go Go.Ax
set_option maxRecDepth 100000
set_option maxHeartbeats 4000000

theorem scl_out (a dv : List (List RD)) (w inner outer : List RD) (K b : Int) (ha : a.length ≤ 9223372036854775807) (hd : dv.length ≤ 9223372036854775807) (hw : w.length ≤ 9223372036854775807) (hi : inner.length ≤ 9223372036854775807) (ho : outer.length ≤ 9223372036854775807) (ga : argM a) (gd : argM dv) (gw : argV w) (gi : argV inner) (go : argV outer) (hl : ¬ (lightP a dv w ∧ shortP K inner outer)) : CallOK Tryd.prog gl 4 [.agg [.sl 1 (mrows a), .sl 1 (mrows dv), .sl 3 (vrows w)], .agg [.v (.int .i64 K), .sl 3 (vrows inner), .sl 3 (vrows outer)], .v (.int .u8 b)] (.v (.bool (true))) := by
  refine call_ok (C := ⟨Tryd.prog, gl, ti, 122, false⟩) ti_ok mixed 3000 Tryd.call4 Tryd.func4 rfl Tryd.ntmps4 (by simp) byClL byCl ?_
  rw [Tryd.results4]
  have f1 := law18_light a dv w ha hd hw ga gd gw
  have f2 := law18_short K inner outer hi ho gi go
  have aw := awake18
  by_cases h1 : lightP a dv w
  ·
    rw [decide_eq_true h1] at f1
    rw [decide_eq_false (fun h => hl ⟨h1, h⟩)] at f2
    clear hl h1
    repeat' (first | (simp only [go_sem, Int.reduceAdd, Int.reduceEq, Int.reduceLE, Int.reduceLT, Int.reduceMul, Int.reduceNeg, Int.reducePow, Int.reduceSub, Int.reduceToNat, Nat.reduceAdd, Nat.reduceBEq, Nat.reduceEqDiff, Nat.reduceLT, Nat.reduceLeDiff, Nat.reduceMul, Nat.reducePow, Nat.reduceSub, reduceCtorEq, reduceIte, IntKind.bits.eq_def, ti, tin]) | (simp (disch := omega) only [w64, wu64, wu32, Nat.min_eq_left]) | (with_reducible first | refine cF (f1) ?_ | refine dF (f1) ?_) | (with_reducible first | refine cF (f2) ?_ | refine dF (f2) ?_) | (with_reducible first | refine cF (aw) ?_ | refine dF (aw) ?_) | (refine aL ti_ok ?_) | (refine dL ti_ok ?_) | (refine dE (by kernel_rfl) ?_) | ((first | refine cC ?_ ?_ | refine gS ?_ ?_ | refine dS ?_ ?_) <;> intro hc <;> first | (exfalso; simp only [dcT, dcF, bnT, bnF, bnU, bnV] at hc; omega) | (simp only [hc]; try simp only [dcT, dcF, bnT, bnF, bnU, bnV] at hc)) | (refine aN (by omega) ?_) | (refine dN (by omega) ?_))
    all_goals exact fin_same trivial rfl
  ·
    rw [decide_eq_false h1] at f1
    clear hl h1
    repeat' (first | (simp only [go_sem, Int.reduceAdd, Int.reduceEq, Int.reduceLE, Int.reduceLT, Int.reduceMul, Int.reduceNeg, Int.reducePow, Int.reduceSub, Int.reduceToNat, Nat.reduceAdd, Nat.reduceBEq, Nat.reduceEqDiff, Nat.reduceLT, Nat.reduceLeDiff, Nat.reduceMul, Nat.reducePow, Nat.reduceSub, reduceCtorEq, reduceIte, IntKind.bits.eq_def, ti, tin]) | (simp (disch := omega) only [w64, wu64, wu32, Nat.min_eq_left]) | (with_reducible first | refine cF (f1) ?_ | refine dF (f1) ?_) | (with_reducible first | refine cF (aw) ?_ | refine dF (aw) ?_) | (refine aL ti_ok ?_) | (refine dL ti_ok ?_) | (refine dE (by kernel_rfl) ?_) | ((first | refine cC ?_ ?_ | refine gS ?_ ?_ | refine dS ?_ ?_) <;> intro hc <;> first | (exfalso; simp only [dcT, dcF, bnT, bnF, bnU, bnV] at hc; omega) | (simp only [hc]; try simp only [dcT, dcF, bnT, bnF, bnU, bnV] at hc)) | (refine aN (by omega) ?_) | (refine dN (by omega) ?_))
    all_goals exact fin_same trivial rfl
theorem scl_err (a dv : List (List RD)) (w inner outer : List RD) (K b : Int) (hi : inner.length ≤ 9223372036854775807) (ho : outer.length ≤ 9223372036854775807) (ga : argM a) (gd : argM dv) (gw : argV w) (gi : argV inner) (go : argV outer) (hl : lightP a dv w) (hs : shortP K inner outer) (h2 : ckC a dv w K inner outer ≠ 0) : CallOK Tryd.prog gl 4 [.agg [.sl 1 (mrows a), .sl 1 (mrows dv), .sl 3 (vrows w)], .agg [.v (.int .i64 K), .sl 3 (vrows inner), .sl 3 (vrows outer)], .v (.int .u8 b)] (.v (.bool (true))) := by
  refine call_ok (C := ⟨Tryd.prog, gl, ti, 122, false⟩) ti_ok mixed 3000 Tryd.call4 Tryd.func4 rfl Tryd.ntmps4 (by simp) byClL byCl ?_
  rw [Tryd.results4]
  have X := in18_of ga gd gw hl
  have Y := inC_of gi go hs
  have f1 := law18_light a dv w (by have := X.la; omega) (by have := X.ld; omega) (by have := X.lw; omega) ga gd gw
  have f2 := law18_short K inner outer hi ho gi go
  rw [decide_eq_true hl] at f1
  rw [decide_eq_true hs] at f2
  have aw := awake18
  have k2 := X.checkC Y K
  clear X Y hl hs gi go ga gd gw hi ho
  generalize ckC a dv w K inner outer = e at *
  repeat' (first | (simp only [go_sem, Int.reduceAdd, Int.reduceEq, Int.reduceLE, Int.reduceLT, Int.reduceMul, Int.reduceNeg, Int.reducePow, Int.reduceSub, Int.reduceToNat, Nat.reduceAdd, Nat.reduceBEq, Nat.reduceEqDiff, Nat.reduceLT, Nat.reduceLeDiff, Nat.reduceMul, Nat.reducePow, Nat.reduceSub, reduceCtorEq, reduceIte, IntKind.bits.eq_def, ti, tin]) | (simp (disch := omega) only [w64, wu64, wu32, Nat.min_eq_left]) | (with_reducible first | refine cF (f1) ?_ | refine dF (f1) ?_) | (with_reducible first | refine cF (f2) ?_ | refine dF (f2) ?_) | (with_reducible first | refine cF (aw) ?_ | refine dF (aw) ?_) | (with_reducible first | refine cF (k2) ?_ | refine dF (k2) ?_) | (refine aL ti_ok ?_) | (refine dL ti_ok ?_) | (refine dE (by kernel_rfl) ?_) | ((first | refine cC ?_ ?_ | refine gS ?_ ?_ | refine dS ?_ ?_) <;> intro hc <;> first | (exfalso; simp only [dcT, dcF, bnT, bnF, bnU, bnV] at hc; omega) | (simp only [hc]; try simp only [dcT, dcF, bnT, bnF, bnU, bnV] at hc)) | (refine aN (by omega) ?_) | (refine dN (by omega) ?_))
  all_goals exact fin_same trivial rfl
def sclV (l : List RD) (f : Dy) (i : Nat) : Dy := (l.getD i RD.zero).dy.mul f
theorem sclV_v {l : List RD} {b : Nat} (fl : fineV 40 (dyV l)) {n : Nat} {i : Nat} (hi : i < n) : vQ (tabV n (sclV l (Dy.int b))) i = (b : Rat) * vQ (dyV l) i := by
  unfold vQ
  rw [tabV_get hi]
  unfold sclV
  rw [dyV_get]
  have h1 := fl i
  rw [dyV_get] at h1
  have h2 : (Dy.int (b : Int)).d = 0 := rfl
  rw [Dy.v_mul_of _ _ (by omega), Dy.v_int]
  rw [Rat.mul_comm]; rfl
theorem sclV_d {l : List RD} {b : Nat} (fl : fineV 40 (dyV l)) {n : Nat} : fineV 40 (tabV n (sclV l (Dy.int b))) := fineV_of tabV_len fun i hi => by
  rw [tabV_get hi]
  unfold sclV
  have h1 := fl i
  rw [dyV_get] at h1
  have h2 : (Dy.int (b : Int)).d = 0 := rfl
  have := Dy.d_mul_le (l.getD i RD.zero).dy (Dy.int b) (by omega)
  omega
theorem sclV_ok {l : List RD} {b : Nat} (hb : b ≤ 255) (ol : okV 64 l) {n : Nat} : okV 72 ((tabV n (sclV l (Dy.int b))).map can) := okV_can (fun i => by
  by_cases hi : i < n
  · rw [tabV_get hi]
    exact Mg.mul (ol i).2 (Mg.int (k := 8) (by have : (2 : Nat) ^ 8 = 256 := by decide
                                               omega))
  · rw [List.getD, List.getElem?_eq_none (by rw [tabV_len]; omega)]; exact Mg.zero _) (by omega)
theorem scl_acc {a dv : List (List RD)} {w inner outer : List RD} (X : In18 a dv w) (Y : InC inner outer) {K b : Nat} (hb : b ≤ 255) (hc : ckC a dv w K inner outer = 0) (hK : K ≤ 8) :
    ∃ z z' : Bool, CallOK Tryd.prog gl 13 [.agg [.sl 1 (mrows a), .sl 1 (mrows dv), .sl 3 (vrows w)], .agg [.v (.int .i64 K), .sl 3 (vrows inner), .sl 3 (vrows outer)]] (.tup [.v (.bool z), .v .nilIface])
      ∧ CallOK Tryd.prog gl 13 [.agg [.sl 1 (mrows a), .sl 1 (mrows dv), .sl 3 (vrows ((tabV a.length (sclV w (Dy.int b))).map can))], .agg [.v (.int .i64 K), .sl 3 (vrows ((tabV a.length (sclV inner (Dy.int b))).map can)), .sl 3 (vrows ((tabV a.length (sclV outer (Dy.int b))).map can))]] (.tup [.v (.bool z'), .v .nilIface])
      ∧ (z = true → z' = true) ∧ (b = 1 → z = z') := by
  have T := tubeD_of X Y hc
  have k1 := X.acc Y K hc
  obtain ⟨c1, c2, c3, c4, c5, c6, c7⟩ := ckC_zero hc
  obtain ⟨t1, t2, t3, t4, t5, t6, t7, t8, t9⟩ := ckT_zero c1
  have hb0 : (0 : Rat) ≤ (b : Rat) := by exact_mod_cast Nat.zero_le b
  have nn : ∀ l : List RD, l.length = a.length → fineV 40 (dyV l) → nonneg l → nonneg ((tabV a.length (sclV l (Dy.int b))).map can) := fun l hl fl hn => nonneg_can fun i hi => by
    rw [tabV_len] at hi
    rw [sclV_v fl hi]
    exact Rat.mul_nonneg hb0 (nonneg_vQ hn (by omega))
  have hT' : ckT a dv ((tabV a.length (sclV w (Dy.int b))).map can) = 0 := ckT_mk c1 t2 t5 t6 (by rw [List.length_map, tabV_len]) t8 (nn w t7 X.fw t9)
  have hC' : ckC a dv ((tabV a.length (sclV w (Dy.int b))).map can) K ((tabV a.length (sclV inner (Dy.int b))).map can) ((tabV a.length (sclV outer (Dy.int b))).map can) = 0 :=
    ckC_mk hT' c2 c3 (by rw [List.length_map, tabV_len]) (by rw [List.length_map, tabV_len]) (nn inner c4 Y.fi c6) (nn outer c5 Y.fo c7)
  have hO := tubOK_of (p := 64) (q := 72) (by omega) (by omega) X.oa X.od (sclV_ok hb X.ow) (sclV_ok hb Y.oi) (sclV_ok hb Y.oo) hC'
  have T' := tubeD_mk hO hC' X.fa X.fd (by rw [dyV_can]; exact sclV_d X.fw) (by rw [dyV_can]; exact sclV_d Y.fi) (by rw [dyV_can]; exact sclV_d Y.fo)
  have k2 := tub_Accepts a dv _ _ _ K 64 72 a.length hO hC'
  rw [dyV_can, dyV_can, dyV_can] at k2 T'
  refine ⟨_, _, k1, k2, fun h => scale_accepts hb0 T T' (by omega) (fun i hi => sclV_v X.fw hi) (fun i hi => sclV_v Y.fi hi) (fun i hi => sclV_v Y.fo hi) h, fun h => ?_⟩
  subst h
  have same : ∀ l : List RD, l.length = a.length → fineV 40 (dyV l) → tabV a.length (sclV l (Dy.int (1 : Nat))) = dyV l := fun l hl fl => list_ext (d := Dy.zero) (by rw [tabV_len, dyV_len, hl]) fun i hi => by
    rw [tabV_len] at hi
    have := sclV_v (b := 1) fl hi
    refine Dy.ext_v ?_
    unfold vQ at this
    rw [this]; grind
  rw [same w t7 X.fw, same inner c4 Y.fi, same outer c5 Y.fo]
theorem scl_ok (a dv : List (List RD)) (w inner outer : List RD) (K b n : Nat) (hb : b ≤ 255) (hn : a.length = n) (hi : inner.length ≤ 9223372036854775807) (ho : outer.length ≤ 9223372036854775807) (ga : argM a) (gd : argM dv) (gw : argV w) (gi : argV inner) (go : argV outer) (hl : lightP a dv w) (hs : shortP K inner outer) (h2 : ckC a dv w K inner outer = 0) : CallOK Tryd.prog gl 4 [.agg [.sl 1 (mrows a), .sl 1 (mrows dv), .sl 3 (vrows w)], .agg [.v (.int .i64 K), .sl 3 (vrows inner), .sl 3 (vrows outer)], .v (.int .u8 (b : Int))] (.v (.bool (true))) := by
  refine call_ok (C := ⟨Tryd.prog, gl, ti, 122, false⟩) ti_ok mixed 3000 Tryd.call4 Tryd.func4 rfl Tryd.ntmps4 (by simp) byClL byCl ?_
  rw [Tryd.results4]
  have X := in18_of ga gd gw hl
  have Y := inC_of gi go hs
  have f1 := law18_light a dv w (by have := X.la; omega) (by have := X.ld; omega) (by have := X.lw; omega) ga gd gw
  have f2 := law18_short K inner outer hi ho gi go
  rw [decide_eq_true hl] at f1
  rw [decide_eq_true hs] at f2
  have aw := awake18
  obtain ⟨h1, hK1, hK2, li, lo, _⟩ := ckC_zero h2
  obtain ⟨t1, _, t3, t4, t5, t6, t7, t8, t9⟩ := ckT_zero h1
  have hn0 := (ckM_zero t1).1.1
  obtain ⟨z, z', k1, k2, hz, hz1⟩ := scl_acc X Y hb h2 (by have := hs.2.2; omega)
  have kc := X.checkC Y K
  rw [h2] at kc
  have of := ref_Of b (by omega)
  have gf : Mg 8 (Dy.int b) := Mg.int (k := 8) (by have : (2 : Nat) ^ 8 = 256 := by decide
                                                   omega)
  have mu : ∀ l : List RD, okV 64 l → ∀ i, CallOK Tryd.prog gl 15 [.agg [.v (.bool (l.getD i RD.zero).s), .sl 1 (u32s (l.getD i RD.zero).ws), .v (.int .i64 (l.getD i RD.zero).d)], .agg [.v (.bool (sg (Dy.int b))), .sl 1 (u32s (ms (Dy.int b))), .v (.int .i64 (dn (Dy.int b)))]] (.agg (crow (sclV l (Dy.int b) i))) := fun l ol i => ref_Mul _ _ _ _ _ _ _ _ (RD.arg (ol i).1) (gf.arg)
  have muw := mu w X.ow
  have mui := mu inner Y.oi
  have muo := mu outer Y.oo
  have hn6 : n ≤ 6 := by omega
  rw [hn] at k2 li lo t7 hn0
  clear mu gf X Y hl hs h1 h2 t1 t3 t4 t5 t6 t8 t9 ga gd gw gi go hi ho
  generalize hfw : sclV w (Dy.int b) = fw at *
  generalize hfi : sclV inner (Dy.int b) = fi at *
  generalize hfo : sclV outer (Dy.int b) = fo at *
  clear hfw hfi hfo
  generalize Dy.int b = f at *
  repeat' (first | (simp only [go_sem, Int.reduceAdd, Int.reduceEq, Int.reduceLE, Int.reduceLT, Int.reduceMul, Int.reduceNeg, Int.reducePow, Int.reduceSub, Int.reduceToNat, Nat.reduceAdd, Nat.reduceBEq, Nat.reduceEqDiff, Nat.reduceLT, Nat.reduceLeDiff, Nat.reduceMul, Nat.reducePow, Nat.reduceSub, reduceCtorEq, reduceIte, IntKind.bits.eq_def, ti, tin, mrows_length, hn]) | (simp (disch := omega) only [w64, wu64, wu32, Nat.min_eq_left]) | (with_reducible first | refine cF (f1) ?_ | refine dF (f1) ?_) | (with_reducible first | refine cF (f2) ?_ | refine dF (f2) ?_) | (with_reducible first | refine cF (aw) ?_ | refine dF (aw) ?_) | (with_reducible first | refine cF (kc) ?_ | refine dF (kc) ?_) | (with_reducible first | refine cF (of) ?_ | refine dF (of) ?_) | (refine aL ti_ok ?_) | (refine dL ti_ok ?_) | (refine dE (by kernel_rfl) ?_) | ((first | refine cC ?_ ?_ | refine gS ?_ ?_ | refine dS ?_ ?_) <;> intro hc <;> first | (exfalso; simp only [dcT, dcF, bnT, bnF, bnU, bnV] at hc; omega) | (simp only [hc]; try simp only [dcT, dcF, bnT, bnF, bnU, bnV] at hc)) | (refine aN (by omega) ?_) | (refine dN (by omega) ?_))
  refine l_loop (α := Nat × Nat) (fun x => ⟨[(2, .v (.int .u8 (b : Int))), (3, .p 0 3 0 0), (4, .p 1 3 0 0), (7, .p 2 3 0 0), (8, .p 3 3 0 0), (9, .p 4 3 0 0), (47, .v (.int .i64 n)), (48, .v (.int .i64 x.2))], fz x.1 [(4, ⟨3, [[.v (.int .i64 K), .sl 3 (vrows ((tabV n fi).map can)), .sl 3 (vrows ((tabV n fo).map can))]]⟩), (3, ⟨3, [[.sl 1 (mrows a), .sl 1 (mrows dv), .sl 3 (vrows ((tabV n fw).map can))]]⟩), (2, ⟨3, [crow f]⟩), (1, ⟨3, [[.v (.int .i64 K), .sl 3 (vrows inner), .sl 3 (vrows outer)]]⟩), (0, ⟨3, [[.sl 1 (mrows a), .sl 1 (mrows dv), .sl 3 (vrows w)]]⟩)] [(3, ⟨3, [[.sl 1 (mrows a), .sl 1 (mrows dv), .ps 5 3 0 x.2]]⟩), (4, ⟨3, [[.v (.int .i64 K), .ps 6 3 0 x.2, .ps 7 3 0 x.2]]⟩), (5, ⟨3, vrows ((tabV x.2 fw).map can)⟩), (6, ⟨3, vrows ((tabV x.2 fi).map can)⟩), (7, ⟨3, vrows ((tabV x.2 fo).map can)⟩), (2, ⟨3, [crow f]⟩), (1, ⟨3, [[.v (.int .i64 K), .sl 3 (vrows inner), .sl 3 (vrows outer)]]⟩), (0, ⟨3, [[.sl 1 (mrows a), .sl 1 (mrows dv), .sl 3 (vrows w)]]⟩)], 8⟩) (fun x => x.1 + x.2 = n) (fun x => x.1) ((n, 0)) _ byFresh (fun _ h => by first | (cases h; done) | exact Nat.le_of_ble_eq_true rfl) ?_ ?_ ?_
  · exact Nat.add_zero n
  ·
    simp only [fz_pos hn0]
    exact Weak.map [(0, 0), (1, 1), (2, 2), (3, 11), (4, 12)] rfl (by decide) (by decide) byGE byGM
  rintro ⟨r, m⟩ hrm
  simp only at hrm ⊢
  rcases r with _ | r
  ·
    have hm : m = n := by omega
    subst hm
    simp only [fz_zero]
    clear muw mui muo
    by_cases hb1 : (b : Int) = 1
    ·
      have e := hz1 (by omega)
      subst e
      cases z
      ·
        repeat' (first | (simp only [go_sem, Int.reduceAdd, Int.reduceEq, Int.reduceLE, Int.reduceLT, Int.reduceMul, Int.reduceNeg, Int.reducePow, Int.reduceSub, Int.reduceToNat, Nat.reduceAdd, Nat.reduceBEq, Nat.reduceEqDiff, Nat.reduceLT, Nat.reduceLeDiff, Nat.reduceMul, Nat.reducePow, Nat.reduceSub, reduceCtorEq, reduceIte, IntKind.bits.eq_def, ti, tin]) | (simp (disch := omega) only [w64, wu64, wu32, Nat.min_eq_left]) | (with_reducible first | refine cF (k1) ?_ | refine dF (k1) ?_) | (with_reducible first | refine cF (k2) ?_ | refine dF (k2) ?_) | (refine aL ti_ok ?_) | (refine dL ti_ok ?_) | (refine dE (by kernel_rfl) ?_) | ((first | refine cC ?_ ?_ | refine gS ?_ ?_ | refine dS ?_ ?_) <;> intro hc <;> first | (exfalso; simp only [dcT, dcF, bnT, bnF, bnU, bnV] at hc; omega) | (simp only [hc]; try simp only [dcT, dcF, bnT, bnF, bnU, bnV] at hc)) | (refine aN (by omega) ?_) | (refine dN (by omega) ?_))
        all_goals exact fin_same trivial rfl
      ·
        repeat' (first | (simp only [go_sem, Int.reduceAdd, Int.reduceEq, Int.reduceLE, Int.reduceLT, Int.reduceMul, Int.reduceNeg, Int.reducePow, Int.reduceSub, Int.reduceToNat, Nat.reduceAdd, Nat.reduceBEq, Nat.reduceEqDiff, Nat.reduceLT, Nat.reduceLeDiff, Nat.reduceMul, Nat.reducePow, Nat.reduceSub, reduceCtorEq, reduceIte, IntKind.bits.eq_def, ti, tin]) | (simp (disch := omega) only [w64, wu64, wu32, Nat.min_eq_left]) | (with_reducible first | refine cF (k1) ?_ | refine dF (k1) ?_) | (with_reducible first | refine cF (k2) ?_ | refine dF (k2) ?_) | (refine aL ti_ok ?_) | (refine dL ti_ok ?_) | (refine dE (by kernel_rfl) ?_) | ((first | refine cC ?_ ?_ | refine gS ?_ ?_ | refine dS ?_ ?_) <;> intro hc <;> first | (exfalso; simp only [dcT, dcF, bnT, bnF, bnU, bnV] at hc; omega) | (simp only [hc]; try simp only [dcT, dcF, bnT, bnF, bnU, bnV] at hc)) | (refine aN (by omega) ?_) | (refine dN (by omega) ?_))
        all_goals exact fin_same trivial rfl
    ·
      cases z
      ·
        cases z'
        ·
          repeat' (first | (simp only [go_sem, Int.reduceAdd, Int.reduceEq, Int.reduceLE, Int.reduceLT, Int.reduceMul, Int.reduceNeg, Int.reducePow, Int.reduceSub, Int.reduceToNat, Nat.reduceAdd, Nat.reduceBEq, Nat.reduceEqDiff, Nat.reduceLT, Nat.reduceLeDiff, Nat.reduceMul, Nat.reducePow, Nat.reduceSub, reduceCtorEq, reduceIte, IntKind.bits.eq_def, ti, tin]) | (simp (disch := omega) only [w64, wu64, wu32, Nat.min_eq_left]) | (with_reducible first | refine cF (k1) ?_ | refine dF (k1) ?_) | (with_reducible first | refine cF (k2) ?_ | refine dF (k2) ?_) | (refine aL ti_ok ?_) | (refine dL ti_ok ?_) | (refine dE (by kernel_rfl) ?_) | ((first | refine cC ?_ ?_ | refine gS ?_ ?_ | refine dS ?_ ?_) <;> intro hc <;> first | (exfalso; simp only [dcT, dcF, bnT, bnF, bnU, bnV] at hc; omega) | (simp only [hc]; try simp only [dcT, dcF, bnT, bnF, bnU, bnV] at hc)) | (refine aN (by omega) ?_) | (refine dN (by omega) ?_))
          all_goals exact fin_same trivial rfl
        ·
          repeat' (first | (simp only [go_sem, Int.reduceAdd, Int.reduceEq, Int.reduceLE, Int.reduceLT, Int.reduceMul, Int.reduceNeg, Int.reducePow, Int.reduceSub, Int.reduceToNat, Nat.reduceAdd, Nat.reduceBEq, Nat.reduceEqDiff, Nat.reduceLT, Nat.reduceLeDiff, Nat.reduceMul, Nat.reducePow, Nat.reduceSub, reduceCtorEq, reduceIte, IntKind.bits.eq_def, ti, tin]) | (simp (disch := omega) only [w64, wu64, wu32, Nat.min_eq_left]) | (with_reducible first | refine cF (k1) ?_ | refine dF (k1) ?_) | (with_reducible first | refine cF (k2) ?_ | refine dF (k2) ?_) | (refine aL ti_ok ?_) | (refine dL ti_ok ?_) | (refine dE (by kernel_rfl) ?_) | ((first | refine cC ?_ ?_ | refine gS ?_ ?_ | refine dS ?_ ?_) <;> intro hc <;> first | (exfalso; simp only [dcT, dcF, bnT, bnF, bnU, bnV] at hc; omega) | (simp only [hc]; try simp only [dcT, dcF, bnT, bnF, bnU, bnV] at hc)) | (refine aN (by omega) ?_) | (refine dN (by omega) ?_))
          all_goals exact fin_same trivial rfl
      ·
        have e := hz rfl
        subst e
        repeat' (first | (simp only [go_sem, Int.reduceAdd, Int.reduceEq, Int.reduceLE, Int.reduceLT, Int.reduceMul, Int.reduceNeg, Int.reducePow, Int.reduceSub, Int.reduceToNat, Nat.reduceAdd, Nat.reduceBEq, Nat.reduceEqDiff, Nat.reduceLT, Nat.reduceLeDiff, Nat.reduceMul, Nat.reducePow, Nat.reduceSub, reduceCtorEq, reduceIte, IntKind.bits.eq_def, ti, tin]) | (simp (disch := omega) only [w64, wu64, wu32, Nat.min_eq_left]) | (with_reducible first | refine cF (k1) ?_ | refine dF (k1) ?_) | (with_reducible first | refine cF (k2) ?_ | refine dF (k2) ?_) | (refine aL ti_ok ?_) | (refine dL ti_ok ?_) | (refine dE (by kernel_rfl) ?_) | ((first | refine cC ?_ ?_ | refine gS ?_ ?_ | refine dS ?_ ?_) <;> intro hc <;> first | (exfalso; simp only [dcT, dcF, bnT, bnF, bnU, bnV] at hc; omega) | (simp only [hc]; try simp only [dcT, dcF, bnT, bnF, bnU, bnV] at hc)) | (refine aN (by omega) ?_) | (refine dN (by omega) ?_))
        all_goals exact fin_same trivial rfl
  ·
    have lW : (vrows ((tabV m fw).map can)).length = m := vtab_len
    have lI : (vrows ((tabV m fi).map can)).length = m := vtab_len
    have lO : (vrows ((tabV m fo).map can)).length = m := vtab_len
    have sW := vtab_step (k := m) (f := fw)
    have sI := vtab_step (k := m) (f := fi)
    have sO := vtab_step (k := m) (f := fo)
    have rw0 := vrows_getD (l := w) (i := m) (by omega)
    have ri0 := vrows_getD (l := inner) (i := m) (by omega)
    have ro0 := vrows_getD (l := outer) (i := m) (by omega)
    have lw' := t7
    have mw := muw m
    have mi := mui m
    have mo := muo m
    clear muw mui muo
    unfold vrow at rw0 ri0 ro0
    generalize w.getD m RD.zero = rw1 at *
    generalize inner.getD m RD.zero = ri1 at *
    generalize outer.getD m RD.zero = ro1 at *
    simp only [fz_succ]
    repeat' (first | (simp only [go_sem, Int.reduceAdd, Int.reduceEq, Int.reduceLE, Int.reduceLT, Int.reduceMul, Int.reduceNeg, Int.reducePow, Int.reduceSub, Int.reduceToNat, Nat.reduceAdd, Nat.reduceBEq, Nat.reduceEqDiff, Nat.reduceLT, Nat.reduceLeDiff, Nat.reduceMul, Nat.reducePow, Nat.reduceSub, reduceCtorEq, reduceIte, IntKind.bits.eq_def, ti, tin, vrows_length, lW, lI, lO, t7, li, lo, rw0, ri0, ro0]) | (simp (disch := omega) only [w64, wu64, wu32, Nat.min_eq_left]) | (with_reducible first | refine cF (mw) ?_ | refine dF (mw) ?_) | (with_reducible first | refine cF (mi) ?_ | refine dF (mi) ?_) | (with_reducible first | refine cF (mo) ?_ | refine dF (mo) ?_) | (refine drawAfter_app ti_ok rfl rfl rfl rfl rfl ⟨rfl, rfl, by decide⟩ rfl ⟨trivial, by (try simp only [List.length_cons, List.length_nil, List.length_append, u32s_length, List.length_map, vrows_length, lW, lI, lO, t7, li, lo, rw0, ri0, ro0]); omega, by (try simp only [List.length_cons, List.length_nil, List.length_append, u32s_length, List.length_map, vrows_length, lW, lI, lO, t7, li, lo, rw0, ri0, ro0]); omega, by (try simp only [List.length_cons, List.length_nil, List.length_append, u32s_length, List.length_map, vrows_length, lW, lI, lO, t7, li, lo, rw0, ri0, ro0]); omega⟩ byRows ?_) | (refine aL ti_ok ?_) | (refine dL ti_ok ?_) | (refine dE (by kernel_rfl) ?_) | ((first | refine cC ?_ ?_ | refine gS ?_ ?_ | refine dS ?_ ?_) <;> intro hc <;> first | (exfalso; simp only [dcT, dcF, bnT, bnF, bnU, bnV] at hc; omega) | (simp only [hc]; try simp only [dcT, dcF, bnT, bnF, bnU, bnV] at hc)) | (refine aN (by omega) ?_) | (refine dN (by omega) ?_))
    rw [sW, sI, sO]
    refine roundEnd_of (α := Nat × Nat) (r, m + 1) (show r + (m + 1) = n by omega) (show r < r + 1 by omega) ?_
    refine Weak.trans0 (s1 := ⟨[(2, .v (.int .u8 (b : Int))), (3, .p 0 3 0 0), (4, .p 1 3 0 0), (7, .p 2 3 0 0), (8, .p 3 3 0 0), (9, .p 4 3 0 0), (47, .v (.int .i64 n)), (48, .v (.int .i64 ((m + 1 : Nat))))], [(3, ⟨3, [[.sl 1 (mrows a), .sl 1 (mrows dv), .ps 5 3 0 (m + 1)]]⟩), (4, ⟨3, [[.v (.int .i64 K), .ps 6 3 0 (m + 1), .ps 7 3 0 (m + 1)]]⟩), (5, ⟨3, vrows ((tabV (m + 1) fw).map can)⟩), (6, ⟨3, vrows ((tabV (m + 1) fi).map can)⟩), (7, ⟨3, vrows ((tabV (m + 1) fo).map can)⟩), (2, ⟨3, [crow f]⟩), (1, ⟨3, [[.v (.int .i64 K), .sl 3 (vrows inner), .sl 3 (vrows outer)]]⟩), (0, ⟨3, [[.sl 1 (mrows a), .sl 1 (mrows dv), .sl 3 (vrows w)]]⟩)], 8⟩) (Weak.map [(0, 0), (1, 1), (2, 2), (3, 3), (4, 4), (5, 18), (6, 31), (7, 42)] rfl (by decide) (by decide) byGE byGM) (Nat.zero_lt_succ _) ?_
    cases r with
    | succ r => simp only [fz_succ]; exact byWeak
    | zero =>
      have hm2 : n = m + 1 := by omega
      subst hm2
      have l1 : (vrows ((tabV (m + 1) fw).map can)).length = m + 1 := vtab_len
      have l2 : (vrows ((tabV (m + 1) fi).map can)).length = m + 1 := vtab_len
      have l3 : (vrows ((tabV (m + 1) fo).map can)).length = m + 1 := vtab_len
      simp only [fz_zero]
      refine Weak.trans0 (s1 := ⟨[(2, .v (.int .u8 (b : Int))), (3, .p 0 3 0 0), (4, .p 1 3 0 0), (7, .p 2 3 0 0), (8, .p 3 3 0 0), (9, .p 4 3 0 0), (47, .v (.int .i64 ((m + 1 : Nat)))), (48, .v (.int .i64 ((m + 1 : Nat))))], [(3, ⟨3, [[.sl 1 (mrows a), .sl 1 (mrows dv), .sl 3 (vrows ((tabV (m + 1) fw).map can))]]⟩), (4, ⟨3, [[.v (.int .i64 K), .ps 6 3 0 (m + 1), .ps 7 3 0 (m + 1)]]⟩), (6, ⟨3, vrows ((tabV (m + 1) fi).map can)⟩), (7, ⟨3, vrows ((tabV (m + 1) fo).map can)⟩), (2, ⟨3, [crow f]⟩), (1, ⟨3, [[.v (.int .i64 K), .sl 3 (vrows inner), .sl 3 (vrows outer)]]⟩), (0, ⟨3, [[.sl 1 (mrows a), .sl 1 (mrows dv), .sl 3 (vrows w)]]⟩)], 8⟩) (Weak.frzA 5 _ (m + 1) l1) (Nat.zero_lt_succ _) ?_
      refine Weak.trans0 (s1 := ⟨[(2, .v (.int .u8 (b : Int))), (3, .p 0 3 0 0), (4, .p 1 3 0 0), (7, .p 2 3 0 0), (8, .p 3 3 0 0), (9, .p 4 3 0 0), (47, .v (.int .i64 ((m + 1 : Nat)))), (48, .v (.int .i64 ((m + 1 : Nat))))], [(3, ⟨3, [[.sl 1 (mrows a), .sl 1 (mrows dv), .sl 3 (vrows ((tabV (m + 1) fw).map can))]]⟩), (4, ⟨3, [[.v (.int .i64 K), .sl 3 (vrows ((tabV (m + 1) fi).map can)), .ps 7 3 0 (m + 1)]]⟩), (7, ⟨3, vrows ((tabV (m + 1) fo).map can)⟩), (2, ⟨3, [crow f]⟩), (1, ⟨3, [[.v (.int .i64 K), .sl 3 (vrows inner), .sl 3 (vrows outer)]]⟩), (0, ⟨3, [[.sl 1 (mrows a), .sl 1 (mrows dv), .sl 3 (vrows w)]]⟩)], 8⟩) (Weak.frzA 6 _ (m + 1) l2) (Nat.zero_lt_succ _) ?_
      refine Weak.trans0 (s1 := ⟨[(2, .v (.int .u8 (b : Int))), (3, .p 0 3 0 0), (4, .p 1 3 0 0), (7, .p 2 3 0 0), (8, .p 3 3 0 0), (9, .p 4 3 0 0), (47, .v (.int .i64 ((m + 1 : Nat)))), (48, .v (.int .i64 ((m + 1 : Nat))))], [(3, ⟨3, [[.sl 1 (mrows a), .sl 1 (mrows dv), .sl 3 (vrows ((tabV (m + 1) fw).map can))]]⟩), (4, ⟨3, [[.v (.int .i64 K), .sl 3 (vrows ((tabV (m + 1) fi).map can)), .sl 3 (vrows ((tabV (m + 1) fo).map can))]]⟩), (2, ⟨3, [crow f]⟩), (1, ⟨3, [[.v (.int .i64 K), .sl 3 (vrows inner), .sl 3 (vrows outer)]]⟩), (0, ⟨3, [[.sl 1 (mrows a), .sl 1 (mrows dv), .sl 3 (vrows w)]]⟩)], 8⟩) (Weak.frzA 7 _ (m + 1) l3) (Nat.zero_lt_succ _) ?_
      exact byWeak
theorem scales18_law (r d : List (List AV)) (w : List (List AV)) (K : Int) (i o : List (List AV)) (b : Int) (hb : (Lit.int .u8 b).wf = true) (hr : r.length ≤ maxLen) (fr : ∀ x ∈ r, FitL [.sl [.bool, .sl [.int .u32], .int .i64]] x) (hd : d.length ≤ maxLen) (fd : ∀ x ∈ d, FitL [.sl [.bool, .sl [.int .u32], .int .i64]] x)
    (hw : w.length ≤ maxLen) (fw : ∀ x ∈ w, FitL [.bool, .sl [.int .u32], .int .i64] x) (hi : i.length ≤ maxLen) (fi : ∀ x ∈ i, FitL [.bool, .sl [.int .u32], .int .i64] x) (ho : o.length ≤ maxLen) (fo : ∀ x ∈ o, FitL [.bool, .sl [.int .u32], .int .i64] x) :
    CallOK Tryd.prog gl 4 [.agg [.sl 1 r, .sl 1 d, .sl 3 w], .agg [.v (.int .i64 K), .sl 3 i, .sl 3 o], .v (.int .u8 b)] (.v (.bool true)) := by
  unfold maxLen at hr hd hw hi ho
  obtain ⟨a, ga, rfl, e1⟩ := fit_mrows fr
  obtain ⟨dv, gd, rfl, e2⟩ := fit_mrows fd
  obtain ⟨w, gw, rfl, e3⟩ := fit_vrows fw
  obtain ⟨i, gi, rfl, e4⟩ := fit_vrows fi
  obtain ⟨o, go, rfl, e5⟩ := fit_vrows fo
  have hb2 : 0 ≤ b ∧ b ≤ 255 := by simpa [Lit.wf, IntKind.min, IntKind.max, IntKind.signed, IntKind.bits] using hb
  by_cases h : lightP a dv w ∧ shortP K i o
  · by_cases h2 : ckC a dv w K i o = 0
    · obtain ⟨_, hK, _⟩ := ckC_zero h2
      obtain ⟨K', rfl⟩ : ∃ K' : Nat, K = K' := ⟨K.toNat, by omega⟩
      obtain ⟨b', rfl⟩ : ∃ b' : Nat, b = b' := ⟨b.toNat, by omega⟩
      exact scl_ok a dv w i o K' b' a.length (by omega) rfl (by omega) (by omega) ga gd gw gi go h.1 h.2 h2
    · exact scl_err a dv w i o K b (by omega) (by omega) ga gd gw gi go h.1 h.2 h2
  · exact scl_out a dv w i o K b (by omega) (by omega) (by omega) (by omega) (by omega) ga gd gw gi go h
end Go.Proofs.YtpggiabnhodjpaaDoor
