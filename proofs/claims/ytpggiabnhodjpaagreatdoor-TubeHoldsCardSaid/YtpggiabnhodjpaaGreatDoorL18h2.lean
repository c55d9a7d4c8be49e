/- The statement TubeHolds: its code returns true, for 2 states. -/
import Derived.Test.YtpggiabnhodjpaaGreatDoorL18h0
import Derived.Test.YtpggiabnhodjpaaGreatDoorU4
set_option linter.unusedSimpArgs false
set_option linter.unusedVariables false
set_option linter.deprecated false
namespace Go.Proofs.YtpggiabnhodjpaaGreatDoor
open Go Go.Ax
set_option maxRecDepth 100000
set_option maxHeartbeats 8000000
theorem hld_ok2 (a dv : List (List RD)) (w inner outer : List RD) (K : Nat) (S : List (List Int)) (hcs : ∀ r ∈ brows S, ∀ a ∈ r, Cl a) (ns : Nat) (hns : S.length = ns) (h20 : ns ≤ 20) (hS : isBytes S) (hn : a.length = 2) (hi : inner.length ≤ 9223372036854775807) (ho : outer.length ≤ 9223372036854775807) (ga : argM a) (gd : argM dv) (gw : argV w) (gi : argV inner) (go : argV outer) (hl : lightP a dv w) (hs : shortP K inner outer) (h2 : ckC a dv w K inner outer = 0) (hz : acceptsD K (dyM a) (dyM dv) (dyV w) (dyV inner) (dyV outer) = true) : CallOK Tryz.prog gl 7 [.agg [.sl 1 (mrows a), .sl 1 (mrows dv), .sl 3 (vrows w)], .agg [.v (.int .i64 K), .sl 3 (vrows inner), .sl 3 (vrows outer)], .sl 1 (brows S)] (.v (.bool (true))) := by
  refine call_ok (C := ⟨Tryz.prog, gl, ti, 200, false⟩) ti_ok mixed 3000 Tryz.call7 Tryz.func7 rfl Tryz.ntmps7 (by simp) byClL byCl ?_
  rw [Tryz.results7]
  have X := in18_of ga gd gw hl
  have Y := inC_of gi go hs
  have f1 := law18_light a dv w (by have := X.la; omega) (by have := X.ld; omega) (by have := X.lw; omega) ga gd gw
  have f2 := law18_short K inner outer hi ho gi go
  rw [decide_eq_true hl] at f1
  rw [decide_eq_true hs] at f2
  have aw := awake18
  have kc := X.checkC Y K
  have k1 := X.acc Y K h2
  rw [hz] at k1
  rw [h2] at kc
  obtain ⟨c1, hK1, hK2, li, lo, _⟩ := ckC_zero h2
  obtain ⟨t1, t2, t3, t4, t5, t6, t7, t8, t9⟩ := ckT_zero c1
  have hK8 : K ≤ 8 := by have := hs.2.2; omega
  have hrow := (ckM_zero t2).2.2
  rw [t5, t6, hn] at hrow
  rw [hn] at li lo t5 t7
  obtain ⟨H0, g0⟩ := hold_start X Y hn h2 hS
  have step : ∀ (k : Nat), k ≤ 20 → ∀ (x : List Dy), HInv 2 K (dyM a) (dyM dv) (dyV w) (dyV inner) (dyV outer) k x → (∀ i, Mg (72 + 200 * k) (x.getD i Dy.zero)) → fineV 200 x → ∀ s : List Int, (∀ n ∈ s, isByte n) → _ := fun k hk x H gx fx s hs => hold_step X Y hn h2 hK8 hz hk H gx fx hs
  have cmp : ∀ (k : Nat) (x : List Dy), HInv 2 K (dyM a) (dyM dv) (dyV w) (dyV inner) (dyV outer) k x → ∀ i, i < 2 → _ := fun k x H i hi => hold_cmp X Y hn h2 hK8 hz H hi
  have oi := Y.oi
  have oo := Y.oo
  have ow := X.ow
  have od := X.od
  have pk : ∀ (k i : Nat), i ≤ 1000 → CallOK Tryz.prog gl 32 [.sl 1 (rws bytes (S.getD k [])), .v (.int .i64 i)] (.v (.int .i8 (pickL (S.getD k []) i))) := fun k i hi => law18_pick _ i (bytes_get hS k).1 hi
  have pt : ∀ (r : RD) (m : Int), okR 64 r → isByte m → CallOK Tryz.prog gl 33 [.agg [.v (.bool r.s), .sl 1 (u32s r.ws), .v (.int .i64 r.d)], .v (.int .i8 m)] (.agg (crow (partD r.dy m))) := fun r m hr hm => law18_part _ _ _ _ (RD.arg hr.1) _ hm
  have hlt : (k : Nat) → (S.getD k []).length ≤ 9223372036854775807 := fun k => (bytes_get hS k).1
  clear X Y hl hs gi go ga gd gw hi ho h2 hz c1 t1 t2 t3 t4 t6 t8 t9
  generalize hf : hx0 inner S = fx0 at *
  have hf : ∀ i, fx0 i = partD (inner.getD i RD.zero).dy (if S.length = 0 then 127 else pickL (S.getD 0 []) i) := fun i => by rw [← hf]; rfl
  repeat' (first | (simp only [go_sem, seval, IntKind.bits.eq_def, ti, tin, mrows_length, brows_len, hns, hn]) | (simp (disch := omega) only [wA]) | (with_reducible first | refine cF f1 ?_ | refine dF f1 ?_ | refine cF f2 ?_ | refine dF f2 ?_ | refine cF aw ?_ | refine dF aw ?_ | refine cF kc ?_ | refine dF kc ?_ | refine cF k1 ?_ | refine dF k1 ?_) | refine aL ti_ok ?_ | refine dL ti_ok ?_ | refine dG ?_ | ((first | refine cC ?_ ?_ | refine gS ?_ ?_ | refine dS ?_ ?_) <;> intro hc <;> first | (exfalso; simp only [dcA] at hc; omega) | (simp only [hc]; try simp only [dcA] at hc)) | refine aO ?_ | refine dO ?_)
  clear f1 f2 aw kc k1
  refine l_loop (α := Nat × Nat) (fun x => ⟨[(2, .sl 1 (brows S)), (3, .rp [.sl 1 (mrows a), .sl 1 (mrows dv), .sl 3 (vrows w)]), (4, .rp [.v (.int .i64 K), .sl 3 (vrows inner), .sl 3 (vrows outer)]), (9, .v (.int .i64 2)), (10, fz x.1 (.sl 3 (vrows ((tabV 2 fx0).map can))) (.ps 1 3 0 x.2)), (60, .v (.int .i64 2)), (61, .v (.int .i64 x.2))], fz x.1 [] [(1, ⟨3, vrows ((tabV x.2 fx0).map can)⟩)], 2⟩) (fun x => x.1 + x.2 = 2) (fun x => x.1) ((2, 0)) _ byFresh (fun _ h => by first | (cases h; done) | exact Nat.le_of_ble_eq_true rfl) ?_ ?_ ?_
  · exact Nat.add_zero 2
  ·
    simp only [fz_pos (show 0 < 2 by omega)]
    refine Weak.trans0 (s1 := ⟨[(2, .sl 1 (brows S)), (3, .p 0 3 0 0), (4, .p 1 3 0 0), (9, .v (.int .i64 2)), (10, .v (.slice none 0 0)), (60, .v (.int .i64 2)), (61, .v (.int .i64 0))], [(1, ⟨3, [[.v (.int .i64 K), .sl 3 (vrows inner), .sl 3 (vrows outer)]]⟩), (0, ⟨3, [[.sl 1 (mrows a), .sl 1 (mrows dv), .sl 3 (vrows w)]]⟩)], 2⟩) byWeak (Nat.zero_lt_succ _) ?_
    refine Weak.trans0 (s1 := ⟨[(2, .sl 1 (brows S)), (3, .rp [.sl 1 (mrows a), .sl 1 (mrows dv), .sl 3 (vrows w)]), (4, .p 1 3 0 0), (9, .v (.int .i64 2)), (10, .v (.slice none 0 0)), (60, .v (.int .i64 2)), (61, .v (.int .i64 0))], [(1, ⟨3, [[.v (.int .i64 K), .sl 3 (vrows inner), .sl 3 (vrows outer)]]⟩)], 2⟩) (Weak.frzP 0 3 [.sl 1 (mrows a), .sl 1 (mrows dv), .sl 3 (vrows w)]) (Nat.zero_lt_succ _) ?_
    refine Weak.trans0 (s1 := ⟨[(2, .sl 1 (brows S)), (3, .rp [.sl 1 (mrows a), .sl 1 (mrows dv), .sl 3 (vrows w)]), (4, .rp [.v (.int .i64 K), .sl 3 (vrows inner), .sl 3 (vrows outer)]), (9, .v (.int .i64 2)), (10, .v (.slice none 0 0)), (60, .v (.int .i64 2)), (61, .v (.int .i64 0))], [], 2⟩) (Weak.frzP 1 3 [.v (.int .i64 K), .sl 3 (vrows inner), .sl 3 (vrows outer)]) (Nat.zero_lt_succ _) ?_
    exact Weak.map [(0, 0)] rfl (by decide) (by decide) byGE byGN
  rintro ⟨r, m⟩ hrm
  simp only at hrm ⊢
  rcases r with _ | r
  rotate_left
  ·
    simp only [fz_succ]
    have hm : m < 2 := by omega
    have ri := vrows_getD (l := inner) (i := m) (by omega)
    have lR : (vrows ((tabV m fx0).map can)).length = m := vtab_len
    have sR := vtab_step (k := m) (f := fx0)
    have hfm := hf m
    have orr := oi m
    have p0 := pk 0 m (by omega)
    have hc0 : ∀ r ∈ rws bytes (S.getD 0 []), ∀ a ∈ r, Cl a := rws_cl clrow_b _
    have fin : ∀ s, Weak s ⟨[(2, .sl 1 (brows S)), (3, .rp [.sl 1 (mrows a), .sl 1 (mrows dv), .sl 3 (vrows w)]), (4, .rp [.v (.int .i64 K), .sl 3 (vrows inner), .sl 3 (vrows outer)]), (9, .v (.int .i64 2)), (10, .ps 1 3 0 (m + 1)), (60, .v (.int .i64 2)), (61, .v (.int .i64 ((m + 1 : Nat))))], [(1, ⟨3, vrows ((tabV (m + 1) fx0).map can)⟩)], 2⟩ → roundEnd (fun x : Nat × Nat => ⟨[(2, .sl 1 (brows S)), (3, .rp [.sl 1 (mrows a), .sl 1 (mrows dv), .sl 3 (vrows w)]), (4, .rp [.v (.int .i64 K), .sl 3 (vrows inner), .sl 3 (vrows outer)]), (9, .v (.int .i64 2)), (10, fz x.1 (.sl 3 (vrows ((tabV 2 fx0).map can))) (.ps 1 3 0 x.2)), (60, .v (.int .i64 2)), (61, .v (.int .i64 x.2))], fz x.1 [] [(1, ⟨3, vrows ((tabV x.2 fx0).map can)⟩)], 2⟩) (fun x => x.1 + x.2 = 2) (fun y => y.1 < r + 1) s := fun s hw => by
      refine roundEnd_of (α := Nat × Nat) (r, m + 1) (show r + (m + 1) = 2 by omega) (show r < r + 1 by omega) ?_
      refine Weak.trans0 hw (Nat.zero_lt_succ _) ?_
      cases r with
      | succ r => simp only [fz_succ]; exact byWeak
      | zero =>
        obtain rfl : m = 1 := by omega
        have l1 : (vrows ((tabV (1 + 1) fx0).map can)).length = 1 + 1 := vtab_len
        simp only [fz_zero]
        exact Weak.trans0 (Weak.frzA (s' := ⟨[(2, .sl 1 (brows S)), (3, .rp [.sl 1 (mrows a), .sl 1 (mrows dv), .sl 3 (vrows w)]), (4, .rp [.v (.int .i64 K), .sl 3 (vrows inner), .sl 3 (vrows outer)]), (9, .v (.int .i64 2)), (10, .sl 3 (vrows ((tabV (1 + 1) fx0).map can))), (60, .v (.int .i64 2)), (61, .v (.int .i64 ((1 + 1 : Nat))))], [], 2⟩) 1 _ (1 + 1) l1) (Nat.zero_lt_succ _) byWeak
    unfold vrow at ri
    by_cases h0 : ns = 0
    ·
      rw [hns, if_pos h0] at hfm
      have c2 := pt _ 127 orr ⟨by decide, by decide⟩
      rw [← hfm] at c2
      clear hfm p0 hf step cmp pk pt
      generalize fx0 m = y at *
      generalize inner.getD m RD.zero = rr at *
      subst h0
      repeat' (first | (simp only [go_sem, seval, IntKind.bits.eq_def, ti, tin, vrows_length, brows_len, hns, li, ri, lR]) | (simp (disch := omega) only [wA]) | (with_reducible first | refine cF c2 ?_ | refine dF c2 ?_) | (refine after_append_nil ti_ok rfl rfl rfl rfl ⟨rfl, by decide⟩ rfl ⟨trivial, by (try simp only [List.length_cons, List.length_nil, List.length_append, u32s_length, List.length_map, lR]); omega, by (try simp only [List.length_cons, List.length_nil, List.length_append, u32s_length, List.length_map, lR]); omega⟩ (fun _ => byRows) ?_) | (refine after_append_own ti_ok rfl rfl rfl rfl rfl ⟨rfl, rfl, by decide, Nat.le_of_ble_eq_true rfl⟩ (fun h => by first | (cases h; done) | decide) rfl ⟨trivial, by (try simp only [List.length_cons, List.length_nil, List.length_append, u32s_length, List.length_map, lR]); omega, by (try simp only [List.length_cons, List.length_nil, List.length_append, u32s_length, List.length_map, lR]); omega, by (try simp only [List.length_cons, List.length_nil, List.length_append, u32s_length, List.length_map, lR]); omega⟩ byRows byNoE byNoM ?_) | refine aL ti_ok ?_ | refine dL ti_ok ?_ | refine dG ?_ | ((first | refine cC ?_ ?_ | refine gS ?_ ?_ | refine dS ?_ ?_) <;> intro hc <;> first | (exfalso; simp only [dcA] at hc; omega) | (simp only [hc]; try simp only [dcA] at hc)) | refine aO ?_ | refine dO ?_)
      refine fin _ ?_
      rw [← sR]
      exact byWeak
    ·
      rw [hns, if_neg h0] at hfm
      have c2 := pt _ (pickL (S.getD 0 []) m) orr (pickL_byte (bytes_get hS 0).2 m)
      rw [← hfm] at c2
      have r0 := brows_get (S := S) (k := 0) (by omega)
      clear hfm hf step cmp pk pt
      generalize fx0 m = y at *
      generalize inner.getD m RD.zero = rr at *
      generalize pickL (S.getD 0 []) m = mb at *
      repeat' (first | (simp only [go_sem, seval, IntKind.bits.eq_def, ti, tin, vrows_length, brows_len, hns, li, ri, lR, r0]) | (simp (disch := omega) only [wA]) | (with_reducible first | refine cF p0 ?_ | refine dF p0 ?_ | refine cF c2 ?_ | refine dF c2 ?_) | (refine after_append_nil ti_ok rfl rfl rfl rfl ⟨rfl, by decide⟩ rfl ⟨trivial, by (try simp only [List.length_cons, List.length_nil, List.length_append, u32s_length, List.length_map, lR]); omega, by (try simp only [List.length_cons, List.length_nil, List.length_append, u32s_length, List.length_map, lR]); omega⟩ (fun _ => byRows) ?_) | (refine after_append_own ti_ok rfl rfl rfl rfl rfl ⟨rfl, rfl, by decide, Nat.le_of_ble_eq_true rfl⟩ (fun h => by first | (cases h; done) | decide) rfl ⟨trivial, by (try simp only [List.length_cons, List.length_nil, List.length_append, u32s_length, List.length_map, lR]); omega, by (try simp only [List.length_cons, List.length_nil, List.length_append, u32s_length, List.length_map, lR]); omega, by (try simp only [List.length_cons, List.length_nil, List.length_append, u32s_length, List.length_map, lR]); omega⟩ byRows byNoE byNoM ?_) | refine aL ti_ok ?_ | refine dL ti_ok ?_ | refine dG ?_ | ((first | refine cC ?_ ?_ | refine gS ?_ ?_ | refine dS ?_ ?_) <;> intro hc <;> first | (exfalso; simp only [dcA] at hc; omega) | (simp only [hc]; try simp only [dcA] at hc)) | refine aO ?_ | refine dO ?_)
      refine fin _ ?_
      rw [← sR]
      exact byWeak
  have hm : m = 2 := by omega
  subst hm
  simp only [fz_zero]
  clear hf
  repeat' (first | (simp only [go_sem, seval, IntKind.bits.eq_def, ti, tin, brows_len, hns]) | (simp (disch := omega) only [wA]) | refine aL ti_ok ?_ | refine dL ti_ok ?_ | refine dG ?_ | ((first | refine cC ?_ ?_ | refine gS ?_ ?_ | refine dS ?_ ?_) <;> intro hc <;> first | (exfalso; simp only [dcA] at hc; omega) | (simp only [hc]; try simp only [dcA] at hc)) | refine aO ?_ | refine dO ?_)
  refine l_loop (α := Nat × List Dy) (fun x => ⟨[(2, .sl 1 (brows S)), (3, .rp [.sl 1 (mrows a), .sl 1 (mrows dv), .sl 3 (vrows w)]), (4, .rp [.v (.int .i64 K), .sl 3 (vrows inner), .sl 3 (vrows outer)]), (9, .v (.int .i64 2)), (10, .sl 3 (vrows (x.2.map can))), (83, .sl 1 (brows S)), (84, .v (.int .i64 ns)), (85, .v (.int .i64 x.1))], [], 2⟩) (fun x => x.1 ≤ ns ∧ HInv 2 K (dyM a) (dyM dv) (dyV w) (dyV inner) (dyV outer) x.1 x.2 ∧ ∀ i, Mg (72 + 200 * x.1) (x.2.getD i Dy.zero)) (fun x => ns - x.1) ((0, tabV 2 fx0)) _ byFresh (fun _ h => by first | (cases h; done) | exact Nat.le_of_ble_eq_true rfl) ?_ ?_ ?_
  · exact ⟨Nat.zero_le _, H0, fun i => (g0 i).mono (by omega)⟩
  · exact byWeak
  clear H0 g0
  rintro ⟨k, x⟩ ⟨hk, H, gx⟩
  simp only at hk H gx ⊢
  by_cases hkn : k < ns
  rotate_left
  ·
    clear step cmp pk pt
    repeat' (first | (simp only [go_sem, seval, IntKind.bits.eq_def, ti, tin]) | (simp (disch := omega) only [wA]) | refine aL ti_ok ?_ | refine dL ti_ok ?_ | refine dG ?_ | ((first | refine cC ?_ ?_ | refine gS ?_ ?_ | refine dS ?_ ?_) <;> intro hc <;> first | (exfalso; simp only [dcA] at hc; omega) | (simp only [hc]; try simp only [dcA] at hc)) | refine aO ?_ | refine dO ?_)
    all_goals exact fin_same trivial rfl
  have rk := brows_get (S := S) (k := k) (by omega)
  have hck : ∀ r ∈ rws bytes (S.getD k []), ∀ a ∈ r, Cl a := rws_cl clrow_b _
  have km : ((k : Int)).tmod (K : Int) = ((k % K : Nat) : Int) := by
    rw [Int.natCast_emod]
    exact Int.tmod_eq_emod_of_nonneg (by omega)
  have hK0 : ¬ (K : Int) = 0 := by omega
  have lx := H.len
  have lx' : (vrows (x.map can)).length = 2 := by rw [crows_length, lx]
  repeat' (first | (simp only [go_sem, seval, IntKind.bits.eq_def, ti, tin, brows_len, hns, rk]) | (simp (disch := omega) only [wA]) | refine aL ti_ok ?_ | refine dL ti_ok ?_ | refine dG ?_ | ((first | refine cC ?_ ?_ | refine gS ?_ ?_ | refine dS ?_ ?_) <;> intro hc <;> first | (exfalso; simp only [dcA] at hc; omega) | (simp only [hc]; try simp only [dcA] at hc)) | refine aO ?_ | refine dO ?_)
  refine l_loop (α := Nat) (fun i => ⟨[(2, .sl 1 (brows S)), (3, .rp [.sl 1 (mrows a), .sl 1 (mrows dv), .sl 3 (vrows w)]), (4, .rp [.v (.int .i64 K), .sl 3 (vrows inner), .sl 3 (vrows outer)]), (9, .v (.int .i64 2)), (10, .sl 3 (vrows (x.map can))), (13, .v (.int .i64 k)), (14, .sl 1 (rws bytes (S.getD k []))), (83, .sl 1 (brows S)), (84, .v (.int .i64 ns)), (85, .v (.int .i64 k)), (90, .v (.int .i64 2)), (91, .v (.int .i64 i))], [], 2⟩) (fun i => i ≤ 2 ∧ ∀ i', i' < i → (x.getD i' Dy.zero).d ≤ 200) (fun i => 2 - i) (0) _ byFresh (fun _ h => by first | (cases h; done) | exact Nat.le_of_ble_eq_true rfl) ?_ ?_ ?_
  · exact ⟨Nat.zero_le _, fun i' h => by omega⟩
  · exact byWeak
  rintro i ⟨hi, hall⟩
  by_cases hin : i < 2
  ·
    have rx := crows_getD (l := x) (i := i) (by omega)
    have ro := vrows_getD (l := outer) (i := i) (by omega)
    have ri := vrows_getD (l := inner) (i := i) (by omega)
    obtain ⟨q1, q2⟩ := cmp k x H i hin
    have ab := ref_Abs _ _ _ _ ((gx i).arg)
    have m1 := ref_Cmp _ _ _ _ _ _ _ _ ((Mg.abs (gx i)).arg) (RD.arg (oo i).1)
    have m2 := ref_Cmp _ _ _ _ _ _ _ _ ((Mg.abs (gx i)).arg) (RD.arg (oi i).1)
    have hdn : dn (x.getD i Dy.zero) = ((x.getD i Dy.zero).d : Int) := rfl
    have hstep : (x.getD i Dy.zero).d ≤ 200 → ∀ i', i' < i + 1 → (x.getD i' Dy.zero).d ≤ 200 := fun h i' hi' => by
      by_cases e : i' = i
      · rw [e]; exact h
      · exact hall i' (by omega)
    clear cmp step pk pt hall H gx oi oo ow od
    unfold vrow at ro ri
    generalize hc1 : (x.getD i Dy.zero).abs.cmp (outer.getD i RD.zero).dy = e1 at *
    generalize hc2 : (x.getD i Dy.zero).abs.cmp (inner.getD i RD.zero).dy = e2 at *
    clear hc1 hc2
    generalize (x.getD i Dy.zero).abs = ya at *
    generalize hyy : x.getD i Dy.zero = y at *
    generalize outer.getD i RD.zero = r1 at *
    generalize inner.getD i RD.zero = r2 at *
    by_cases hd : y.d ≤ 200
    ·
      have hd1 : dn y ≤ 200 := by omega
      have hall2 := hstep hd
      clear hstep
      by_cases h0 : k % K = 0
      ·
        have q3 := q2 h0
        have km2 : ((k : Int)).tmod (K : Int) = 0 := by rw [km, h0]; rfl
        clear q2 km
        repeat' (first | (simp only [go_sem, seval, IntKind.bits.eq_def, ti, tin, vrows_length, lx', li, lo, rx, ro, ri, km2, hK0]) | (simp (disch := omega) only [wA]) | (with_reducible first | refine cF ab ?_ | refine dF ab ?_ | refine cF m1 ?_ | refine dF m1 ?_ | refine cF m2 ?_ | refine dF m2 ?_) | refine aL ti_ok ?_ | refine dL ti_ok ?_ | refine dG ?_ | ((first | refine cC ?_ ?_ | refine gS ?_ ?_ | refine dS ?_ ?_) <;> intro hc <;> first | (exfalso; simp only [dcA] at hc; omega) | (simp only [hc]; try simp only [dcA] at hc)) | refine aO ?_ | refine dO ?_)
        refine roundEnd_of (α := Nat) (i + 1) ⟨by omega, hall2⟩ (by omega) ?_
        exact byWeak
      ·
        have km2 : ¬ ((k : Int)).tmod (K : Int) = 0 := by rw [km]; omega
        clear q2 km
        repeat' (first | (simp only [go_sem, seval, IntKind.bits.eq_def, ti, tin, vrows_length, lx', li, lo, rx, ro, ri, km2, hK0]) | (simp (disch := omega) only [wA]) | (with_reducible first | refine cF ab ?_ | refine dF ab ?_ | refine cF m1 ?_ | refine dF m1 ?_ | refine cF m2 ?_ | refine dF m2 ?_) | refine aL ti_ok ?_ | refine dL ti_ok ?_ | refine dG ?_ | ((first | refine cC ?_ ?_ | refine gS ?_ ?_ | refine dS ?_ ?_) <;> intro hc <;> first | (exfalso; simp only [dcA] at hc; omega) | (simp only [hc]; try simp only [dcA] at hc)) | refine aO ?_ | refine dO ?_)
        refine roundEnd_of (α := Nat) (i + 1) ⟨by omega, hall2⟩ (by omega) ?_
        exact byWeak
    ·
      have hd1 : ¬ dn y ≤ 200 := by omega
      clear hstep
      by_cases h0 : k % K = 0
      ·
        have q3 := q2 h0
        have km2 : ((k : Int)).tmod (K : Int) = 0 := by rw [km, h0]; rfl
        clear q2 km
        repeat' (first | (simp only [go_sem, seval, IntKind.bits.eq_def, ti, tin, vrows_length, lx', li, lo, rx, ro, ri, km2, hK0]) | (simp (disch := omega) only [wA]) | (with_reducible first | refine cF ab ?_ | refine dF ab ?_ | refine cF m1 ?_ | refine dF m1 ?_ | refine cF m2 ?_ | refine dF m2 ?_) | refine aL ti_ok ?_ | refine dL ti_ok ?_ | refine dG ?_ | ((first | refine cC ?_ ?_ | refine gS ?_ ?_ | refine dS ?_ ?_) <;> intro hc <;> first | (exfalso; simp only [dcA] at hc; omega) | (simp only [hc]; try simp only [dcA] at hc)) | refine aO ?_ | refine dO ?_)
        all_goals exact fin_same trivial rfl
      ·
        have km2 : ¬ ((k : Int)).tmod (K : Int) = 0 := by rw [km]; omega
        clear q2 km
        repeat' (first | (simp only [go_sem, seval, IntKind.bits.eq_def, ti, tin, vrows_length, lx', li, lo, rx, ro, ri, km2, hK0]) | (simp (disch := omega) only [wA]) | (with_reducible first | refine cF ab ?_ | refine dF ab ?_ | refine cF m1 ?_ | refine dF m1 ?_ | refine cF m2 ?_ | refine dF m2 ?_) | refine aL ti_ok ?_ | refine dL ti_ok ?_ | refine dG ?_ | ((first | refine cC ?_ ?_ | refine gS ?_ ?_ | refine dS ?_ ?_) <;> intro hc <;> first | (exfalso; simp only [dcA] at hc; omega) | (simp only [hc]; try simp only [dcA] at hc)) | refine aO ?_ | refine dO ?_)
        all_goals exact fin_same trivial rfl
  have hin2 : i = 2 := by omega
  subst hin2
  have fx : fineV 200 x := fineV_of lx fun i hi => hall i hi
  obtain ⟨y, st, Hy, gy⟩ := step k (by omega) x H gx fx (S.getD k []) (bytes_get hS k).2
  clear cmp step hall
  have hrep : List.replicate 2 [AV.v (.bool false), .v (.slice none 0 0), .v (.int .i64 0)] = zr 2 := rfl
  have hne : nest 1 2 (zr 2) = [(1, (⟨3, zr 2⟩ : MB)), (2, (⟨3, zr 2⟩ : MB))] := rfl
  have hsl : slots 1 2 2 = [[AV.ps 1 3 0 2], [AV.ps 2 3 0 2]] := rfl
  have lw : (vrows w).length = 2 := by rw [vrows_length, t7]
  have ldv : (mrows dv).length = 2 := by rw [mrows_length, t5]
  have hb : ∀ i, isByte (pickL (S.getD k []) i) := fun i => pickL_byte (bytes_get hS k).2 i
  generalize hs : S.getD k [] = s at *
  have pk := fun i hi => (hs ▸ pk k i hi : CallOK Tryz.prog gl 32 [.sl 1 (rws bytes s), .v (.int .i64 (i : Nat))] (.v (.int .i8 (pickL s i))))
  clear gx H fx hS
  repeat' (first | (simp only [go_sem, seval, IntKind.bits.eq_def, ti, tin]) | (simp (disch := omega) only [wA]) | refine aL ti_ok ?_ | refine dL ti_ok ?_ | refine dG ?_ | ((first | refine cC ?_ ?_ | refine gS ?_ ?_ | refine dS ?_ ?_) <;> intro hc <;> first | (exfalso; simp only [dcA] at hc; omega) | (simp only [hc]; try simp only [dcA] at hc)) | refine aO ?_ | refine dO ?_)
  refine callF_n 12 rfl (by decide) rfl ?_ zr_cl (.cons (.refl _) (.cons (.refl _) .nil)) (ref_ZeroM 2 2 (by omega) (by omega)) ?_
  · repeat' (first | exact trivial | exact Cl.v _ | exact Cl.mat | exact Cl.vec | exact Cl.sl (by assumption) | exact byCl | refine And.intro ?_ ?_)
  rw [hsl, hne]
  repeat' (first | (simp only [go_sem, seval, IntKind.bits.eq_def, ti, tin, hrep]) | (simp (disch := omega) only [wA]) | refine aL ti_ok ?_ | refine dL ti_ok ?_ | refine dG ?_ | ((first | refine cC ?_ ?_ | refine gS ?_ ?_ | refine dS ?_ ?_) <;> intro hc <;> first | (exfalso; simp only [dcA] at hc; omega) | (simp only [hc]; try simp only [dcA] at hc)) | refine aO ?_ | refine dO ?_)
  refine l_loop (α := Nat) (fun i => ⟨[(2, .sl 1 (brows S)), (3, .rp [.sl 1 (mrows a), .sl 1 (mrows dv), .sl 3 (vrows w)]), (4, .rp [.v (.int .i64 K), .sl 3 (vrows inner), .sl 3 (vrows outer)]), (9, .v (.int .i64 2)), (10, .sl 3 (vrows (x.map can))), (14, .sl 1 (rws bytes s)), (17, .ps 0 1 0 2), (18, .ps 12 3 0 2), (83, .sl 1 (brows S)), (84, .v (.int .i64 ns)), (85, .v (.int .i64 k)), (136, .v (.int .i64 2)), (137, .v (.int .i64 i))], [(0, ⟨1, [[.ps 1 3 0 2], [.ps 2 3 0 2]]⟩), (12, ⟨3, vrows ((mixV 2 i (hw w s)).map can)⟩), (1, ⟨3, vrows ((mixV 2 (cnt 2 0 i) (hdv dv s 2 0)).map can)⟩), (2, ⟨3, vrows ((mixV 2 (cnt 2 1 i) (hdv dv s 2 1)).map can)⟩)], 13⟩) (fun i => i ≤ 2) (fun i => 2 - i) (0) _ byFresh (fun _ h => by first | (cases h; done) | exact Nat.le_of_ble_eq_true rfl) ?_ ?_ ?_
  · exact Nat.zero_le _
  ·
    refine Weak.trans0 (Weak.mle 12 ⟨3, vrows ((List.replicate 2 Dy.zero).map can)⟩ rfl (MLe.zr 2)) (by first | exact Nat.zero_lt_succ _ | exact Nat.le_of_ble_eq_true rfl) ?_
    refine Weak.trans0 (Weak.mle 1 ⟨3, vrows ((List.replicate 2 Dy.zero).map can)⟩ rfl (MLe.zr 2)) (by first | exact Nat.zero_lt_succ _ | exact Nat.le_of_ble_eq_true rfl) ?_
    refine Weak.trans0 (Weak.mle 2 ⟨3, vrows ((List.replicate 2 Dy.zero).map can)⟩ rfl (MLe.zr 2)) (by first | exact Nat.zero_lt_succ _ | exact Nat.le_of_ble_eq_true rfl) ?_
    simp only [cnt_zero, mix_zero]
    exact byWeak
  rintro i hi
  rcases (by omega : i = 0 ∨ i = 1 ∨ i = 2) with rfl | rfl | rfl
  ·
    rw [show cnt 2 0 0 = 0 from rfl]
    rw [show cnt 2 1 0 = 0 from rfl]
    have pw := pk 0 (by omega)
    have pw : CallOK Tryz.prog gl 32 [.sl 1 (rws bytes s), .v (.int .i64 0)] (.v (.int .i8 (pickL s 0))) := pw
    have cw := pt _ _ (ow 0) (hb 0)
    have cw : CallOK Tryz.prog gl 33 [.agg [.v (.bool (w.getD 0 RD.zero).s), .sl 1 (u32s (w.getD 0 RD.zero).ws), .v (.int .i64 (w.getD 0 RD.zero).d)], .v (.int .i8 (pickL s 0))] (.agg (crow (hw w s 0))) := cw
    have rw1 := vrows_getD (l := w) (i := 0) (by omega)
    have rd1 := mrows_getD (a := dv) (i := 0) (by omega)
    have ld1 : (vrows (dv.getD 0 [])).length = 2 := by rw [vrows_length, hrow 0 (by omega)]
    have e4 : (vrows ((mixV 2 0 (hw w s)).map can)).length = 2 := by rw [crows_length, mixV_len (by omega)]
    have e7 : (vrows ((mixV 2 0 (hw w s)).map can)).getD 0 [] = crow Dy.zero := by rw [crows_getD (by rw [mixV_len (by omega)]; omega), mixV_get (by omega)]
    have e6 : (vrows ((mixV 2 0 (hw w s)).map can)).set 0 (crow (hw w s 0)) = vrows ((mixV 2 (0 + 1) (hw w s)).map can) := by rw [crows_set, mixV_step (by omega)]
    unfold vrow at rw1
    repeat' (first | (simp only [go_sem, seval, IntKind.bits.eq_def, ti, tin, lw, rw1, e4, e6, e7]) | (simp (disch := omega) only [wA]) | (with_reducible first | refine cF pw ?_ | refine dF pw ?_ | refine cF cw ?_ | refine dF cw ?_) | refine aL ti_ok ?_ | refine dL ti_ok ?_ | refine dG ?_ | ((first | refine cC ?_ ?_ | refine gS ?_ ?_ | refine dS ?_ ?_) <;> intro hc <;> first | (exfalso; simp only [dcA] at hc; omega) | (simp only [hc]; try simp only [dcA] at hc)) | refine aO ?_ | refine dO ?_)
    clear pw cw rw1 e4 e6 e7
    refine l_loop (α := Nat) (fun l => ⟨[(2, .sl 1 (brows S)), (3, .rp [.sl 1 (mrows a), .sl 1 (mrows dv), .sl 3 (vrows w)]), (4, .rp [.v (.int .i64 K), .sl 3 (vrows inner), .sl 3 (vrows outer)]), (9, .v (.int .i64 2)), (10, .sl 3 (vrows (x.map can))), (14, .sl 1 (rws bytes s)), (17, .ps 0 1 0 2), (18, .ps 12 3 0 2), (83, .sl 1 (brows S)), (84, .v (.int .i64 ns)), (85, .v (.int .i64 k)), (136, .v (.int .i64 2)), (137, .v (.int .i64 0)), (19, .v (.int .i64 0)), (152, .v (.int .i64 2)), (153, .v (.int .i64 l))], [(0, ⟨1, [[.ps 1 3 0 2], [.ps 2 3 0 2]]⟩), (12, ⟨3, vrows ((mixV 2 (0 + 1) (hw w s)).map can)⟩), (1, ⟨3, vrows ((mixV 2 l (hdv dv s 2 0)).map can)⟩), (2, ⟨3, vrows ((mixV 2 0 (hdv dv s 2 1)).map can)⟩)], 13⟩) (fun l => l ≤ 2) (fun l => 2 - l) (0) _ byFresh (fun _ h => by first | (cases h; done) | exact Nat.le_of_ble_eq_true rfl) ?_ ?_ ?_
    · exact Nat.zero_le _
    · exact byWeak
    rintro l hl
    by_cases hln : l < 2
    ·
      have pd := pk (2 + 2 * 0 + l) (by omega)
      have pd : CallOK Tryz.prog gl 32 [.sl 1 (rws bytes s), .v (.int .i64 (2 + (l : Int)))] (.v (.int .i8 (pickL s (2 + 2 * 0 + l)))) := by rwa [Int.natCast_add] at pd
      have cd : CallOK Tryz.prog gl 33 [.agg [.v (.bool ((dv.getD 0 []).getD l RD.zero).s), .sl 1 (u32s ((dv.getD 0 []).getD l RD.zero).ws), .v (.int .i64 ((dv.getD 0 []).getD l RD.zero).d)], .v (.int .i8 (pickL s (2 + 2 * 0 + l)))] (.agg (crow (hdv dv s 2 0 l))) := pt _ _ (od 0 l) (hb _)
      have re := vrows_getD (l := dv.getD 0 []) (i := l) (by rw [hrow 0 (by omega)]; omega)
      have e4 : (vrows ((mixV 2 l (hdv dv s 2 0)).map can)).length = 2 := by rw [crows_length, mixV_len hl]
      have e7 : (vrows ((mixV 2 l (hdv dv s 2 0)).map can)).getD l [] = crow Dy.zero := by rw [crows_getD (by rw [mixV_len hl]; omega), mixV_get hln]
      have e6 : (vrows ((mixV 2 l (hdv dv s 2 0)).map can)).set l (crow (hdv dv s 2 0 l)) = vrows ((mixV 2 (l + 1) (hdv dv s 2 0)).map can) := by rw [crows_set, mixV_step hln]
      unfold vrow at re
      generalize hdv dv s 2 0 l = yy at *
      generalize pickL s (2 + 2 * 0 + l) = bb at *
      generalize (dv.getD 0 []).getD l RD.zero = rr at *
      generalize dv.getD 0 [] = rowq at rd1 ld1 re
      repeat' (first | (simp only [go_sem, seval, IntKind.bits.eq_def, ti, tin, ldv, rd1, ld1, re, e4, e6, e7]) | (simp (disch := omega) only [wA]) | (with_reducible first | refine cF pd ?_ | refine dF pd ?_ | refine cF cd ?_ | refine dF cd ?_) | refine aL ti_ok ?_ | refine dL ti_ok ?_ | refine dG ?_ | ((first | refine cC ?_ ?_ | refine gS ?_ ?_ | refine dS ?_ ?_) <;> intro hc <;> first | (exfalso; simp only [dcA] at hc; omega) | (simp only [hc]; try simp only [dcA] at hc)) | refine aO ?_ | refine dO ?_)
      refine roundEnd_of (α := Nat) (l + 1) (show l + 1 ≤ 2 by omega) (by omega) ?_
      exact byWeak
    ·
      have hl2 : l = 2 := by omega
      subst hl2
      repeat' (first | (simp only [go_sem, seval, IntKind.bits.eq_def, ti, tin]) | (simp (disch := omega) only [wA]) | refine aL ti_ok ?_ | refine dL ti_ok ?_ | refine dG ?_ | ((first | refine cC ?_ ?_ | refine gS ?_ ?_ | refine dS ?_ ?_) <;> intro hc <;> first | (exfalso; simp only [dcA] at hc; omega) | (simp only [hc]; try simp only [dcA] at hc)) | refine aO ?_ | refine dO ?_)
      refine roundEnd_of (α := Nat) (0 + 1) (show 0 + 1 ≤ 2 by omega) (show 2 - (0 + 1) < 2 - 0 by omega) ?_
      rw [show cnt 2 0 (0 + 1) = 2 from rfl]
      rw [show cnt 2 1 (0 + 1) = 0 from rfl]
      exact byWeak
  ·
    rw [show cnt 2 0 1 = 2 from rfl]
    rw [show cnt 2 1 1 = 0 from rfl]
    have pw := pk 1 (by omega)
    have pw : CallOK Tryz.prog gl 32 [.sl 1 (rws bytes s), .v (.int .i64 1)] (.v (.int .i8 (pickL s 1))) := pw
    have cw := pt _ _ (ow 1) (hb 1)
    have cw : CallOK Tryz.prog gl 33 [.agg [.v (.bool (w.getD 1 RD.zero).s), .sl 1 (u32s (w.getD 1 RD.zero).ws), .v (.int .i64 (w.getD 1 RD.zero).d)], .v (.int .i8 (pickL s 1))] (.agg (crow (hw w s 1))) := cw
    have rw1 := vrows_getD (l := w) (i := 1) (by omega)
    have rd1 := mrows_getD (a := dv) (i := 1) (by omega)
    have ld1 : (vrows (dv.getD 1 [])).length = 2 := by rw [vrows_length, hrow 1 (by omega)]
    have e4 : (vrows ((mixV 2 1 (hw w s)).map can)).length = 2 := by rw [crows_length, mixV_len (by omega)]
    have e7 : (vrows ((mixV 2 1 (hw w s)).map can)).getD 1 [] = crow Dy.zero := by rw [crows_getD (by rw [mixV_len (by omega)]; omega), mixV_get (by omega)]
    have e6 : (vrows ((mixV 2 1 (hw w s)).map can)).set 1 (crow (hw w s 1)) = vrows ((mixV 2 (1 + 1) (hw w s)).map can) := by rw [crows_set, mixV_step (by omega)]
    unfold vrow at rw1
    repeat' (first | (simp only [go_sem, seval, IntKind.bits.eq_def, ti, tin, lw, rw1, e4, e6, e7]) | (simp (disch := omega) only [wA]) | (with_reducible first | refine cF pw ?_ | refine dF pw ?_ | refine cF cw ?_ | refine dF cw ?_) | refine aL ti_ok ?_ | refine dL ti_ok ?_ | refine dG ?_ | ((first | refine cC ?_ ?_ | refine gS ?_ ?_ | refine dS ?_ ?_) <;> intro hc <;> first | (exfalso; simp only [dcA] at hc; omega) | (simp only [hc]; try simp only [dcA] at hc)) | refine aO ?_ | refine dO ?_)
    clear pw cw rw1 e4 e6 e7
    refine l_loop (α := Nat) (fun l => ⟨[(2, .sl 1 (brows S)), (3, .rp [.sl 1 (mrows a), .sl 1 (mrows dv), .sl 3 (vrows w)]), (4, .rp [.v (.int .i64 K), .sl 3 (vrows inner), .sl 3 (vrows outer)]), (9, .v (.int .i64 2)), (10, .sl 3 (vrows (x.map can))), (14, .sl 1 (rws bytes s)), (17, .ps 0 1 0 2), (18, .ps 12 3 0 2), (83, .sl 1 (brows S)), (84, .v (.int .i64 ns)), (85, .v (.int .i64 k)), (136, .v (.int .i64 2)), (137, .v (.int .i64 1)), (19, .v (.int .i64 1)), (152, .v (.int .i64 2)), (153, .v (.int .i64 l))], [(0, ⟨1, [[.ps 1 3 0 2], [.ps 2 3 0 2]]⟩), (12, ⟨3, vrows ((mixV 2 (1 + 1) (hw w s)).map can)⟩), (1, ⟨3, vrows ((mixV 2 2 (hdv dv s 2 0)).map can)⟩), (2, ⟨3, vrows ((mixV 2 l (hdv dv s 2 1)).map can)⟩)], 13⟩) (fun l => l ≤ 2) (fun l => 2 - l) (0) _ byFresh (fun _ h => by first | (cases h; done) | exact Nat.le_of_ble_eq_true rfl) ?_ ?_ ?_
    · exact Nat.zero_le _
    · exact byWeak
    rintro l hl
    by_cases hln : l < 2
    ·
      have pd := pk (2 + 2 * 1 + l) (by omega)
      have pd : CallOK Tryz.prog gl 32 [.sl 1 (rws bytes s), .v (.int .i64 (4 + (l : Int)))] (.v (.int .i8 (pickL s (2 + 2 * 1 + l)))) := by rwa [Int.natCast_add] at pd
      have cd : CallOK Tryz.prog gl 33 [.agg [.v (.bool ((dv.getD 1 []).getD l RD.zero).s), .sl 1 (u32s ((dv.getD 1 []).getD l RD.zero).ws), .v (.int .i64 ((dv.getD 1 []).getD l RD.zero).d)], .v (.int .i8 (pickL s (2 + 2 * 1 + l)))] (.agg (crow (hdv dv s 2 1 l))) := pt _ _ (od 1 l) (hb _)
      have re := vrows_getD (l := dv.getD 1 []) (i := l) (by rw [hrow 1 (by omega)]; omega)
      have e4 : (vrows ((mixV 2 l (hdv dv s 2 1)).map can)).length = 2 := by rw [crows_length, mixV_len hl]
      have e7 : (vrows ((mixV 2 l (hdv dv s 2 1)).map can)).getD l [] = crow Dy.zero := by rw [crows_getD (by rw [mixV_len hl]; omega), mixV_get hln]
      have e6 : (vrows ((mixV 2 l (hdv dv s 2 1)).map can)).set l (crow (hdv dv s 2 1 l)) = vrows ((mixV 2 (l + 1) (hdv dv s 2 1)).map can) := by rw [crows_set, mixV_step hln]
      unfold vrow at re
      generalize hdv dv s 2 1 l = yy at *
      generalize pickL s (2 + 2 * 1 + l) = bb at *
      generalize (dv.getD 1 []).getD l RD.zero = rr at *
      generalize dv.getD 1 [] = rowq at rd1 ld1 re
      repeat' (first | (simp only [go_sem, seval, IntKind.bits.eq_def, ti, tin, ldv, rd1, ld1, re, e4, e6, e7]) | (simp (disch := omega) only [wA]) | (with_reducible first | refine cF pd ?_ | refine dF pd ?_ | refine cF cd ?_ | refine dF cd ?_) | refine aL ti_ok ?_ | refine dL ti_ok ?_ | refine dG ?_ | ((first | refine cC ?_ ?_ | refine gS ?_ ?_ | refine dS ?_ ?_) <;> intro hc <;> first | (exfalso; simp only [dcA] at hc; omega) | (simp only [hc]; try simp only [dcA] at hc)) | refine aO ?_ | refine dO ?_)
      refine roundEnd_of (α := Nat) (l + 1) (show l + 1 ≤ 2 by omega) (by omega) ?_
      exact byWeak
    ·
      have hl2 : l = 2 := by omega
      subst hl2
      repeat' (first | (simp only [go_sem, seval, IntKind.bits.eq_def, ti, tin]) | (simp (disch := omega) only [wA]) | refine aL ti_ok ?_ | refine dL ti_ok ?_ | refine dG ?_ | ((first | refine cC ?_ ?_ | refine gS ?_ ?_ | refine dS ?_ ?_) <;> intro hc <;> first | (exfalso; simp only [dcA] at hc; omega) | (simp only [hc]; try simp only [dcA] at hc)) | refine aO ?_ | refine dO ?_)
      refine roundEnd_of (α := Nat) (1 + 1) (show 1 + 1 ≤ 2 by omega) (show 2 - (1 + 1) < 2 - 1 by omega) ?_
      rw [show cnt 2 0 (1 + 1) = 2 from rfl]
      rw [show cnt 2 1 (1 + 1) = 2 from rfl]
      exact byWeak
  ·
    rw [show cnt 2 0 2 = 2 from rfl]
    rw [show cnt 2 1 2 = 2 from rfl]
    simp only [mixV_all]
    have hM : mrows (crM (tabD 2 2 (hdv dv s 2))) = [[.sl 3 (vrows ((tabV 2 (hdv dv s 2 0)).map can))], [.sl 3 (vrows ((tabV 2 (hdv dv s 2 1)).map can))]] := rfl
    rw [hM] at st
    repeat' (first | (simp only [go_sem, seval, IntKind.bits.eq_def, ti, tin]) | (simp (disch := omega) only [wA]) | refine aL ti_ok ?_ | refine dL ti_ok ?_ | refine dG ?_ | ((first | refine cC ?_ ?_ | refine gS ?_ ?_ | refine dS ?_ ?_) <;> intro hc <;> first | (exfalso; simp only [dcA] at hc; omega) | (simp only [hc]; try simp only [dcA] at hc)) | refine aO ?_ | refine dO ?_)
    refine callF_wk (as1 := [.agg [.sl 1 (mrows a), .sl 1 (mrows dv), .sl 3 (vrows w)], .sl 3 (vrows (x.map can)), .sl 1 [[.sl 3 (vrows ((tabV 2 (hdv dv s 2 0)).map can))], [.sl 3 (vrows ((tabV 2 (hdv dv s 2 1)).map can))]], .sl 3 (vrows ((tabV 2 (hw w s)).map can))]) (s1 := ⟨[(2, .sl 1 (brows S)), (3, .rp [.sl 1 (mrows a), .sl 1 (mrows dv), .sl 3 (vrows w)]), (4, .rp [.v (.int .i64 K), .sl 3 (vrows inner), .sl 3 (vrows outer)]), (9, .v (.int .i64 2)), (83, .sl 1 (brows S)), (84, .v (.int .i64 ns)), (85, .v (.int .i64 k))], [], 13⟩) st rfl (Nat.zero_lt_succ _) rfl rfl ?_ ?_
    ·
      have l1 : (vrows ((tabV 2 (hdv dv s 2 0)).map can)).length = 2 := vtab_len
      have l2 : (vrows ((tabV 2 (hdv dv s 2 1)).map can)).length = 2 := vtab_len
      have l12 : (vrows ((tabV 2 (hw w s)).map can)).length = 2 := vtab_len
      have l0 : ([[.sl 3 (vrows ((tabV 2 (hdv dv s 2 0)).map can))], [.sl 3 (vrows ((tabV 2 (hdv dv s 2 1)).map can))]] : List (List AV)).length = 2 := rfl
      refine Weak.trans0 (s1 := ⟨[(1000, .agg [.sl 1 (mrows a), .sl 1 (mrows dv), .sl 3 (vrows w)]), (1001, .sl 3 (vrows (x.map can))), (1002, .ps 0 1 0 2), (1003, .ps 12 3 0 2), (2, .sl 1 (brows S)), (3, .rp [.sl 1 (mrows a), .sl 1 (mrows dv), .sl 3 (vrows w)]), (4, .rp [.v (.int .i64 K), .sl 3 (vrows inner), .sl 3 (vrows outer)]), (9, .v (.int .i64 2)), (83, .sl 1 (brows S)), (84, .v (.int .i64 ns)), (85, .v (.int .i64 k))], [(0, ⟨1, [[.ps 1 3 0 2], [.ps 2 3 0 2]]⟩), (12, ⟨3, vrows ((tabV 2 (hw w s)).map can)⟩), (1, ⟨3, vrows ((tabV 2 (hdv dv s 2 0)).map can)⟩), (2, ⟨3, vrows ((tabV 2 (hdv dv s 2 1)).map can)⟩)], 13⟩) byWeak (Nat.zero_lt_succ _) ?_
      refine Weak.trans0 (s1 := ⟨[(1000, .agg [.sl 1 (mrows a), .sl 1 (mrows dv), .sl 3 (vrows w)]), (1001, .sl 3 (vrows (x.map can))), (1002, .ps 0 1 0 2), (1003, .ps 12 3 0 2), (2, .sl 1 (brows S)), (3, .rp [.sl 1 (mrows a), .sl 1 (mrows dv), .sl 3 (vrows w)]), (4, .rp [.v (.int .i64 K), .sl 3 (vrows inner), .sl 3 (vrows outer)]), (9, .v (.int .i64 2)), (83, .sl 1 (brows S)), (84, .v (.int .i64 ns)), (85, .v (.int .i64 k))], [(0, ⟨1, [[.sl 3 (vrows ((tabV 2 (hdv dv s 2 0)).map can))], [.ps 2 3 0 2]]⟩), (12, ⟨3, vrows ((tabV 2 (hw w s)).map can)⟩), (2, ⟨3, vrows ((tabV 2 (hdv dv s 2 1)).map can)⟩)], 13⟩) (Weak.frzB 1 _ 2 l1) (Nat.zero_lt_succ _) ?_
      refine Weak.trans0 (s1 := ⟨[(1000, .agg [.sl 1 (mrows a), .sl 1 (mrows dv), .sl 3 (vrows w)]), (1001, .sl 3 (vrows (x.map can))), (1002, .ps 0 1 0 2), (1003, .ps 12 3 0 2), (2, .sl 1 (brows S)), (3, .rp [.sl 1 (mrows a), .sl 1 (mrows dv), .sl 3 (vrows w)]), (4, .rp [.v (.int .i64 K), .sl 3 (vrows inner), .sl 3 (vrows outer)]), (9, .v (.int .i64 2)), (83, .sl 1 (brows S)), (84, .v (.int .i64 ns)), (85, .v (.int .i64 k))], [(0, ⟨1, [[.sl 3 (vrows ((tabV 2 (hdv dv s 2 0)).map can))], [.sl 3 (vrows ((tabV 2 (hdv dv s 2 1)).map can))]]⟩), (12, ⟨3, vrows ((tabV 2 (hw w s)).map can)⟩)], 13⟩) (Weak.frzB 2 _ 2 l2) (Nat.zero_lt_succ _) ?_
      refine Weak.trans0 (s1 := ⟨[(1000, .agg [.sl 1 (mrows a), .sl 1 (mrows dv), .sl 3 (vrows w)]), (1001, .sl 3 (vrows (x.map can))), (1002, .sl 1 [[.sl 3 (vrows ((tabV 2 (hdv dv s 2 0)).map can))], [.sl 3 (vrows ((tabV 2 (hdv dv s 2 1)).map can))]]), (1003, .ps 12 3 0 2), (2, .sl 1 (brows S)), (3, .rp [.sl 1 (mrows a), .sl 1 (mrows dv), .sl 3 (vrows w)]), (4, .rp [.v (.int .i64 K), .sl 3 (vrows inner), .sl 3 (vrows outer)]), (9, .v (.int .i64 2)), (83, .sl 1 (brows S)), (84, .v (.int .i64 ns)), (85, .v (.int .i64 k))], [(12, ⟨3, vrows ((tabV 2 (hw w s)).map can)⟩)], 13⟩) (Weak.frzB 0 _ 2 l0) (Nat.zero_lt_succ _) ?_
      exact Weak.frzB 12 _ 2 l12
    have ly : (vrows (y.map can)).length = 2 := by rw [crows_length, Hy.len]
    repeat' (first | (simp only [go_sem, seval, IntKind.bits.eq_def, ti, tin, ly]) | (simp (disch := omega) only [wA]) | refine aL ti_ok ?_ | refine dL ti_ok ?_ | refine dG ?_ | ((first | refine cC ?_ ?_ | refine gS ?_ ?_ | refine dS ?_ ?_) <;> intro hc <;> first | (exfalso; simp only [dcA] at hc; omega) | (simp only [hc]; try simp only [dcA] at hc)) | refine aO ?_ | refine dO ?_)
    refine roundEnd_of (α := Nat × List Dy) (k + 1, y) ⟨by omega, Hy, gy⟩ (show ns - (k + 1) < ns - k by omega) ?_
    exact byWeak
end Go.Proofs.YtpggiabnhodjpaaGreatDoor
