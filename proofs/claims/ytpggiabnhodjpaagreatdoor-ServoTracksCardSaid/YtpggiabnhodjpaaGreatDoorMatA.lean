/- The reference's matrices (ref04): Mul, Apply, LeRow, Le, Norm, Text. -/
import Derived.Test.YtpggiabnhodjpaaGreatDoorMat9
import Derived.Test.YtpggiabnhodjpaaGreatDoorMat7a
set_option linter.unusedSimpArgs false
set_option linter.unusedVariables false
set_option linter.deprecated false
namespace Go.Proofs.YtpggiabnhodjpaaGreatDoor
open Go Go.Ax
set_option maxRecDepth 100000
set_option maxHeartbeats 4000000
theorem mixV_cons {m k : Nat} {f : Nat → Dy} (h : k < m) : mixV m k f = tabV k f ++ Dy.zero :: List.replicate (m - k - 1) Dy.zero := by
  unfold mixV
  obtain ⟨q, hq⟩ : ∃ q, m - k = q + 1 := ⟨m - k - 1, by omega⟩
  rw [hq]; rfl
theorem mixV_next {m k : Nat} {f : Nat → Dy} : mixV m (k + 1) f = tabV k f ++ f k :: List.replicate (m - k - 1) Dy.zero := by
  unfold mixV
  rw [tabV_succ, show m - (k + 1) = m - k - 1 by omega]; simp
def mid (m k : Nat) (f : Nat → Dy) (x : Dy) : List Dy := tabV k f ++ x :: List.replicate (m - k - 1) Dy.zero
theorem mid_get {m k : Nat} {f : Nat → Dy} {x : Dy} : (mid m k f x).getD k Dy.zero = x := getD_mid tabV_len
theorem mid_set {m k : Nat} {f : Nat → Dy} {x y : Dy} : (mid m k f x).set k y = mid m k f y := set_mid tabV_len
theorem mid_leng {m k : Nat} {f : Nat → Dy} {x : Dy} (h : k < m) : (mid m k f x).length = m := by simp [mid, tabV_len]; omega
theorem mid_zero {m k : Nat} {f : Nat → Dy} (h : k < m) : mixV m k f = mid m k f Dy.zero := mixV_cons h
theorem mid_done {m k : Nat} {f : Nat → Dy} : mid m k f (f k) = mixV m (k + 1) f := mixV_next.symm
theorem refm_Mul (a b : List (List RD)) (p q0 : Nat) (hp : p + q0 ≤ 1000000) (h : bothE a b (fitMul a b) = 0) (oa : okM p a) (ob : okM q0 b) : CallOK Tryz.prog gl 77 [.sl 1 (mrows (a)), .sl 1 (mrows (b))] (.tup [.sl 1 (mrows (crM (mulD (dyM a) (dyM b)))), .v (.int .i64 0)]) := by
  refine call_ok (C := ⟨Tryz.prog, gl, ti, 81, false⟩) ti_ok mixed 3000 Tryz.call77 Tryz.func77 rfl Tryz.ntmps77 (by simp) byClL byCl ?_
  rw [Tryz.results77]
  obtain ⟨h1, h2, h3⟩ := bothE_ok h
  obtain ⟨a1, a2, a3, a4, a5⟩ := ckM_ok h1
  obtain ⟨b1, b2, b3, b4, b5⟩ := ckM_ok h2
  have h4 : (a.getD 0 []).length = b.length := of_decide_eq_true h3
  have c1 := ref_Both a b (by omega) (by omega)
  rw [if_pos h1, h2] at c1
  rw [mulD_raw (fun i hi => by rw [a5 i hi, h4])]
  obtain ⟨n, hn⟩ : ∃ n, a.length = n := ⟨_, rfl⟩
  obtain ⟨l, hl⟩ : ∃ l, b.length = l := ⟨_, rfl⟩
  obtain ⟨m, hm⟩ : ∃ m, (b.getD 0 []).length = m := ⟨_, rfl⟩
  rw [h4] at a5
  rw [hl] at h4 a5 b1 b2 b5 ⊢
  rw [hn] at a1 a2 a5 ⊢
  rw [hm] at b3 b4 b5 ⊢
  have r0 := mrows_getD (a := a) (i := 0) (by omega)
  have l0 : (vrows (a.getD 0 [])).length = l := by rw [vrows_length, h4]
  have r1 := mrows_getD (a := b) (i := 0) (by omega)
  have l1 : (vrows (b.getD 0 [])).length = m := by rw [vrows_length, hm]
  generalize hg : (fun i j => sumD l fun k => ((a.getD i []).getD k RD.zero).dy.mul ((b.getD k []).getD j RD.zero).dy) = g
  have hgi : ∀ i j, g i j = sumD l fun k => ((a.getD i []).getD k RD.zero).dy.mul ((b.getD k []).getD j RD.zero).dy := fun i j => by rw [← hg]
  clear hg h h3
  repeat' (first | (simp only [go_sem, seval, IntKind.bits.eq_def, ti, tin, mrows_length, hn, hl, r0, l0, r1, l1]) | (simp (disch := omega) only [wA]) | (with_reducible first | refine cF c1 ?_ | refine dF c1 ?_) | refine aL ti_ok ?_ | refine dL ti_ok ?_ | refine dG ?_ | ((first | refine cC ?_ ?_ | refine gS ?_ ?_ | refine dS ?_ ?_) <;> intro hc <;> first | (exfalso; simp only [dcA] at hc; omega) | (simp only [hc]; try simp only [dcA] at hc)) | refine aO ?_ | refine dO ?_)
  refine callF_n 12 rfl (show n + 1 ≤ 12 by omega) rfl ?_ zr_cl (.cons (.refl _) (.cons (.refl _) .nil)) (ref_ZeroM n m (by omega) (by omega)) ?_
  · repeat' (first | exact trivial | exact Cl.v _ | exact Cl.mat | exact Cl.vec | exact Cl.rp1 Cl.vec | exact Cl.rp1 Cl.mat | refine And.intro ?_ ?_)
  repeat' (first | (simp only [go_sem, seval, IntKind.bits.eq_def, ti, tin, mrows_length, hn]) | (simp (disch := omega) only [wA]) | refine aL ti_ok ?_ | refine dL ti_ok ?_ | refine dG ?_ | ((first | refine cC ?_ ?_ | refine gS ?_ ?_ | refine dS ?_ ?_) <;> intro hc <;> first | (exfalso; simp only [dcA] at hc; omega) | (simp only [hc]; try simp only [dcA] at hc)) | refine aO ?_ | refine dO ?_)
  refine l_loop (α := Nat) (fun i => ⟨[(0, .sl 1 (mrows (a))), (1, .sl 1 (mrows (b))), (7, .ps 0 1 0 n), (32, .v (.int .i64 n)), (33, .v (.int .i64 i))], (0, ⟨1, mrows (crM (tabD i m g)) ++ slots (i + 1) (n - i) m⟩) :: nest (i + 1) (n - i) (zr m), 12⟩) (fun i => i ≤ n) (fun i => n - i) (0) _ byFresh (fun _ h => by first | (cases h; done) | exact Nat.le_of_ble_eq_true rfl) ?_ ?_ ?_
  · exact Nat.zero_le _
  · refine Weak.rowsKeep (D := mrows (crM (tabD 0 m g))) (c := 0 + 1) (k := n - 0) (by omega) (by omega) (by omega) ?_ rfl (fun b h1 h2 => ?_) (mrows_cl _) zr_cl
    · repeat' (first | exact trivial | exact .inl ⟨_, rfl, .refl _, Cl.v _⟩ | exact .inl ⟨_, rfl, .refl _, Cl.mat⟩ | exact .inr ⟨_, _, _, rfl, rfl⟩ | refine And.intro ?_ ?_)
    · show Ax.look ((0, _) :: nest 1 n (zr m)) b = _
      simp only [Ax.look]; rw [if_neg (by omega)]; exact nest_has (by omega) (by omega)
  rintro i hi
  by_cases hin : i < n
  ·
    have ri := mrows_getD (a := a) (i := i) (by omega)
    have va : (vrows (a.getD i [])).length = l := by rw [vrows_length, a5 i hin]
    have la := a5 i hin
    have okA := oa i
    have hgk := hgi i
    generalize a.getD i [] = x at *
    obtain ⟨q, hq⟩ : ∃ q, n - i = q + 1 := ⟨n - i - 1, by omega⟩
    have hq2 : n - (i + 1) = q := by omega
    rw [hq]
    repeat' (first | (simp only [go_sem, seval, IntKind.bits.eq_def, ti, tin, mrows_length, hn, r1, l1]) | (simp (disch := omega) only [wA]) | refine aL ti_ok ?_ | refine dL ti_ok ?_ | refine dG ?_ | ((first | refine cC ?_ ?_ | refine gS ?_ ?_ | refine dS ?_ ?_) <;> intro hc <;> first | (exfalso; simp only [dcA] at hc; omega) | (simp only [hc]; try simp only [dcA] at hc)) | refine aO ?_ | refine dO ?_)
    refine loop_weak0 (s' := ⟨[(0, .sl 1 (mrows a)), (1, .sl 1 (mrows b)), (7, .ps 0 1 0 n), (8, .v (.int .i64 i)), (32, .v (.int .i64 n)), (33, .v (.int .i64 i)), (39, .v (.int .i64 m)), (40, .v (.int .i64 ((0 : Nat) : Int)))], (1, ⟨3, vrows ((mixV m 0 (g i)).map can)⟩) :: (0, ⟨1, mrows (crM (tabD i m g)) ++ [.ps 1 3 0 m] :: slots (i + 1 + 1) q m⟩) :: nest (i + 1 + 1) q (zr m), 12⟩) ?_ (Nat.zero_lt_succ _) ?_
    · refine Weak.rowTakeL (c := i + 1) (by omega) (by omega) ?_ rfl (fun b h1 h2 => ?_) (mrows_cl _) zr_cl (by rw [mix_zero]; exact MLe.zr m) (vrows_cl _)
      · repeat' (first | exact trivial | exact .inl ⟨_, rfl, .refl _, Cl.v _⟩ | exact .inl ⟨_, rfl, .refl _, Cl.mat⟩ | exact .inr ⟨_, _, _, rfl, rfl⟩ | refine And.intro ?_ ?_)
      · show Ax.look ((0, _) :: nest (i + 1) (q + 1) (zr m)) b = _
        simp only [Ax.look]; rw [if_neg (by omega)]; exact nest_has (by omega) (by omega)
    refine l_loop (α := Nat) (fun k => ⟨[(0, .sl 1 (mrows (a))), (1, .sl 1 (mrows (b))), (7, .ps 0 1 0 n), (8, .v (.int .i64 i)), (32, .v (.int .i64 n)), (33, .v (.int .i64 i)), (39, .v (.int .i64 m)), (40, .v (.int .i64 k))], (1, ⟨3, vrows ((mixV m k (g i)).map can)⟩) :: (0, ⟨1, mrows (crM (tabD i m g)) ++ [.ps 1 3 0 m] :: slots (i + 1 + 1) q m⟩) :: nest (i + 1 + 1) q (zr m), 12⟩) (fun k => k ≤ m) (fun k => m - k) (0) _ byFresh (fun _ h => by first | (cases h; done) | exact Nat.le_of_ble_eq_true rfl) ?_ ?_ ?_
    · exact Nat.zero_le _
    · exact Weak.refl _
    rintro k hk
    by_cases hkm : k < m
    ·
      have hgv := hgk k
      have okB : ∀ j, okR q0 ((b.getD j []).getD k RD.zero) := fun j => ob j k
      have lb : ∀ j, j < l → (b.getD j []).length = m := b5
      let F : Nat → Dy := fun j => (x.getD j RD.zero).dy.mul ((b.getD j []).getD k RD.zero).dy
      have gs : ∀ j, Mg (p + q0 + j) (sumD j F) := fun j => mg_sumD fun t _ => Mg.mul (okA t).2 (okB t).2
      repeat' (first | (simp only [go_sem, seval, IntKind.bits.eq_def, ti, tin, mrows_length, hl]) | (simp (disch := omega) only [wA]) | refine aL ti_ok ?_ | refine dL ti_ok ?_ | refine dG ?_ | ((first | refine cC ?_ ?_ | refine gS ?_ ?_ | refine dS ?_ ?_) <;> intro hc <;> first | (exfalso; simp only [dcA] at hc; omega) | (simp only [hc]; try simp only [dcA] at hc)) | refine aO ?_ | refine dO ?_)
      refine l_loop (α := Nat) (fun j => ⟨[(0, .sl 1 (mrows (a))), (1, .sl 1 (mrows (b))), (7, .ps 0 1 0 n), (8, .v (.int .i64 i)), (9, .v (.int .i64 k)), (32, .v (.int .i64 n)), (33, .v (.int .i64 i)), (39, .v (.int .i64 m)), (40, .v (.int .i64 k)), (44, .v (.int .i64 l)), (45, .v (.int .i64 j))], (1, ⟨3, vrows ((mid m k (g i) (sumD j F)).map can)⟩) :: (0, ⟨1, mrows (crM (tabD i m g)) ++ [.ps 1 3 0 m] :: slots (i + 1 + 1) q m⟩) :: nest (i + 1 + 1) q (zr m), 12⟩) (fun j => j ≤ l) (fun j => l - j) (0) _ byFresh (fun _ h => by first | (cases h; done) | exact Nat.le_of_ble_eq_true rfl) ?_ ?_ ?_
      · exact Nat.zero_le _
      · refine Weak.rowKeep (c := i + 1) (by omega) (by omega) ?_ (by show some (MB.mk 3 (vrows ((mixV m k (g i)).map can))) = _; rw [mid_zero hkm]; rfl) rfl (fun b h1 h2 => ?_) (mrows_cl _) zr_cl (vrows_cl _)
        · repeat' (first | exact trivial | exact .inl ⟨_, rfl, .refl _, Cl.v _⟩ | exact .inl ⟨_, rfl, .refl _, Cl.mat⟩ | exact .inl ⟨_, rfl, .refl _, Cl.vec⟩ | exact .inr ⟨_, _, _, rfl, rfl⟩ | refine And.intro ?_ ?_)
        · show Ax.look ((1, _) :: (0, _) :: nest (i + 1 + 1) q (zr m)) b = _
          simp only [Ax.look]; rw [if_neg (by omega), if_neg (by omega)]; exact nest_has (by omega) (by omega)
      rintro j hj
      by_cases hjl : j < l
      ·
        have rk := vrows_getD (l := x) (i := j) (by omega)
        have rbj := mrows_getD (a := b) (i := j) (by omega)
        have vb : (vrows (b.getD j [])).length = m := by rw [vrows_length, lb j hjl]
        have rk' := vrows_getD (l := b.getD j []) (i := k) (by rw [lb j hjl]; exact hkm)
        have ox := okA j
        have oy := okB j
        have mu := ref_Mul _ _ _ _ _ _ _ _ (RD.arg ox.1) (RD.arg oy.1)
        have gp : Mg (p + q0) ((x.getD j RD.zero).dy.mul ((b.getD j []).getD k RD.zero).dy) := Mg.mul ox.2 oy.2
        have ad := ref_Add _ _ _ _ _ _ _ _ ((gs j).arg) (gp.arg)
        have es : sumD (j + 1) F = (sumD j F).add ((x.getD j RD.zero).dy.mul ((b.getD j []).getD k RD.zero).dy) := rfl
        have hD : (mrows (crM (tabD i m g))).length = i := done_len
        have e1 := getD_mid (d := []) (x := [AV.ps 1 3 0 m]) (R := slots (i + 1 + 1) q m) hD
        have e3 : (mrows (crM (tabD i m g)) ++ [AV.ps 1 3 0 m] :: slots (i + 1 + 1) q m).length = n := by rw [List.length_append, hD, List.length_cons, slots_len]; omega
        have e4 : (vrows ((mid m k (g i) (sumD j F)).map can)).length = m := by rw [crows_length, mid_leng hkm]
        have e7 : (vrows ((mid m k (g i) (sumD j F)).map can)).getD k [] = crow (sumD j F) := by rw [crows_getD (by rw [mid_leng hkm]; exact hkm), mid_get]
        have e6 : ∀ v : Dy, (vrows ((mid m k (g i) (sumD j F)).map can)).set k (crow v) = vrows ((mid m k (g i) v).map can) := fun v => by rw [crows_set, mid_set]
        have e6 := e6 (sumD (j + 1) F)
        rw [es] at e6
        unfold vrow at rk rk'
        clear gs gp ox oy okA okB hgk hgi hgv
        generalize hS : sumD j F = S1 at *
        generalize hP : (x.getD j RD.zero).dy.mul ((b.getD j []).getD k RD.zero).dy = P1 at *
        generalize x.getD j RD.zero = rr at *
        generalize (b.getD j []).getD k RD.zero = rr' at *
        generalize b.getD j [] = yy at *
        repeat' (first | (simp only [go_sem, seval, IntKind.bits.eq_def, ti, tin, mrows_length, hn, hl, ri, va, vb, rk, rbj, rk', e1, e3, e4, e6, e7]) | (simp (disch := omega) only [wA]) | (with_reducible first | refine cF mu ?_ | refine dF mu ?_ | refine cF ad ?_ | refine dF ad ?_) | refine aL ti_ok ?_ | refine dL ti_ok ?_ | refine dG ?_ | ((first | refine cC ?_ ?_ | refine gS ?_ ?_ | refine dS ?_ ?_) <;> intro hc <;> first | (exfalso; simp only [dcA] at hc; omega) | (simp only [hc]; try simp only [dcA] at hc)) | refine aO ?_ | refine dO ?_)
        refine roundEnd_of (α := Nat) (j + 1) (show j + 1 ≤ l by omega) (by omega) ?_
        simp only [es]
        refine Weak.rowKeep (c := i + 1) (by omega) (by omega) ?_ rfl rfl (fun b h1 h2 => ?_) (mrows_cl _) zr_cl (vrows_cl _)
        · repeat' (first | exact trivial | exact .inl ⟨_, rfl, .refl _, Cl.v _⟩ | exact .inl ⟨_, rfl, .refl _, Cl.mat⟩ | exact .inl ⟨_, rfl, .refl _, Cl.vec⟩ | exact .inr ⟨_, _, _, rfl, rfl⟩ | refine And.intro ?_ ?_)
        · show Ax.look ((1, _) :: (1, _) :: (0, _) :: nest (i + 1 + 1) q (zr m)) b = _
          simp only [Ax.look]; rw [if_neg (by omega), if_neg (by omega), if_neg (by omega)]; exact nest_has (by omega) (by omega)
      ·
        have hjl2 : j = l := by omega
        subst hjl2
        have eF : sumD j F = g i k := hgv.symm
        repeat' (first | (simp only [go_sem, seval, IntKind.bits.eq_def, ti, tin]) | (simp (disch := omega) only [wA]) | refine aL ti_ok ?_ | refine dL ti_ok ?_ | refine dG ?_ | ((first | refine cC ?_ ?_ | refine gS ?_ ?_ | refine dS ?_ ?_) <;> intro hc <;> first | (exfalso; simp only [dcA] at hc; omega) | (simp only [hc]; try simp only [dcA] at hc)) | refine aO ?_ | refine dO ?_)
        refine roundEnd_of (α := Nat) (k + 1) (show k + 1 ≤ m by omega) (by omega) ?_
        refine Weak.rowKeep (c := i + 1) (by omega) (by omega) ?_ (by show some (MB.mk 3 (vrows ((mid m k (g i) (sumD j F)).map can))) = _; rw [eF, mid_done]) rfl (fun b h1 h2 => ?_) (mrows_cl _) zr_cl (vrows_cl _)
        · repeat' (first | exact trivial | exact .inl ⟨_, rfl, .refl _, Cl.v _⟩ | exact .inl ⟨_, rfl, .refl _, Cl.mat⟩ | exact .inl ⟨_, rfl, .refl _, Cl.vec⟩ | exact .inr ⟨_, _, _, rfl, rfl⟩ | refine And.intro ?_ ?_)
        · show Ax.look ((1, _) :: (0, _) :: nest (i + 1 + 1) q (zr m)) b = _
          simp only [Ax.look]; rw [if_neg (by omega), if_neg (by omega)]; exact nest_has (by omega) (by omega)
    ·
      have hkm2 : k = m := by omega
      subst hkm2
      repeat' (first | (simp only [go_sem, seval, IntKind.bits.eq_def, ti, tin]) | (simp (disch := omega) only [wA]) | refine aL ti_ok ?_ | refine dL ti_ok ?_ | refine dG ?_ | ((first | refine cC ?_ ?_ | refine gS ?_ ?_ | refine dS ?_ ?_) <;> intro hc <;> first | (exfalso; simp only [dcA] at hc; omega) | (simp only [hc]; try simp only [dcA] at hc)) | refine aO ?_ | refine dO ?_)
      refine roundEnd_of (α := Nat) (i + 1) (show i + 1 ≤ n by omega) (by omega) ?_
      rw [mixV_all]
      rw [tabD_done, hq2]
      refine Weak.rowDone (T := nest (i + 1 + 1) q (zr k)) ?_ rfl rfl vtab_len.symm (fun b M h => ?_) (no_cl (mrows_cl _)) (Nat.le_refl _)
      · repeat' (first | exact trivial | exact ⟨_, rfl, .refl _⟩ | refine And.intro ?_ ?_)
      · obtain ⟨g1, g2, rfl⟩ := nest_look h
        refine ⟨by omega, by omega, ?_⟩
        show Ax.look ((1, _) :: (0, _) :: nest (i + 1 + 1) q (zr k)) b = _
        simp only [Ax.look]; rw [if_neg (by omega), if_neg (by omega)]; exact h
  ·
    have hin2 : i = n := by omega
    subst hin2
    repeat' (first | (simp only [go_sem, seval, IntKind.bits.eq_def, ti, tin, mrows_length]) | (simp (disch := omega) only [wA]) | refine aL ti_ok ?_ | refine dL ti_ok ?_ | refine dG ?_ | ((first | refine cC ?_ ?_ | refine gS ?_ ?_ | refine dS ?_ ?_) <;> intro hc <;> first | (exfalso; simp only [dcA] at hc; omega) | (simp only [hc]; try simp only [dcA] at hc)) | refine aO ?_ | refine dO ?_)
    rw [Nat.sub_self]
    refine fin_pub trivial (.tup (.cons (.one (.ps rfl rfl (by show 0 + i ≤ _; rw [List.length_append, done_len]; omega))) (.cons (.one .same) .nil))) ?_
    show Le (.tup [.sl 1 (((mrows (crM (tabD i m g)) ++ []).drop 0).take i), _]) _
    rw [List.append_nil, List.drop_zero, List.take_of_length_le (by rw [done_len]; exact Nat.le_refl _)]
    exact .refl _
theorem refm_Apply (a : List (List RD)) (x : List RD) (p q : Nat) (hp : p + q ≤ 1000000) (h : ckM a = 0) (hs : x.length = (a.getD 0 []).length) (oa : okM p a) (ox : okV q x) : CallOK Tryz.prog gl 79 [.sl 1 (mrows (a)), .sl 3 (vrows (x))] (.tup [.sl 3 (vrows ((appD (dyM a) (dyV x)).map can)), .v (.int .i64 0)]) := by
  refine call_ok (C := ⟨Tryz.prog, gl, ti, 58, false⟩) ti_ok mixed 3000 Tryz.call79 Tryz.func79 rfl Tryz.ntmps79 (by simp) byClL byCl ?_
  rw [Tryz.results79]
  obtain ⟨a1, a2, a3, a4, a5⟩ := ckM_ok h
  rw [appD_raw (fun i hi => (a5 i hi).trans hs.symm)]
  have c1 := ref_CheckM a (by omega)
  rw [h] at c1
  have r0 := mrows_getD (a := a) (i := 0) a1
  have l0 : (vrows (a.getD 0 [])).length = (a.getD 0 []).length := vrows_length _
  obtain ⟨n, hn⟩ : ∃ n, a.length = n := ⟨_, rfl⟩
  obtain ⟨m, hm⟩ : ∃ m, x.length = m := ⟨_, rfl⟩
  rw [hn] at a1 a2 a5 ⊢
  rw [hm] at hs ⊢
  rw [← hs] at l0 a5
  have hm8 : m ≤ 8 := by omega
  generalize hg : (fun i => sumD m fun k => ((a.getD i []).getD k RD.zero).dy.mul (x.getD k RD.zero).dy) = g
  have hgi : ∀ i, g i = sumD m fun k => ((a.getD i []).getD k RD.zero).dy.mul (x.getD k RD.zero).dy := fun i => by rw [← hg]
  clear hg a3 a4 hs
  repeat' (first | (simp only [go_sem, seval, IntKind.bits.eq_def, ti, tin, mrows_length, vrows_length, r0, l0, hn, hm]) | (simp (disch := omega) only [wA]) | (with_reducible first | refine cF c1 ?_ | refine dF c1 ?_) | refine aL ti_ok ?_ | refine dL ti_ok ?_ | refine dG ?_ | ((first | refine cC ?_ ?_ | refine gS ?_ ?_ | refine dS ?_ ?_) <;> intro hc <;> first | (exfalso; simp only [dcA] at hc; omega) | (simp only [hc]; try simp only [dcA] at hc)) | refine aO ?_ | refine dO ?_)
  refine l_loop (α := Nat) (fun i => ⟨[(0, .sl 1 (mrows (a))), (1, .sl 3 (vrows (x))), (7, .ps 0 3 0 n), (26, .v (.int .i64 n)), (27, .v (.int .i64 i))], [(0, ⟨3, vrows ((mixV n i g).map can)⟩)], 1⟩) (fun i => i ≤ n) (fun i => n - i) (0) _ byFresh (fun _ h => by first | (cases h; done) | exact Nat.le_of_ble_eq_true rfl) ?_ ?_ ?_
  · exact Nat.zero_le _
  · refine Weak.trans0 (Weak.mle 0 ⟨3, vrows ((List.replicate n Dy.zero).map can)⟩ rfl (MLe.zr n)) (by first | exact Nat.zero_lt_succ _ | exact Nat.le_of_ble_eq_true rfl) ?_
    rw [mix_zero]
    exact byWeak
  rintro i hi
  by_cases hin : i < n
  ·
    have ri := mrows_getD (a := a) (i := i) (by omega)
    have va : (vrows (a.getD i [])).length = m := by rw [vrows_length, a5 i hin]
    have la := a5 i hin
    have okA := oa i
    have hgv := hgi i
    generalize a.getD i [] = y at *
    let F : Nat → Dy := fun k => (y.getD k RD.zero).dy.mul (x.getD k RD.zero).dy
    have gs : ∀ j, Mg (p + q + j) (sumD j F) := fun j => mg_sumD fun t _ => Mg.mul (okA t).2 (ox t).2
    repeat' (first | (simp only [go_sem, seval, IntKind.bits.eq_def, ti, tin, mrows_length, vrows_length, hm]) | (simp (disch := omega) only [wA]) | refine aL ti_ok ?_ | refine dL ti_ok ?_ | refine dG ?_ | ((first | refine cC ?_ ?_ | refine gS ?_ ?_ | refine dS ?_ ?_) <;> intro hc <;> first | (exfalso; simp only [dcA] at hc; omega) | (simp only [hc]; try simp only [dcA] at hc)) | refine aO ?_ | refine dO ?_)
    refine l_loop (α := Nat) (fun k => ⟨[(0, .sl 1 (mrows (a))), (1, .sl 3 (vrows (x))), (7, .ps 0 3 0 n), (8, .v (.int .i64 i)), (26, .v (.int .i64 n)), (27, .v (.int .i64 i)), (31, .v (.int .i64 m)), (32, .v (.int .i64 k))], [(0, ⟨3, vrows ((mid n i g (sumD k F)).map can)⟩)], 1⟩) (fun k => k ≤ m) (fun k => m - k) (0) _ byFresh (fun _ h => by first | (cases h; done) | exact Nat.le_of_ble_eq_true rfl) ?_ ?_ ?_
    · exact Nat.zero_le _
    · rw [mid_zero hin]
      exact byWeak
    rintro k hk
    by_cases hkm : k < m
    ·
      have rk := vrows_getD (l := y) (i := k) (by omega)
      have rx := vrows_getD (l := x) (i := k) (by omega)
      have o1 := okA k
      have o2 := ox k
      have mu := ref_Mul _ _ _ _ _ _ _ _ (RD.arg o1.1) (RD.arg o2.1)
      have gp : Mg (p + q) ((y.getD k RD.zero).dy.mul (x.getD k RD.zero).dy) := Mg.mul o1.2 o2.2
      have ad := ref_Add _ _ _ _ _ _ _ _ ((gs k).arg) (gp.arg)
      have es : sumD (k + 1) F = (sumD k F).add ((y.getD k RD.zero).dy.mul (x.getD k RD.zero).dy) := rfl
      have e4 : (vrows ((mid n i g (sumD k F)).map can)).length = n := by rw [crows_length, mid_leng hin]
      have e7 : (vrows ((mid n i g (sumD k F)).map can)).getD i [] = crow (sumD k F) := by rw [crows_getD (by rw [mid_leng hin]; exact hin), mid_get]
      have e6 : (vrows ((mid n i g (sumD k F)).map can)).set i (crow (sumD (k + 1) F)) = vrows ((mid n i g (sumD (k + 1) F)).map can) := by rw [crows_set, mid_set]
      rw [es] at e6
      unfold vrow at rk rx
      clear gs gp o1 o2 okA hgv hgi
      generalize hS : sumD k F = S1 at *
      generalize hP : (y.getD k RD.zero).dy.mul (x.getD k RD.zero).dy = P1 at *
      generalize y.getD k RD.zero = rr at *
      generalize x.getD k RD.zero = rr' at *
      repeat' (first | (simp only [go_sem, seval, IntKind.bits.eq_def, ti, tin, mrows_length, vrows_length, hn, hm, ri, va, rk, rx, e4, e6, e7]) | (simp (disch := omega) only [wA]) | (with_reducible first | refine cF mu ?_ | refine dF mu ?_ | refine cF ad ?_ | refine dF ad ?_) | refine aL ti_ok ?_ | refine dL ti_ok ?_ | refine dG ?_ | ((first | refine cC ?_ ?_ | refine gS ?_ ?_ | refine dS ?_ ?_) <;> intro hc <;> first | (exfalso; simp only [dcA] at hc; omega) | (simp only [hc]; try simp only [dcA] at hc)) | refine aO ?_ | refine dO ?_)
      refine roundEnd_of (α := Nat) (k + 1) (show k + 1 ≤ m by omega) (by omega) ?_
      simp only [es]
      exact byWeak
    ·
      have hkm2 : k = m := by omega
      subst hkm2
      have eF : sumD k F = g i := hgv.symm
      repeat' (first | (simp only [go_sem, seval, IntKind.bits.eq_def, ti, tin]) | (simp (disch := omega) only [wA]) | refine aL ti_ok ?_ | refine dL ti_ok ?_ | refine dG ?_ | ((first | refine cC ?_ ?_ | refine gS ?_ ?_ | refine dS ?_ ?_) <;> intro hc <;> first | (exfalso; simp only [dcA] at hc; omega) | (simp only [hc]; try simp only [dcA] at hc)) | refine aO ?_ | refine dO ?_)
      refine roundEnd_of (α := Nat) (i + 1) (show i + 1 ≤ n by omega) (by omega) ?_
      rw [eF, mid_done]
      exact byWeak
  ·
    have hin2 : i = n := by omega
    subst hin2
    repeat' (first | (simp only [go_sem, seval, IntKind.bits.eq_def, ti, tin]) | (simp (disch := omega) only [wA]) | refine aL ti_ok ?_ | refine dL ti_ok ?_ | refine dG ?_ | ((first | refine cC ?_ ?_ | refine gS ?_ ?_ | refine dS ?_ ?_) <;> intro hc <;> first | (exfalso; simp only [dcA] at hc; omega) | (simp only [hc]; try simp only [dcA] at hc)) | refine aO ?_ | refine dO ?_)
    rw [mixV_all]
    refine fin_pub trivial (.tup (.cons (.one (.ps rfl rfl (by show 0 + i ≤ _; rw [vtab_len]; omega))) (.cons (.one .same) .nil))) ?_
    rw [List.drop_zero, List.take_of_length_le (by rw [vtab_len]; exact Nat.le_refl _)]
    exact .refl _
end Go.Proofs.YtpggiabnhodjpaaGreatDoor
