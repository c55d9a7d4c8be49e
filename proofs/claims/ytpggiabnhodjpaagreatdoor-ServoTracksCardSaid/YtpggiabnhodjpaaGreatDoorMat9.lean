/- The reference's matrices (ref04): Mul, Abs, Apply. -/
import Derived.Test.YtpggiabnhodjpaaGreatDoorMat8
import Derived.Test.YtpggiabnhodjpaaGreatDoorRefB
set_option linter.unusedSimpArgs false
set_option linter.unusedVariables false
set_option linter.deprecated false
namespace Go.Proofs.YtpggiabnhodjpaaGreatDoor
open Go Go.Ax
set_option maxRecDepth 100000
set_option maxHeartbeats 4000000
theorem refm_Abs (a : List (List RD)) (p : Nat) (h1 : ckM a = 0) (oa : okM p a) : CallOK Tryz.prog gl 88 [.sl 1 (mrows (a))] (.tup [.sl 1 (mrows (crM (absD (dyM a)))), .v (.int .i64 0)]) := by
  refine call_ok (C := ⟨Tryz.prog, gl, ti, 50, false⟩) ti_ok mixed 3000 Tryz.call88 Tryz.func88 rfl Tryz.ntmps88 (by simp) byClL byCl ?_
  rw [Tryz.results88]
  obtain ⟨a1, a2, a3, a4, a5⟩ := ckM_ok h1
  have c1 := ref_CheckM a (by omega)
  rw [h1] at c1
  rw [absD_raw]
  obtain ⟨n, hn⟩ : ∃ n, a.length = n := ⟨_, rfl⟩
  obtain ⟨m, hm⟩ : ∃ m, (a.getD 0 []).length = m := ⟨_, rfl⟩
  rw [hn] at a1 a2 a5 ⊢
  rw [hm] at a3 a4 a5 ⊢
  have r0 := mrows_getD (a := a) (i := 0) (by omega)
  have l0 : (vrows (a.getD 0 [])).length = m := by rw [vrows_length, hm]
  generalize hg : (fun i j => ((a.getD i []).getD j RD.zero).dy.abs) = g
  have hgi : ∀ i j, g i j = ((a.getD i []).getD j RD.zero).dy.abs := fun i j => by rw [← hg]
  clear hg
  repeat' (first | (simp only [go_sem, seval, IntKind.bits.eq_def, ti, tin, mrows_length, hn, r0, l0]) | (simp (disch := omega) only [wA]) | (with_reducible first | refine cF c1 ?_ | refine dF c1 ?_) | refine aL ti_ok ?_ | refine dL ti_ok ?_ | refine dG ?_ | ((first | refine cC ?_ ?_ | refine gS ?_ ?_ | refine dS ?_ ?_) <;> intro hc <;> first | (exfalso; simp only [dcA] at hc; omega) | (simp only [hc]; try simp only [dcA] at hc)) | refine aO ?_ | refine dO ?_)
  refine callF_n 12 rfl (show n + 1 ≤ 12 by omega) rfl ?_ zr_cl (.cons (.refl _) (.cons (.refl _) .nil)) (ref_ZeroM n m (by omega) (by omega)) ?_
  · repeat' (first | exact trivial | exact Cl.v _ | exact Cl.mat | exact Cl.vec | exact Cl.rp1 Cl.vec | exact Cl.rp1 Cl.mat | refine And.intro ?_ ?_)
  repeat' (first | (simp only [go_sem, seval, IntKind.bits.eq_def, ti, tin, mrows_length, hn]) | (simp (disch := omega) only [wA]) | refine aL ti_ok ?_ | refine dL ti_ok ?_ | refine dG ?_ | ((first | refine cC ?_ ?_ | refine gS ?_ ?_ | refine dS ?_ ?_) <;> intro hc <;> first | (exfalso; simp only [dcA] at hc; omega) | (simp only [hc]; try simp only [dcA] at hc)) | refine aO ?_ | refine dO ?_)
  refine l_loop (α := Nat) (fun i => ⟨[(0, .sl 1 (mrows (a))), (5, .ps 0 1 0 n), (20, .sl 1 (mrows (a))), (21, .v (.int .i64 n)), (22, .v (.int .i64 i))], (0, ⟨1, mrows (crM (tabD i m g)) ++ slots (i + 1) (n - i) m⟩) :: nest (i + 1) (n - i) (zr m), 12⟩) (fun i => i ≤ n) (fun i => n - i) (0) _ byFresh (fun _ h => by first | (cases h; done) | exact Nat.le_of_ble_eq_true rfl) ?_ ?_ ?_
  · exact Nat.zero_le _
  · refine Weak.rowsKeep (D := mrows (crM (tabD 0 m g))) (c := 0 + 1) (k := n - 0) (by omega) (by omega) (by omega) ?_ rfl (fun b h1 h2 => ?_) (mrows_cl _) zr_cl
    · repeat' (first | exact trivial | exact .inl ⟨_, rfl, .refl _, Cl.v _⟩ | exact .inl ⟨_, rfl, .refl _, Cl.mat⟩ | exact .inr ⟨_, _, _, rfl, rfl⟩ | refine And.intro ?_ ?_)
    · show Ax.look ((0, _) :: nest 1 n (zr m)) b = _
      simp only [Ax.look]; rw [if_neg (by omega)]; exact nest_has (by omega) (by omega)
  rintro i hi
  by_cases hin : i < n
  ·
    have ri := mrows_getD (a := a) (i := i) (by omega)
    have va : (vrows (a.getD i [])).length = m := by rw [vrows_length, a5 i hin]
    have la := a5 i hin
    have okA := oa i
    have hgk := hgi i
    generalize a.getD i [] = x at *
    obtain ⟨q, hq⟩ : ∃ q, n - i = q + 1 := ⟨n - i - 1, by omega⟩
    have hq2 : n - (i + 1) = q := by omega
    rw [hq]
    repeat' (first | (simp only [go_sem, seval, IntKind.bits.eq_def, ti, tin, mrows_length, hn, ri, va]) | (simp (disch := omega) only [wA]) | refine aL ti_ok ?_ | refine dL ti_ok ?_ | refine dG ?_ | ((first | refine cC ?_ ?_ | refine gS ?_ ?_ | refine dS ?_ ?_) <;> intro hc <;> first | (exfalso; simp only [dcA] at hc; omega) | (simp only [hc]; try simp only [dcA] at hc)) | refine aO ?_ | refine dO ?_)
    refine loop_weak0 (s' := ⟨[(0, .sl 1 (mrows a)), (5, .ps 0 1 0 n), (6, .v (.int .i64 i)), (20, .sl 1 (mrows a)), (21, .v (.int .i64 n)), (22, .v (.int .i64 i)), (29, .v (.int .i64 m)), (30, .v (.int .i64 ((0 : Nat) : Int)))], (1, ⟨3, vrows ((mixV m 0 (g i)).map can)⟩) :: (0, ⟨1, mrows (crM (tabD i m g)) ++ [.ps 1 3 0 m] :: slots (i + 1 + 1) q m⟩) :: nest (i + 1 + 1) q (zr m), 12⟩) ?_ (Nat.zero_lt_succ _) ?_
    · refine Weak.rowTakeL (c := i + 1) (by omega) (by omega) ?_ rfl (fun b h1 h2 => ?_) (mrows_cl _) zr_cl (by rw [mix_zero]; exact MLe.zr m) (vrows_cl _)
      · repeat' (first | exact trivial | exact .inl ⟨_, rfl, .refl _, Cl.v _⟩ | exact .inl ⟨_, rfl, .refl _, Cl.mat⟩ | exact .inr ⟨_, _, _, rfl, rfl⟩ | refine And.intro ?_ ?_)
      · show Ax.look ((0, _) :: nest (i + 1) (q + 1) (zr m)) b = _
        simp only [Ax.look]; rw [if_neg (by omega)]; exact nest_has (by omega) (by omega)
    refine l_loop (α := Nat) (fun k => ⟨[(0, .sl 1 (mrows (a))), (5, .ps 0 1 0 n), (6, .v (.int .i64 i)), (20, .sl 1 (mrows (a))), (21, .v (.int .i64 n)), (22, .v (.int .i64 i)), (29, .v (.int .i64 m)), (30, .v (.int .i64 k))], (1, ⟨3, vrows ((mixV m k (g i)).map can)⟩) :: (0, ⟨1, mrows (crM (tabD i m g)) ++ [.ps 1 3 0 m] :: slots (i + 1 + 1) q m⟩) :: nest (i + 1 + 1) q (zr m), 12⟩) (fun k => k ≤ m) (fun k => m - k) (0) _ byFresh (fun _ h => by first | (cases h; done) | exact Nat.le_of_ble_eq_true rfl) ?_ ?_ ?_
    · exact Nat.zero_le _
    · exact Weak.refl _
    rintro k hk
    by_cases hkm : k < m
    ·
      have rk := vrows_getD (l := x) (i := k) (by omega)
      have ad := ref_Abs _ _ _ _ (RD.arg (okA k).1)
      rw [← hgk k] at ad
      have hD : (mrows (crM (tabD i m g))).length = i := done_len
      have e1 := getD_mid (d := []) (x := [AV.ps 1 3 0 m]) (R := slots (i + 1 + 1) q m) hD
      have e3 : (mrows (crM (tabD i m g)) ++ [AV.ps 1 3 0 m] :: slots (i + 1 + 1) q m).length = n := by rw [List.length_append, hD, List.length_cons, slots_len]; omega
      have e4 : (vrows ((mixV m k (g i)).map can)).length = m := by rw [crows_length, mixV_len hk]
      have e7 : (vrows ((mixV m k (g i)).map can)).getD k [] = crow Dy.zero := by rw [crows_getD (by rw [mixV_len hk]; exact hkm), mixV_get hkm]
      have e6 : (vrows ((mixV m k (g i)).map can)).set k (crow (g i k)) = vrows ((mixV m (k + 1) (g i)).map can) := by rw [crows_set, mixV_step hkm]
      unfold vrow at rk
      generalize x.getD k RD.zero = r at *
      repeat' (first | (simp only [go_sem, seval, IntKind.bits.eq_def, ti, tin, mrows_length, hn, ri, va, rk, e1, e3, e4, e6, e7]) | (simp (disch := omega) only [wA]) | (with_reducible first | refine cF ad ?_ | refine dF ad ?_) | refine aL ti_ok ?_ | refine dL ti_ok ?_ | refine dG ?_ | ((first | refine cC ?_ ?_ | refine gS ?_ ?_ | refine dS ?_ ?_) <;> intro hc <;> first | (exfalso; simp only [dcA] at hc; omega) | (simp only [hc]; try simp only [dcA] at hc)) | refine aO ?_ | refine dO ?_)
      refine roundEnd_of (α := Nat) (k + 1) (show k + 1 ≤ m by omega) (by omega) ?_
      refine Weak.rowKeep (c := i + 1) (by omega) (by omega) ?_ rfl rfl (fun b h1 h2 => ?_) (mrows_cl _) zr_cl (vrows_cl _)
      · repeat' (first | exact trivial | exact .inl ⟨_, rfl, .refl _, Cl.v _⟩ | exact .inl ⟨_, rfl, .refl _, Cl.mat⟩ | exact .inl ⟨_, rfl, .refl _, Cl.vec⟩ | exact .inr ⟨_, _, _, rfl, rfl⟩ | refine And.intro ?_ ?_)
      · show Ax.look ((1, _) :: (1, _) :: (0, _) :: nest (i + 1 + 1) q (zr m)) b = _
        simp only [Ax.look]; rw [if_neg (by omega), if_neg (by omega), if_neg (by omega)]; exact nest_has (by omega) (by omega)
    ·
      have hkm2 : k = m := by omega
      subst hkm2
      repeat' (first | (simp only [go_sem, seval, IntKind.bits.eq_def, ti, tin]) | (simp (disch := omega) only [wA]) | refine aL ti_ok ?_ | refine dL ti_ok ?_ | refine dG ?_ | ((first | refine cC ?_ ?_ | refine gS ?_ ?_ | refine dS ?_ ?_) <;> intro hc <;> first | (exfalso; simp only [dcA] at hc; omega) | (simp only [hc]; try simp only [dcA] at hc)) | refine aO ?_ | refine dO ?_)
      refine roundEnd_of (α := Nat) (i + 1) (show i + 1 ≤ n by omega) (by omega) ?_
      rw [mixV_all]
      rw [tabD_done, hq2]
      refine Weak.rowDone (T := nest (i + 1 + 1) q (zr k)) ?_ rfl rfl vtab_len.symm (fun b M h => ?_) (no_cl (mrows_cl _)) (Nat.le_refl _)
      · repeat' (first | exact trivial | exact ⟨_, rfl, .refl _⟩ | refine And.intro ?_ ?_)
      · obtain ⟨g1, g2, rfl⟩ := nest_look h
        refine ⟨by omega, by omega, ?_⟩
        show Ax.look ((1, _) :: (0, _) :: nest (i + 1 + 1) q (zr k)) b = _
        simp only [Ax.look]; rw [if_neg (by omega), if_neg (by omega)]; exact h
  ·
    have hin2 : i = n := by omega
    subst hin2
    repeat' (first | (simp only [go_sem, seval, IntKind.bits.eq_def, ti, tin, mrows_length]) | (simp (disch := omega) only [wA]) | refine aL ti_ok ?_ | refine dL ti_ok ?_ | refine dG ?_ | ((first | refine cC ?_ ?_ | refine gS ?_ ?_ | refine dS ?_ ?_) <;> intro hc <;> first | (exfalso; simp only [dcA] at hc; omega) | (simp only [hc]; try simp only [dcA] at hc)) | refine aO ?_ | refine dO ?_)
    rw [Nat.sub_self]
    refine fin_pub trivial (.tup (.cons (.one (.ps rfl rfl (by show 0 + i ≤ _; rw [List.length_append, done_len]; omega))) (.cons (.one .same) .nil))) ?_
    show Le (.tup [.sl 1 (((mrows (crM (tabD i m g)) ++ []).drop 0).take i), _]) _
    rw [List.append_nil, List.drop_zero, List.take_of_length_le (by rw [done_len]; exact Nat.le_refl _)]
    exact .refl _
end Go.Proofs.YtpggiabnhodjpaaGreatDoor
