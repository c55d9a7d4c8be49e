/- Layer 4 (matrix): build and dot, for any function that is handed in. -/
import Derived.Test.YtpggiabnhodjpaaGreatDoorMat2
import Derived.Test.YtpggiabnhodjpaaGreatDoorDy6
import Derived.Test.YtpggiabnhodjpaaGreatDoorU4
set_option linter.unusedSimpArgs false
set_option linter.unusedVariables false
set_option linter.deprecated false
namespace Go.Proofs.YtpggiabnhodjpaaGreatDoor
open Go Go.Ax
set_option maxRecDepth 100000
set_option maxHeartbeats 4000000
theorem mat_build (fid : FuncId) (caps : List AV) (n m : Nat) (g : Nat → Nat → Dy) (hn : n ≤ 1000) (hm : m ≤ 1000) (hcaps : ∀ c ∈ caps, Cl c)
    (hf : ∀ i j : Nat, i < n → j < m → CallOK Tryz.prog gl fid (.v (.int .i64 i) :: .v (.int .i64 j) :: caps) (.agg [.v (.bool (sg (g i j))), .sl 1 (u32s (ms (g i j))), .v (.int .i64 (dn (g i j)))])) :
    CallOK Tryz.prog gl 146 [.v (.int .i64 n), .v (.int .i64 m), .fn fid caps] (.sl 1 (mrows (crM (tabD n m g)))) := by
  refine call_ok (C := ⟨Tryz.prog, gl, ti, 37, false⟩) ti_ok mixed 3000 Tryz.call146 Tryz.func146 rfl Tryz.ntmps146 (by simp) (by
    intro x hx
    simp only [List.mem_cons, List.not_mem_nil, or_false] at hx
    rcases hx with rfl | rfl | rfl
    · exact Cl.v _
    · exact Cl.v _
    · exact Cl.fn hcaps) byCl ?_
  rw [Tryz.results146]
  have hfn : Cl (.fn fid caps) := Cl.fn hcaps
  repeat' (first | (simp only [go_sem, seval, IntKind.bits.eq_def, ti, tin, List.length_replicate]) | (simp (disch := omega) only [wA]) | refine aL ti_ok ?_ | refine dL ti_ok ?_ | refine dG ?_ | ((first | refine cC ?_ ?_ | refine gS ?_ ?_ | refine dS ?_ ?_) <;> intro hc <;> first | (exfalso; simp only [dcA] at hc; omega) | (simp only [hc]; try simp only [dcA] at hc)) | refine aO ?_ | refine dO ?_)
  refine l_loop (α := Nat) (fun i => ⟨[(1, .v (.int .i64 m)), (2, .fn fid caps), (7, .ps 0 1 0 n), (13, .v (.int .i64 n)), (14, .v (.int .i64 i))], [(0, ⟨1, bRows n m g i⟩)], 2⟩) (fun i => i ≤ n) (fun i => n - i) (0) _ byFresh (fun _ h => by first | (cases h; done) | exact Nat.le_of_ble_eq_true rfl) ?_ ?_ ?_
  · exact Nat.zero_le _
  · exact byWeak
  rintro i hi
  by_cases hin : i < n
  ·
    repeat' (first | (simp only [go_sem, seval, IntKind.bits.eq_def, ti, tin, List.length_replicate]) | (simp (disch := omega) only [wA]) | refine aL ti_ok ?_ | refine dL ti_ok ?_ | refine dG ?_ | ((first | refine cC ?_ ?_ | refine gS ?_ ?_ | refine dS ?_ ?_) <;> intro hc <;> first | (exfalso; simp only [dcA] at hc; omega) | (simp only [hc]; try simp only [dcA] at hc)) | refine aO ?_ | refine dO ?_)
    first | refine loop_weak (s' := ⟨[(1, .v (.int .i64 m)), (2, .fn fid caps), (7, .ps 0 1 0 n), (8, .v (.int .i64 i)), (13, .v (.int .i64 n)), (14, .v (.int .i64 i)), (17, .v (.int .i64 m)), (18, .v (.int .i64 (((0 : Nat) : Int))))], [(1, ⟨3, []⟩), (0, ⟨1, mrows (crM (tabD i m g)) ++ [.ps 1 3 0 0] :: List.replicate (n - i - 1) [.v (.slice none 0 0)]⟩)], 2⟩) ?_ (by first | exact Nat.le_refl _ | exact Nat.le_of_ble_eq_true rfl) ?_ | refine loop_weak0 (s' := ⟨[(1, .v (.int .i64 m)), (2, .fn fid caps), (7, .ps 0 1 0 n), (8, .v (.int .i64 i)), (13, .v (.int .i64 n)), (14, .v (.int .i64 i)), (17, .v (.int .i64 m)), (18, .v (.int .i64 (((0 : Nat) : Int))))], [(1, ⟨3, []⟩), (0, ⟨1, mrows (crM (tabD i m g)) ++ [.ps 1 3 0 0] :: List.replicate (n - i - 1) [.v (.slice none 0 0)]⟩)], 2⟩) ?_ (Nat.zero_lt_succ _) ?_
    · refine Weak.rowNew ?_ (by show some (MB.mk 1 (bRows n m g i)) = _; rw [bRows_cons hin]) (mrows_cl _) nil_cl
      repeat' (first | exact trivial | exact .inl ⟨_, rfl, .refl _, Cl.v _⟩ | exact .inl ⟨_, rfl, .refl _, hfn⟩ | exact .inr ⟨_, _, _, rfl, rfl⟩ | refine And.intro ?_ ?_)
    refine l_loop (α := Nat) (fun k => ⟨[(1, .v (.int .i64 m)), (2, .fn fid caps), (7, .ps 0 1 0 n), (8, .v (.int .i64 i)), (13, .v (.int .i64 n)), (14, .v (.int .i64 i)), (17, .v (.int .i64 m)), (18, .v (.int .i64 k))], [(1, ⟨3, vrows ((tabV k (g i)).map can)⟩), (0, ⟨1, mrows (crM (tabD i m g)) ++ [.ps 1 3 0 k] :: List.replicate (n - i - 1) [.v (.slice none 0 0)]⟩)], 2⟩) (fun k => k ≤ m) (fun k => m - k) (0) _ byFresh (fun _ h => by first | (cases h; done) | exact Nat.le_of_ble_eq_true rfl) ?_ ?_ ?_
    · exact Nat.zero_le _
    · exact byWeak
    rintro k hk
    by_cases hkm : k < m
    ·
      have hc1 := hf i k hin hkm
      have hD : (mrows (crM (tabD i m g))).length = i := done_len
      have e1 := getD_mid (d := []) (x := [AV.ps 1 3 0 k]) (R := List.replicate (n - i - 1) [.v (.slice none 0 0)]) hD
      have e2 : ∀ v : List AV, _ := fun v => set_mid (x := [AV.ps 1 3 0 k]) (y := v) (R := List.replicate (n - i - 1) [.v (.slice none 0 0)]) hD
      have e3 := mid_len (x := [AV.ps 1 3 0 k]) (R := List.replicate (n - i - 1) [.v (.slice none 0 0)]) hD List.length_replicate hin
      have e4 : (vrows ((tabV k (g i)).map can)).length = k := vtab_len
      have e5 := vtab_step (k := k) (f := g i)
      repeat' (first | (simp only [go_sem, seval, IntKind.bits.eq_def, ti, tin, e1, e2, e3, e4]) | (simp (disch := omega) only [wA]) | (with_reducible first | refine cF hc1 ?_ | refine dF hc1 ?_) | (refine drawAfter_app ti_ok rfl rfl rfl rfl rfl ⟨rfl, rfl, by decide⟩ rfl ⟨trivial, by (try simp only [List.length_cons, List.length_nil, List.length_append, u32s_length, List.length_map, e1, e2, e3, e4]); omega, by (try simp only [List.length_cons, List.length_nil, List.length_append, u32s_length, List.length_map, e1, e2, e3, e4]); omega, by (try simp only [List.length_cons, List.length_nil, List.length_append, u32s_length, List.length_map, e1, e2, e3, e4]); omega⟩ byRows ?_) | refine aL ti_ok ?_ | refine dL ti_ok ?_ | refine dG ?_ | ((first | refine cC ?_ ?_ | refine gS ?_ ?_ | refine dS ?_ ?_) <;> intro hc <;> first | (exfalso; simp only [dcA] at hc; omega) | (simp only [hc]; try simp only [dcA] at hc)) | refine aO ?_ | refine dO ?_)
      refine roundEnd_of (α := Nat) (k + 1) (show k + 1 ≤ m by omega) (by omega) ?_
      rw [← e5]
      refine Weak.rowGrown 13 (by decide) ?_ rfl rfl (mrows_cl _) nil_cl (by rw [e5]; exact vrows_cl _)
      repeat' (first | exact trivial | exact .inl ⟨_, rfl, .refl _, Cl.v _⟩ | exact .inl ⟨_, rfl, .refl _, hfn⟩ | exact .inr ⟨_, _, _, rfl, rfl⟩ | refine And.intro ?_ ?_)
    ·
      have hkm2 : k = m := by omega
      subst hkm2
      repeat' (first | (simp only [go_sem, seval, IntKind.bits.eq_def, ti, tin]) | (simp (disch := omega) only [wA]) | refine aL ti_ok ?_ | refine dL ti_ok ?_ | refine dG ?_ | ((first | refine cC ?_ ?_ | refine gS ?_ ?_ | refine dS ?_ ?_) <;> intro hc <;> first | (exfalso; simp only [dcA] at hc; omega) | (simp only [hc]; try simp only [dcA] at hc)) | refine aO ?_ | refine dO ?_)
      refine roundEnd_of (α := Nat) (i + 1) (show i + 1 ≤ n by omega) (by omega) ?_
      rw [bRows_succ]
      refine Weak.rowDone (T := []) ?_ rfl rfl vtab_len.symm (fun b M h => by cases h) (no_cl (mrows_cl _)) (Nat.le_refl _)
      repeat' (first | exact trivial | exact ⟨_, rfl, .refl _⟩ | refine And.intro ?_ ?_)
  ·
    have hni : i = n := by omega
    subst hni
    repeat' (first | (simp only [go_sem, seval, IntKind.bits.eq_def, ti, tin, List.length_replicate]) | (simp (disch := omega) only [wA]) | refine aL ti_ok ?_ | refine dL ti_ok ?_ | refine dG ?_ | ((first | refine cC ?_ ?_ | refine gS ?_ ?_ | refine dS ?_ ?_) <;> intro hc <;> first | (exfalso; simp only [dcA] at hc; omega) | (simp only [hc]; try simp only [dcA] at hc)) | refine aO ?_ | refine dO ?_)
    refine fin_pub trivial (.one (.one (.ps rfl rfl (by show 0 + i ≤ _; rw [bRows_len (Nat.le_refl _)]; omega)))) ?_
    rw [bRows_all, List.drop_zero, List.take_of_length_le (by rw [done_len]; exact Nat.le_refl _)]
    exact .refl _
theorem mat_dot (fid : FuncId) (caps : List AV) (l : List RD) (g : Nat → RD) (p q : Nat) (hl : l.length ≤ 1000) (hp : p + q ≤ 1000000) (hcaps : ∀ c ∈ caps, Cl c) (ok : okV p l) (hg : ∀ k, k < l.length → okR q (g k))
    (hf : ∀ k : Nat, k < l.length → CallOK Tryz.prog gl fid (.v (.int .i64 k) :: caps) (.agg [.v (.bool (g k).s), .sl 1 (u32s (g k).ws), .v (.int .i64 (g k).d)])) :
    CallOK Tryz.prog gl 176 [.sl 3 (vrows l), .fn fid caps] (.agg (crow (sumD l.length fun k => (l.getD k RD.zero).dy.mul (g k).dy))) := by
  refine call_ok (C := ⟨Tryz.prog, gl, ti, 24, false⟩) ti_ok mixed 3000 Tryz.call176 Tryz.func176 rfl Tryz.ntmps176 (by simp) (by
    intro x hx
    simp only [List.mem_cons, List.not_mem_nil, or_false] at hx
    rcases hx with rfl | rfl
    · exact Cl.vec
    · exact Cl.fn hcaps) byCl ?_
  rw [Tryz.results176]
  have hfn : Cl (.fn fid caps) := Cl.fn hcaps
  obtain ⟨n, hn⟩ : ∃ n, l.length = n := ⟨_, rfl⟩
  have gs : ∀ k, k ≤ n → Mg (p + q + k) (sumD k fun k => (l.getD k RD.zero).dy.mul (g k).dy) := fun k hk => mg_sumD fun i hi => Mg.mul (ok i).2 (hg i (by omega)).2
  rw [hn] at hl hg hf ⊢
  repeat' (first | (simp only [go_sem, seval, IntKind.bits.eq_def, ti, tin, vrows_length, hn]) | (simp (disch := omega) only [wA]) | refine aL ti_ok ?_ | refine dL ti_ok ?_ | refine dG ?_ | ((first | refine cC ?_ ?_ | refine gS ?_ ?_ | refine dS ?_ ?_) <;> intro hc <;> first | (exfalso; simp only [dcA] at hc; omega) | (simp only [hc]; try simp only [dcA] at hc)) | refine aO ?_ | refine dO ?_)
  refine l_loop (α := Nat) (fun k => ⟨[(1, .fn fid caps), (4, .p 0 3 0 0), (5, .p 1 3 0 0), (8, .sl 3 (vrows (l))), (9, .v (.int .i64 n)), (10, .v (.int .i64 k))], [(0, ⟨3, [[.v (.bool (false)), .v (.slice none 0 0), .v (.int .i64 0)]]⟩), (1, ⟨3, [crow (sumD k fun k => (l.getD k RD.zero).dy.mul (g k).dy)]⟩)], 2⟩) (fun k => k ≤ n) (fun k => n - k) (0) _ byFresh (fun _ h => by first | (cases h; done) | exact Nat.le_of_ble_eq_true rfl) ?_ ?_ ?_
  · exact Nat.zero_le _
  · exact Weak.trans (Weak.mle 1 ⟨3, [crow Dy.zero]⟩ rfl MLe.dy0) (Nat.le_refl _) byWeak
  rintro k hk
  by_cases hkn : k < n
  ·
    have rk := vrows_getD (l := l) (i := k) (by omega)
    have hx := ok k
    have hy := hg k hkn
    have c1 := hf k hkn
    have g1 := gs k hk
    have g2 : Mg (p + q) ((l.getD k RD.zero).dy.mul (g k).dy) := Mg.mul hx.2 hy.2
    have m1 := Mul_ok _ _ _ _ _ _ _ _ (RD.arg hx.1) (RD.arg hy.1)
    have a1 := Add_ok _ _ _ _ _ _ _ _ g1.arg g2.arg
    have es : (sumD (k + 1) fun k => (l.getD k RD.zero).dy.mul (g k).dy) = (sumD k fun k => (l.getD k RD.zero).dy.mul (g k).dy).add ((l.getD k RD.zero).dy.mul (g k).dy) := rfl
    unfold vrow at rk
    clear hx hy g1 g2 gs hf hg ok
    generalize (sumD k fun k => (l.getD k RD.zero).dy.mul (g k).dy) = S1 at *
    generalize (l.getD k RD.zero).dy.mul (g k).dy = S2 at *
    generalize l.getD k RD.zero = r at *
    generalize g k = r2 at *
    repeat' (first | (simp only [go_sem, seval, IntKind.bits.eq_def, ti, tin, vrows_length, hn, rk]) | (simp (disch := omega) only [wA]) | (with_reducible first | refine cF c1 ?_ | refine dF c1 ?_ | refine cF m1 ?_ | refine dF m1 ?_ | refine cF a1 ?_ | refine dF a1 ?_) | refine aL ti_ok ?_ | refine dL ti_ok ?_ | refine dG ?_ | ((first | refine cC ?_ ?_ | refine gS ?_ ?_ | refine dS ?_ ?_) <;> intro hc <;> first | (exfalso; simp only [dcA] at hc; omega) | (simp only [hc]; try simp only [dcA] at hc)) | refine aO ?_ | refine dO ?_)
    refine roundEnd_of (α := Nat) (k + 1) (show k + 1 ≤ n by omega) (by omega) ?_
    simp only [es]
    exact byWeak
  ·
    have hkn2 : k = n := by omega
    subst hkn2
    repeat' (first | (simp only [go_sem, seval, IntKind.bits.eq_def, ti, tin, vrows_length, hn]) | (simp (disch := omega) only [wA]) | refine aL ti_ok ?_ | refine dL ti_ok ?_ | refine dG ?_ | ((first | refine cC ?_ ?_ | refine gS ?_ ?_ | refine dS ?_ ?_) <;> intro hc <;> first | (exfalso; simp only [dcA] at hc; omega) | (simp only [hc]; try simp only [dcA] at hc)) | refine aO ?_ | refine dO ?_)
    all_goals exact fin_same trivial rfl
end Go.Proofs.YtpggiabnhodjpaaGreatDoor
