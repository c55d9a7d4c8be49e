/- The statements on layer 18: arguments that are short; what all functions answer. -/
import Derived.Test.YtpggiabnhodjpaaGreatDoorT18c
import Derived.Test.YtpggiabnhodjpaaGreatDoorU4
import Derived.Test.YtpggiabnhodjpaaGreatDoorMat5
import Derived.Test.YtpggiabnhodjpaaGreatDoorL04g
import Derived.Test.YtpggiabnhodjpaaGreatDoorRef8
set_option linter.unusedSimpArgs false
set_option linter.unusedVariables false
set_option linter.deprecated false
namespace Go.Proofs.YtpggiabnhodjpaaGreatDoor
open Go Go.Ax
set_option maxRecDepth 100000
set_option maxHeartbeats 4000000
structure In18 (a dv : List (List RD)) (w : List RD) : Prop where
  la : a.length ≤ 10
  ld : dv.length ≤ 10
  lw : w.length ≤ 10
  oa : okM 64 a
  fa : fine 40 (dyM a)
  od : okM 64 dv
  fd : fine 40 (dyM dv)
  ow : okV 64 w
  fw : fineV 40 (dyV w)
  kd : ∀ l ∈ dv, l.length ≤ 1000 ∧ ∀ r ∈ l, r.ok
  few : ¬ ckT a dv w = 0 ∨ a.length ≤ 3
structure InC (inner outer : List RD) : Prop where
  li : inner.length ≤ 10
  lo : outer.length ≤ 10
  oi : okV 64 inner
  fi : fineV 40 (dyV inner)
  oo : okV 64 outer
  fo : fineV 40 (dyV outer)
theorem in18_of {a dv : List (List RD)} {w : List RD} (ga : argM a) (gd : argM dv) (gw : argV w) (h : lightP a dv w) : In18 a dv w := by
  have oa := brief_okM ga h.1.2.1
  have od := brief_okM gd h.1.2.2
  have ow := brief_okV gw h.1.1.2.2
  refine ⟨h.1.1.1, h.1.1.2.1, h.1.1.2.2.1, oa.1, oa.2, od.1, od.2, ow.1, ow.2, fun l hl => ?_, h.2⟩
  obtain ⟨i, hi, rfl⟩ := List.getElem_of_mem hl
  have e := h.1.2.2 i hi
  have e2 := okV_all (od.1 i)
  rw [List.getD, List.getElem?_eq_getElem hi] at e e2
  exact ⟨by have := e.1; simp only [Option.getD_some] at this; omega, e2⟩
section
variable {a dv : List (List RD)} {w inner outer : List RD}
theorem In18.check (h : In18 a dv w) : CallOK Tryz.prog gl 11 [.agg [.sl 1 (mrows a), .sl 1 (mrows dv), .sl 3 (vrows w)]] (.v (.int .i64 (ckT a dv w))) := by
  have := h.la; have := h.ld; have := h.lw
  exact r18_Check a dv w (by omega) (by omega) (by omega) h.kd (okV_all h.ow)
theorem In18.tok (h : In18 a dv w) (g : InC inner outer) {K : Int} (hc : ckC a dv w K inner outer = 0) : TubOK 64 64 a.length a dv w inner outer := tubOK_of (by omega) (by omega) h.oa h.od h.ow g.oi g.oo hc
theorem In18.acc (h : In18 a dv w) (g : InC inner outer) (K : Nat) (hc : ckC a dv w K inner outer = 0) : CallOK Tryz.prog gl 16 [.agg [.sl 1 (mrows a), .sl 1 (mrows dv), .sl 3 (vrows w)], .agg [.v (.int .i64 K), .sl 3 (vrows inner), .sl 3 (vrows outer)]] (.tup [.v (.bool (acceptsD K (dyM a) (dyM dv) (dyV w) (dyV inner) (dyV outer))), .v .nilIface]) :=
  tub_Accepts a dv w inner outer K 64 64 a.length (h.tok g hc) hc
theorem In18.mko (h : In18 a dv w) (k : Nat) (hc : ckT a dv w = 0) (h1 : 1 ≤ k) (h2 : k ≤ 32) : CallOK Tryz.prog gl 13 [.agg [.sl 1 (mrows a), .sl 1 (mrows dv), .sl 3 (vrows w)], .v (.int .i64 k)] (.tup [certAV k a.length (makeD k (dyM a) (dyM dv) (dyV w)), .v (.bool (makeD k (dyM a) (dyM dv) (dyV w)).isSome), .v .nilIface]) :=
  tub_Make a dv w k 64 a.length (by omega) h.oa h.od h.ow hc rfl h1 h2
end
theorem same_row0 : CallOK Tryz.prog gl 25 [.v (.slice none 0 0), .v (.slice none 0 0)] (.v (.bool true)) := by
  have h := ref_SameRow [] [] (by simp) (by simp) (fun x hx => by cases hx) (fun x hx => by cases hx)
  rw [decide_eq_true rfl] at h
  exact h.le (.cons (Le.nil 3) (.cons (Le.nil 3) .nil)) (fun x hx => by
    simp only [List.mem_cons, List.not_mem_nil, or_false] at hx
    rcases hx with rfl | rfl <;> exact Cl.v _)
theorem same_cert0  : CallOK Tryz.prog gl 15 [.agg [.v (.int .i64 0), .v (.slice none 0 0), .v (.slice none 0 0)], .agg [.v (.int .i64 0), .v (.slice none 0 0), .v (.slice none 0 0)]] (.v (.bool (true))) := by
  refine call_ok (C := ⟨Tryz.prog, gl, ti, 24, false⟩) ti_ok mixed 3000 Tryz.call15 Tryz.func15 rfl Tryz.ntmps15 (by simp) byClL byCl ?_
  rw [Tryz.results15]
  have s := same_row0
  repeat' (first | (simp only [go_sem, seval, IntKind.bits.eq_def, ti, tin]) | (simp (disch := omega) only [wA]) | (with_reducible first | refine cF s ?_ | refine dF s ?_) | refine aL ti_ok ?_ | refine dL ti_ok ?_ | refine dG ?_ | ((first | refine cC ?_ ?_ | refine gS ?_ ?_ | refine dS ?_ ?_) <;> intro hc <;> first | (exfalso; simp only [dcA] at hc; omega) | (simp only [hc]; try simp only [dcA] at hc)) | refine aO ?_ | refine dO ?_)
  all_goals exact fin_same trivial rfl
end Go.Proofs.YtpggiabnhodjpaaGreatDoor
/- The statements on layer 18: from the arguments to the plain laws. -/
set_option linter.unusedSimpArgs false
set_option linter.unusedVariables false
set_option linter.deprecated false
namespace Go.Proofs.YtpggiabnhodjpaaGreatDoor
open Go Go.Ax
set_option maxRecDepth 100000
set_option maxHeartbeats 4000000
theorem nonneg_vQ {l : List RD} (h : nonneg l) {i : Nat} (hi : i < l.length) : 0 ≤ vQ (dyV l) i := by
  unfold vQ; rw [dyV_get]
  exact Rat.not_lt.1 fun hn => h i hi ((sign_lt0 _).2 hn)
theorem vQ_nonneg {l : List RD} (h : ∀ i, i < l.length → 0 ≤ vQ (dyV l) i) : nonneg l := fun i hi hs => by
  have := h i hi
  unfold vQ at this; rw [dyV_get] at this
  exact Rat.not_lt.2 this ((sign_lt0 _).1 hs)
theorem nonneg_can {l : List Dy} (h : ∀ i, i < l.length → 0 ≤ vQ l i) : nonneg (l.map can) := vQ_nonneg fun i hi => by
  rw [dyV_can]; rw [List.length_map] at hi; exact h i hi
theorem ckT_mk {a dv dv' : List (List RD)} {w w' : List RD} (h : ckT a dv w = 0) (hd : ckM dv' = 0) (ld : dv'.length = a.length) (ld0 : (dv'.getD 0 []).length = a.length) (lw : w'.length = a.length) (nd : nonnegM dv') (nw : nonneg w') : ckT a dv' w' = 0 := by
  obtain ⟨t1, t2, t3, t4, t5, t6, t7, t8, t9⟩ := ckT_zero h
  unfold ckT
  rw [if_neg (by omega), if_neg (by omega), if_neg (by omega), if_neg (by omega), if_neg (by omega), if_pos ⟨nd, nw⟩]
theorem fine.mono {k m : Nat} {a : List (List Dy)} (h : fine k a) (hk : k ≤ m) : fine m a := fun i j => Nat.le_trans (h i j) hk
theorem tubeD_mk {p q P Q : Nat} {a dv : List (List RD)} {w inner outer : List RD} {K : Int} (h : TubOK p q a.length a dv w inner outer) (hc : ckC a dv w K inner outer = 0) (fa : fine P (dyM a)) (fd : fine P (dyM dv)) (fw : fineV Q (dyV w)) (fi : fineV Q (dyV inner)) (fo : fineV Q (dyV outer)) :
    TubeD a.length P Q (dyM a) (dyM dv) (dyV w) (dyV inner) (dyV outer) := by
  obtain ⟨c1, c2, c3, c4, c5, c6, c7⟩ := ckC_zero hc
  obtain ⟨t1, t2, t3, t4, t5, t6, t7, t8, t9⟩ := ckT_zero c1
  refine ⟨h.ra, h.n1, h.rd, fa, fd, fw, fi, fo, fun i k hi hk => ?_, fun i hi => nonneg_vQ t9 (by omega), fun i hi => nonneg_vQ c6 (by omega), fun i hi => nonneg_vQ c7 (by omega)⟩
  have hrow := (ckM_zero t2).2.2 i (by omega)
  have := nonneg_vQ (t8 i (by omega)) (i := k) (by omega)
  unfold elQ el; rw [dyM_get]; exact this
section
variable {a dv : List (List RD)} {w inner outer : List RD}
end
end Go.Proofs.YtpggiabnhodjpaaGreatDoor
/- The reference's matrices (ref04): Zero, Add, Abs. -/
set_option linter.unusedSimpArgs false
set_option linter.unusedVariables false
set_option linter.deprecated false
namespace Go.Proofs.YtpggiabnhodjpaaGreatDoor
open Go Go.Ax
set_option maxRecDepth 100000
set_option maxHeartbeats 4000000
theorem ref_ZeroM (n m : Nat) (hn : n ≤ 10) (hm : m ≤ 10) : CallN Tryz.prog gl 17 [.v (.int .i64 n), .v (.int .i64 m)] (.ps 0 1 0 n) ((0, ⟨1, slots 1 n m⟩) :: nest 1 n (zr m)) (n + 1) := by
  refine call_n (C := ⟨Tryz.prog, gl, ti, 21, false⟩) ti_ok mixed 3000 Tryz.call17 Tryz.func17 rfl Tryz.ntmps17 (by simp) byClL ?_
  rw [Tryz.results17]
  repeat' (first | (simp only [go_sem, seval, IntKind.bits.eq_def, ti, tin, List.length_replicate]) | (simp (disch := omega) only [wA]) | refine aL ti_ok ?_ | refine dL ti_ok ?_ | refine dG ?_ | ((first | refine cC ?_ ?_ | refine gS ?_ ?_ | refine dS ?_ ?_) <;> intro hc <;> first | (exfalso; simp only [dcA] at hc; omega) | (simp only [hc]; try simp only [dcA] at hc)) | refine aO ?_ | refine dO ?_)
  refine l_loop (α := Nat) (fun i => ⟨[(1, .v (.int .i64 m)), (5, .ps 0 1 0 n), (10, .v (.int .i64 n)), (11, .v (.int .i64 i))], (0, ⟨1, slots 1 i m ++ List.replicate (n - i) [.v (.slice none 0 0)]⟩) :: nest 1 i (zr m), (i + 1)⟩) (fun i => i ≤ n) (fun i => n - i) (0) _ byFresh (fun _ h => by first | (cases h; done) | exact Nat.le_of_ble_eq_true rfl) ?_ ?_ ?_
  · exact Nat.zero_le _
  · exact byWeak
  rintro i hi
  by_cases hin : i < n
  ·
    have hD : (slots 1 i m).length = i := slots_len
    obtain ⟨q, hq⟩ : ∃ q, n - i = q + 1 := ⟨n - i - 1, by omega⟩
    have hrep : List.replicate (n - i) [AV.v (.slice none 0 0)] = [AV.v (.slice none 0 0)] :: List.replicate q [AV.v (.slice none 0 0)] := by rw [hq, List.replicate_succ]
    have hq2 : n - (i + 1) = q := by omega
    rw [hrep]
    have e1 := getD_mid (d := []) (x := [AV.v (.slice none 0 0)]) (R := List.replicate q [AV.v (.slice none 0 0)]) hD
    have e2 : ∀ v : List AV, _ := fun v => set_mid (x := [AV.v (.slice none 0 0)]) (y := v) (R := List.replicate q [AV.v (.slice none 0 0)]) hD
    have e3 : (slots 1 i m ++ [AV.v (.slice none 0 0)] :: List.replicate q [AV.v (.slice none 0 0)]).length = n := by rw [List.length_append, hD, List.length_cons, List.length_replicate]; omega
    have e9 : ∀ (M0 M1 : MB) (T : List (Nat × MB)), Ax.look ((i + 1, M1) :: (0, M0) :: T) 0 = some M0 := fun M0 M1 T => by
      simp only [Ax.look]; rw [if_neg (by omega)]; exact if_pos trivial
    repeat' (first | (simp only [go_sem, seval, IntKind.bits.eq_def, ti, tin, List.length_replicate, e1, e2, e3, e9]) | (simp (disch := omega) only [wA]) | refine aL ti_ok ?_ | refine dL ti_ok ?_ | refine dG ?_ | ((first | refine cC ?_ ?_ | refine gS ?_ ?_ | refine dS ?_ ?_) <;> intro hc <;> first | (exfalso; simp only [dcA] at hc; omega) | (simp only [hc]; try simp only [dcA] at hc)) | refine aO ?_ | refine dO ?_)
    refine roundEnd_of (α := Nat) (i + 1) (show i + 1 ≤ n by omega) (by omega) ?_
    rw [hq2]
    refine Weak.rowMade ?_ ?_ (fun b h1 h2 => ?_) zr_cl
    · repeat' (first | exact trivial | exact .inl ⟨_, rfl, .refl _, Cl.v _⟩ | exact .inr ⟨_, _, _, rfl, rfl⟩ | refine And.intro ?_ ?_)
    · show some (MB.mk 1 (slots 1 i m ++ [AV.ps (i + 1) 3 0 m] :: List.replicate q [AV.v (.slice none 0 0)])) = _
      rw [← slots_app, Nat.add_comm 1 i, List.append_assoc]; rfl
    · show Ax.look ((0, _) :: (i + 1, MB.mk 3 (zr m)) :: (0, _) :: nest 1 i (zr m)) b = _
      simp only [Ax.look]
      rw [if_neg (by omega)]
      by_cases hb : i + 1 = b
      · rw [if_pos hb]
      · rw [if_neg hb, if_neg (by omega)]; exact nest_has (by omega) (by omega)
  ·
    have hin2 : i = n := by omega
    subst hin2
    repeat' (first | (simp only [go_sem, seval, IntKind.bits.eq_def, ti, tin, List.length_replicate]) | (simp (disch := omega) only [wA]) | refine aL ti_ok ?_ | refine dL ti_ok ?_ | refine dG ?_ | ((first | refine cC ?_ ?_ | refine gS ?_ ?_ | refine dS ?_ ?_) <;> intro hc <;> first | (exfalso; simp only [dcA] at hc; omega) | (simp only [hc]; try simp only [dcA] at hc)) | refine aO ?_ | refine dO ?_)
    refine ⟨.inr rfl, ⟨_, _, rfl, ⟨trivial, trivial⟩, rfl⟩, ?_, Nat.le_refl _⟩
    show ∀ b m', _ → Ax.look ((0, MB.mk 1 (slots 1 i m ++ List.replicate (i - i) [AV.v (.slice none 0 0)])) :: nest 1 i (zr m)) b = some m'
    rw [Nat.sub_self, List.replicate_zero, List.append_nil]
    exact fun _ _ h => h
end Go.Proofs.YtpggiabnhodjpaaGreatDoor
/- The reference's matrices (ref04): Mul, Abs, Apply. -/
set_option linter.unusedSimpArgs false
set_option linter.unusedVariables false
set_option linter.deprecated false
namespace Go.Proofs.YtpggiabnhodjpaaGreatDoor
open Go Go.Ax
set_option maxRecDepth 100000
set_option maxHeartbeats 4000000
theorem refm_Abs (a : List (List RD)) (p : Nat) (h1 : ckM a = 0) (oa : okM p a) : CallOK Tryz.prog gl 88 [.sl 1 (mrows (a))] (.tup [.sl 1 (mrows (crM (absD (dyM a)))), .v (.int .i64 0)]) := by
  refine call_ok (C := ⟨Tryz.prog, gl, ti, 50, false⟩) ti_ok mixed 3000 Tryz.call88 Tryz.func88 rfl Tryz.ntmps88 (by simp) byClL byCl ?_
  rw [Tryz.results88]
  obtain ⟨a1, a2, a3, a4, a5⟩ := ckM_ok h1
  have c1 := ref_CheckM a (by omega)
  rw [h1] at c1
  rw [absD_raw]
  obtain ⟨n, hn⟩ : ∃ n, a.length = n := ⟨_, rfl⟩
  obtain ⟨m, hm⟩ : ∃ m, (a.getD 0 []).length = m := ⟨_, rfl⟩
  rw [hn] at a1 a2 a5 ⊢
  rw [hm] at a3 a4 a5 ⊢
  have r0 := mrows_getD (a := a) (i := 0) (by omega)
  have l0 : (vrows (a.getD 0 [])).length = m := by rw [vrows_length, hm]
  generalize hg : (fun i j => ((a.getD i []).getD j RD.zero).dy.abs) = g
  have hgi : ∀ i j, g i j = ((a.getD i []).getD j RD.zero).dy.abs := fun i j => by rw [← hg]
  clear hg
  repeat' (first | (simp only [go_sem, seval, IntKind.bits.eq_def, ti, tin, mrows_length, hn, r0, l0]) | (simp (disch := omega) only [wA]) | (with_reducible first | refine cF c1 ?_ | refine dF c1 ?_) | refine aL ti_ok ?_ | refine dL ti_ok ?_ | refine dG ?_ | ((first | refine cC ?_ ?_ | refine gS ?_ ?_ | refine dS ?_ ?_) <;> intro hc <;> first | (exfalso; simp only [dcA] at hc; omega) | (simp only [hc]; try simp only [dcA] at hc)) | refine aO ?_ | refine dO ?_)
  refine callF_n 12 rfl (show n + 1 ≤ 12 by omega) rfl ?_ zr_cl (.cons (.refl _) (.cons (.refl _) .nil)) (ref_ZeroM n m (by omega) (by omega)) ?_
  · repeat' (first | exact trivial | exact Cl.v _ | exact Cl.mat | exact Cl.vec | exact Cl.rp1 Cl.vec | exact Cl.rp1 Cl.mat | refine And.intro ?_ ?_)
  repeat' (first | (simp only [go_sem, seval, IntKind.bits.eq_def, ti, tin, mrows_length, hn]) | (simp (disch := omega) only [wA]) | refine aL ti_ok ?_ | refine dL ti_ok ?_ | refine dG ?_ | ((first | refine cC ?_ ?_ | refine gS ?_ ?_ | refine dS ?_ ?_) <;> intro hc <;> first | (exfalso; simp only [dcA] at hc; omega) | (simp only [hc]; try simp only [dcA] at hc)) | refine aO ?_ | refine dO ?_)
  refine l_loop (α := Nat) (fun i => ⟨[(0, .sl 1 (mrows (a))), (5, .ps 0 1 0 n), (20, .sl 1 (mrows (a))), (21, .v (.int .i64 n)), (22, .v (.int .i64 i))], (0, ⟨1, mrows (crM (tabD i m g)) ++ slots (i + 1) (n - i) m⟩) :: nest (i + 1) (n - i) (zr m), 12⟩) (fun i => i ≤ n) (fun i => n - i) (0) _ byFresh (fun _ h => by first | (cases h; done) | exact Nat.le_of_ble_eq_true rfl) ?_ ?_ ?_
  · exact Nat.zero_le _
  · refine Weak.rowsKeep (D := mrows (crM (tabD 0 m g))) (c := 0 + 1) (k := n - 0) (by omega) (by omega) (by omega) ?_ rfl (fun b h1 h2 => ?_) (mrows_cl _) zr_cl
    · repeat' (first | exact trivial | exact .inl ⟨_, rfl, .refl _, Cl.v _⟩ | exact .inl ⟨_, rfl, .refl _, Cl.mat⟩ | exact .inr ⟨_, _, _, rfl, rfl⟩ | refine And.intro ?_ ?_)
    · show Ax.look ((0, _) :: nest 1 n (zr m)) b = _
      simp only [Ax.look]; rw [if_neg (by omega)]; exact nest_has (by omega) (by omega)
  rintro i hi
  by_cases hin : i < n
  ·
    have ri := mrows_getD (a := a) (i := i) (by omega)
    have va : (vrows (a.getD i [])).length = m := by rw [vrows_length, a5 i hin]
    have la := a5 i hin
    have okA := oa i
    have hgk := hgi i
    generalize a.getD i [] = x at *
    obtain ⟨q, hq⟩ : ∃ q, n - i = q + 1 := ⟨n - i - 1, by omega⟩
    have hq2 : n - (i + 1) = q := by omega
    rw [hq]
    repeat' (first | (simp only [go_sem, seval, IntKind.bits.eq_def, ti, tin, mrows_length, hn, ri, va]) | (simp (disch := omega) only [wA]) | refine aL ti_ok ?_ | refine dL ti_ok ?_ | refine dG ?_ | ((first | refine cC ?_ ?_ | refine gS ?_ ?_ | refine dS ?_ ?_) <;> intro hc <;> first | (exfalso; simp only [dcA] at hc; omega) | (simp only [hc]; try simp only [dcA] at hc)) | refine aO ?_ | refine dO ?_)
    refine loop_weak0 (s' := ⟨[(0, .sl 1 (mrows a)), (5, .ps 0 1 0 n), (6, .v (.int .i64 i)), (20, .sl 1 (mrows a)), (21, .v (.int .i64 n)), (22, .v (.int .i64 i)), (29, .v (.int .i64 m)), (30, .v (.int .i64 ((0 : Nat) : Int)))], (1, ⟨3, vrows ((mixV m 0 (g i)).map can)⟩) :: (0, ⟨1, mrows (crM (tabD i m g)) ++ [.ps 1 3 0 m] :: slots (i + 1 + 1) q m⟩) :: nest (i + 1 + 1) q (zr m), 12⟩) ?_ (Nat.zero_lt_succ _) ?_
    · refine Weak.rowTakeL (c := i + 1) (by omega) (by omega) ?_ rfl (fun b h1 h2 => ?_) (mrows_cl _) zr_cl (by rw [mix_zero]; exact MLe.zr m) (vrows_cl _)
      · repeat' (first | exact trivial | exact .inl ⟨_, rfl, .refl _, Cl.v _⟩ | exact .inl ⟨_, rfl, .refl _, Cl.mat⟩ | exact .inr ⟨_, _, _, rfl, rfl⟩ | refine And.intro ?_ ?_)
      · show Ax.look ((0, _) :: nest (i + 1) (q + 1) (zr m)) b = _
        simp only [Ax.look]; rw [if_neg (by omega)]; exact nest_has (by omega) (by omega)
    refine l_loop (α := Nat) (fun k => ⟨[(0, .sl 1 (mrows (a))), (5, .ps 0 1 0 n), (6, .v (.int .i64 i)), (20, .sl 1 (mrows (a))), (21, .v (.int .i64 n)), (22, .v (.int .i64 i)), (29, .v (.int .i64 m)), (30, .v (.int .i64 k))], (1, ⟨3, vrows ((mixV m k (g i)).map can)⟩) :: (0, ⟨1, mrows (crM (tabD i m g)) ++ [.ps 1 3 0 m] :: slots (i + 1 + 1) q m⟩) :: nest (i + 1 + 1) q (zr m), 12⟩) (fun k => k ≤ m) (fun k => m - k) (0) _ byFresh (fun _ h => by first | (cases h; done) | exact Nat.le_of_ble_eq_true rfl) ?_ ?_ ?_
    · exact Nat.zero_le _
    · exact Weak.refl _
    rintro k hk
    by_cases hkm : k < m
    ·
      have rk := vrows_getD (l := x) (i := k) (by omega)
      have ad := ref_Abs _ _ _ _ (RD.arg (okA k).1)
      rw [← hgk k] at ad
      have hD : (mrows (crM (tabD i m g))).length = i := done_len
      have e1 := getD_mid (d := []) (x := [AV.ps 1 3 0 m]) (R := slots (i + 1 + 1) q m) hD
      have e3 : (mrows (crM (tabD i m g)) ++ [AV.ps 1 3 0 m] :: slots (i + 1 + 1) q m).length = n := by rw [List.length_append, hD, List.length_cons, slots_len]; omega
      have e4 : (vrows ((mixV m k (g i)).map can)).length = m := by rw [crows_length, mixV_len hk]
      have e7 : (vrows ((mixV m k (g i)).map can)).getD k [] = crow Dy.zero := by rw [crows_getD (by rw [mixV_len hk]; exact hkm), mixV_get hkm]
      have e6 : (vrows ((mixV m k (g i)).map can)).set k (crow (g i k)) = vrows ((mixV m (k + 1) (g i)).map can) := by rw [crows_set, mixV_step hkm]
      unfold vrow at rk
      generalize x.getD k RD.zero = r at *
      repeat' (first | (simp only [go_sem, seval, IntKind.bits.eq_def, ti, tin, mrows_length, hn, ri, va, rk, e1, e3, e4, e6, e7]) | (simp (disch := omega) only [wA]) | (with_reducible first | refine cF ad ?_ | refine dF ad ?_) | refine aL ti_ok ?_ | refine dL ti_ok ?_ | refine dG ?_ | ((first | refine cC ?_ ?_ | refine gS ?_ ?_ | refine dS ?_ ?_) <;> intro hc <;> first | (exfalso; simp only [dcA] at hc; omega) | (simp only [hc]; try simp only [dcA] at hc)) | refine aO ?_ | refine dO ?_)
      refine roundEnd_of (α := Nat) (k + 1) (show k + 1 ≤ m by omega) (by omega) ?_
      refine Weak.rowKeep (c := i + 1) (by omega) (by omega) ?_ rfl rfl (fun b h1 h2 => ?_) (mrows_cl _) zr_cl (vrows_cl _)
      · repeat' (first | exact trivial | exact .inl ⟨_, rfl, .refl _, Cl.v _⟩ | exact .inl ⟨_, rfl, .refl _, Cl.mat⟩ | exact .inl ⟨_, rfl, .refl _, Cl.vec⟩ | exact .inr ⟨_, _, _, rfl, rfl⟩ | refine And.intro ?_ ?_)
      · show Ax.look ((1, _) :: (1, _) :: (0, _) :: nest (i + 1 + 1) q (zr m)) b = _
        simp only [Ax.look]; rw [if_neg (by omega), if_neg (by omega), if_neg (by omega)]; exact nest_has (by omega) (by omega)
    ·
      have hkm2 : k = m := by omega
      subst hkm2
      repeat' (first | (simp only [go_sem, seval, IntKind.bits.eq_def, ti, tin]) | (simp (disch := omega) only [wA]) | refine aL ti_ok ?_ | refine dL ti_ok ?_ | refine dG ?_ | ((first | refine cC ?_ ?_ | refine gS ?_ ?_ | refine dS ?_ ?_) <;> intro hc <;> first | (exfalso; simp only [dcA] at hc; omega) | (simp only [hc]; try simp only [dcA] at hc)) | refine aO ?_ | refine dO ?_)
      refine roundEnd_of (α := Nat) (i + 1) (show i + 1 ≤ n by omega) (by omega) ?_
      rw [mixV_all]
      rw [tabD_done, hq2]
      refine Weak.rowDone (T := nest (i + 1 + 1) q (zr k)) ?_ rfl rfl vtab_len.symm (fun b M h => ?_) (no_cl (mrows_cl _)) (Nat.le_refl _)
      · repeat' (first | exact trivial | exact ⟨_, rfl, .refl _⟩ | refine And.intro ?_ ?_)
      · obtain ⟨g1, g2, rfl⟩ := nest_look h
        refine ⟨by omega, by omega, ?_⟩
        show Ax.look ((1, _) :: (0, _) :: nest (i + 1 + 1) q (zr k)) b = _
        simp only [Ax.look]; rw [if_neg (by omega), if_neg (by omega)]; exact h
  ·
    have hin2 : i = n := by omega
    subst hin2
    repeat' (first | (simp only [go_sem, seval, IntKind.bits.eq_def, ti, tin, mrows_length]) | (simp (disch := omega) only [wA]) | refine aL ti_ok ?_ | refine dL ti_ok ?_ | refine dG ?_ | ((first | refine cC ?_ ?_ | refine gS ?_ ?_ | refine dS ?_ ?_) <;> intro hc <;> first | (exfalso; simp only [dcA] at hc; omega) | (simp only [hc]; try simp only [dcA] at hc)) | refine aO ?_ | refine dO ?_)
    rw [Nat.sub_self]
    refine fin_pub trivial (.tup (.cons (.one (.ps rfl rfl (by show 0 + i ≤ _; rw [List.length_append, done_len]; omega))) (.cons (.one .same) .nil))) ?_
    show Le (.tup [.sl 1 (((mrows (crM (tabD i m g)) ++ []).drop 0).take i), _]) _
    rw [List.append_nil, List.drop_zero, List.take_of_length_le (by rw [done_len]; exact Nat.le_refl _)]
    exact .refl _
end Go.Proofs.YtpggiabnhodjpaaGreatDoor
