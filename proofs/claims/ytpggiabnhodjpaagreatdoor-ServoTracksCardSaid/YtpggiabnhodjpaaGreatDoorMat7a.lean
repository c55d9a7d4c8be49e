/- Layer 4 (matrix): Apply, Le, Norm. -/
import Derived.Test.YtpggiabnhodjpaaGreatDoorMat5
set_option linter.unusedSimpArgs false
set_option linter.unusedVariables false
set_option linter.deprecated false
namespace Go.Proofs.YtpggiabnhodjpaaGreatDoor
open Go Go.Ax
set_option maxRecDepth 100000
set_option maxHeartbeats 4000000
theorem mat_app1 (k : Nat) (x : List RD) (hk : k < x.length) (hl : x.length ≤ 1000) : CallOK Tryz.prog gl 177 [.v (.int .i64 k), .rp [.sl 3 (vrows x)]] (.agg [.v (.bool (x.getD k RD.zero).s), .sl 1 (u32s (x.getD k RD.zero).ws), .v (.int .i64 (x.getD k RD.zero).d)]) := by
  refine call_ok (C := ⟨Tryz.prog, gl, ti, 8, false⟩) ti_ok mixed 3000 Tryz.call177 Tryz.func177 rfl Tryz.ntmps177 (by simp) byClL byCl ?_
  rw [Tryz.results177]
  have rk := vrows_getD hk
  unfold vrow at rk
  generalize x.getD k RD.zero = r at *
  repeat' (first | (simp only [go_sem, seval, IntKind.bits.eq_def, ti, tin, vrows_length, rk]) | (simp (disch := omega) only [wA]) | refine aL ti_ok ?_ | refine dL ti_ok ?_ | refine dG ?_ | ((first | refine cC ?_ ?_ | refine gS ?_ ?_ | refine dS ?_ ?_) <;> intro hc <;> first | (exfalso; simp only [dcA] at hc; omega) | (simp only [hc]; try simp only [dcA] at hc)) | refine aO ?_ | refine dO ?_)
  all_goals exact fin_same trivial rfl
theorem appD_raw {a : List (List RD)} {x : List RD} {m : Nat} (h : ∀ i, i < a.length → (a.getD i []).length = m) : appD (dyM a) (dyV x) = tabV a.length fun i => sumD m fun k => ((a.getD i []).getD k RD.zero).dy.mul (x.getD k RD.zero).dy := by
  unfold appD
  rw [dyM_len]
  refine tabV_congr fun i hi => ?_
  unfold dotD
  rw [dyM_get, dyV_len, h i hi]
  exact sumD_congr fun k hk => by
    rw [dyV_get]
    show Dy.mul _ ((dyV x).getD k Dy.zero) = _
    rw [dyV_get]
theorem mat_Apply (a : List (List RD)) (x : List RD) (p q : Nat) (hp : p + q ≤ 1000000) (h : ckM a = 0) (hs : x.length = (a.getD 0 []).length) (oa : okM p a) (ox : okV q x) : CallOK Tryz.prog gl 148 [.sl 1 (mrows (a)), .sl 3 (vrows (x))] (.tup [.sl 3 (vrows ((appD (dyM a) (dyV x)).map can)), .v .nilIface]) := by
  refine call_ok (C := ⟨Tryz.prog, gl, ti, 37, false⟩) ti_ok mixed 3000 Tryz.call148 Tryz.func148 rfl Tryz.ntmps148 (by simp) byClL byCl ?_
  rw [Tryz.results148]
  obtain ⟨a1, a2, a3, a4, a5⟩ := ckM_ok h
  rw [appD_raw (fun i hi => (a5 i hi).trans hs.symm)]
  have c1 := mat_Check a (by omega)
  rw [h, eV_zero] at c1
  have r0 := mrows_getD (a := a) (i := 0) a1
  have l0 : (vrows (a.getD 0 [])).length = (a.getD 0 []).length := vrows_length _
  have c2 : ∀ i, i < a.length → CallOK Tryz.prog gl 176 [.sl 3 (vrows (a.getD i [])), .fn 177 [.rp [.sl 3 (vrows x)]]] (.agg (crow (sumD x.length fun k => ((a.getD i []).getD k RD.zero).dy.mul (x.getD k RD.zero).dy))) := fun i hi => by
    have := mat_dot 177 [.rp [.sl 3 (vrows x)]] (a.getD i []) (fun k => x.getD k RD.zero) p q (by rw [a5 i hi]; omega) hp (caps1 Cl.vec) (oa i) (fun k _ => ox k) (fun k hk => mat_app1 k x (by rw [a5 i hi] at hk; omega) (by omega))
    rwa [a5 i hi, ← hs] at this
  obtain ⟨n, hn⟩ : ∃ n, a.length = n := ⟨_, rfl⟩
  have hs2 : x.length = (a.getD 0 []).length := hs
  obtain ⟨m, hm⟩ : ∃ m, x.length = m := ⟨_, rfl⟩
  rw [hn] at c2 a1 a2 ⊢
  rw [hm] at c2 hs2 ⊢
  rw [← hs2] at l0
  have hm8 : m ≤ 8 := by omega
  clear oa ox a5 a3 a4
  generalize hg : (fun i => sumD m fun k => ((a.getD i []).getD k RD.zero).dy.mul (x.getD k RD.zero).dy) = g at *
  have c3 : ∀ i, i < n → CallOK Tryz.prog gl 176 [.sl 3 (vrows (a.getD i [])), .fn 177 [.rp [.sl 3 (vrows x)]]] (.agg (crow (g i))) := fun i hi => by rw [← hg]; exact c2 i hi
  clear c2 hg
  repeat' (first | (simp only [go_sem, seval, IntKind.bits.eq_def, ti, tin, mrows_length, vrows_length, r0, l0, hn, hm]) | (simp (disch := omega) only [wA]) | (with_reducible first | refine cF c1 ?_ | refine dF c1 ?_) | (refine after_boxF rfl rfl ?_) | refine aL ti_ok ?_ | refine dL ti_ok ?_ | refine dG ?_ | ((first | refine cC ?_ ?_ | refine gS ?_ ?_ | refine dS ?_ ?_) <;> intro hc <;> first | (exfalso; simp only [dcA] at hc; omega) | (simp only [hc]; try simp only [dcA] at hc)) | refine aO ?_ | refine dO ?_)
  first | refine loop_weak (s' := ⟨[(3, .rp [.sl 3 (vrows x)]), (7, .ps 1 3 0 ((0 : Nat))), (23, .sl 1 (mrows (a))), (24, .v (.int .i64 n)), (25, .v (.int .i64 (((0 : Nat) : Int))))], [(1, ⟨3, []⟩)], 2⟩) ?_ (by first | exact Nat.le_refl _ | exact Nat.le_of_ble_eq_true rfl) ?_ | refine loop_weak0 (s' := ⟨[(3, .rp [.sl 3 (vrows x)]), (7, .ps 1 3 0 ((0 : Nat))), (23, .sl 1 (mrows (a))), (24, .v (.int .i64 n)), (25, .v (.int .i64 (((0 : Nat) : Int))))], [(1, ⟨3, []⟩)], 2⟩) ?_ (Nat.zero_lt_succ _) ?_
  · exact Weak.nilStart 1 3 (by decide) (by repeat' (first | exact trivial | exact .inr ⟨_, _, _, rfl, rfl⟩ | exact .inl ⟨_, rfl, .refl _, Cl.v _⟩ | exact .inl ⟨_, rfl, .refl _, Cl.mat⟩ | exact .inl ⟨_, rfl, .refl _, Cl.rp1 Cl.vec⟩ | refine And.intro ?_ ?_))
  refine l_loop (α := Nat) (fun i => ⟨[(3, .rp [.sl 3 (vrows x)]), (7, .ps 1 3 0 i), (23, .sl 1 (mrows (a))), (24, .v (.int .i64 n)), (25, .v (.int .i64 i))], [(1, ⟨3, vrows ((tabV i g).map can)⟩)], 2⟩) (fun i => i ≤ n) (fun i => n - i) (0) _ byFresh (fun _ h => by first | (cases h; done) | exact Nat.le_of_ble_eq_true rfl) ?_ ?_ ?_
  · exact Nat.zero_le _
  · exact byWeak
  rintro i hi
  by_cases hin : i < n
  ·
    have ri := mrows_getD (a := a) (i := i) (by omega)
    have c4 := c3 i hin
    have e4 : (vrows ((tabV i g).map can)).length = i := vtab_len
    have e5 := vtab_step (k := i) (f := g)
    generalize g i = z at *
    have hfn : Cl (.fn 177 [.rp [.sl 3 (vrows x)]]) := Cl.fn (caps1 Cl.vec)
    repeat' (first | (simp only [go_sem, seval, IntKind.bits.eq_def, ti, tin, mrows_length, ri, e4]) | (simp (disch := omega) only [wA]) | (with_reducible first | refine cF c4 ?_ | refine dF c4 ?_) | (refine after_append_nil ti_ok rfl rfl rfl rfl ⟨rfl, by decide⟩ rfl ⟨trivial, by (try simp only [List.length_cons, List.length_nil, List.length_append, u32s_length, List.length_map, e4]); omega, by (try simp only [List.length_cons, List.length_nil, List.length_append, u32s_length, List.length_map, e4]); omega⟩ (fun _ => byRows) ?_) | (refine after_append_own ti_ok rfl rfl rfl rfl rfl ⟨rfl, rfl, by decide, Nat.le_of_ble_eq_true rfl⟩ (fun h => by first | (cases h; done) | decide) rfl ⟨trivial, by (try simp only [List.length_cons, List.length_nil, List.length_append, u32s_length, List.length_map, e4]); omega, by (try simp only [List.length_cons, List.length_nil, List.length_append, u32s_length, List.length_map, e4]); omega, by (try simp only [List.length_cons, List.length_nil, List.length_append, u32s_length, List.length_map, e4]); omega⟩ byRows byNoE byNoM ?_) | refine aL ti_ok ?_ | refine dL ti_ok ?_ | refine dG ?_ | ((first | refine cC ?_ ?_ | refine gS ?_ ?_ | refine dS ?_ ?_) <;> intro hc <;> first | (exfalso; simp only [dcA] at hc; omega) | (simp only [hc]; try simp only [dcA] at hc)) | refine aO ?_ | refine dO ?_)
    refine roundEnd_of (α := Nat) (i + 1) (show i + 1 ≤ n by omega) (by omega) ?_
    rw [← e5]
    exact byWeak
  ·
    have hin2 : i = n := by omega
    subst hin2
    repeat' (first | (simp only [go_sem, seval, IntKind.bits.eq_def, ti, tin, mrows_length]) | (simp (disch := omega) only [wA]) | refine aL ti_ok ?_ | refine dL ti_ok ?_ | refine dG ?_ | ((first | refine cC ?_ ?_ | refine gS ?_ ?_ | refine dS ?_ ?_) <;> intro hc <;> first | (exfalso; simp only [dcA] at hc; omega) | (simp only [hc]; try simp only [dcA] at hc)) | refine aO ?_ | refine dO ?_)
    all_goals (refine fin_pub trivial (.tup (.cons (.one (.ps rfl rfl (by show 0 + i ≤ _; rw [vtab_len]; omega))) (.cons (.one .same) .nil))) ?_; rw [List.drop_zero, List.take_of_length_le (by rw [vtab_len]; exact Nat.le_refl _)]; exact .refl _)
end Go.Proofs.YtpggiabnhodjpaaGreatDoor
/- Layer 4 (matrix): Norm. -/
set_option linter.unusedSimpArgs false
set_option linter.unusedVariables false
set_option linter.deprecated false
namespace Go.Proofs.YtpggiabnhodjpaaGreatDoor
open Go Go.Ax
set_option maxRecDepth 100000
set_option maxHeartbeats 4000000
theorem mg_maxD {k : Nat} {f : Nat → Dy} : ∀ {n : Nat}, (∀ i, i < n → Mg k (f i)) → Mg k (maxD n f)
  | 0, _ => Mg.zero _
  | n + 1, h => Mg.max (mg_maxD (n := n) fun i hi => h i (by omega)) (h n (by omega))
theorem normD_raw {a : List (List RD)} {m : Nat} (h : ∀ i, i < a.length → (a.getD i []).length = m) : normD (dyM a) = maxD a.length fun i => sumD m fun j => ((a.getD i []).getD j RD.zero).dy.abs := by
  unfold normD
  rw [dyM_len]
  refine maxD_congr fun i hi => ?_
  unfold rowN
  rw [dyM_get, dyV_len, h i hi]
  exact sumD_congr fun j hj => by rw [dyV_get]
def tabS {α : Type} (n : Nat) (f : Nat → α) : List α := (List.range n).map f
theorem tabS_len {α : Type} {n : Nat} {f : Nat → α} : (tabS n f).length = n := by simp [tabS]
theorem tabS_succ {α : Type} {n : Nat} {f : Nat → α} : tabS (n + 1) f = tabS n f ++ [f n] := by simp [tabS, List.range_succ]
end Go.Proofs.YtpggiabnhodjpaaGreatDoor
