/- Layer 18 (tube): sums, products, boxes. -/
import Derived.Test.YtpggiabnhodjpaaGreatDoorTub1
import Derived.Test.YtpggiabnhodjpaaGreatDoorMat7a
import Derived.Test.YtpggiabnhodjpaaGreatDoorU4
set_option linter.unusedSimpArgs false
set_option linter.unusedVariables false
set_option linter.deprecated false
namespace Go.Proofs.YtpggiabnhodjpaaGreatDoor
open Go Go.Ax
set_option maxRecDepth 100000
set_option maxHeartbeats 4000000
theorem sumV_raw {x y : List RD} : sumV (dyV x) (dyV y) = tabV x.length fun i => (x.getD i RD.zero).dy.add (y.getD i RD.zero).dy := by
  unfold sumV
  rw [dyV_len]
  exact tabV_congr fun i _ => by rw [dyV_get, dyV_get]
theorem tub_sum (x y : List RD) (p : Nat) (hx : x.length ≤ 1000) (hxy : x.length = y.length) (ox : okV p x) (oy : okV p y) : CallOK Tryz.prog gl 86 [.sl 3 (vrows (x)), .sl 3 (vrows (y))] (.sl 3 (vrows ((sumV (dyV x) (dyV y)).map can))) := by
  refine call_ok (C := ⟨Tryz.prog, gl, ti, 26, false⟩) ti_ok mixed 3000 Tryz.call86 Tryz.func86 rfl Tryz.ntmps86 (by simp) byClL byCl ?_
  rw [Tryz.results86]
  rw [sumV_raw]
  obtain ⟨n, hn⟩ : ∃ n, x.length = n := ⟨_, rfl⟩
  have hn' : y.length = n := by omega
  rw [hn] at hx ⊢
  generalize hg : (fun i => (x.getD i RD.zero).dy.add (y.getD i RD.zero).dy) = g
  have hgi : ∀ i, g i = (x.getD i RD.zero).dy.add (y.getD i RD.zero).dy := fun i => by rw [← hg]
  clear hg
  repeat' (first | (simp only [go_sem, seval, IntKind.bits.eq_def, ti, tin, vrows_length, hn]) | (simp (disch := omega) only [wA]) | refine aL ti_ok ?_ | refine dL ti_ok ?_ | refine dG ?_ | ((first | refine cC ?_ ?_ | refine gS ?_ ?_ | refine dS ?_ ?_) <;> intro hc <;> first | (exfalso; simp only [dcA] at hc; omega) | (simp only [hc]; try simp only [dcA] at hc)) | refine aO ?_ | refine dO ?_)
  first | refine loop_weak (s' := ⟨[(0, .sl 3 (vrows (x))), (1, .sl 3 (vrows (y))), (5, .ps 1 3 0 ((0 : Nat))), (8, .v (.int .i64 n)), (9, .v (.int .i64 (((0 : Nat) : Int))))], [(1, ⟨3, []⟩)], 2⟩) ?_ (by first | exact Nat.le_refl _ | exact Nat.le_of_ble_eq_true rfl) ?_ | refine loop_weak0 (s' := ⟨[(0, .sl 3 (vrows (x))), (1, .sl 3 (vrows (y))), (5, .ps 1 3 0 ((0 : Nat))), (8, .v (.int .i64 n)), (9, .v (.int .i64 (((0 : Nat) : Int))))], [(1, ⟨3, []⟩)], 2⟩) ?_ (Nat.zero_lt_succ _) ?_
  · exact Weak.nilStart 1 3 (by decide) (by repeat' (first | exact trivial | exact .inr ⟨_, _, _, rfl, rfl⟩ | exact .inl ⟨_, rfl, .refl _, Cl.v _⟩ | exact .inl ⟨_, rfl, .refl _, Cl.vec⟩ | refine And.intro ?_ ?_))
  refine l_loop (α := Nat) (fun i => ⟨[(0, .sl 3 (vrows (x))), (1, .sl 3 (vrows (y))), (5, .ps 1 3 0 i), (8, .v (.int .i64 n)), (9, .v (.int .i64 i))], [(1, ⟨3, vrows ((tabV i g).map can)⟩)], 2⟩) (fun i => i ≤ n) (fun i => n - i) (0) _ byFresh (fun _ h => by first | (cases h; done) | exact Nat.le_of_ble_eq_true rfl) ?_ ?_ ?_
  · exact Nat.zero_le _
  · exact byWeak
  rintro i hi
  by_cases hin : i < n
  ·
    have ri := vrows_getD (l := x) (i := i) (by omega)
    have ri' := vrows_getD (l := y) (i := i) (by omega)
    have ad := Add_ok _ _ _ _ _ _ _ _ (RD.arg (ox i).1) (RD.arg (oy i).1)
    rw [← hgi i] at ad
    have e4 : (vrows ((tabV i g).map can)).length = i := vtab_len
    have e5 := vtab_step (k := i) (f := g)
    unfold vrow at ri ri'
    generalize x.getD i RD.zero = r at *
    generalize y.getD i RD.zero = r' at *
    repeat' (first | (simp only [go_sem, seval, IntKind.bits.eq_def, ti, tin, vrows_length, hn, hn', ri, ri', e4]) | (simp (disch := omega) only [wA]) | (with_reducible first | refine cF ad ?_ | refine dF ad ?_) | (refine drawAfter_app ti_ok rfl rfl rfl rfl rfl ⟨rfl, rfl, by decide⟩ rfl ⟨trivial, by (try simp only [List.length_cons, List.length_nil, List.length_append, u32s_length, List.length_map, vrows_length, hn, hn', ri, ri', e4]); omega, by (try simp only [List.length_cons, List.length_nil, List.length_append, u32s_length, List.length_map, vrows_length, hn, hn', ri, ri', e4]); omega, by (try simp only [List.length_cons, List.length_nil, List.length_append, u32s_length, List.length_map, vrows_length, hn, hn', ri, ri', e4]); omega⟩ byRows ?_) | refine aL ti_ok ?_ | refine dL ti_ok ?_ | refine dG ?_ | ((first | refine cC ?_ ?_ | refine gS ?_ ?_ | refine dS ?_ ?_) <;> intro hc <;> first | (exfalso; simp only [dcA] at hc; omega) | (simp only [hc]; try simp only [dcA] at hc)) | refine aO ?_ | refine dO ?_)
    refine roundEnd_of (α := Nat) (i + 1) (show i + 1 ≤ n by omega) (by omega) ?_
    rw [← e5]
    refine Weak.grown1 (c := 13) ?_ rfl (by rw [e5]; exact vrows_cl _)
    repeat' (first | exact trivial | exact .inl ⟨_, rfl, .refl _, Cl.v _⟩ | exact .inl ⟨_, rfl, .refl _, Cl.vec⟩ | exact .inr ⟨_, _, _, rfl, rfl⟩ | refine And.intro ?_ ?_)
  ·
    have hin2 : i = n := by omega
    subst hin2
    repeat' (first | (simp only [go_sem, seval, IntKind.bits.eq_def, ti, tin]) | (simp (disch := omega) only [wA]) | refine aL ti_ok ?_ | refine dL ti_ok ?_ | refine dG ?_ | ((first | refine cC ?_ ?_ | refine gS ?_ ?_ | refine dS ?_ ?_) <;> intro hc <;> first | (exfalso; simp only [dcA] at hc; omega) | (simp only [hc]; try simp only [dcA] at hc)) | refine aO ?_ | refine dO ?_)
    refine fin_pub trivial (.one (.one (.ps rfl rfl (by show 0 + i ≤ _; rw [vtab_len]; omega)))) ?_
    rw [List.drop_zero, List.take_of_length_le (by rw [vtab_len]; exact Nat.le_refl _)]
    exact .refl _
theorem tub_apply (a : List (List RD)) (x : List RD) (p q : Nat) (hp : p + q ≤ 1000000) (h : ckM a = 0) (hs : x.length = (a.getD 0 []).length) (oa : okM p a) (ox : okV q x) : CallOK Tryz.prog gl 87 [.sl 1 (mrows (a)), .sl 3 (vrows (x))] (.sl 3 (vrows ((appD (dyM a) (dyV x)).map can))) := by
  refine call_ok (C := ⟨Tryz.prog, gl, ti, 14, false⟩) ti_ok mixed 3000 Tryz.call87 Tryz.func87 rfl Tryz.ntmps87 (by simp) byClL byCl ?_
  rw [Tryz.results87]
  have m1 := mat_Apply a x p q hp h hs oa ox
  generalize appD (dyM a) (dyV x) = z at *
  repeat' (first | (simp only [go_sem, seval, IntKind.bits.eq_def, ti, tin]) | (simp (disch := omega) only [wA]) | (with_reducible first | refine cF m1 ?_ | refine dF m1 ?_) | refine aL ti_ok ?_ | refine dL ti_ok ?_ | refine dG ?_ | ((first | refine cC ?_ ?_ | refine gS ?_ ?_ | refine dS ?_ ?_) <;> intro hc <;> first | (exfalso; simp only [dcA] at hc; omega) | (simp only [hc]; try simp only [dcA] at hc)) | refine aO ?_ | refine dO ?_)
  all_goals exact fin_same trivial rfl
theorem withinD_raw {x y : List RD} : withinD (dyV x) (dyV y) = decide (∀ i, i < x.length → (x.getD i RD.zero).dy.abs.cmp (y.getD i RD.zero).dy ≤ 0) := by
  unfold withinD
  refine decide_eq_decide.2 ⟨fun h i hi => ?_, fun h i hi => ?_⟩
  · have := h i (by rw [dyV_len]; exact hi)
    rwa [dyV_get, dyV_get] at this
  · rw [dyV_len] at hi
    rw [dyV_get, dyV_get]; exact h i hi
theorem tub_within (x y : List RD) (p : Nat) (hp : p ≤ 1000000) (hx : x.length ≤ 1000) (hxy : x.length = y.length) (ox : okV p x) (oy : okV p y) : CallOK Tryz.prog gl 75 [.sl 3 (vrows (x)), .sl 3 (vrows (y))] (.v (.bool ((withinD (dyV x) (dyV y))))) := by
  refine call_ok (C := ⟨Tryz.prog, gl, ti, 23, false⟩) ti_ok mixed 3000 Tryz.call75 Tryz.func75 rfl Tryz.ntmps75 (by simp) byClL byCl ?_
  rw [Tryz.results75]
  rw [withinD_raw]
  obtain ⟨z, hz⟩ : ∃ z, decide (∀ i, i < x.length → (x.getD i RD.zero).dy.abs.cmp (y.getD i RD.zero).dy ≤ 0) = z := ⟨_, rfl⟩
  rw [hz]
  obtain ⟨m, hm⟩ : ∃ m, x.length = m := ⟨_, rfl⟩
  have hm' : y.length = m := by omega
  have hzT : (∀ j, j < m → (x.getD j RD.zero).dy.abs.cmp (y.getD j RD.zero).dy ≤ 0) → z = true := fun h => by rw [← hz]; exact decide_eq_true (fun j hj => h j (by omega))
  have hzF : ¬ (∀ j, j < m → (x.getD j RD.zero).dy.abs.cmp (y.getD j RD.zero).dy ≤ 0) → z = false := fun h => by rw [← hz]; exact decide_eq_false (fun hh => h (fun j hj => hh j (by omega)))
  clear hz
  rw [hm] at hx
  repeat' (first | (simp only [go_sem, seval, IntKind.bits.eq_def, ti, tin, vrows_length, hm]) | (simp (disch := omega) only [wA]) | refine aL ti_ok ?_ | refine dL ti_ok ?_ | refine dG ?_ | ((first | refine cC ?_ ?_ | refine gS ?_ ?_ | refine dS ?_ ?_) <;> intro hc <;> first | (exfalso; simp only [dcA] at hc; omega) | (simp only [hc]; try simp only [dcA] at hc)) | refine aO ?_ | refine dO ?_)
  refine l_loop (α := Nat) (fun j => ⟨[(0, .sl 3 (vrows (x))), (1, .sl 3 (vrows (y))), (7, .v (.int .i64 m)), (8, .v (.int .i64 j))], [], 0⟩) (fun j => j ≤ m ∧ ∀ j', j' < j → (x.getD j' RD.zero).dy.abs.cmp (y.getD j' RD.zero).dy ≤ 0) (fun j => m - j) (0) _ byFresh (fun _ h => by first | (cases h; done) | exact Nat.le_of_ble_eq_true rfl) ?_ ?_ ?_
  · exact ⟨Nat.zero_le _, fun j' h => by omega⟩
  · exact byWeak
  rintro j ⟨hj, hrow⟩
  by_cases hjm : j < m
  ·
    have rj := vrows_getD (l := x) (i := j) (by omega)
    have rj' := vrows_getD (l := y) (i := j) (by omega)
    have ab := Abs_ok _ _ _ _ (RD.arg (ox j).1)
    have cm := Cmp_ok _ _ _ _ _ _ _ _ ((Mg.abs (ox j).2).arg) (RD.arg (oy j).1)
    have hz3 : ¬ (x.getD j RD.zero).dy.abs.cmp (y.getD j RD.zero).dy ≤ 0 → z = false := fun h => hzF (fun hh => h (hh j hjm))
    have hstep2 : (x.getD j RD.zero).dy.abs.cmp (y.getD j RD.zero).dy ≤ 0 → ∀ j', j' < j + 1 → (x.getD j' RD.zero).dy.abs.cmp (y.getD j' RD.zero).dy ≤ 0 := fun h j' hj' => by
      by_cases e : j' = j
      · rw [e]; exact h
      · exact hrow j' (by omega)
    clear hrow hzT hzF ox oy
    unfold vrow at rj rj'
    generalize hc : (x.getD j RD.zero).dy.abs.cmp (y.getD j RD.zero).dy = c at *
    clear hc
    generalize (x.getD j RD.zero).dy.abs = A1 at *
    generalize x.getD j RD.zero = r at *
    generalize y.getD j RD.zero = r' at *
    by_cases hc0 : c ≤ 0
    ·
      have hrow2 := hstep2 hc0
      clear hstep2 hz3
      repeat' (first | (simp only [go_sem, seval, IntKind.bits.eq_def, ti, tin, vrows_length, hm, hm', rj, rj']) | (simp (disch := omega) only [wA]) | (with_reducible first | refine cF ab ?_ | refine dF ab ?_ | refine cF cm ?_ | refine dF cm ?_) | refine aL ti_ok ?_ | refine dL ti_ok ?_ | refine dG ?_ | ((first | refine cC ?_ ?_ | refine gS ?_ ?_ | refine dS ?_ ?_) <;> intro hc <;> first | (exfalso; simp only [dcA] at hc; omega) | (simp only [hc]; try simp only [dcA] at hc)) | refine aO ?_ | refine dO ?_)
      refine roundEnd_of (α := Nat) (j + 1) ⟨by omega, hrow2⟩ (by omega) ?_
      exact byWeak
    ·
      have hz4 := hz3 hc0
      subst hz4
      clear hstep2 hz3
      repeat' (first | (simp only [go_sem, seval, IntKind.bits.eq_def, ti, tin, vrows_length, hm, hm', rj, rj']) | (simp (disch := omega) only [wA]) | (with_reducible first | refine cF ab ?_ | refine dF ab ?_ | refine cF cm ?_ | refine dF cm ?_) | refine aL ti_ok ?_ | refine dL ti_ok ?_ | refine dG ?_ | ((first | refine cC ?_ ?_ | refine gS ?_ ?_ | refine dS ?_ ?_) <;> intro hc <;> first | (exfalso; simp only [dcA] at hc; omega) | (simp only [hc]; try simp only [dcA] at hc)) | refine aO ?_ | refine dO ?_)
      all_goals exact fin_same trivial rfl
  ·
    have hz2 : z = true := hzT (fun j' h => hrow j' (by omega))
    subst hz2
    repeat' (first | (simp only [go_sem, seval, IntKind.bits.eq_def, ti, tin]) | (simp (disch := omega) only [wA]) | refine aL ti_ok ?_ | refine dL ti_ok ?_ | refine dG ?_ | ((first | refine cC ?_ ?_ | refine gS ?_ ?_ | refine dS ?_ ?_) <;> intro hc <;> first | (exfalso; simp only [dcA] at hc; omega) | (simp only [hc]; try simp only [dcA] at hc)) | refine aO ?_ | refine dO ?_)
    all_goals exact fin_same trivial rfl
end Go.Proofs.YtpggiabnhodjpaaGreatDoor
