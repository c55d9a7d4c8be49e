/- The reference's matrices (ref04): Identity, Power. -/
import Derived.Test.YtpggiabnhodjpaaGreatDoorMatA
import Derived.Test.YtpggiabnhodjpaaGreatDoorMat8
import Derived.Test.YtpggiabnhodjpaaGreatDoorQuo4
import Derived.Test.YtpggiabnhodjpaaGreatDoorU4
set_option linter.unusedSimpArgs false
set_option linter.unusedVariables false
set_option linter.deprecated false
namespace Go.Proofs.YtpggiabnhodjpaaGreatDoor
open Go Go.Ax
set_option maxRecDepth 100000
set_option maxHeartbeats 4000000
def uI (i j : Nat) : Dy := if i = j then Dy.int 1 else Dy.zero
def idMem (n i : Nat) : List (Nat × MB) :=
  if i < n then (1, ⟨3, vrows ((List.replicate n Dy.zero).map can)⟩) :: (0, ⟨1, mrows (crM (tabD i n uI)) ++ [.ps 1 3 0 n] :: slots (i + 1 + 1) (n - i - 1) n⟩) :: nest (i + 1 + 1) (n - i - 1) (zr n)
  else [(0, ⟨1, mrows (crM (tabD n n uI))⟩)]
theorem uI_row {n i : Nat} (h : i < n) : (List.replicate n Dy.zero).set i (Dy.int 1) = tabV n (uI i) := by
  refine list_ext (d := Dy.zero) (by simp [tabV_len]) fun j hj => ?_
  have hjn : j < n := by simpa using hj
  rw [tabV_get hjn]
  unfold uI
  by_cases e : i = j
  · subst e; rw [if_pos rfl]; simp [List.getD, hjn]
  · rw [if_neg e]; simp [List.getD, hjn, e]
theorem refm_Id (n : Nat) (h1 : 1 ≤ n) (h8 : n ≤ 8) : CallOK Tryz.prog gl 76 [.v (.int .i64 n)] (.tup [.sl 1 (mrows (crM (unitD n))), .v (.int .i64 0)]) := by
  refine call_ok (C := ⟨Tryz.prog, gl, ti, 29, false⟩) ti_ok mixed 3000 Tryz.call76 Tryz.func76 rfl Tryz.ntmps76 (by simp) byClL byCl ?_
  rw [Tryz.results76]
  have o1 := ref_Of 1 (by omega)
  repeat' (first | (simp only [go_sem, seval, IntKind.bits.eq_def, ti, tin]) | (simp (disch := omega) only [wA]) | refine aL ti_ok ?_ | refine dL ti_ok ?_ | refine dG ?_ | ((first | refine cC ?_ ?_ | refine gS ?_ ?_ | refine dS ?_ ?_) <;> intro hc <;> first | (exfalso; simp only [dcA] at hc; omega) | (simp only [hc]; try simp only [dcA] at hc)) | refine aO ?_ | refine dO ?_)
  refine callF_n 12 rfl (show n + 1 ≤ 12 by omega) rfl ?_ zr_cl (.cons (.refl _) (.cons (.refl _) .nil)) (ref_ZeroM n n (by omega) (by omega)) ?_
  · repeat' (first | exact trivial | exact Cl.v _ | exact Cl.mat | exact Cl.vec | refine And.intro ?_ ?_)
  repeat' (first | (simp only [go_sem, seval, IntKind.bits.eq_def, ti, tin]) | (simp (disch := omega) only [wA]) | refine aL ti_ok ?_ | refine dL ti_ok ?_ | refine dG ?_ | ((first | refine cC ?_ ?_ | refine gS ?_ ?_ | refine dS ?_ ?_) <;> intro hc <;> first | (exfalso; simp only [dcA] at hc; omega) | (simp only [hc]; try simp only [dcA] at hc)) | refine aO ?_ | refine dO ?_)
  refine l_loop (α := Nat) (fun i => ⟨[(4, .ps 0 1 0 n), (16, .v (.int .i64 n)), (17, .v (.int .i64 i))], idMem n i, 12⟩) (fun i => i ≤ n) (fun i => n - i) (0) _ byFresh (fun _ h => by first | (cases h; done) | exact Nat.le_of_ble_eq_true rfl) ?_ ?_ ?_
  · exact Nat.zero_le _
  · obtain ⟨q, rfl⟩ : ∃ q, n = q + 1 := ⟨n - 1, by omega⟩
    rw [show idMem (q + 1) 0 = (1, (⟨3, vrows ((List.replicate (q + 1) Dy.zero).map can)⟩ : MB)) :: (0, ⟨1, mrows (crM (tabD 0 (q + 1) uI)) ++ [.ps 1 3 0 (q + 1)] :: slots (1 + 1) q (q + 1)⟩) :: nest (1 + 1) q (zr (q + 1)) from if_pos (by omega)]
    refine Weak.rowTakeL (D := mrows (crM (tabD 0 (q + 1) uI))) (c := 1) (by omega) (by omega) ?_ rfl (fun b h1 h2 => ?_) (mrows_cl _) zr_cl (MLe.zr _) (vrows_cl _)
    · repeat' (first | exact trivial | exact .inl ⟨_, rfl, .refl _, Cl.v _⟩ | exact .inr ⟨_, _, _, rfl, rfl⟩ | refine And.intro ?_ ?_)
    · show Ax.look ((0, _) :: nest 1 (q + 1) (zr (q + 1))) b = _
      simp only [Ax.look]; rw [if_neg (by omega)]; exact nest_has (by omega) (by omega)
  rintro i hi
  by_cases hin : i < n
  ·
    have hmem : idMem n i = (1, (⟨3, vrows ((List.replicate n Dy.zero).map can)⟩ : MB)) :: (0, ⟨1, mrows (crM (tabD i n uI)) ++ [.ps 1 3 0 n] :: slots (i + 1 + 1) (n - i - 1) n⟩) :: nest (i + 1 + 1) (n - i - 1) (zr n) := if_pos hin
    rw [hmem]
    have hD : (mrows (crM (tabD i n uI))).length = i := done_len
    have e1 := getD_mid (d := []) (x := [AV.ps 1 3 0 n]) (R := slots (i + 1 + 1) (n - i - 1) n) hD
    have e3 : (mrows (crM (tabD i n uI)) ++ [AV.ps 1 3 0 n] :: slots (i + 1 + 1) (n - i - 1) n).length = n := by rw [List.length_append, hD, List.length_cons, slots_len]; omega
    have e4 : (vrows ((List.replicate n Dy.zero).map can)).length = n := by rw [crows_length, List.length_replicate]
    have e7 : (vrows ((List.replicate n Dy.zero).map can)).getD i [] = crow Dy.zero := by rw [crows_getD (by rw [List.length_replicate]; exact hin)]; simp [List.getD, hin]
    have e6 : (vrows ((List.replicate n Dy.zero).map can)).set i (crow (Dy.int 1)) = vrows ((tabV n (uI i)).map can) := by rw [crows_set, uI_row hin]
    generalize hq : n - i - 1 = q at *
    repeat' (first | (simp only [go_sem, seval, IntKind.bits.eq_def, ti, tin, e1, e3, e4, e6, e7]) | (simp (disch := omega) only [wA]) | (with_reducible first | refine cF o1 ?_ | refine dF o1 ?_) | refine aL ti_ok ?_ | refine dL ti_ok ?_ | refine dG ?_ | ((first | refine cC ?_ ?_ | refine gS ?_ ?_ | refine dS ?_ ?_) <;> intro hc <;> first | (exfalso; simp only [dcA] at hc; omega) | (simp only [hc]; try simp only [dcA] at hc)) | refine aO ?_ | refine dO ?_)
    refine roundEnd_of (α := Nat) (i + 1) (show i + 1 ≤ n by omega) (by omega) ?_
    by_cases hl : i + 1 < n
    · obtain ⟨q', rfl⟩ : ∃ q', q = q' + 1 := ⟨q - 1, by omega⟩
      rw [show idMem n (i + 1) = (1, (⟨3, vrows ((List.replicate n Dy.zero).map can)⟩ : MB)) :: (0, ⟨1, mrows (crM (tabD (i + 1) n uI)) ++ [.ps 1 3 0 n] :: slots (i + 1 + 1 + 1) (n - (i + 1) - 1) n⟩) :: nest (i + 1 + 1 + 1) (n - (i + 1) - 1) (zr n) from if_pos hl]
      rw [show n - (i + 1) - 1 = q' by omega]
      refine Weak.trans0 (s1 := ⟨[(4, .ps 0 1 0 n), (16, .v (.int .i64 n)), (17, .v (.int .i64 (i + 1 : Nat)))], (0, ⟨1, (mrows (crM (tabD i n uI)) ++ [[.sl 3 (vrows ((tabV n (uI i)).map can))]]) ++ slots (i + 1 + 1) (q' + 1) n⟩) :: nest (i + 1 + 1) (q' + 1) (zr n), 100⟩) (Weak.rowDone (T := nest (i + 1 + 1) (q' + 1) (zr n)) ?_ rfl rfl vtab_len.symm (fun b M h => ?_) (no_cl (mrows_cl _)) (Nat.le_of_ble_eq_true rfl)) (Nat.zero_lt_succ _) ?_
      · repeat' (first | exact trivial | exact ⟨_, rfl, .refl _⟩ | refine And.intro ?_ ?_)
      · obtain ⟨g1, g2, rfl⟩ := nest_look h
        refine ⟨by omega, by omega, ?_⟩
        show Ax.look ((1, _) :: (1, _) :: (0, _) :: nest (i + 1 + 1) (q' + 1) (zr n)) b = _
        simp only [Ax.look]; rw [if_neg (by omega), if_neg (by omega), if_neg (by omega)]; exact h
      · rw [← tabD_done]
        refine Weak.rowTakeL (c := i + 1 + 1) (by omega) (by omega) ?_ rfl (fun b h1 h2 => ?_) (mrows_cl _) zr_cl (MLe.zr _) (vrows_cl _)
        · repeat' (first | exact trivial | exact .inl ⟨_, rfl, .refl _, Cl.v _⟩ | exact .inr ⟨_, _, _, rfl, rfl⟩ | refine And.intro ?_ ?_)
        · show Ax.look ((0, _) :: nest (i + 1 + 1) (q' + 1) (zr n)) b = _
          simp only [Ax.look]; rw [if_neg (by omega)]; exact nest_has (by omega) (by omega)
    · have hq0 : q = 0 := by omega
      subst hq0
      have hin2 : i + 1 = n := by omega
      rw [show idMem n (i + 1) = [(0, (⟨1, mrows (crM (tabD n n uI))⟩ : MB))] from if_neg hl]
      have hT : mrows (crM (tabD n n uI)) = (mrows (crM (tabD i n uI)) ++ [[.sl 3 (vrows ((tabV n (uI i)).map can))]]) ++ [] := by
        conv => lhs; rw [show tabD n n uI = tabD (i + 1) n uI by rw [hin2]]
        rw [← tabD_done, List.append_nil]
      rw [hT]
      refine Weak.trans0 (s1 := ⟨[(4, .ps 0 1 0 n), (16, .v (.int .i64 n)), (17, .v (.int .i64 (i + 1 : Nat)))], (0, ⟨1, (mrows (crM (tabD i n uI)) ++ [[.sl 3 (vrows ((tabV n (uI i)).map can))]]) ++ []⟩) :: [], 100⟩) (Weak.rowDone (T := []) ?_ rfl rfl vtab_len.symm (fun b M h => by cases h) (no_cl (mrows_cl _)) (Nat.le_of_ble_eq_true rfl)) (Nat.zero_lt_succ _) ?_
      · repeat' (first | exact trivial | exact ⟨_, rfl, .refl _⟩ | refine And.intro ?_ ?_)
      · rw [← hT]
        exact byWeak
  ·
    have hin2 : i = n := by omega
    subst hin2
    rw [show idMem i i = [(0, (⟨1, mrows (crM (tabD i i uI))⟩ : MB))] from if_neg (Nat.lt_irrefl _)]
    repeat' (first | (simp only [go_sem, seval, IntKind.bits.eq_def, ti, tin]) | (simp (disch := omega) only [wA]) | refine aL ti_ok ?_ | refine dL ti_ok ?_ | refine dG ?_ | ((first | refine cC ?_ ?_ | refine gS ?_ ?_ | refine dS ?_ ?_) <;> intro hc <;> first | (exfalso; simp only [dcA] at hc; omega) | (simp only [hc]; try simp only [dcA] at hc)) | refine aO ?_ | refine dO ?_)
    refine fin_pub trivial (.tup (.cons (.one (.ps rfl rfl (by show 0 + i ≤ _; rw [done_len]; omega))) (.cons (.one .same) .nil))) ?_
    rw [List.drop_zero, List.take_of_length_le (by rw [done_len]; exact Nat.le_refl _)]
    exact .refl _
theorem refm_Power (a : List (List RD)) (k p n : Nat) (hp : p ≤ 1000) (h : ckM a = 0) (hn : a.length = n) (hs : (a.getD 0 []).length = n) (hk : k ≤ 64) (oa : okM p a) : CallOK Tryz.prog gl 18 [.sl 1 (mrows (a)), .v (.int .i64 k)] (.tup [.sl 1 (mrows (crM (powD (dyM a) k))), .v (.int .i64 0)]) := by
  refine call_ok (C := ⟨Tryz.prog, gl, ti, 44, false⟩) ti_ok mixed 3000 Tryz.call18 Tryz.func18 rfl Tryz.ntmps18 (by simp) byClL byCl ?_
  rw [Tryz.results18]
  obtain ⟨a1, a2, a3, a4, a5⟩ := ckM_ok h
  have c1 := ref_CheckM a (by omega)
  rw [h] at c1
  have r0 := mrows_getD (a := a) (i := 0) a1
  have l0 : (vrows (a.getD 0 [])).length = n := by rw [vrows_length, hs]
  have hr := rect_of h
  rw [hn, hs] at hr
  rw [hn] at a1 a2
  have u := refm_Id n a1 a2
  rw [show unitD n = powD (dyM a) 0 by unfold powD; rw [dyM_len, hn]] at u
  have gp : ∀ i, i ≤ 64 → ∀ x y, Mg 70000 (el (powD (dyM a) i) x y) := fun i hi x y => (mg_powD hr a1 (mg_el_raw oa) i x y).mono (by
    have : i * (p + n) ≤ 64 * 1008 := Nat.mul_le_mul hi (by omega)
    omega)
  have mu : ∀ i, i ≤ 64 → CallOK Tryz.prog gl 77 [.sl 1 (mrows (crM (powD (dyM a) i))), .sl 1 (mrows a)] (.tup [.sl 1 (mrows (crM (powD (dyM a) (i + 1)))), .v (.int .i64 0)]) := fun i hi => by
    have hri := pow_rect hr a1 i
    have := refm_Mul (crM (powD (dyM a) i)) a 70000 p (by omega) (by
      unfold bothE fitMul
      rw [if_pos (ckM_rect hri a1 a2 a1 a2), if_pos h, if_pos (decide_eq_true (by rw [crM_get, List.length_map, hri.2 0 a1, hn]))]) (okM_cr (gp i hi) (by omega)) oa
    rwa [dyM_cr] at this
  clear gp oa a5 a3 a4 hs
  generalize a.getD 0 [] = y at *
  repeat' (first | (simp only [go_sem, seval, IntKind.bits.eq_def, ti, tin, mrows_length, r0, l0, hn]) | (simp (disch := omega) only [wA]) | (with_reducible first | refine cF c1 ?_ | refine dF c1 ?_ | refine cF u ?_ | refine dF u ?_) | refine aL ti_ok ?_ | refine dL ti_ok ?_ | refine dG ?_ | ((first | refine cC ?_ ?_ | refine gS ?_ ?_ | refine dS ?_ ?_) <;> intro hc <;> first | (exfalso; simp only [dcA] at hc; omega) | (simp only [hc]; try simp only [dcA] at hc)) | refine aO ?_ | refine dO ?_)
  refine l_loop (α := Nat) (fun i => ⟨[(0, .sl 1 (mrows (a))), (7, .sl 1 (mrows (crM (powD (dyM a) i)))), (33, .v (.int .i64 k)), (34, .v (.int .i64 i))], [], 0⟩) (fun i => i ≤ k) (fun i => k - i) (0) _ byFresh (fun _ h => by first | (cases h; done) | exact Nat.le_of_ble_eq_true rfl) ?_ ?_ ?_
  · exact Nat.zero_le _
  · exact byWeak
  rintro i hi
  by_cases hik : i < k
  ·
    have c2 := mu i (by omega)
    repeat' (first | (simp only [go_sem, seval, IntKind.bits.eq_def, ti, tin]) | (simp (disch := omega) only [wA]) | (with_reducible first | refine cF c2 ?_ | refine dF c2 ?_) | refine aL ti_ok ?_ | refine dL ti_ok ?_ | refine dG ?_ | ((first | refine cC ?_ ?_ | refine gS ?_ ?_ | refine dS ?_ ?_) <;> intro hc <;> first | (exfalso; simp only [dcA] at hc; omega) | (simp only [hc]; try simp only [dcA] at hc)) | refine aO ?_ | refine dO ?_)
    refine roundEnd_of (α := Nat) (i + 1) (show i + 1 ≤ k by omega) (by omega) ?_
    exact byWeak
  ·
    have hik2 : i = k := by omega
    subst hik2
    repeat' (first | (simp only [go_sem, seval, IntKind.bits.eq_def, ti, tin]) | (simp (disch := omega) only [wA]) | refine aL ti_ok ?_ | refine dL ti_ok ?_ | refine dG ?_ | ((first | refine cC ?_ ?_ | refine gS ?_ ?_ | refine dS ?_ ?_) <;> intro hc <;> first | (exfalso; simp only [dcA] at hc; omega) | (simp only [hc]; try simp only [dcA] at hc)) | refine aO ?_ | refine dO ?_)
    all_goals exact fin_same trivial rfl
end Go.Proofs.YtpggiabnhodjpaaGreatDoor
set_option linter.unusedSimpArgs false
set_option linter.unusedVariables false
set_option linter.deprecated false
namespace Go.Proofs.YtpggiabnhodjpaaGreatDoor
open Go Go.Ax
set_option maxRecDepth 100000
set_option maxHeartbeats 4000000
def leV (x y : List RD) : Bool := decide (∀ j, j < x.length → (x.getD j RD.zero).dy.cmp (y.getD j RD.zero).dy ≤ 0)
theorem ref_LeRow (x y : List RD) (p : Nat) (hx : x.length ≤ 1000) (hxy : x.length = y.length) (ox : okV p x) (oy : okV p y) : CallOK Tryz.prog gl 82 [.sl 3 (vrows (x)), .sl 3 (vrows (y))] (.v (.bool ((leV x y)))) := by
  refine call_ok (C := ⟨Tryz.prog, gl, ti, 22, false⟩) ti_ok mixed 3000 Tryz.call82 Tryz.func82 rfl Tryz.ntmps82 (by simp) byClL byCl ?_
  rw [Tryz.results82]
  obtain ⟨z, hz⟩ : ∃ z, leV x y = z := ⟨_, rfl⟩
  rw [hz]
  obtain ⟨m, hm⟩ : ∃ m, x.length = m := ⟨_, rfl⟩
  have hm' : y.length = m := by omega
  have hzT : (∀ j, j < m → (x.getD j RD.zero).dy.cmp (y.getD j RD.zero).dy ≤ 0) → z = true := fun h => by rw [← hz]; exact decide_eq_true (fun j hj => h j (by omega))
  have hzF : ¬ (∀ j, j < m → (x.getD j RD.zero).dy.cmp (y.getD j RD.zero).dy ≤ 0) → z = false := fun h => by rw [← hz]; exact decide_eq_false (fun hh => h (fun j hj => hh j (by omega)))
  clear hz
  rw [hm] at hx
  repeat' (first | (simp only [go_sem, seval, IntKind.bits.eq_def, ti, tin, vrows_length, hm]) | (simp (disch := omega) only [wA]) | refine aL ti_ok ?_ | refine dL ti_ok ?_ | refine dG ?_ | ((first | refine cC ?_ ?_ | refine gS ?_ ?_ | refine dS ?_ ?_) <;> intro hc <;> first | (exfalso; simp only [dcA] at hc; omega) | (simp only [hc]; try simp only [dcA] at hc)) | refine aO ?_ | refine dO ?_)
  refine l_loop (α := Nat) (fun j => ⟨[(0, .sl 3 (vrows (x))), (1, .sl 3 (vrows (y))), (7, .v (.int .i64 m)), (8, .v (.int .i64 j))], [], 0⟩) (fun j => j ≤ m ∧ ∀ j', j' < j → (x.getD j' RD.zero).dy.cmp (y.getD j' RD.zero).dy ≤ 0) (fun j => m - j) (0) _ byFresh (fun _ h => by first | (cases h; done) | exact Nat.le_of_ble_eq_true rfl) ?_ ?_ ?_
  · exact ⟨Nat.zero_le _, fun j' h => by omega⟩
  · exact byWeak
  rintro j ⟨hj, hrow⟩
  by_cases hjm : j < m
  ·
    have rj := vrows_getD (l := x) (i := j) (by omega)
    have rj' := vrows_getD (l := y) (i := j) (by omega)
    have cm := ref_Cmp _ _ _ _ _ _ _ _ (RD.arg (ox j).1) (RD.arg (oy j).1)
    have hz3 : ¬ (x.getD j RD.zero).dy.cmp (y.getD j RD.zero).dy ≤ 0 → z = false := fun h => hzF (fun hh => h (hh j hjm))
    have hstep2 : (x.getD j RD.zero).dy.cmp (y.getD j RD.zero).dy ≤ 0 → ∀ j', j' < j + 1 → (x.getD j' RD.zero).dy.cmp (y.getD j' RD.zero).dy ≤ 0 := fun h j' hj' => by
      by_cases e : j' = j
      · rw [e]; exact h
      · exact hrow j' (by omega)
    clear hrow hzT hzF ox oy
    unfold vrow at rj rj'
    generalize hc : (x.getD j RD.zero).dy.cmp (y.getD j RD.zero).dy = c at *
    clear hc
    generalize x.getD j RD.zero = r at *
    generalize y.getD j RD.zero = r' at *
    by_cases hc0 : c ≤ 0
    ·
      have hrow2 := hstep2 hc0
      clear hstep2 hz3
      repeat' (first | (simp only [go_sem, seval, IntKind.bits.eq_def, ti, tin, vrows_length, hm, hm', rj, rj']) | (simp (disch := omega) only [wA]) | (with_reducible first | refine cF cm ?_ | refine dF cm ?_) | refine aL ti_ok ?_ | refine dL ti_ok ?_ | refine dG ?_ | ((first | refine cC ?_ ?_ | refine gS ?_ ?_ | refine dS ?_ ?_) <;> intro hc <;> first | (exfalso; simp only [dcA] at hc; omega) | (simp only [hc]; try simp only [dcA] at hc)) | refine aO ?_ | refine dO ?_)
      refine roundEnd_of (α := Nat) (j + 1) ⟨by omega, hrow2⟩ (by omega) ?_
      exact byWeak
    ·
      have hz4 := hz3 hc0
      subst hz4
      clear hstep2 hz3
      repeat' (first | (simp only [go_sem, seval, IntKind.bits.eq_def, ti, tin, vrows_length, hm, hm', rj, rj']) | (simp (disch := omega) only [wA]) | (with_reducible first | refine cF cm ?_ | refine dF cm ?_) | refine aL ti_ok ?_ | refine dL ti_ok ?_ | refine dG ?_ | ((first | refine cC ?_ ?_ | refine gS ?_ ?_ | refine dS ?_ ?_) <;> intro hc <;> first | (exfalso; simp only [dcA] at hc; omega) | (simp only [hc]; try simp only [dcA] at hc)) | refine aO ?_ | refine dO ?_)
      all_goals exact fin_same trivial rfl
  ·
    have hz2 : z = true := hzT (fun j' h => hrow j' (by omega))
    subst hz2
    repeat' (first | (simp only [go_sem, seval, IntKind.bits.eq_def, ti, tin]) | (simp (disch := omega) only [wA]) | refine aL ti_ok ?_ | refine dL ti_ok ?_ | refine dG ?_ | ((first | refine cC ?_ ?_ | refine gS ?_ ?_ | refine dS ?_ ?_) <;> intro hc <;> first | (exfalso; simp only [dcA] at hc; omega) | (simp only [hc]; try simp only [dcA] at hc)) | refine aO ?_ | refine dO ?_)
    all_goals exact fin_same trivial rfl
theorem refm_Norm (a : List (List RD)) (p : Nat) (hp : p ≤ 1000000) (h : ckM a = 0) (oa : okM p a) : CallOK Tryz.prog gl 19 [.sl 1 (mrows (a))] (.tup [.agg [.v (.bool (sg (normD (dyM a)))), .sl 1 (u32s (ms (normD (dyM a)))), .v (.int .i64 (dn (normD (dyM a))))], .v (.int .i64 0)]) := by
  refine call_ok (C := ⟨Tryz.prog, gl, ti, 39, false⟩) ti_ok mixed 3000 Tryz.call19 Tryz.func19 rfl Tryz.ntmps19 (by simp) byClL byCl ?_
  rw [Tryz.results19]
  obtain ⟨a1, a2, a3, a4, a5⟩ := ckM_ok h
  have c1 := ref_CheckM a (by omega)
  rw [h] at c1
  rw [normD_raw a5]
  obtain ⟨n, hn⟩ : ∃ n, a.length = n := ⟨_, rfl⟩
  obtain ⟨m, hm⟩ : ∃ m, (a.getD 0 []).length = m := ⟨_, rfl⟩
  rw [hn] at a1 a2 a5 ⊢
  rw [hm] at a3 a4 a5 ⊢
  have g0 : ∀ i j, j ≤ m → Mg (p + j) (sumD j fun j => ((a.getD i []).getD j RD.zero).dy.abs) := fun i j hj => mg_sumD fun j _ => Mg.abs (oa i j).2
  have gm : ∀ i, Mg (p + m) (maxD i fun i => sumD m fun j => ((a.getD i []).getD j RD.zero).dy.abs) := fun i => mg_maxD fun i _ => g0 i m (Nat.le_refl _)
  repeat' (first | (simp only [go_sem, seval, IntKind.bits.eq_def, ti, tin, mrows_length, hn]) | (simp (disch := omega) only [wA]) | (with_reducible first | refine cF c1 ?_ | refine dF c1 ?_) | refine aL ti_ok ?_ | refine dL ti_ok ?_ | refine dG ?_ | ((first | refine cC ?_ ?_ | refine gS ?_ ?_ | refine dS ?_ ?_) <;> intro hc <;> first | (exfalso; simp only [dcA] at hc; omega) | (simp only [hc]; try simp only [dcA] at hc)) | refine aO ?_ | refine dO ?_)
  refine l_loop (α := Nat) (fun i => ⟨[(2, .p 0 3 0 0), (5, .p 1 3 0 0), (17, .sl 1 (mrows (a))), (18, .v (.int .i64 n)), (19, .v (.int .i64 i))], [(0, ⟨3, [[.v (.bool (false)), .v (.slice none 0 0), .v (.int .i64 0)]]⟩), (1, ⟨3, [crow (maxD i fun i => sumD m fun j => ((a.getD i []).getD j RD.zero).dy.abs)]⟩)], 2⟩) (fun i => i ≤ n) (fun i => n - i) (0) _ byFresh (fun _ h => by first | (cases h; done) | exact Nat.le_of_ble_eq_true rfl) ?_ ?_ ?_
  · exact Nat.zero_le _
  · exact Weak.trans (Weak.mle 1 ⟨3, [crow Dy.zero]⟩ rfl MLe.dy0) (Nat.le_refl _) byWeak
  rintro i hi
  by_cases hin : i < n
  ·
    have ri := mrows_getD (a := a) (i := i) (by omega)
    have va : (vrows (a.getD i [])).length = m := by rw [vrows_length, a5 i hin]
    have la := a5 i hin
    have okA := oa i
    have gi := g0 i
    have gmi := gm i
    have es : (maxD (i + 1) fun i => sumD m fun j => ((a.getD i []).getD j RD.zero).dy.abs) = (maxD i fun i => sumD m fun j => ((a.getD i []).getD j RD.zero).dy.abs).max (sumD m fun j => ((a.getD i []).getD j RD.zero).dy.abs) := rfl
    generalize hM : (maxD i fun i => sumD m fun j => ((a.getD i []).getD j RD.zero).dy.abs) = MX at *
    generalize hx : a.getD i [] = x at *
    clear oa g0 gm a5 hM
    repeat' (first | (simp only [go_sem, seval, IntKind.bits.eq_def, ti, tin, mrows_length, hn, ri, va]) | (simp (disch := omega) only [wA]) | refine aL ti_ok ?_ | refine dL ti_ok ?_ | refine dG ?_ | ((first | refine cC ?_ ?_ | refine gS ?_ ?_ | refine dS ?_ ?_) <;> intro hc <;> first | (exfalso; simp only [dcA] at hc; omega) | (simp only [hc]; try simp only [dcA] at hc)) | refine aO ?_ | refine dO ?_)
    refine l_loop (α := Nat) (fun j => ⟨[(2, .p 0 3 0 0), (5, .p 1 3 0 0), (8, .p 2 3 0 0), (17, .sl 1 (mrows (a))), (18, .v (.int .i64 n)), (19, .v (.int .i64 i)), (23, .sl 3 (vrows (x))), (24, .v (.int .i64 m)), (25, .v (.int .i64 j))], [(0, ⟨3, [[.v (.bool (false)), .v (.slice none 0 0), .v (.int .i64 0)]]⟩), (1, ⟨3, [crow MX]⟩), (2, ⟨3, [crow (sumD j fun j => (x.getD j RD.zero).dy.abs)]⟩)], 3⟩) (fun j => j ≤ m) (fun j => m - j) (0) _ byFresh (fun _ h => by first | (cases h; done) | exact Nat.le_of_ble_eq_true rfl) ?_ ?_ ?_
    · exact Nat.zero_le _
    · exact Weak.trans (Weak.mle 2 ⟨3, [crow Dy.zero]⟩ rfl MLe.dy0) (Nat.le_refl _) byWeak
    rintro j hj
    by_cases hjm : j < m
    ·
      have rj := vrows_getD (l := x) (i := j) (by omega)
      have hxj := okA j
      have g1 := gi j hj
      have g2 : Mg p (x.getD j RD.zero).dy.abs := Mg.abs hxj.2
      have m1 := ref_Abs _ _ _ _ (RD.arg hxj.1)
      have s1 := ref_Add _ _ _ _ _ _ _ _ g1.arg g2.arg
      have ej : (sumD (j + 1) fun j => (x.getD j RD.zero).dy.abs) = (sumD j fun j => (x.getD j RD.zero).dy.abs).add (x.getD j RD.zero).dy.abs := rfl
      unfold vrow at rj
      clear g1 g2 hxj gi okA
      generalize (sumD j fun j => (x.getD j RD.zero).dy.abs) = S1 at *
      generalize (x.getD j RD.zero).dy.abs = S2 at *
      generalize x.getD j RD.zero = r at *
      repeat' (first | (simp only [go_sem, seval, IntKind.bits.eq_def, ti, tin, mrows_length, va, rj]) | (simp (disch := omega) only [wA]) | (with_reducible first | refine cF m1 ?_ | refine dF m1 ?_ | refine cF s1 ?_ | refine dF s1 ?_) | refine aL ti_ok ?_ | refine dL ti_ok ?_ | refine dG ?_ | ((first | refine cC ?_ ?_ | refine gS ?_ ?_ | refine dS ?_ ?_) <;> intro hc <;> first | (exfalso; simp only [dcA] at hc; omega) | (simp only [hc]; try simp only [dcA] at hc)) | refine aO ?_ | refine dO ?_)
      refine roundEnd_of (α := Nat) (j + 1) (show j + 1 ≤ m by omega) (by omega) ?_
      simp only [ej]
      exact byWeak
    ·
      have hjm2 : j = m := by omega
      subst hjm2
      have g3 := gi j (Nat.le_refl _)
      have mx := ref_Max _ _ _ _ _ _ _ _ gmi.arg g3.arg
      clear gi g3 gmi okA
      generalize (sumD j fun j => (x.getD j RD.zero).dy.abs) = S1 at *
      repeat' (first | (simp only [go_sem, seval, IntKind.bits.eq_def, ti, tin]) | (simp (disch := omega) only [wA]) | (with_reducible first | refine cF mx ?_ | refine dF mx ?_) | refine aL ti_ok ?_ | refine dL ti_ok ?_ | refine dG ?_ | ((first | refine cC ?_ ?_ | refine gS ?_ ?_ | refine dS ?_ ?_) <;> intro hc <;> first | (exfalso; simp only [dcA] at hc; omega) | (simp only [hc]; try simp only [dcA] at hc)) | refine aO ?_ | refine dO ?_)
      refine roundEnd_of (α := Nat) (i + 1) (show i + 1 ≤ n by omega) (by omega) ?_
      simp only [es]
      exact byWeak
  ·
    have hin2 : i = n := by omega
    subst hin2
    repeat' (first | (simp only [go_sem, seval, IntKind.bits.eq_def, ti, tin]) | (simp (disch := omega) only [wA]) | refine aL ti_ok ?_ | refine dL ti_ok ?_ | refine dG ?_ | ((first | refine cC ?_ ?_ | refine gS ?_ ?_ | refine dS ?_ ?_) <;> intro hc <;> first | (exfalso; simp only [dcA] at hc; omega) | (simp only [hc]; try simp only [dcA] at hc)) | refine aO ?_ | refine dO ?_)
    all_goals exact fin_same trivial rfl
end Go.Proofs.YtpggiabnhodjpaaGreatDoor
set_option linter.unusedSimpArgs false
set_option linter.unusedVariables false
set_option linter.deprecated false
namespace Go.Proofs.YtpggiabnhodjpaaGreatDoor
open Go Go.Ax
set_option maxRecDepth 100000
set_option maxHeartbeats 4000000
theorem r18_plus (x y : List RD) (p : Nat) (hx : x.length ≤ 1000) (hxy : x.length = y.length) (ox : okV p x) (oy : okV p y) : CallOK Tryz.prog gl 80 [.sl 3 (vrows (x)), .sl 3 (vrows (y))] (.sl 3 (vrows ((sumV (dyV x) (dyV y)).map can))) := by
  refine call_ok (C := ⟨Tryz.prog, gl, ti, 29, false⟩) ti_ok mixed 3000 Tryz.call80 Tryz.func80 rfl Tryz.ntmps80 (by simp) byClL byCl ?_
  rw [Tryz.results80]
  rw [sumV_raw]
  obtain ⟨n, hn⟩ : ∃ n, x.length = n := ⟨_, rfl⟩
  have hn' : y.length = n := by omega
  rw [hn] at hx ⊢
  generalize hg : (fun i => (x.getD i RD.zero).dy.add (y.getD i RD.zero).dy) = g
  have hgi : ∀ i, g i = (x.getD i RD.zero).dy.add (y.getD i RD.zero).dy := fun i => by rw [← hg]
  clear hg
  repeat' (first | (simp only [go_sem, seval, IntKind.bits.eq_def, ti, tin, vrows_length, hn]) | (simp (disch := omega) only [wA]) | refine aL ti_ok ?_ | refine dL ti_ok ?_ | refine dG ?_ | ((first | refine cC ?_ ?_ | refine gS ?_ ?_ | refine dS ?_ ?_) <;> intro hc <;> first | (exfalso; simp only [dcA] at hc; omega) | (simp only [hc]; try simp only [dcA] at hc)) | refine aO ?_ | refine dO ?_)
  refine l_loop (α := Nat) (fun i => ⟨[(0, .sl 3 (vrows (x))), (1, .sl 3 (vrows (y))), (5, .ps 0 3 0 n), (11, .v (.int .i64 n)), (12, .v (.int .i64 i))], [(0, ⟨3, vrows ((mixV n i g).map can)⟩)], 1⟩) (fun i => i ≤ n) (fun i => n - i) (0) _ byFresh (fun _ h => by first | (cases h; done) | exact Nat.le_of_ble_eq_true rfl) ?_ ?_ ?_
  · exact Nat.zero_le _
  · refine Weak.trans0 (Weak.mle 0 ⟨3, vrows ((List.replicate n Dy.zero).map can)⟩ rfl (MLe.zr n)) (by first | exact Nat.zero_lt_succ _ | exact Nat.le_of_ble_eq_true rfl) ?_
    rw [mix_zero]
    exact byWeak
  rintro i hi
  by_cases hin : i < n
  ·
    have ri := vrows_getD (l := x) (i := i) (by omega)
    have ri' := vrows_getD (l := y) (i := i) (by omega)
    have ad := ref_Add _ _ _ _ _ _ _ _ (RD.arg (ox i).1) (RD.arg (oy i).1)
    rw [← hgi i] at ad
    have e4 : (vrows ((mixV n i g).map can)).length = n := by rw [crows_length, mixV_len hi]
    have e6 : (vrows ((mixV n i g).map can)).set i (crow (g i)) = vrows ((mixV n (i + 1) g).map can) := by rw [crows_set, mixV_step hin]
    have e7 : (vrows ((mixV n i g).map can)).getD i [] = crow Dy.zero := by rw [crows_getD (by rw [mixV_len hi]; exact hin), mixV_get hin]
    unfold vrow at ri ri'
    generalize x.getD i RD.zero = r at *
    generalize y.getD i RD.zero = r' at *
    repeat' (first | (simp only [go_sem, seval, IntKind.bits.eq_def, ti, tin, vrows_length, hn, hn', ri, ri', e4, e6, e7]) | (simp (disch := omega) only [wA]) | (with_reducible first | refine cF ad ?_ | refine dF ad ?_) | refine aL ti_ok ?_ | refine dL ti_ok ?_ | refine dG ?_ | ((first | refine cC ?_ ?_ | refine gS ?_ ?_ | refine dS ?_ ?_) <;> intro hc <;> first | (exfalso; simp only [dcA] at hc; omega) | (simp only [hc]; try simp only [dcA] at hc)) | refine aO ?_ | refine dO ?_)
    refine roundEnd_of (α := Nat) (i + 1) (show i + 1 ≤ n by omega) (by omega) ?_
    exact byWeak
  ·
    have hin2 : i = n := by omega
    subst hin2
    repeat' (first | (simp only [go_sem, seval, IntKind.bits.eq_def, ti, tin]) | (simp (disch := omega) only [wA]) | refine aL ti_ok ?_ | refine dL ti_ok ?_ | refine dG ?_ | ((first | refine cC ?_ ?_ | refine gS ?_ ?_ | refine dS ?_ ?_) <;> intro hc <;> first | (exfalso; simp only [dcA] at hc; omega) | (simp only [hc]; try simp only [dcA] at hc)) | refine aO ?_ | refine dO ?_)
    rw [mixV_all]
    refine fin_pub trivial (.one (.one (.ps rfl rfl (by show 0 + i ≤ _; rw [vtab_len]; omega)))) ?_
    rw [List.drop_zero, List.take_of_length_le (by rw [vtab_len]; exact Nat.le_refl _)]
    exact .refl _
theorem r18_size (a dv : List (List RD)) (w x : List RD) (p q n j : Nat) (hp : p ≤ 100) (hq : q ≤ 300000) (h : ckM a = 0) (hn : a.length = n) (hs : (a.getD 0 []).length = n) (h6 : n ≤ 6) (hj : j ≤ 33) (hx : x.length = n) (oa : okM p a) (ox : okV q x) : CallOK Tryz.prog gl 81 [.agg [.sl 1 (mrows a), .sl 1 (mrows dv), .sl 3 (vrows w)], .v (.int .i64 j), .sl 3 (vrows (x))] (.sl 3 (vrows ((appD (absD (powD (dyM a) j)) (dyV x)).map can))) := by
  refine call_ok (C := ⟨Tryz.prog, gl, ti, 30, false⟩) ti_ok mixed 3000 Tryz.call81 Tryz.func81 rfl Tryz.ntmps81 (by simp) byClL byCl ?_
  rw [Tryz.results81]
  obtain ⟨a1, a2, a3, a4, a5⟩ := ckM_ok h
  have hr := rect_of h
  rw [hn, hs] at hr
  rw [hn] at a1 a2
  have hrj := pow_rect hr a1 j
  have gp : ∀ x y, Mg 4000 (el (powD (dyM a) j) x y) := fun x y => (mg_powD hr a1 (mg_el_raw oa) j x y).mono (by
    have : j * (p + n) ≤ 33 * 106 := Nat.mul_le_mul hj (by omega)
    omega)
  have p1 := refm_Power a j p n (by omega) h hn hs (by omega) oa
  have p2 := refm_Abs (crM (powD (dyM a) j)) 4000 (ckM_rect hrj a1 a2 a1 a2) (okM_cr gp (by omega))
  rw [dyM_cr] at p2
  have p3 := refm_Apply (crM (absD (powD (dyM a) j))) x 4000 q (by omega) (ckM_rect (rect_abs hrj a1) a1 a2 a1 a2) (by rw [crM_get, List.length_map, (rect_abs hrj a1).2 0 a1, hx]) (okM_cr (mgAbs hrj a1 gp) (by omega)) ox
  rw [dyM_cr] at p3
  clear gp oa ox
  generalize appD (absD (powD (dyM a) j)) (dyV x) = z at *
  generalize crM (absD (powD (dyM a) j)) = A at *
  generalize crM (powD (dyM a) j) = B at *
  repeat' (first | (simp only [go_sem, seval, IntKind.bits.eq_def, ti, tin]) | (simp (disch := omega) only [wA]) | (with_reducible first | refine cF p1 ?_ | refine dF p1 ?_ | refine cF p2 ?_ | refine dF p2 ?_ | refine cF p3 ?_ | refine dF p3 ?_) | refine aL ti_ok ?_ | refine dL ti_ok ?_ | refine dG ?_ | ((first | refine cC ?_ ?_ | refine gS ?_ ?_ | refine dS ?_ ?_) <;> intro hc <;> first | (exfalso; simp only [dcA] at hc; omega) | (simp only [hc]; try simp only [dcA] at hc)) | refine aO ?_ | refine dO ?_)
  all_goals exact fin_same trivial rfl
theorem r18_norm (a dv : List (List RD)) (w : List RD) (p n j : Nat) (hp : p ≤ 100) (h : ckM a = 0) (hn : a.length = n) (hs : (a.getD 0 []).length = n) (h6 : n ≤ 6) (hj : j ≤ 33) (oa : okM p a) : CallOK Tryz.prog gl 65 [.agg [.sl 1 (mrows a), .sl 1 (mrows dv), .sl 3 (vrows w)], .v (.int .i64 j)] (.agg [.v (.bool (sg (normD (powD (dyM a) j)))), .sl 1 (u32s (ms (normD (powD (dyM a) j)))), .v (.int .i64 (dn (normD (powD (dyM a) j))))]) := by
  refine call_ok (C := ⟨Tryz.prog, gl, ti, 22, false⟩) ti_ok mixed 3000 Tryz.call65 Tryz.func65 rfl Tryz.ntmps65 (by simp) byClL byCl ?_
  rw [Tryz.results65]
  obtain ⟨a1, a2, a3, a4, a5⟩ := ckM_ok h
  have hr := rect_of h
  rw [hn, hs] at hr
  rw [hn] at a1 a2
  have hrj := pow_rect hr a1 j
  have gp : ∀ x y, Mg 4000 (el (powD (dyM a) j) x y) := fun x y => (mg_powD hr a1 (mg_el_raw oa) j x y).mono (by
    have : j * (p + n) ≤ 33 * 106 := Nat.mul_le_mul hj (by omega)
    omega)
  have p1 := refm_Power a j p n (by omega) h hn hs (by omega) oa
  have p2 := refm_Norm (crM (powD (dyM a) j)) 4000 (by omega) (ckM_rect hrj a1 a2 a1 a2) (okM_cr gp (by omega))
  rw [dyM_cr] at p2
  clear gp oa
  generalize normD (powD (dyM a) j) = z at *
  generalize crM (powD (dyM a) j) = B at *
  repeat' (first | (simp only [go_sem, seval, IntKind.bits.eq_def, ti, tin]) | (simp (disch := omega) only [wA]) | (with_reducible first | refine cF p1 ?_ | refine dF p1 ?_ | refine cF p2 ?_ | refine dF p2 ?_) | refine aL ti_ok ?_ | refine dL ti_ok ?_ | refine dG ?_ | ((first | refine cC ?_ ?_ | refine gS ?_ ?_ | refine dS ?_ ?_) <;> intro hc <;> first | (exfalso; simp only [dcA] at hc; omega) | (simp only [hc]; try simp only [dcA] at hc)) | refine aO ?_ | refine dO ?_)
  all_goals exact fin_same trivial rfl
theorem leV_raw {x : List Dy} {y : List RD} : leV (x.map can) y = leVD x (dyV y) := by
  unfold leV leVD
  rw [List.length_map]
  exact decide_eq_decide.2 ⟨fun h j hj => by have := h j hj; rwa [canV_get, can_dy, ← dyV_get] at this, fun h j hj => by rw [canV_get, can_dy, ← dyV_get]; exact h j hj⟩
theorem r18_Reach {p q n : Nat} {a dv : List (List RD)} {w inner outer : List RD} (h : TubOK p q n a dv w inner outer) (K : Int) (j : Nat) (hj : j ≤ 32) :
    CallOK Tryz.prog gl 26 [.agg [.sl 1 (mrows a), .sl 1 (mrows dv), .sl 3 (vrows w)], .agg [.v (.int .i64 K), .sl 3 (vrows inner), .sl 3 (vrows outer)], .v (.int .i64 j)]
      (.sl 3 (vrows ((reachD (dyM a) (dyM dv) (dyV w) (dyV inner) (dyV outer) j).map can))) := by
  refine call_ok (C := ⟨Tryz.prog, gl, ti, 40, false⟩) ti_ok mixed 3000 Tryz.call26 Tryz.func26 rfl Tryz.ntmps26 (by simp) byClL byCl ?_
  rw [Tryz.results26]
  have hn6 := h.n6
  have hp := h.hp
  have hq := h.hq
  let PU := pushD (dyM dv) (dyV w) (dyV outer)
  have hPU : PU = sumV (appD (dyM dv) (dyV outer)) (dyV w) := rfl
  let X0 := appD (absD (powD (dyM a) j)) (dyV inner)
  let RR := refR (dyM a) PU X0
  have hX0 : X0.length = n := by show (appD _ _).length = n; rw [app_len, (rect_abs (pow_rect h.ra h.n1 j) h.n1).1]
  have x1 := refm_Apply dv outer p q (by omega) h.cd (by rw [h.lo, h.ld0]) h.od h.oo
  have x2 := r18_plus ((appD (dyM dv) (dyV outer)).map can) w (p + q + n) (by rw [List.length_map, app_len, dyM_len, h.ld]; omega) (by rw [List.length_map, app_len, dyM_len, h.ld, h.lw]) (okV_can (mgA h.rd (mg_el_raw h.od) (okV_get h.oo)) (by omega)) (fun i => (h.ow i).mono (by omega))
  rw [dyV_can, ← hPU] at x2
  have x3 := r18_size a dv w inner p q n j hp (by omega) h.ca h.la h.la0 hn6 (by omega) h.li h.oa h.oi
  have s1 : ∀ i, i < j → CallOK Tryz.prog gl 81 [.agg [.sl 1 (mrows a), .sl 1 (mrows dv), .sl 3 (vrows w)], .v (.int .i64 i), .sl 3 (vrows (PU.map can))] (.sl 3 (vrows ((appD (absD (powD (dyM a) i)) PU).map can))) := fun i hi => by
    have := r18_size a dv w (PU.map can) p (q + 300) n i hp (by omega) h.ca h.la h.la0 hn6 (by omega) (by rw [List.length_map, push_len h]) h.oa (okV_can h.gpush (by omega))
    rwa [dyV_can] at this
  have gR : ∀ i, i < j → ∀ k, Mg (q + 6000) ((RR i).getD k Dy.zero) := fun i hi k => by
    show Mg _ ((refR (dyM a) PU X0 i).getD k Dy.zero)
    rw [refR_eq h.ra hX0]
    exact (mg_sumV (k := q + 5033) (fun k => (mgA (rect_abs (pow_rect h.ra h.n1 j) h.n1) (fun x y => h.gs (by omega) x y) (okV_get h.oi) k).mono (by omega)) (fun k => (h.gdrift i (by omega) k).mono (by omega)) k).mono (by omega)
  have lR : ∀ i, (RR i).length = n := fun i => by
    show (refR (dyM a) PU X0 i).length = n
    rw [refR_eq h.ra hX0, sumV_len, hX0]
  have s2 : ∀ i, i < j → CallOK Tryz.prog gl 80 [.sl 3 (vrows ((RR i).map can)), .sl 3 (vrows ((appD (absD (powD (dyM a) i)) PU).map can))] (.sl 3 (vrows ((RR (i + 1)).map can))) := fun i hi => by
    have := r18_plus ((RR i).map can) ((appD (absD (powD (dyM a) i)) PU).map can) (q + 6000) (by rw [List.length_map, lR]; omega) (by rw [List.length_map, List.length_map, lR, app_len, (rect_abs (pow_rect h.ra h.n1 i) h.n1).1])
      (okV_can (gR i hi) (by omega)) (okV_can (fun k => (mgA (rect_abs (pow_rect h.ra h.n1 i) h.n1) (fun x y => h.gs (by omega) x y) h.gpush k).mono (by omega)) (by omega))
    rwa [dyV_can, dyV_can] at this
  have eR : reachD (dyM a) (dyM dv) (dyV w) (dyV inner) (dyV outer) j = RR j := (refR_reach h.ra h.n1 j).symm
  have e0 : X0 = RR 0 := rfl
  rw [eR]
  change CallOK _ _ _ _ (.sl 3 (vrows (X0.map can))) at x3
  rw [e0] at x3
  clear gR lR eR e0 hX0 hPU h
  clear_value RR
  clear_value PU
  repeat' (first | (simp only [go_sem, seval, IntKind.bits.eq_def, ti, tin]) | (simp (disch := omega) only [wA]) | (with_reducible first | refine cF x1 ?_ | refine dF x1 ?_ | refine cF x2 ?_ | refine dF x2 ?_ | refine cF x3 ?_ | refine dF x3 ?_) | refine aL ti_ok ?_ | refine dL ti_ok ?_ | refine dG ?_ | ((first | refine cC ?_ ?_ | refine gS ?_ ?_ | refine dS ?_ ?_) <;> intro hc <;> first | (exfalso; simp only [dcA] at hc; omega) | (simp only [hc]; try simp only [dcA] at hc)) | refine aO ?_ | refine dO ?_)
  refine l_loop (α := Nat) (fun i => ⟨[(3, .p 0 3 0 0), (4, .p 1 3 0 0), (7, .sl 3 (vrows (PU.map can))), (9, .sl 3 (vrows ((RR i).map can))), (28, .v (.int .i64 j)), (29, .v (.int .i64 i))], [(1, ⟨3, [[.v (.int .i64 K), .sl 3 (vrows inner), .sl 3 (vrows outer)]]⟩), (0, ⟨3, [[.sl 1 (mrows a), .sl 1 (mrows dv), .sl 3 (vrows w)]]⟩)], 2⟩) (fun i => i ≤ j) (fun i => j - i) (0) _ byFresh (fun _ h => by first | (cases h; done) | exact Nat.le_of_ble_eq_true rfl) ?_ ?_ ?_
  · exact Nat.zero_le _
  · exact byWeak
  rintro i hi
  by_cases hin : i < j
  ·
    have y1 := s1 i hin
    have y2 := s2 i hin
    clear s1 s2
    repeat' (first | (simp only [go_sem, seval, IntKind.bits.eq_def, ti, tin]) | (simp (disch := omega) only [wA]) | (with_reducible first | refine cF y1 ?_ | refine dF y1 ?_ | refine cF y2 ?_ | refine dF y2 ?_) | refine aL ti_ok ?_ | refine dL ti_ok ?_ | refine dG ?_ | ((first | refine cC ?_ ?_ | refine gS ?_ ?_ | refine dS ?_ ?_) <;> intro hc <;> first | (exfalso; simp only [dcA] at hc; omega) | (simp only [hc]; try simp only [dcA] at hc)) | refine aO ?_ | refine dO ?_)
    refine roundEnd_of (α := Nat) (i + 1) (show i + 1 ≤ j by omega) (by omega) ?_
    exact byWeak
  ·
    have hin2 : i = j := by omega
    subst hin2
    repeat' (first | (simp only [go_sem, seval, IntKind.bits.eq_def, ti, tin]) | (simp (disch := omega) only [wA]) | refine aL ti_ok ?_ | refine dL ti_ok ?_ | refine dG ?_ | ((first | refine cC ?_ ?_ | refine gS ?_ ?_ | refine dS ?_ ?_) <;> intro hc <;> first | (exfalso; simp only [dcA] at hc; omega) | (simp only [hc]; try simp only [dcA] at hc)) | refine aO ?_ | refine dO ?_)
    all_goals exact fin_same trivial rfl
theorem r18_Accepts {p q n : Nat} {a dv : List (List RD)} {w inner outer : List RD} (h : TubOK p q n a dv w inner outer) (K : Nat) (hK : K ≤ 32) :
    CallOK Tryz.prog gl 27 [.agg [.sl 1 (mrows a), .sl 1 (mrows dv), .sl 3 (vrows w)], .agg [.v (.int .i64 K), .sl 3 (vrows inner), .sl 3 (vrows outer)]]
      (.v (.bool (acceptsR K (dyM a) (dyM dv) (dyV w) (dyV inner) (dyV outer)))) := by
  refine call_ok (C := ⟨Tryz.prog, gl, ti, 28, false⟩) ti_ok mixed 3000 Tryz.call27 Tryz.func27 rfl Tryz.ntmps27 (by simp) byClL byCl ?_
  rw [Tryz.results27]
  have hq := h.hq
  have hn6 := h.n6
  let R := reachD (dyM a) (dyM dv) (dyV w) (dyV inner) (dyV outer)
  have rr : ∀ j, j ≤ K → CallOK Tryz.prog gl 26 [.agg [.sl 1 (mrows a), .sl 1 (mrows dv), .sl 3 (vrows w)], .agg [.v (.int .i64 K), .sl 3 (vrows inner), .sl 3 (vrows outer)], .v (.int .i64 j)] (.sl 3 (vrows ((R j).map can))) := fun j hj => r18_Reach h K j (by omega)
  have w1 : ∀ j, j ≤ K → CallOK Tryz.prog gl 82 [.sl 3 (vrows ((R j).map can)), .sl 3 (vrows outer)] (.v (.bool (leVD (R j) (dyV outer)))) := fun j hj => by
    have := ref_LeRow ((R j).map can) outer (q + 6000) (by rw [List.length_map, reach_len h]; omega) (by rw [List.length_map, reach_len h, h.lo]) (okV_can (fun i => h.greach (by omega) i) (by omega)) (fun i => ⟨(h.oo i).1, (h.oo i).2.mono (by omega)⟩)
    rwa [leV_raw] at this
  have w2 : CallOK Tryz.prog gl 82 [.sl 3 (vrows ((R K).map can)), .sl 3 (vrows inner)] (.v (.bool (leVD (R K) (dyV inner)))) := by
    have := ref_LeRow ((R K).map can) inner (q + 6000) (by rw [List.length_map, reach_len h]; omega) (by rw [List.length_map, reach_len h, h.li]) (okV_can (fun i => h.greach (by omega) i) (by omega)) (fun i => ⟨(h.oi i).1, (h.oi i).2.mono (by omega)⟩)
    rwa [leV_raw] at this
  obtain ⟨z, hz⟩ : ∃ z, acceptsR K (dyM a) (dyM dv) (dyV w) (dyV inner) (dyV outer) = z := ⟨_, rfl⟩
  rw [hz]
  have hzT : (∀ j, j < K → leVD (R j) (dyV outer) = true) → leVD (R K) (dyV inner) = z := fun h => by
    rw [← hz]; unfold acceptsR; rw [decide_eq_true h, Bool.true_and]
  have hzF : ¬ (∀ j, j < K → leVD (R j) (dyV outer) = true) → z = false := fun h => by
    rw [← hz]; unfold acceptsR; rw [decide_eq_false h, Bool.false_and]
  clear hz h
  clear_value R
  repeat' (first | (simp only [go_sem, seval, IntKind.bits.eq_def, ti, tin]) | (simp (disch := omega) only [wA]) | refine aL ti_ok ?_ | refine dL ti_ok ?_ | refine dG ?_ | ((first | refine cC ?_ ?_ | refine gS ?_ ?_ | refine dS ?_ ?_) <;> intro hc <;> first | (exfalso; simp only [dcA] at hc; omega) | (simp only [hc]; try simp only [dcA] at hc)) | refine aO ?_ | refine dO ?_)
  refine l_loop (α := Nat) (fun j => ⟨[(2, .p 0 3 0 0), (3, .p 1 3 0 0), (7, .v (.int .i64 K)), (8, .v (.int .i64 j))], [(1, ⟨3, [[.v (.int .i64 K), .sl 3 (vrows inner), .sl 3 (vrows outer)]]⟩), (0, ⟨3, [[.sl 1 (mrows a), .sl 1 (mrows dv), .sl 3 (vrows w)]]⟩)], 2⟩) (fun j => j ≤ K ∧ ∀ j', j' < j → leVD (R j') (dyV outer) = true) (fun j => K - j) (0) _ byFresh (fun _ h => by first | (cases h; done) | exact Nat.le_of_ble_eq_true rfl) ?_ ?_ ?_
  · exact ⟨Nat.zero_le _, fun j' h => by omega⟩
  · exact byWeak
  rintro j ⟨hj, hrow⟩
  by_cases hjm : j < K
  ·
    have y1 := rr j (by omega)
    have y2 := w1 j (by omega)
    have hz3 : ¬ leVD (R j) (dyV outer) = true → z = false := fun h => hzF (fun hh => h (hh j hjm))
    have hstep2 : leVD (R j) (dyV outer) = true → ∀ j', j' < j + 1 → leVD (R j') (dyV outer) = true := fun h j' hj' => by
      by_cases e : j' = j
      · rw [e]; exact h
      · exact hrow j' (by omega)
    clear hrow hzT hzF w1 w2 rr
    by_cases hc0 : leVD (R j) (dyV outer) = true
    ·
      have hrow2 := hstep2 hc0
      rw [hc0] at y2
      clear hstep2 hz3
      repeat' (first | (simp only [go_sem, seval, IntKind.bits.eq_def, ti, tin]) | (simp (disch := omega) only [wA]) | (with_reducible first | refine cF y1 ?_ | refine dF y1 ?_ | refine cF y2 ?_ | refine dF y2 ?_) | refine aL ti_ok ?_ | refine dL ti_ok ?_ | refine dG ?_ | ((first | refine cC ?_ ?_ | refine gS ?_ ?_ | refine dS ?_ ?_) <;> intro hc <;> first | (exfalso; simp only [dcA] at hc; omega) | (simp only [hc]; try simp only [dcA] at hc)) | refine aO ?_ | refine dO ?_)
      refine roundEnd_of (α := Nat) (j + 1) ⟨by omega, hrow2⟩ (by omega) ?_
      exact byWeak
    ·
      have hz4 := hz3 hc0
      subst hz4
      rw [Bool.not_eq_true] at hc0
      rw [hc0] at y2
      clear hstep2 hz3
      repeat' (first | (simp only [go_sem, seval, IntKind.bits.eq_def, ti, tin]) | (simp (disch := omega) only [wA]) | (with_reducible first | refine cF y1 ?_ | refine dF y1 ?_ | refine cF y2 ?_ | refine dF y2 ?_) | refine aL ti_ok ?_ | refine dL ti_ok ?_ | refine dG ?_ | ((first | refine cC ?_ ?_ | refine gS ?_ ?_ | refine dS ?_ ?_) <;> intro hc <;> first | (exfalso; simp only [dcA] at hc; omega) | (simp only [hc]; try simp only [dcA] at hc)) | refine aO ?_ | refine dO ?_)
      all_goals exact fin_same trivial rfl
  ·
    have hj2 : j = K := by omega
    subst hj2
    have hz2 := hzT hrow
    have y1 := rr j (Nat.le_refl _)
    rw [hz2] at w2
    clear hrow hzT hzF w1 rr hz2
    repeat' (first | (simp only [go_sem, seval, IntKind.bits.eq_def, ti, tin]) | (simp (disch := omega) only [wA]) | (with_reducible first | refine cF y1 ?_ | refine dF y1 ?_ | refine cF w2 ?_ | refine dF w2 ?_) | refine aL ti_ok ?_ | refine dL ti_ok ?_ | refine dG ?_ | ((first | refine cC ?_ ?_ | refine gS ?_ ?_ | refine dS ?_ ?_) <;> intro hc <;> first | (exfalso; simp only [dcA] at hc; omega) | (simp only [hc]; try simp only [dcA] at hc)) | refine aO ?_ | refine dO ?_)
    all_goals exact fin_same trivial rfl
end Go.Proofs.YtpggiabnhodjpaaGreatDoor
set_option linter.unusedSimpArgs false
set_option linter.unusedVariables false
set_option linter.deprecated false
namespace Go.Proofs.YtpggiabnhodjpaaGreatDoor
open Go Go.Ax
set_option maxRecDepth 100000
set_option maxHeartbeats 4000000
theorem r18_up (x y : Dy) (k q : Nat) (den : Nat) (hk : k ≤ 100000) (hq : q ≤ 100000) (hd : den ≤ 65536) (gx : Mg k x) (gy : Mg q y) (hy : y.n ≠ 0) : CallOK Tryz.prog gl 71 [.agg [.v (.bool (sg (x))), .sl 1 (u32s (ms (x))), .v (.int .i64 (dn (x)))], .agg [.v (.bool (sg (y))), .sl 1 (u32s (ms (y))), .v (.int .i64 (dn (y)))], .v (.int .i64 den)] (.agg [.v (.bool (sg (upD x y den))), .sl 1 (u32s (ms (upD x y den))), .v (.int .i64 (dn (upD x y den)))]) := by
  refine call_ok (C := ⟨Tryz.prog, gl, ti, 19, false⟩) ti_ok mixed 3000 Tryz.call71 Tryz.func71 rfl Tryz.ntmps71 (by simp) byClL byCl ?_
  rw [Tryz.results71]
  have n1 := ref_Neg _ _ _ _ (gx.arg)
  have q1 := ref_Quo _ _ _ _ _ _ den hd _ _ (gx.neg.arg) (gy.arg) hy
  have hyd := y.ok.1
  have gq : Mg (k + y.d + 1) (x.neg.quo y den) := gx.neg.quo hy
  have n2 := ref_Neg _ _ _ _ (gq.arg)
  unfold upD
  clear gq gx gy
  generalize (x.neg.quo y den).neg = z1 at *
  generalize x.neg.quo y den = z2 at *
  generalize x.neg = z3 at *
  repeat' (first | (simp only [go_sem, seval, IntKind.bits.eq_def, ti, tin]) | (simp (disch := omega) only [wA]) | (with_reducible first | refine cF n1 ?_ | refine dF n1 ?_ | refine cF q1 ?_ | refine dF q1 ?_ | refine cF n2 ?_ | refine dF n2 ?_) | refine aL ti_ok ?_ | refine dL ti_ok ?_ | refine dG ?_ | ((first | refine cC ?_ ?_ | refine gS ?_ ?_ | refine dS ?_ ?_) <;> intro hc <;> first | (exfalso; simp only [dcA] at hc; omega) | (simp only [hc]; try simp only [dcA] at hc)) | refine aO ?_ | refine dO ?_)
  all_goals exact fin_same trivial rfl
theorem tubeD_box {p n : Nat} {a dv : List (List RD)} {w : List RD} {k : Nat} {t u : Dy} {P Q : Nat} (hp : p ≤ 100) (oa : okM p a) (od : okM p dv) (ow : okV p w) (he : ckT a dv w = 0) (hn : a.length = n) (h1 : 1 ≤ k) (h2 : k ≤ 32) (gt : Mg 200000 t) (gu : Mg 200000 u) (nt : 0 ≤ t.v) (nu : 0 ≤ u.v) :
    TubOK p 200000 n a dv w (List.replicate n (can t)) (List.replicate n (can u)) := by
  have := tubOK_of (q := 200000) hp (Nat.le_refl _) oa od (fun i => ⟨(ow i).1, (ow i).2.mono (by omega)⟩) (okV_rep gt (Nat.le_refl _)) (okV_rep gu (Nat.le_refl _)) (ckC_make he hn h1 h2 nt nu)
  rwa [hn] at this
theorem r18_Make (a dv : List (List RD)) (w : List RD) (k p n : Nat) (hp : p ≤ 100) (oa : okM p a) (od : okM p dv) (ow : okV p w) (fa : fine 100 (dyM a)) (fd : fine 100 (dyM dv)) (fw : fineV 100 (dyV w)) (he : ckT a dv w = 0) (hn : a.length = n) (h1 : 1 ≤ k) (h2 : k ≤ 32) :
    CallOK Tryz.prog gl 14 [.agg [.sl 1 (mrows a), .sl 1 (mrows dv), .sl 3 (vrows w)], .v (.int .i64 k)] (.tup [certAV k n (makeD k (dyM a) (dyM dv) (dyV w)), .v (.bool (makeD k (dyM a) (dyM dv) (dyV w)).isSome)]) := by
  refine call_ok (C := ⟨Tryz.prog, gl, ti, 129, false⟩) ti_ok mixed 3000 Tryz.call14 Tryz.func14 rfl Tryz.ntmps14 (by simp) byClL (Cl.tup fun x hx => ?_) ?_
  · simp only [List.mem_cons, List.not_mem_nil, or_false] at hx
    rcases hx with rfl | rfl
    · exact certAV_cl _ _ _
    · exact Cl.v _
  rw [Tryz.results14]
  obtain ⟨t1, t2, t3, t4, t5, t6, t7, t8, t9⟩ := ckT_zero he
  have hn1 := (ckM_zero t1).1
  have hn2 := (ckM_zero t2).2
  rw [hn] at t4
  have nm : ∀ i : Nat, i ≤ 32 → CallOK Tryz.prog gl 65 [.agg [.sl 1 (mrows a), .sl 1 (mrows dv), .sl 3 (vrows w)], .v (.int .i64 i)] (.agg (crow (normD (powD (dyM a) i)))) := fun i hi => r18_norm a dv w p n i hp t1 hn t4 (by omega) (by omega) oa
  have k3 := refm_Norm dv p (by omega) t2 od
  have hr := rect_of t1
  rw [t4, hn] at hr
  have hrd := rect_of t2
  have gn : ∀ i, i ≤ 32 → Mg 4008 (normD (powD (dyM a) i)) := fun i hi => by
    have hri := pow_rect hr (by omega) i
    unfold normD
    refine (mg_maxD (k := 4008) fun j hj => ?_)
    rw [hri.1] at hj
    unfold rowN
    rw [hri.2 j hj]
    have hb : i * (p + n) ≤ 32 * 106 := Nat.mul_le_mul hi (by omega)
    exact (mg_sumD (n := n) fun t _ => Mg.abs ((mg_powD hr (by omega) (mg_el_raw oa) i j t).mono (show _ ≤ 4000 by omega))).mono (by omega)
  have gq := gn k h2
  have gc : Mg 4008 (normsM (dyM a) k) := mg_maxD fun j hj => gn j (by omega)
  have gs : Mg 4040 (normsS (dyM a) k) := (mg_sumD fun j hj => gn j (by omega)).mono (by omega)
  have gC : ∀ i, i ≤ k → Mg 4008 (normsM (dyM a) i) := fun i hi => mg_maxD fun j hj => gn j (by omega)
  have gS : ∀ i, i ≤ k → Mg 4040 (normsS (dyM a) i) := fun i hi => (mg_sumD fun j hj => gn j (by omega)).mono (by omega)
  have gd : Mg 108 (normD (dyM dv)) := by
    unfold normD
    refine mg_maxD fun j hj => ?_
    rw [hrd.1] at hj
    unfold rowN
    rw [hrd.2 j hj]
    exact (mg_sumD fun t _ => Mg.abs (mg_el_raw od j t)).mono (by omega)
  have nq := norm_nn (powD (dyM a) k)
  have nc := normsM_nn (dyM a) k
  have ns := normsS_nn (dyM a) k
  have gW : ∀ i, Mg 100 (maxD i fun i => (dyV w).getD i Dy.zero) := fun i => mg_maxD fun j _ => (okV_get ow j).mono hp
  have hmk : makeD k (dyM a) (dyM dv) (dyV w) = makeN k (dyM a) (dyM dv) (dyV w) (normD (powD (dyM a) k)) (normsM (dyM a) k) (normsS (dyM a) k) (normD (dyM dv)) (maxD n fun i => (dyV w).getD i Dy.zero) := by
    unfold makeD maxV; rw [dyV_len, t7, hn]
  rw [hmk]
  clear hmk hr hrd t4 t5 t6 t8 t9 hn2
  have nk := nm k h2
  generalize normD (dyM dv) = d at *
  generalize hqq : normD (powD (dyM a) k) = q at *
  have o1 := ref_Of 1 (by omega)
  have hwn : w.length = n := by omega
  repeat' (first | (simp only [go_sem, seval, IntKind.bits.eq_def, ti, tin]) | (simp (disch := omega) only [wA]) | (with_reducible first | refine cF o1 ?_ | refine dF o1 ?_ | refine cF nk ?_ | refine dF nk ?_) | refine aL ti_ok ?_ | refine dL ti_ok ?_ | refine dG ?_ | ((first | refine cC ?_ ?_ | refine gS ?_ ?_ | refine dS ?_ ?_) <;> intro hc <;> first | (exfalso; simp only [dcA] at hc; omega) | (simp only [hc]; try simp only [dcA] at hc)) | refine aO ?_ | refine dO ?_)
  refine l_loop (α := Nat) (fun i => ⟨[(1, .v (.int .i64 k)), (2, .p 0 3 0 0), (4, .p 1 3 0 0), (6, .p 2 3 0 0), (7, .p 3 3 0 0), (8, .p 4 3 0 0), (9, .p 5 3 0 0), (10, .p 6 3 0 0), (27, .v (.int .i64 k)), (28, .v (.int .i64 i))], [(6, ⟨3, [[.v (.bool (false)), .v (.slice none 0 0), .v (.int .i64 0)]]⟩), (5, ⟨3, [crow (normsS (dyM a) i)]⟩), (4, ⟨3, [crow (normsM (dyM a) i)]⟩), (3, ⟨3, [crow q]⟩), (2, ⟨3, [crow (Dy.int 1)]⟩), (1, ⟨3, [[.v (.int .i64 0), .v (.slice none 0 0), .v (.slice none 0 0)]]⟩), (0, ⟨3, [[.sl 1 (mrows a), .sl 1 (mrows dv), .sl 3 (vrows w)]]⟩)], 7⟩) (fun i => i ≤ k) (fun i => k - i) (0) _ byFresh (fun _ h => by first | (cases h; done) | exact Nat.le_of_ble_eq_true rfl) ?_ ?_ ?_
  · exact Nat.zero_le _
  · exact Weak.trans (Weak.mle 4 ⟨3, [crow Dy.zero]⟩ rfl MLe.dy0) (Nat.le_refl _) (Weak.trans (Weak.mle 5 ⟨3, [crow Dy.zero]⟩ rfl MLe.dy0) (Nat.le_refl _) byWeak)
  rintro i hi
  by_cases hik : i < k
  ·
    have c1 := nm i (by omega)
    have mx := ref_Max _ _ _ _ _ _ _ _ ((gC i (by omega)).arg) ((gn i (by omega)).arg)
    have ad := ref_Add _ _ _ _ _ _ _ _ ((gS i (by omega)).arg) ((gn i (by omega)).arg)
    have e1 : normsM (dyM a) (i + 1) = (normsM (dyM a) i).max (normD (powD (dyM a) i)) := rfl
    have e2 : normsS (dyM a) (i + 1) = (normsS (dyM a) i).add (normD (powD (dyM a) i)) := rfl
    clear nm gC gS gn gW gq gc gs gd nq nc ns nk k3 oa od ow fa fd fw he hqq
    generalize hN : normD (powD (dyM a) i) = N1 at *
    generalize hA : normsM (dyM a) i = A1 at *
    generalize hB : normsS (dyM a) i = B1 at *
    repeat' (first | (simp only [go_sem, seval, IntKind.bits.eq_def, ti, tin]) | (simp (disch := omega) only [wA]) | (with_reducible first | refine cF c1 ?_ | refine dF c1 ?_ | refine cF mx ?_ | refine dF mx ?_ | refine cF ad ?_ | refine dF ad ?_) | refine aL ti_ok ?_ | refine dL ti_ok ?_ | refine dG ?_ | ((first | refine cC ?_ ?_ | refine gS ?_ ?_ | refine dS ?_ ?_) <;> intro hc <;> first | (exfalso; simp only [dcA] at hc; omega) | (simp only [hc]; try simp only [dcA] at hc)) | refine aO ?_ | refine dO ?_)
    refine roundEnd_of (α := Nat) (i + 1) (show i + 1 ≤ k by omega) (by omega) ?_
    simp only [e1, e2]
    exact byWeak
  have hik2 : i = k := by omega
  subst hik2
  clear hik hi nm gC gS gn nk hqq
  generalize normsM (dyM a) i = c at *
  generalize normsS (dyM a) i = s at *
  repeat' (first | (simp only [go_sem, seval, IntKind.bits.eq_def, ti, tin, vrows_length, hwn]) | (simp (disch := omega) only [wA]) | refine aL ti_ok ?_ | refine dL ti_ok ?_ | refine dG ?_ | ((first | refine cC ?_ ?_ | refine gS ?_ ?_ | refine dS ?_ ?_) <;> intro hc <;> first | (exfalso; simp only [dcA] at hc; omega) | (simp only [hc]; try simp only [dcA] at hc)) | refine aO ?_ | refine dO ?_)
  refine l_loop (α := Nat) (fun j => ⟨[(1, .v (.int .i64 i)), (2, .p 0 3 0 0), (4, .p 1 3 0 0), (6, .p 2 3 0 0), (7, .p 3 3 0 0), (8, .p 4 3 0 0), (9, .p 5 3 0 0), (10, .p 6 3 0 0), (43, .sl 3 (vrows (w))), (44, .v (.int .i64 n)), (45, .v (.int .i64 j))], [(6, ⟨3, [crow (maxD j fun i => (dyV w).getD i Dy.zero)]⟩), (5, ⟨3, [crow s]⟩), (4, ⟨3, [crow c]⟩), (3, ⟨3, [crow q]⟩), (2, ⟨3, [crow (Dy.int 1)]⟩), (1, ⟨3, [[.v (.int .i64 0), .v (.slice none 0 0), .v (.slice none 0 0)]]⟩), (0, ⟨3, [[.sl 1 (mrows a), .sl 1 (mrows dv), .sl 3 (vrows w)]]⟩)], 7⟩) (fun j => j ≤ n) (fun j => n - j) (0) _ byFresh (fun _ h => by first | (cases h; done) | exact Nat.le_of_ble_eq_true rfl) ?_ ?_ ?_
  · exact Nat.zero_le _
  · exact Weak.trans (Weak.mle 6 ⟨3, [crow Dy.zero]⟩ rfl MLe.dy0) (Nat.le_refl _) byWeak
  rintro j hj
  by_cases hin : j < n
  ·
    have ri := vrows_getD (l := w) (i := j) (by omega)
    have mx := ref_Max _ _ _ _ _ _ _ _ ((gW j).arg) (RD.arg (ow j).1)
    have e1 : (maxD (j + 1) fun i => (dyV w).getD i Dy.zero) = (maxD j fun i => (dyV w).getD i Dy.zero).max (w.getD j RD.zero).dy := by
      simp only [maxD]; rw [dyV_get]
    unfold vrow at ri
    clear gW ow
    generalize w.getD j RD.zero = r at *
    generalize (maxD j fun i => (dyV w).getD i Dy.zero) = W0 at *
    repeat' (first | (simp only [go_sem, seval, IntKind.bits.eq_def, ti, tin, vrows_length, hwn, ri]) | (simp (disch := omega) only [wA]) | (with_reducible first | refine cF mx ?_ | refine dF mx ?_) | refine aL ti_ok ?_ | refine dL ti_ok ?_ | refine dG ?_ | ((first | refine cC ?_ ?_ | refine gS ?_ ?_ | refine dS ?_ ?_) <;> intro hc <;> first | (exfalso; simp only [dcA] at hc; omega) | (simp only [hc]; try simp only [dcA] at hc)) | refine aO ?_ | refine dO ?_)
    refine roundEnd_of (α := Nat) (j + 1) (show j + 1 ≤ n by omega) (by omega) ?_
    simp only [e1]
    exact byWeak
  have hin2 : j = n := by omega
  subst hin2
  clear hin hj
  have g0 := gW j
  have n0 : 0 ≤ (maxD j fun i => (dyV w).getD i Dy.zero).v := (v_maxD _ _).1
  clear gW
  generalize (maxD j fun i => (dyV w).getD i Dy.zero) = W0 at *
  have m1 := ref_Mul _ _ _ _ _ _ _ _ (gs.arg) (gd.arg)
  have m2 := ref_Mul _ _ _ _ _ _ _ _ (gs.arg) (g0.arg)
  have gone : Mg 1 (Dy.int 1) := Mg.int (by decide)
  have gSD := gs.mul gd
  have gSW := gs.mul g0
  have gH := gone.mono (show 1 ≤ 4148 by omega) |>.sub (gSD.mono (show _ ≤ 4148 by omega))
  have gL := gone.mono (show 1 ≤ 4008 by omega) |>.sub gq
  have s1 := ref_Sub _ _ _ _ _ _ _ _ (gone.arg) (gSD.arg)
  have s2 := ref_Sub _ _ _ _ _ _ _ _ (gone.arg) (gq.arg)
  have m3 := ref_Mul _ _ _ _ _ _ _ _ (gL.arg) (gH.arg)
  have m4 := ref_Mul _ _ _ _ _ _ _ _ (gSD.arg) (gc.arg)
  have gLH := (gL.mul gH).mono (show _ ≤ 9000 by omega)
  have gSC := (gSD.mul gc).mono (show _ ≤ 9000 by omega)
  have s3 := ref_Sub _ _ _ _ _ _ _ _ (gLH.arg) (gSC.arg)
  have gG := gLH.sub gSC
  have p1 := ref_Cmp _ _ _ _ _ _ _ _ (gq.arg) (gone.arg)
  have hsw : q.cmp (Dy.int 1) = -(mkL q).sign := by unfold mkL; rw [sign_sub, cmp_swap]
  have p2 := ref_Sign _ _ _ _ (gH.arg)
  have p3 := ref_Sign _ _ _ _ (gG.arg)
  have sh := ref_Shift _ _ _ 1 _ (gSW.arg)
  have gS2 := (gSW.shift 1).mono (show _ ≤ 5000 by rw [show clipD 1 = 1 from rfl]; omega)
  have u1 : 0 < (mkG q c s d).v → CallOK Tryz.prog gl 71 [.agg (crow ((s.mul W0).shift 1)), .agg (crow (mkG q c s d)), .v (.int .i64 (16 : Nat))] (.agg (crow (mkT q c s d W0))) := fun h => r18_up _ _ 5000 9001 16 (by omega) (by omega) (by omega) gS2 gG (fun h0 => by rw [Dy.v_pos_iff, h0] at h; omega)
  have gT : 0 < (mkG q c s d).v → Mg 80000 (mkT q c s d W0) := fun h => by
    have hd := (mkG q c s d).ok.1
    have h0 : (mkG q c s d).n ≠ 0 := fun h0 => by rw [Dy.v_pos_iff, h0] at h; omega
    have := Mg.neg (gS2.neg.quo (y := mkG q c s d) (den := 16) h0)
    exact this.mono (by omega)
  by_cases hb : mkBad q c s d
  ·
    have hmk : makeN i (dyM a) (dyM dv) (dyV w) q c s d W0 = none := by unfold makeN; rw [if_pos hb]
    rw [hmk]
    clear hmk u1 gT gG gLH gSC gS2 gSD gSW gH gL gq gc gs gd g0 n0 nq nc ns oa od ow he t1 sh fa fd fw gone
    simp only [mkBad, mkG, mkH, mkL] at hb hsw
    generalize q.cmp (Dy.int 1) = cq at *
    generalize s.mul d = SD at *
    generalize s.mul W0 = SW at *
    generalize (Dy.int 1).sub SD = H at *
    generalize (Dy.int 1).sub q = L at *
    generalize L.mul H = LH at *
    generalize SD.mul c = SC at *
    generalize LH.sub SC = G at *
    generalize Dy.int 1 = one1 at *
    by_cases c1 : L.sign ≤ 0
    ·
      have c4 : cq ≥ 0 := by omega
      repeat' (first | (simp only [go_sem, seval, IntKind.bits.eq_def, ti, tin]) | (simp (disch := omega) only [wA]) | (with_reducible first | refine cF k3 ?_ | refine dF k3 ?_ | refine cF m1 ?_ | refine dF m1 ?_ | refine cF m2 ?_ | refine dF m2 ?_ | refine cF s1 ?_ | refine dF s1 ?_ | refine cF s2 ?_ | refine dF s2 ?_ | refine cF m3 ?_ | refine dF m3 ?_ | refine cF m4 ?_ | refine dF m4 ?_ | refine cF s3 ?_ | refine dF s3 ?_ | refine cF p1 ?_ | refine dF p1 ?_ | refine cF p2 ?_ | refine dF p2 ?_ | refine cF p3 ?_ | refine dF p3 ?_) | refine aL ti_ok ?_ | refine dL ti_ok ?_ | refine dG ?_ | ((first | refine cC ?_ ?_ | refine gS ?_ ?_ | refine dS ?_ ?_) <;> intro hc <;> first | (exfalso; simp only [dcA] at hc; omega) | (simp only [hc]; try simp only [dcA] at hc)) | refine aO ?_ | refine dO ?_)
      all_goals exact fin_same trivial rfl
    · have c4 : ¬ cq ≥ 0 := by omega
      by_cases c2 : H.sign ≤ 0
      ·
        repeat' (first | (simp only [go_sem, seval, IntKind.bits.eq_def, ti, tin]) | (simp (disch := omega) only [wA]) | (with_reducible first | refine cF k3 ?_ | refine dF k3 ?_ | refine cF m1 ?_ | refine dF m1 ?_ | refine cF m2 ?_ | refine dF m2 ?_ | refine cF s1 ?_ | refine dF s1 ?_ | refine cF s2 ?_ | refine dF s2 ?_ | refine cF m3 ?_ | refine dF m3 ?_ | refine cF m4 ?_ | refine dF m4 ?_ | refine cF s3 ?_ | refine dF s3 ?_ | refine cF p1 ?_ | refine dF p1 ?_ | refine cF p2 ?_ | refine dF p2 ?_ | refine cF p3 ?_ | refine dF p3 ?_) | refine aL ti_ok ?_ | refine dL ti_ok ?_ | refine dG ?_ | ((first | refine cC ?_ ?_ | refine gS ?_ ?_ | refine dS ?_ ?_) <;> intro hc <;> first | (exfalso; simp only [dcA] at hc; omega) | (simp only [hc]; try simp only [dcA] at hc)) | refine aO ?_ | refine dO ?_)
        all_goals exact fin_same trivial rfl
      ·
        have c3 : G.sign ≤ 0 := by omega
        repeat' (first | (simp only [go_sem, seval, IntKind.bits.eq_def, ti, tin]) | (simp (disch := omega) only [wA]) | (with_reducible first | refine cF k3 ?_ | refine dF k3 ?_ | refine cF m1 ?_ | refine dF m1 ?_ | refine cF m2 ?_ | refine dF m2 ?_ | refine cF s1 ?_ | refine dF s1 ?_ | refine cF s2 ?_ | refine dF s2 ?_ | refine cF m3 ?_ | refine dF m3 ?_ | refine cF m4 ?_ | refine dF m4 ?_ | refine cF s3 ?_ | refine dF s3 ?_ | refine cF p1 ?_ | refine dF p1 ?_ | refine cF p2 ?_ | refine dF p2 ?_ | refine cF p3 ?_ | refine dF p3 ?_) | refine aL ti_ok ?_ | refine dL ti_ok ?_ | refine dG ?_ | ((first | refine cC ?_ ?_ | refine gS ?_ ?_ | refine dS ?_ ?_) <;> intro hc <;> first | (exfalso; simp only [dcA] at hc; omega) | (simp only [hc]; try simp only [dcA] at hc)) | refine aO ?_ | refine dO ?_)
        all_goals exact fin_same trivial rfl
  obtain ⟨b1, b2, b3⟩ := mkBad_not.1 hb
  have v1 := u1 b3
  have gT := gT b3
  have vT := mkT_nn ns n0 hb
  have vU := mkU_nn nc ns n0 hb
  have m5 := ref_Mul _ _ _ _ _ _ _ _ (gc.arg) (gT.arg)
  have gCT := gc.mul gT
  have a1 := ref_Add _ _ _ _ _ _ _ _ (gCT.arg) (gSW.arg)
  have gCS := (gCT.mono (show _ ≤ 84008 by omega)).add (gSW.mono (show _ ≤ 84008 by omega))
  have hH0 : (mkH s d).n ≠ 0 := fun h0 => by rw [Dy.v_pos_iff, h0] at b2; omega
  have v2 := r18_up _ (mkH s d) 84009 4149 32 (by omega) (by omega) (by omega) gCS gH hH0
  have gU : Mg 160000 (mkU q c s d W0) := by
    have hd := (mkH s d).ok.1
    have := Mg.neg (gCS.neg.quo (y := mkH s d) (den := 32) hH0)
    exact this.mono (by omega)
  have he2 := ckC_make he hn h1 h2 vT vU
  have TB := tubeD_box (P := 100) (Q := 100) hp oa od ow he hn h1 h2 (gT.mono (by omega)) (gU.mono (by omega)) vT vU
  have ac := r18_Accepts TB i h2
  have T := tubeD_mk (P := 100) (Q := 100) (by rw [hn]; exact TB) he2 fa fd fw (by rw [dyV_rep]; exact fine_box (Nat.le_trans (d_upD (by omega)) (by omega))) (by rw [dyV_rep]; exact fine_box (Nat.le_trans (d_upD (by omega)) (by omega)))
  rw [T.acceptsR (by omega)] at ac
  rw [dyV_rep, dyV_rep] at ac
  have hmk : makeN i (dyM a) (dyM dv) (dyV w) q c s d W0 = if acceptsD i (dyM a) (dyM dv) (dyV w) (boxD j (mkT q c s d W0)) (boxD j (mkU q c s d W0)) then some (mkT q c s d W0, mkU q c s d W0) else none := by
    unfold makeN; rw [if_neg hb, dyM_len, hn]
  rw [hmk]
  have c1 := (sign_pos _).2 b1
  have c2 := (sign_pos _).2 b2
  have c3 := (sign_pos _).2 b3
  have c4 : ¬ q.cmp (Dy.int 1) ≥ 0 := by omega
  generalize hz : acceptsD i (dyM a) (dyM dv) (dyV w) (boxD j (mkT q c s d W0)) (boxD j (mkU q c s d W0)) = z at *
  have eU : mkU q c s d W0 = upD ((c.mul (mkT q c s d W0)).add (s.mul W0)) (mkH s d) 32 := rfl
  rw [← eU] at v2
  have hi0 : 0 < j := by omega
  clear hz eU hmk u1 gT gG gLH gSC gSD gSW gH gL gq gc gs gd g0 n0 nq nc ns oa od ow he t1 he2 gU gCS gCT b1 b2 b3 hb vT vU hH0 T TB fa fd fw hsw gone
  clear gS2
  generalize mkU q c s d W0 = U at *
  generalize mkT q c s d W0 = T at *
  simp only [mkG, mkH, mkL] at *
  generalize q.cmp (Dy.int 1) = cq at *
  generalize s.mul d = SD at *
  generalize s.mul W0 = SW at *
  generalize (Dy.int 1).sub SD = H at *
  generalize (Dy.int 1).sub q = L at *
  generalize Dy.int 1 = one1 at *
  generalize L.mul H = LH at *
  generalize SD.mul c = SC at *
  generalize LH.sub SC = G at *
  generalize SW.shift 1 = S2 at *
  generalize c.mul T = CT at *
  generalize CT.add SW = CS at *
  repeat' (first | (simp only [go_sem, seval, IntKind.bits.eq_def, ti, tin, mrows_length, hn]) | (simp (disch := omega) only [wA]) | (with_reducible first | refine cF k3 ?_ | refine dF k3 ?_ | refine cF m1 ?_ | refine dF m1 ?_ | refine cF m2 ?_ | refine dF m2 ?_ | refine cF s1 ?_ | refine dF s1 ?_ | refine cF s2 ?_ | refine dF s2 ?_ | refine cF m3 ?_ | refine dF m3 ?_ | refine cF m4 ?_ | refine dF m4 ?_ | refine cF s3 ?_ | refine dF s3 ?_ | refine cF p1 ?_ | refine dF p1 ?_ | refine cF p2 ?_ | refine dF p2 ?_ | refine cF p3 ?_ | refine dF p3 ?_ | refine cF sh ?_ | refine dF sh ?_ | refine cF v1 ?_ | refine dF v1 ?_ | refine cF m5 ?_ | refine dF m5 ?_ | refine cF a1 ?_ | refine dF a1 ?_ | refine cF v2 ?_ | refine dF v2 ?_) | refine aL ti_ok ?_ | refine dL ti_ok ?_ | refine dG ?_ | ((first | refine cC ?_ ?_ | refine gS ?_ ?_ | refine dS ?_ ?_) <;> intro hc <;> first | (exfalso; simp only [dcA] at hc; omega) | (simp only [hc]; try simp only [dcA] at hc)) | refine aO ?_ | refine dO ?_)
  refine l_loop (α := Nat × Nat) (fun x => ⟨[(2, .p 0 3 0 0), (4, .p 1 3 0 0), (20, .p 2 3 0 0), (21, .p 3 3 0 0), (22, .p 4 3 0 0), (107, .v (.int .i64 j)), (108, .v (.int .i64 x.2))], fz x.1 [(4, ⟨3, [[.v (.int .i64 i), .sl 3 (vrows (List.replicate j (can T))), .sl 3 (vrows (List.replicate j (can U)))]]⟩), (3, ⟨3, [crow U]⟩), (2, ⟨3, [crow T]⟩), (1, ⟨3, [[.v (.int .i64 0), .v (.slice none 0 0), .v (.slice none 0 0)]]⟩), (0, ⟨3, [[.sl 1 (mrows a), .sl 1 (mrows dv), .sl 3 (vrows w)]]⟩)] [(4, ⟨3, [[.v (.int .i64 i), .ps 5 3 0 x.2, .ps 6 3 0 x.2]]⟩), (5, ⟨3, vrows (List.replicate x.2 (can T))⟩), (6, ⟨3, vrows (List.replicate x.2 (can U))⟩), (3, ⟨3, [crow U]⟩), (2, ⟨3, [crow T]⟩), (1, ⟨3, [[.v (.int .i64 0), .v (.slice none 0 0), .v (.slice none 0 0)]]⟩), (0, ⟨3, [[.sl 1 (mrows a), .sl 1 (mrows dv), .sl 3 (vrows w)]]⟩)], 7⟩) (fun x => x.1 + x.2 = j) (fun x => x.1) ((j, 0)) _ byFresh (fun _ h => by first | (cases h; done) | exact Nat.le_of_ble_eq_true rfl) ?_ ?_ ?_
  · exact Nat.add_zero j
  ·
    simp only [fz_pos hi0]
    exact Weak.map [(0, 0), (1, 1), (2, 34), (3, 43), (4, 45)] rfl (by decide) (by decide) byGE byGN
  rintro ⟨r, m⟩ hrm
  simp only at hrm ⊢
  rcases r with _ | r
  ·
    have hm : m = j := by omega
    subst hm
    simp only [fz_zero]
    cases z with
    | false =>
      repeat' (first | (simp only [go_sem, seval, IntKind.bits.eq_def, ti, tin]) | (simp (disch := omega) only [wA]) | (with_reducible first | refine cF ac ?_ | refine dF ac ?_) | refine aL ti_ok ?_ | refine dL ti_ok ?_ | refine dG ?_ | ((first | refine cC ?_ ?_ | refine gS ?_ ?_ | refine dS ?_ ?_) <;> intro hc <;> first | (exfalso; simp only [dcA] at hc; omega) | (simp only [hc]; try simp only [dcA] at hc)) | refine aO ?_ | refine dO ?_)
      all_goals exact fin_same trivial rfl
    | true =>
      repeat' (first | (simp only [go_sem, seval, IntKind.bits.eq_def, ti, tin]) | (simp (disch := omega) only [wA]) | (with_reducible first | refine cF ac ?_ | refine dF ac ?_) | refine aL ti_ok ?_ | refine dL ti_ok ?_ | refine dG ?_ | ((first | refine cC ?_ ?_ | refine gS ?_ ?_ | refine dS ?_ ?_) <;> intro hc <;> first | (exfalso; simp only [dcA] at hc; omega) | (simp only [hc]; try simp only [dcA] at hc)) | refine aO ?_ | refine dO ?_)
      all_goals exact fin_same trivial rfl
  ·
    have lT : (vrows (List.replicate m (can T))).length = m := by rw [vrows_length, List.length_replicate]
    have lU : (vrows (List.replicate m (can U))).length = m := by rw [vrows_length, List.length_replicate]
    have sT := vrep_step (n := m + 1) (i := m) (x := T) (by omega)
    have sU := vrep_step (n := m + 1) (i := m) (x := U) (by omega)
    simp only [fz_succ]
    repeat' (first | (simp only [go_sem, seval, IntKind.bits.eq_def, ti, tin, lT, lU]) | (simp (disch := omega) only [wA]) | (refine drawAfter_app ti_ok rfl rfl rfl rfl rfl ⟨rfl, rfl, by decide⟩ rfl ⟨trivial, by (try simp only [List.length_cons, List.length_nil, List.length_append, u32s_length, List.length_map, lT, lU]); omega, by (try simp only [List.length_cons, List.length_nil, List.length_append, u32s_length, List.length_map, lT, lU]); omega, by (try simp only [List.length_cons, List.length_nil, List.length_append, u32s_length, List.length_map, lT, lU]); omega⟩ byRows ?_) | refine aL ti_ok ?_ | refine dL ti_ok ?_ | refine dG ?_ | ((first | refine cC ?_ ?_ | refine gS ?_ ?_ | refine dS ?_ ?_) <;> intro hc <;> first | (exfalso; simp only [dcA] at hc; omega) | (simp only [hc]; try simp only [dcA] at hc)) | refine aO ?_ | refine dO ?_)
    rw [sT, sU]
    refine roundEnd_of (α := Nat × Nat) (r, m + 1) (show r + (m + 1) = j by omega) (show r < r + 1 by omega) ?_
    refine Weak.trans0 (s1 := ⟨[(2, .p 0 3 0 0), (4, .p 1 3 0 0), (20, .p 2 3 0 0), (21, .p 3 3 0 0), (22, .p 4 3 0 0), (107, .v (.int .i64 j)), (108, .v (.int .i64 ((m + 1 : Nat))))], [(4, ⟨3, [[.v (.int .i64 i), .ps 5 3 0 (m + 1), .ps 6 3 0 (m + 1)]]⟩), (5, ⟨3, vrows (List.replicate (m + 1) (can T))⟩), (6, ⟨3, vrows (List.replicate (m + 1) (can U))⟩), (3, ⟨3, [crow U]⟩), (2, ⟨3, [crow T]⟩), (1, ⟨3, [[.v (.int .i64 0), .v (.slice none 0 0), .v (.slice none 0 0)]]⟩), (0, ⟨3, [[.sl 1 (mrows a), .sl 1 (mrows dv), .sl 3 (vrows w)]]⟩)], 7⟩) (Weak.map [(0, 0), (1, 1), (2, 2), (3, 3), (4, 4), (5, 11), (6, 16)] rfl (by decide) (by decide) byGE byGN) (Nat.zero_lt_succ _) ?_
    cases r with
    | succ r => simp only [fz_succ]; exact byWeak
    | zero =>
      have hm2 : j = m + 1 := by omega
      subst hm2
      have l1 : (vrows (List.replicate (m + 1) (can T))).length = m + 1 := by rw [vrows_length, List.length_replicate]
      have l2 : (vrows (List.replicate (m + 1) (can U))).length = m + 1 := by rw [vrows_length, List.length_replicate]
      simp only [fz_zero]
      refine Weak.trans0 (s1 := ⟨[(2, .p 0 3 0 0), (4, .p 1 3 0 0), (20, .p 2 3 0 0), (21, .p 3 3 0 0), (22, .p 4 3 0 0), (107, .v (.int .i64 ((m + 1 : Nat)))), (108, .v (.int .i64 ((m + 1 : Nat))))], [(4, ⟨3, [[.v (.int .i64 i), .sl 3 (vrows (List.replicate (m + 1) (can T))), .ps 6 3 0 (m + 1)]]⟩), (6, ⟨3, vrows (List.replicate (m + 1) (can U))⟩), (3, ⟨3, [crow U]⟩), (2, ⟨3, [crow T]⟩), (1, ⟨3, [[.v (.int .i64 0), .v (.slice none 0 0), .v (.slice none 0 0)]]⟩), (0, ⟨3, [[.sl 1 (mrows a), .sl 1 (mrows dv), .sl 3 (vrows w)]]⟩)], 7⟩) (Weak.frzA 5 _ (m + 1) l1) (Nat.zero_lt_succ _) ?_
      refine Weak.trans0 (s1 := ⟨[(2, .p 0 3 0 0), (4, .p 1 3 0 0), (20, .p 2 3 0 0), (21, .p 3 3 0 0), (22, .p 4 3 0 0), (107, .v (.int .i64 ((m + 1 : Nat)))), (108, .v (.int .i64 ((m + 1 : Nat))))], [(4, ⟨3, [[.v (.int .i64 i), .sl 3 (vrows (List.replicate (m + 1) (can T))), .sl 3 (vrows (List.replicate (m + 1) (can U)))]]⟩), (3, ⟨3, [crow U]⟩), (2, ⟨3, [crow T]⟩), (1, ⟨3, [[.v (.int .i64 0), .v (.slice none 0 0), .v (.slice none 0 0)]]⟩), (0, ⟨3, [[.sl 1 (mrows a), .sl 1 (mrows dv), .sl 3 (vrows w)]]⟩)], 7⟩) (Weak.frzA 6 _ (m + 1) l2) (Nat.zero_lt_succ _) ?_
      exact byWeak
end Go.Proofs.YtpggiabnhodjpaaGreatDoor
set_option linter.unusedSimpArgs false
set_option linter.unusedVariables false
set_option linter.deprecated false
namespace Go.Proofs.YtpggiabnhodjpaaGreatDoor
open Go Go.Ax
set_option maxRecDepth 100000
set_option maxHeartbeats 4000000
end Go.Proofs.YtpggiabnhodjpaaGreatDoor
/- The statements on layer 18: what Make makes of short models. -/
set_option linter.unusedSimpArgs false
set_option linter.unusedVariables false
set_option linter.deprecated false
namespace Go.Proofs.YtpggiabnhodjpaaGreatDoor
open Go Go.Ax
set_option maxRecDepth 100000
set_option maxHeartbeats 4000000
section
variable {a dv : List (List RD)} {w inner outer : List RD}
end
theorem mk_mg {a dv : List (List RD)} {w : List RD} {k p n : Nat} (hp : p ≤ 100) (oa : okM p a) (od : okM p dv) (ow : okV p w) (he : ckT a dv w = 0) (hn : a.length = n) (h2 : k ≤ 32) {t u : Dy} (h : makeD k (dyM a) (dyM dv) (dyV w) = some (t, u)) :
    Mg 200000 t ∧ Mg 200000 u ∧ 0 ≤ t.v ∧ 0 ≤ u.v ∧ t.d ≤ 32 ∧ u.d ≤ 32 ∧ acceptsD k (dyM a) (dyM dv) (dyV w) (boxD n t) (boxD n u) = true := by
  obtain ⟨t1, t2, t3, t4, t5, t6, t7, t8, t9⟩ := ckT_zero he
  have hn1 := (ckM_zero t1).1
  rw [hn] at t4 hn1 t3 t7
  have hr := rect_of t1
  rw [t4, hn] at hr
  have hrd := rect_of t2
  have gn : ∀ i, i ≤ 32 → Mg 4008 (normD (powD (dyM a) i)) := fun i hi => by
    have hri := pow_rect hr (by omega) i
    unfold normD
    refine (mg_maxD (k := 4008) fun j hj => ?_)
    rw [hri.1] at hj
    unfold rowN
    rw [hri.2 j hj]
    have hb : i * (p + n) ≤ 32 * 106 := Nat.mul_le_mul hi (by omega)
    exact (mg_sumD (n := n) fun t _ => Mg.abs ((mg_powD hr (by omega) (mg_el_raw oa) i j t).mono (show _ ≤ 4000 by omega))).mono (by omega)
  have gq := gn k h2
  have gc : Mg 4008 (normsM (dyM a) k) := mg_maxD fun j hj => gn j (by omega)
  have gs : Mg 4040 (normsS (dyM a) k) := (mg_sumD fun j hj => gn j (by omega)).mono (by omega)
  have gd : Mg 108 (normD (dyM dv)) := by
    unfold normD
    refine mg_maxD fun j hj => ?_
    rw [hrd.1] at hj
    unfold rowN
    rw [hrd.2 j hj]
    exact (mg_sumD fun t _ => Mg.abs (mg_el_raw od j t)).mono (by omega)
  have nc := normsM_nn (dyM a) k
  have ns := normsS_nn (dyM a) k
  have g0 : Mg 100 (maxV (dyV w)) := mg_maxD fun j _ => (okV_get ow j).mono hp
  have n0 := maxV_nn (dyV w)
  unfold makeD makeN at h
  generalize normD (powD (dyM a) k) = q at *
  generalize normsM (dyM a) k = c at *
  generalize normsS (dyM a) k = s at *
  generalize normD (dyM dv) = d at *
  generalize maxV (dyV w) = W0 at *
  have gone : Mg 1 (Dy.int 1) := Mg.int (by decide)
  have gSD := gs.mul gd
  have gSW := gs.mul g0
  have gH := gone.mono (show 1 ≤ 4148 by omega) |>.sub (gSD.mono (show _ ≤ 4148 by omega))
  have gL := gone.mono (show 1 ≤ 4008 by omega) |>.sub gq
  have gLH := (gL.mul gH).mono (show _ ≤ 9000 by omega)
  have gSC := (gSD.mul gc).mono (show _ ≤ 9000 by omega)
  have gG := gLH.sub gSC
  have gS2 := (gSW.shift 1).mono (show _ ≤ 5000 by rw [show clipD 1 = 1 from rfl]; omega)
  by_cases hb : mkBad q c s d
  · rw [if_pos hb] at h; cases h
  rw [if_neg hb] at h
  split at h
  · rename_i hacc
    injection h with h
    injection h with e1 e2
    subst e1 e2
    obtain ⟨b1, b2, b3⟩ := mkBad_not.1 hb
    have gT : Mg 80000 (mkT q c s d W0) := by
      have hd := (mkG q c s d).ok.1
      have h0 : (mkG q c s d).n ≠ 0 := fun h0 => by rw [Dy.v_pos_iff, h0] at b3; omega
      have := Mg.neg (gS2.neg.quo (y := mkG q c s d) (den := 16) h0)
      exact this.mono (by omega)
    have gCT := gc.mul gT
    have gCS := (gCT.mono (show _ ≤ 84008 by omega)).add (gSW.mono (show _ ≤ 84008 by omega))
    have hH0 : (mkH s d).n ≠ 0 := fun h0 => by rw [Dy.v_pos_iff, h0] at b2; omega
    have gU : Mg 160000 (mkU q c s d W0) := by
      have hd := (mkH s d).ok.1
      have := Mg.neg (gCS.neg.quo (y := mkH s d) (den := 32) hH0)
      exact this.mono (by omega)
    rw [dyM_len, hn] at hacc
    exact ⟨gT.mono (by omega), gU.mono (by omega), mkT_nn ns n0 hb, mkU_nn nc ns n0 hb, Nat.le_trans (d_upD (by omega)) (by omega), d_upD (by omega), hacc⟩
  · cases h
theorem mk_acc {a dv : List (List RD)} {w : List RD} {k p n : Nat} (hp : p ≤ 100) (oa : okM p a) (od : okM p dv) (ow : okV p w) (he : ckT a dv w = 0) (hn : a.length = n) (h1 : 1 ≤ k) (h2 : k ≤ 32) {t u : Dy} (h : makeD k (dyM a) (dyM dv) (dyV w) = some (t, u)) :
    CallOK Tryz.prog gl 16 [.agg [.sl 1 (mrows a), .sl 1 (mrows dv), .sl 3 (vrows w)], certAV k n (some (t, u))] (.tup [.v (.bool true), .v .nilIface]) := by
  obtain ⟨gt, gu, nt, nu, _, _, hacc⟩ := mk_mg hp oa od ow he hn h2 h
  have he2 := ckC_make he hn h1 h2 nt nu
  have TB := tubeD_box (P := 100) (Q := 100) hp oa od ow he hn h1 h2 gt gu nt nu
  have := tub_Accepts a dv w _ _ k p 200000 n TB he2
  rw [dyV_rep, dyV_rep, hacc] at this
  exact this
end Go.Proofs.YtpggiabnhodjpaaGreatDoor
