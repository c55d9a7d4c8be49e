/- The reference's matrices (ref04): Identity, Power. -/
import Derived.Test.YtpggiabnhodjpaaGreatDoorMatA
set_option linter.unusedSimpArgs false
set_option linter.unusedVariables false
set_option linter.deprecated false
namespace Go.Proofs.YtpggiabnhodjpaaGreatDoor
open Go Go.Ax
set_option maxRecDepth 100000
set_option maxHeartbeats 4000000
def uI (i j : Nat) : Dy := if i = j then Dy.int 1 else Dy.zero
def idMem (n i : Nat) : List (Nat × MB) :=
  if i < n then (1, ⟨3, vrows ((List.replicate n Dy.zero).map can)⟩) :: (0, ⟨1, mrows (crM (tabD i n uI)) ++ [.ps 1 3 0 n] :: slots (i + 1 + 1) (n - i - 1) n⟩) :: nest (i + 1 + 1) (n - i - 1) (zr n)
  else [(0, ⟨1, mrows (crM (tabD n n uI))⟩)]
theorem uI_row {n i : Nat} (h : i < n) : (List.replicate n Dy.zero).set i (Dy.int 1) = tabV n (uI i) := by
  refine list_ext (d := Dy.zero) (by simp [tabV_len]) fun j hj => ?_
  have hjn : j < n := by simpa using hj
  rw [tabV_get hjn]
  unfold uI
  by_cases e : i = j
  · subst e; rw [if_pos rfl]; simp [List.getD, hjn]
  · rw [if_neg e]; simp [List.getD, hjn, e]
theorem refm_Id (n : Nat) (h1 : 1 ≤ n) (h8 : n ≤ 8) : CallOK Tryz.prog gl 76 [.v (.int .i64 n)] (.tup [.sl 1 (mrows (crM (unitD n))), .v (.int .i64 0)]) := by
  refine call_ok (C := ⟨Tryz.prog, gl, ti, 29, false⟩) ti_ok mixed 3000 Tryz.call76 Tryz.func76 rfl Tryz.ntmps76 (by simp) byClL byCl ?_
  rw [Tryz.results76]
  have o1 := ref_Of 1 (by omega)
  repeat' (first | (simp only [go_sem, seval, IntKind.bits.eq_def, ti, tin]) | (simp (disch := omega) only [wA]) | refine aL ti_ok ?_ | refine dL ti_ok ?_ | refine dG ?_ | ((first | refine cC ?_ ?_ | refine gS ?_ ?_ | refine dS ?_ ?_) <;> intro hc <;> first | (exfalso; simp only [dcA] at hc; omega) | (simp only [hc]; try simp only [dcA] at hc)) | refine aO ?_ | refine dO ?_)
  refine callF_n 12 rfl (show n + 1 ≤ 12 by omega) rfl ?_ zr_cl (.cons (.refl _) (.cons (.refl _) .nil)) (ref_ZeroM n n (by omega) (by omega)) ?_
  · repeat' (first | exact trivial | exact Cl.v _ | exact Cl.mat | exact Cl.vec | refine And.intro ?_ ?_)
  repeat' (first | (simp only [go_sem, seval, IntKind.bits.eq_def, ti, tin]) | (simp (disch := omega) only [wA]) | refine aL ti_ok ?_ | refine dL ti_ok ?_ | refine dG ?_ | ((first | refine cC ?_ ?_ | refine gS ?_ ?_ | refine dS ?_ ?_) <;> intro hc <;> first | (exfalso; simp only [dcA] at hc; omega) | (simp only [hc]; try simp only [dcA] at hc)) | refine aO ?_ | refine dO ?_)
  refine l_loop (α := Nat) (fun i => ⟨[(4, .ps 0 1 0 n), (16, .v (.int .i64 n)), (17, .v (.int .i64 i))], idMem n i, 12⟩) (fun i => i ≤ n) (fun i => n - i) (0) _ byFresh (fun _ h => by first | (cases h; done) | exact Nat.le_of_ble_eq_true rfl) ?_ ?_ ?_
  · exact Nat.zero_le _
  · obtain ⟨q, rfl⟩ : ∃ q, n = q + 1 := ⟨n - 1, by omega⟩
    rw [show idMem (q + 1) 0 = (1, (⟨3, vrows ((List.replicate (q + 1) Dy.zero).map can)⟩ : MB)) :: (0, ⟨1, mrows (crM (tabD 0 (q + 1) uI)) ++ [.ps 1 3 0 (q + 1)] :: slots (1 + 1) q (q + 1)⟩) :: nest (1 + 1) q (zr (q + 1)) from if_pos (by omega)]
    refine Weak.rowTakeL (D := mrows (crM (tabD 0 (q + 1) uI))) (c := 1) (by omega) (by omega) ?_ rfl (fun b h1 h2 => ?_) (mrows_cl _) zr_cl (MLe.zr _) (vrows_cl _)
    · repeat' (first | exact trivial | exact .inl ⟨_, rfl, .refl _, Cl.v _⟩ | exact .inr ⟨_, _, _, rfl, rfl⟩ | refine And.intro ?_ ?_)
    · show Ax.look ((0, _) :: nest 1 (q + 1) (zr (q + 1))) b = _
      simp only [Ax.look]; rw [if_neg (by omega)]; exact nest_has (by omega) (by omega)
  rintro i hi
  by_cases hin : i < n
  ·
    have hmem : idMem n i = (1, (⟨3, vrows ((List.replicate n Dy.zero).map can)⟩ : MB)) :: (0, ⟨1, mrows (crM (tabD i n uI)) ++ [.ps 1 3 0 n] :: slots (i + 1 + 1) (n - i - 1) n⟩) :: nest (i + 1 + 1) (n - i - 1) (zr n) := if_pos hin
    rw [hmem]
    have hD : (mrows (crM (tabD i n uI))).length = i := done_len
    have e1 := getD_mid (d := []) (x := [AV.ps 1 3 0 n]) (R := slots (i + 1 + 1) (n - i - 1) n) hD
    have e3 : (mrows (crM (tabD i n uI)) ++ [AV.ps 1 3 0 n] :: slots (i + 1 + 1) (n - i - 1) n).length = n := by rw [List.length_append, hD, List.length_cons, slots_len]; omega
    have e4 : (vrows ((List.replicate n Dy.zero).map can)).length = n := by rw [crows_length, List.length_replicate]
    have e7 : (vrows ((List.replicate n Dy.zero).map can)).getD i [] = crow Dy.zero := by rw [crows_getD (by rw [List.length_replicate]; exact hin)]; simp [List.getD, hin]
    have e6 : (vrows ((List.replicate n Dy.zero).map can)).set i (crow (Dy.int 1)) = vrows ((tabV n (uI i)).map can) := by rw [crows_set, uI_row hin]
    generalize hq : n - i - 1 = q at *
    repeat' (first | (simp only [go_sem, seval, IntKind.bits.eq_def, ti, tin, e1, e3, e4, e6, e7]) | (simp (disch := omega) only [wA]) | (with_reducible first | refine cF o1 ?_ | refine dF o1 ?_) | refine aL ti_ok ?_ | refine dL ti_ok ?_ | refine dG ?_ | ((first | refine cC ?_ ?_ | refine gS ?_ ?_ | refine dS ?_ ?_) <;> intro hc <;> first | (exfalso; simp only [dcA] at hc; omega) | (simp only [hc]; try simp only [dcA] at hc)) | refine aO ?_ | refine dO ?_)
    refine roundEnd_of (α := Nat) (i + 1) (show i + 1 ≤ n by omega) (by omega) ?_
    by_cases hl : i + 1 < n
    · obtain ⟨q', rfl⟩ : ∃ q', q = q' + 1 := ⟨q - 1, by omega⟩
      rw [show idMem n (i + 1) = (1, (⟨3, vrows ((List.replicate n Dy.zero).map can)⟩ : MB)) :: (0, ⟨1, mrows (crM (tabD (i + 1) n uI)) ++ [.ps 1 3 0 n] :: slots (i + 1 + 1 + 1) (n - (i + 1) - 1) n⟩) :: nest (i + 1 + 1 + 1) (n - (i + 1) - 1) (zr n) from if_pos hl]
      rw [show n - (i + 1) - 1 = q' by omega]
      refine Weak.trans0 (s1 := ⟨[(4, .ps 0 1 0 n), (16, .v (.int .i64 n)), (17, .v (.int .i64 (i + 1 : Nat)))], (0, ⟨1, (mrows (crM (tabD i n uI)) ++ [[.sl 3 (vrows ((tabV n (uI i)).map can))]]) ++ slots (i + 1 + 1) (q' + 1) n⟩) :: nest (i + 1 + 1) (q' + 1) (zr n), 100⟩) (Weak.rowDone (T := nest (i + 1 + 1) (q' + 1) (zr n)) ?_ rfl rfl vtab_len.symm (fun b M h => ?_) (no_cl (mrows_cl _)) (Nat.le_of_ble_eq_true rfl)) (Nat.zero_lt_succ _) ?_
      · repeat' (first | exact trivial | exact ⟨_, rfl, .refl _⟩ | refine And.intro ?_ ?_)
      · obtain ⟨g1, g2, rfl⟩ := nest_look h
        refine ⟨by omega, by omega, ?_⟩
        show Ax.look ((1, _) :: (1, _) :: (0, _) :: nest (i + 1 + 1) (q' + 1) (zr n)) b = _
        simp only [Ax.look]; rw [if_neg (by omega), if_neg (by omega), if_neg (by omega)]; exact h
      · rw [← tabD_done]
        refine Weak.rowTakeL (c := i + 1 + 1) (by omega) (by omega) ?_ rfl (fun b h1 h2 => ?_) (mrows_cl _) zr_cl (MLe.zr _) (vrows_cl _)
        · repeat' (first | exact trivial | exact .inl ⟨_, rfl, .refl _, Cl.v _⟩ | exact .inr ⟨_, _, _, rfl, rfl⟩ | refine And.intro ?_ ?_)
        · show Ax.look ((0, _) :: nest (i + 1 + 1) (q' + 1) (zr n)) b = _
          simp only [Ax.look]; rw [if_neg (by omega)]; exact nest_has (by omega) (by omega)
    · have hq0 : q = 0 := by omega
      subst hq0
      have hin2 : i + 1 = n := by omega
      rw [show idMem n (i + 1) = [(0, (⟨1, mrows (crM (tabD n n uI))⟩ : MB))] from if_neg hl]
      have hT : mrows (crM (tabD n n uI)) = (mrows (crM (tabD i n uI)) ++ [[.sl 3 (vrows ((tabV n (uI i)).map can))]]) ++ [] := by
        conv => lhs; rw [show tabD n n uI = tabD (i + 1) n uI by rw [hin2]]
        rw [← tabD_done, List.append_nil]
      rw [hT]
      refine Weak.trans0 (s1 := ⟨[(4, .ps 0 1 0 n), (16, .v (.int .i64 n)), (17, .v (.int .i64 (i + 1 : Nat)))], (0, ⟨1, (mrows (crM (tabD i n uI)) ++ [[.sl 3 (vrows ((tabV n (uI i)).map can))]]) ++ []⟩) :: [], 100⟩) (Weak.rowDone (T := []) ?_ rfl rfl vtab_len.symm (fun b M h => by cases h) (no_cl (mrows_cl _)) (Nat.le_of_ble_eq_true rfl)) (Nat.zero_lt_succ _) ?_
      · repeat' (first | exact trivial | exact ⟨_, rfl, .refl _⟩ | refine And.intro ?_ ?_)
      · rw [← hT]
        exact byWeak
  ·
    have hin2 : i = n := by omega
    subst hin2
    rw [show idMem i i = [(0, (⟨1, mrows (crM (tabD i i uI))⟩ : MB))] from if_neg (Nat.lt_irrefl _)]
    repeat' (first | (simp only [go_sem, seval, IntKind.bits.eq_def, ti, tin]) | (simp (disch := omega) only [wA]) | refine aL ti_ok ?_ | refine dL ti_ok ?_ | refine dG ?_ | ((first | refine cC ?_ ?_ | refine gS ?_ ?_ | refine dS ?_ ?_) <;> intro hc <;> first | (exfalso; simp only [dcA] at hc; omega) | (simp only [hc]; try simp only [dcA] at hc)) | refine aO ?_ | refine dO ?_)
    refine fin_pub trivial (.tup (.cons (.one (.ps rfl rfl (by show 0 + i ≤ _; rw [done_len]; omega))) (.cons (.one .same) .nil))) ?_
    rw [List.drop_zero, List.take_of_length_le (by rw [done_len]; exact Nat.le_refl _)]
    exact .refl _
theorem refm_Power (a : List (List RD)) (k p n : Nat) (hp : p ≤ 1000) (h : ckM a = 0) (hn : a.length = n) (hs : (a.getD 0 []).length = n) (hk : k ≤ 64) (oa : okM p a) : CallOK Tryz.prog gl 18 [.sl 1 (mrows (a)), .v (.int .i64 k)] (.tup [.sl 1 (mrows (crM (powD (dyM a) k))), .v (.int .i64 0)]) := by
  refine call_ok (C := ⟨Tryz.prog, gl, ti, 44, false⟩) ti_ok mixed 3000 Tryz.call18 Tryz.func18 rfl Tryz.ntmps18 (by simp) byClL byCl ?_
  rw [Tryz.results18]
  obtain ⟨a1, a2, a3, a4, a5⟩ := ckM_ok h
  have c1 := ref_CheckM a (by omega)
  rw [h] at c1
  have r0 := mrows_getD (a := a) (i := 0) a1
  have l0 : (vrows (a.getD 0 [])).length = n := by rw [vrows_length, hs]
  have hr := rect_of h
  rw [hn, hs] at hr
  rw [hn] at a1 a2
  have u := refm_Id n a1 a2
  rw [show unitD n = powD (dyM a) 0 by unfold powD; rw [dyM_len, hn]] at u
  have gp : ∀ i, i ≤ 64 → ∀ x y, Mg 70000 (el (powD (dyM a) i) x y) := fun i hi x y => (mg_powD hr a1 (mg_el_raw oa) i x y).mono (by
    have : i * (p + n) ≤ 64 * 1008 := Nat.mul_le_mul hi (by omega)
    omega)
  have mu : ∀ i, i ≤ 64 → CallOK Tryz.prog gl 77 [.sl 1 (mrows (crM (powD (dyM a) i))), .sl 1 (mrows a)] (.tup [.sl 1 (mrows (crM (powD (dyM a) (i + 1)))), .v (.int .i64 0)]) := fun i hi => by
    have hri := pow_rect hr a1 i
    have := refm_Mul (crM (powD (dyM a) i)) a 70000 p (by omega) (by
      unfold bothE fitMul
      rw [if_pos (ckM_rect hri a1 a2 a1 a2), if_pos h, if_pos (decide_eq_true (by rw [crM_get, List.length_map, hri.2 0 a1, hn]))]) (okM_cr (gp i hi) (by omega)) oa
    rwa [dyM_cr] at this
  clear gp oa a5 a3 a4 hs
  generalize a.getD 0 [] = y at *
  repeat' (first | (simp only [go_sem, seval, IntKind.bits.eq_def, ti, tin, mrows_length, r0, l0, hn]) | (simp (disch := omega) only [wA]) | (with_reducible first | refine cF c1 ?_ | refine dF c1 ?_ | refine cF u ?_ | refine dF u ?_) | refine aL ti_ok ?_ | refine dL ti_ok ?_ | refine dG ?_ | ((first | refine cC ?_ ?_ | refine gS ?_ ?_ | refine dS ?_ ?_) <;> intro hc <;> first | (exfalso; simp only [dcA] at hc; omega) | (simp only [hc]; try simp only [dcA] at hc)) | refine aO ?_ | refine dO ?_)
  refine l_loop (α := Nat) (fun i => ⟨[(0, .sl 1 (mrows (a))), (7, .sl 1 (mrows (crM (powD (dyM a) i)))), (33, .v (.int .i64 k)), (34, .v (.int .i64 i))], [], 0⟩) (fun i => i ≤ k) (fun i => k - i) (0) _ byFresh (fun _ h => by first | (cases h; done) | exact Nat.le_of_ble_eq_true rfl) ?_ ?_ ?_
  · exact Nat.zero_le _
  · exact byWeak
  rintro i hi
  by_cases hik : i < k
  ·
    have c2 := mu i (by omega)
    repeat' (first | (simp only [go_sem, seval, IntKind.bits.eq_def, ti, tin]) | (simp (disch := omega) only [wA]) | (with_reducible first | refine cF c2 ?_ | refine dF c2 ?_) | refine aL ti_ok ?_ | refine dL ti_ok ?_ | refine dG ?_ | ((first | refine cC ?_ ?_ | refine gS ?_ ?_ | refine dS ?_ ?_) <;> intro hc <;> first | (exfalso; simp only [dcA] at hc; omega) | (simp only [hc]; try simp only [dcA] at hc)) | refine aO ?_ | refine dO ?_)
    refine roundEnd_of (α := Nat) (i + 1) (show i + 1 ≤ k by omega) (by omega) ?_
    exact byWeak
  ·
    have hik2 : i = k := by omega
    subst hik2
    repeat' (first | (simp only [go_sem, seval, IntKind.bits.eq_def, ti, tin]) | (simp (disch := omega) only [wA]) | refine aL ti_ok ?_ | refine dL ti_ok ?_ | refine dG ?_ | ((first | refine cC ?_ ?_ | refine gS ?_ ?_ | refine dS ?_ ?_) <;> intro hc <;> first | (exfalso; simp only [dcA] at hc; omega) | (simp only [hc]; try simp only [dcA] at hc)) | refine aO ?_ | refine dO ?_)
    all_goals exact fin_same trivial rfl
end Go.Proofs.YtpggiabnhodjpaaGreatDoor
/- The reference's matrices (ref04): LeRow, Le, Norm. -/
set_option linter.unusedSimpArgs false
set_option linter.unusedVariables false
set_option linter.deprecated false
namespace Go.Proofs.YtpggiabnhodjpaaGreatDoor
open Go Go.Ax
set_option maxRecDepth 100000
set_option maxHeartbeats 4000000
def leV (x y : List RD) : Bool := decide (∀ j, j < x.length → (x.getD j RD.zero).dy.cmp (y.getD j RD.zero).dy ≤ 0)
theorem ref_LeRow (x y : List RD) (p : Nat) (hx : x.length ≤ 1000) (hxy : x.length = y.length) (ox : okV p x) (oy : okV p y) : CallOK Tryz.prog gl 82 [.sl 3 (vrows (x)), .sl 3 (vrows (y))] (.v (.bool ((leV x y)))) := by
  refine call_ok (C := ⟨Tryz.prog, gl, ti, 22, false⟩) ti_ok mixed 3000 Tryz.call82 Tryz.func82 rfl Tryz.ntmps82 (by simp) byClL byCl ?_
  rw [Tryz.results82]
  obtain ⟨z, hz⟩ : ∃ z, leV x y = z := ⟨_, rfl⟩
  rw [hz]
  obtain ⟨m, hm⟩ : ∃ m, x.length = m := ⟨_, rfl⟩
  have hm' : y.length = m := by omega
  have hzT : (∀ j, j < m → (x.getD j RD.zero).dy.cmp (y.getD j RD.zero).dy ≤ 0) → z = true := fun h => by rw [← hz]; exact decide_eq_true (fun j hj => h j (by omega))
  have hzF : ¬ (∀ j, j < m → (x.getD j RD.zero).dy.cmp (y.getD j RD.zero).dy ≤ 0) → z = false := fun h => by rw [← hz]; exact decide_eq_false (fun hh => h (fun j hj => hh j (by omega)))
  clear hz
  rw [hm] at hx
  repeat' (first | (simp only [go_sem, seval, IntKind.bits.eq_def, ti, tin, vrows_length, hm]) | (simp (disch := omega) only [wA]) | refine aL ti_ok ?_ | refine dL ti_ok ?_ | refine dG ?_ | ((first | refine cC ?_ ?_ | refine gS ?_ ?_ | refine dS ?_ ?_) <;> intro hc <;> first | (exfalso; simp only [dcA] at hc; omega) | (simp only [hc]; try simp only [dcA] at hc)) | refine aO ?_ | refine dO ?_)
  refine l_loop (α := Nat) (fun j => ⟨[(0, .sl 3 (vrows (x))), (1, .sl 3 (vrows (y))), (7, .v (.int .i64 m)), (8, .v (.int .i64 j))], [], 0⟩) (fun j => j ≤ m ∧ ∀ j', j' < j → (x.getD j' RD.zero).dy.cmp (y.getD j' RD.zero).dy ≤ 0) (fun j => m - j) (0) _ byFresh (fun _ h => by first | (cases h; done) | exact Nat.le_of_ble_eq_true rfl) ?_ ?_ ?_
  · exact ⟨Nat.zero_le _, fun j' h => by omega⟩
  · exact byWeak
  rintro j ⟨hj, hrow⟩
  by_cases hjm : j < m
  ·
    have rj := vrows_getD (l := x) (i := j) (by omega)
    have rj' := vrows_getD (l := y) (i := j) (by omega)
    have cm := ref_Cmp _ _ _ _ _ _ _ _ (RD.arg (ox j).1) (RD.arg (oy j).1)
    have hz3 : ¬ (x.getD j RD.zero).dy.cmp (y.getD j RD.zero).dy ≤ 0 → z = false := fun h => hzF (fun hh => h (hh j hjm))
    have hstep2 : (x.getD j RD.zero).dy.cmp (y.getD j RD.zero).dy ≤ 0 → ∀ j', j' < j + 1 → (x.getD j' RD.zero).dy.cmp (y.getD j' RD.zero).dy ≤ 0 := fun h j' hj' => by
      by_cases e : j' = j
      · rw [e]; exact h
      · exact hrow j' (by omega)
    clear hrow hzT hzF ox oy
    unfold vrow at rj rj'
    generalize hc : (x.getD j RD.zero).dy.cmp (y.getD j RD.zero).dy = c at *
    clear hc
    generalize x.getD j RD.zero = r at *
    generalize y.getD j RD.zero = r' at *
    by_cases hc0 : c ≤ 0
    ·
      have hrow2 := hstep2 hc0
      clear hstep2 hz3
      repeat' (first | (simp only [go_sem, seval, IntKind.bits.eq_def, ti, tin, vrows_length, hm, hm', rj, rj']) | (simp (disch := omega) only [wA]) | (with_reducible first | refine cF cm ?_ | refine dF cm ?_) | refine aL ti_ok ?_ | refine dL ti_ok ?_ | refine dG ?_ | ((first | refine cC ?_ ?_ | refine gS ?_ ?_ | refine dS ?_ ?_) <;> intro hc <;> first | (exfalso; simp only [dcA] at hc; omega) | (simp only [hc]; try simp only [dcA] at hc)) | refine aO ?_ | refine dO ?_)
      refine roundEnd_of (α := Nat) (j + 1) ⟨by omega, hrow2⟩ (by omega) ?_
      exact byWeak
    ·
      have hz4 := hz3 hc0
      subst hz4
      clear hstep2 hz3
      repeat' (first | (simp only [go_sem, seval, IntKind.bits.eq_def, ti, tin, vrows_length, hm, hm', rj, rj']) | (simp (disch := omega) only [wA]) | (with_reducible first | refine cF cm ?_ | refine dF cm ?_) | refine aL ti_ok ?_ | refine dL ti_ok ?_ | refine dG ?_ | ((first | refine cC ?_ ?_ | refine gS ?_ ?_ | refine dS ?_ ?_) <;> intro hc <;> first | (exfalso; simp only [dcA] at hc; omega) | (simp only [hc]; try simp only [dcA] at hc)) | refine aO ?_ | refine dO ?_)
      all_goals exact fin_same trivial rfl
  ·
    have hz2 : z = true := hzT (fun j' h => hrow j' (by omega))
    subst hz2
    repeat' (first | (simp only [go_sem, seval, IntKind.bits.eq_def, ti, tin]) | (simp (disch := omega) only [wA]) | refine aL ti_ok ?_ | refine dL ti_ok ?_ | refine dG ?_ | ((first | refine cC ?_ ?_ | refine gS ?_ ?_ | refine dS ?_ ?_) <;> intro hc <;> first | (exfalso; simp only [dcA] at hc; omega) | (simp only [hc]; try simp only [dcA] at hc)) | refine aO ?_ | refine dO ?_)
    all_goals exact fin_same trivial rfl
theorem refm_Le (a b : List (List RD)) (p : Nat) (h : bothE a b (fitAdd a b) = 0) (oa : okM p a) (ob : okM p b) : CallOK Tryz.prog gl 89 [.sl 1 (mrows (a)), .sl 1 (mrows (b))] (.tup [.v (.bool ((leD (dyM a) (dyM b)))), .v (.int .i64 0)]) := by
  refine call_ok (C := ⟨Tryz.prog, gl, ti, 46, false⟩) ti_ok mixed 3000 Tryz.call89 Tryz.func89 rfl Tryz.ntmps89 (by simp) byClL byCl ?_
  rw [Tryz.results89]
  obtain ⟨h1, h2, h3⟩ := bothE_ok h
  obtain ⟨a1, a2, a3, a4, a5⟩ := ckM_ok h1
  obtain ⟨b1, b2, b3, b4, b5⟩ := ckM_ok h2
  obtain ⟨h4, h5⟩ := of_decide_eq_true h3
  have c1 := ref_Both a b (by omega) (by omega)
  rw [if_pos h1, h2] at c1
  rw [leD_spec a5]
  obtain ⟨z, hz⟩ : ∃ z, decide (∀ i, i < a.length → ∀ j, j < (a.getD 0 []).length → ((a.getD i []).getD j RD.zero).dy.cmp ((b.getD i []).getD j RD.zero).dy ≤ 0) = z := ⟨_, rfl⟩
  rw [hz]
  obtain ⟨n, hn⟩ : ∃ n, a.length = n := ⟨_, rfl⟩
  obtain ⟨m, hm⟩ : ∃ m, (a.getD 0 []).length = m := ⟨_, rfl⟩
  have hn' : b.length = n := by omega
  have hm' : (b.getD 0 []).length = m := by omega
  have hzT : (∀ i, i < n → leV (a.getD i []) (b.getD i []) = true) → z = true := fun h => by rw [← hz]; exact decide_eq_true (fun i hi j hj => of_decide_eq_true (h i (by omega)) j (by rw [a5 i hi]; exact hj))
  have hzF : ∀ i, i < n → leV (a.getD i []) (b.getD i []) = false → z = false := fun i hi h => by rw [← hz]; exact decide_eq_false (fun hh => of_decide_eq_false h (fun j hj => hh i (by omega) j (by rw [a5 i (by omega)] at hj; exact hj)))
  clear hz
  rw [hm] at a5 a3 a4
  rw [hm', hn'] at b5
  rw [hn] at a5 a1 a2
  have r0 := mrows_getD (a := a) (i := 0) (by omega)
  have l0 : (vrows (a.getD 0 [])).length = m := by rw [vrows_length, hm]
  have r1 := mrows_getD (a := b) (i := 0) (by omega)
  have l1 : (vrows (b.getD 0 [])).length = m := by rw [vrows_length, hm']
  clear h h3
  repeat' (first | (simp only [go_sem, seval, IntKind.bits.eq_def, ti, tin, mrows_length, hn, hn', r0, l0, r1, l1]) | (simp (disch := omega) only [wA]) | (with_reducible first | refine cF c1 ?_ | refine dF c1 ?_) | refine aL ti_ok ?_ | refine dL ti_ok ?_ | refine dG ?_ | ((first | refine cC ?_ ?_ | refine gS ?_ ?_ | refine dS ?_ ?_) <;> intro hc <;> first | (exfalso; simp only [dcA] at hc; omega) | (simp only [hc]; try simp only [dcA] at hc)) | refine aO ?_ | refine dO ?_)
  refine l_loop (α := Nat) (fun i => ⟨[(0, .sl 1 (mrows (a))), (1, .sl 1 (mrows (b))), (31, .v (.int .i64 n)), (32, .v (.int .i64 i))], [], 0⟩) (fun i => i ≤ n ∧ ∀ i', i' < i → leV (a.getD i' []) (b.getD i' []) = true) (fun i => n - i) (0) _ byFresh (fun _ h => by first | (cases h; done) | exact Nat.le_of_ble_eq_true rfl) ?_ ?_ ?_
  · exact ⟨Nat.zero_le _, fun i' h => by omega⟩
  · exact byWeak
  rintro i ⟨hi, hall⟩
  by_cases hin : i < n
  ·
    have ri := mrows_getD (a := a) (i := i) (by omega)
    have ri' := mrows_getD (a := b) (i := i) (by omega)
    have lr := ref_LeRow (a.getD i []) (b.getD i []) p (by rw [a5 i hin]; omega) (by rw [a5 i hin, b5 i hin]) (oa i) (ob i)
    have hz2 := hzF i hin
    have hstep : leV (a.getD i []) (b.getD i []) = true → ∀ i', i' < i + 1 → leV (a.getD i' []) (b.getD i' []) = true := fun h i' hi' => by
      by_cases e : i' = i
      · rw [e]; exact h
      · exact hall i' (by omega)
    clear oa ob hzF hzT hall
    cases hv : leV (a.getD i []) (b.getD i []) with
    | true =>
      have hall2 := hstep hv
      rw [hv] at lr
      clear hz2 hstep
      generalize a.getD i [] = x at *
      generalize b.getD i [] = y at *
      repeat' (first | (simp only [go_sem, seval, IntKind.bits.eq_def, ti, tin, mrows_length, hn, hn', ri, ri']) | (simp (disch := omega) only [wA]) | (with_reducible first | refine cF lr ?_ | refine dF lr ?_) | refine aL ti_ok ?_ | refine dL ti_ok ?_ | refine dG ?_ | ((first | refine cC ?_ ?_ | refine gS ?_ ?_ | refine dS ?_ ?_) <;> intro hc <;> first | (exfalso; simp only [dcA] at hc; omega) | (simp only [hc]; try simp only [dcA] at hc)) | refine aO ?_ | refine dO ?_)
      refine roundEnd_of (α := Nat) (i + 1) ⟨by omega, hall2⟩ (by omega) ?_
      exact byWeak
    | false =>
      have hz3 := hz2 hv
      subst hz3
      rw [hv] at lr
      clear hz2 hstep
      generalize a.getD i [] = x at *
      generalize b.getD i [] = y at *
      repeat' (first | (simp only [go_sem, seval, IntKind.bits.eq_def, ti, tin, mrows_length, hn, hn', ri, ri']) | (simp (disch := omega) only [wA]) | (with_reducible first | refine cF lr ?_ | refine dF lr ?_) | refine aL ti_ok ?_ | refine dL ti_ok ?_ | refine dG ?_ | ((first | refine cC ?_ ?_ | refine gS ?_ ?_ | refine dS ?_ ?_) <;> intro hc <;> first | (exfalso; simp only [dcA] at hc; omega) | (simp only [hc]; try simp only [dcA] at hc)) | refine aO ?_ | refine dO ?_)
      all_goals exact fin_same trivial rfl
  ·
    have hz2 : z = true := hzT (fun i' h => hall i' (by omega))
    subst hz2
    repeat' (first | (simp only [go_sem, seval, IntKind.bits.eq_def, ti, tin]) | (simp (disch := omega) only [wA]) | refine aL ti_ok ?_ | refine dL ti_ok ?_ | refine dG ?_ | ((first | refine cC ?_ ?_ | refine gS ?_ ?_ | refine dS ?_ ?_) <;> intro hc <;> first | (exfalso; simp only [dcA] at hc; omega) | (simp only [hc]; try simp only [dcA] at hc)) | refine aO ?_ | refine dO ?_)
    all_goals exact fin_same trivial rfl
end Go.Proofs.YtpggiabnhodjpaaGreatDoor
