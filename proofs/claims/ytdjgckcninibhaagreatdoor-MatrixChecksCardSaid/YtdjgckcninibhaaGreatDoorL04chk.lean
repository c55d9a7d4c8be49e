/- The statement MatrixChecks: its code returns true. -/
import Derived.Test.YtdjgckcninibhaaGreatDoorL04e
import Derived.Test.YtdjgckcninibhaaGreatDoorMat8
set_option linter.unusedSimpArgs false
set_option linter.unusedVariables false
set_option linter.deprecated false
namespace Go.Proofs.YtdjgckcninibhaaGreatDoor
open Go Go.Ax
set_option maxRecDepth 100000
set_option maxHeartbeats 4000000

def uI (i j : Nat) : Dy := if i = j then Dy.int 1 else Dy.zero
def idMem (n i : Nat) : List (Nat × MB) :=
  if i < n then (1, ⟨3, vrows ((List.replicate n Dy.zero).map can)⟩) :: (0, ⟨1, mrows (crM (tabD i n uI)) ++ [.ps 1 3 0 n] :: slots (i + 1 + 1) (n - i - 1) n⟩) :: nest (i + 1 + 1) (n - i - 1) (zr n)
  else [(0, ⟨1, mrows (crM (tabD n n uI))⟩)]
theorem uI_row {n i : Nat} (h : i < n) : (List.replicate n Dy.zero).set i (Dy.int 1) = tabV n (uI i) := by
  refine list_ext (d := Dy.zero) (by simp [tabV_len]) fun j hj => ?_
  have hjn : j < n := by simpa using hj
  rw [tabV_get hjn]
  unfold uI
  by_cases e : i = j
  · subst e; rw [if_pos rfl]; simp [List.getD, hjn]
  · rw [if_neg e]; simp [List.getD, hjn, e]
theorem refm_Id_err (n : Int) (h : n < 1 ∨ 8 < n) : CallOK Tryz.prog gl 104 [.v (.int .i64 n)] (.tup [.v (.slice none 0 0), .v (.int .i64 3)]) := by
  refine call_ok (C := ⟨Tryz.prog, gl, ti, 29, false⟩) ti_ok mixed 3000 Tryz.call104 Tryz.func104 rfl Tryz.ntmps104 (by simp) byClL byCl ?_
  rw [Tryz.results104]
  by_cases h1 : n < 1
  · clear h
    repeat' (first | (simp only [go_sem, Int.reduceAdd, Int.reduceEq, Int.reduceLE, Int.reduceLT, Int.reduceMul, Int.reduceNeg, Int.reducePow, Int.reduceSub, Int.reduceToNat, Nat.reduceAdd, Nat.reduceBEq, Nat.reduceEqDiff, Nat.reduceLT, Nat.reduceLeDiff, Nat.reduceMul, Nat.reducePow, Nat.reduceSub, reduceCtorEq, reduceIte, IntKind.bits.eq_def, ti, tin]) | (simp (disch := omega) only [w64, wu64, wu32, Nat.min_eq_left]) | (refine aL ti_ok ?_) | (refine dL ti_ok ?_) | (refine dE (by kernel_rfl) ?_) | ((first | refine cC ?_ ?_ | refine gS ?_ ?_ | refine dS ?_ ?_) <;> intro hc <;> first | (exfalso; simp only [dcT, dcF, bnT, bnF, bnU, bnV] at hc; omega) | (simp only [hc]; try simp only [dcT, dcF, bnT, bnF, bnU, bnV] at hc)) | (refine aN (by omega) ?_) | (refine dN (by omega) ?_))
    all_goals exact fin_same trivial rfl
  · have h2 : 8 < n := by omega
    clear h
    repeat' (first | (simp only [go_sem, Int.reduceAdd, Int.reduceEq, Int.reduceLE, Int.reduceLT, Int.reduceMul, Int.reduceNeg, Int.reducePow, Int.reduceSub, Int.reduceToNat, Nat.reduceAdd, Nat.reduceBEq, Nat.reduceEqDiff, Nat.reduceLT, Nat.reduceLeDiff, Nat.reduceMul, Nat.reducePow, Nat.reduceSub, reduceCtorEq, reduceIte, IntKind.bits.eq_def, ti, tin]) | (simp (disch := omega) only [w64, wu64, wu32, Nat.min_eq_left]) | (refine aL ti_ok ?_) | (refine dL ti_ok ?_) | (refine dE (by kernel_rfl) ?_) | ((first | refine cC ?_ ?_ | refine gS ?_ ?_ | refine dS ?_ ?_) <;> intro hc <;> first | (exfalso; simp only [dcT, dcF, bnT, bnF, bnU, bnV] at hc; omega) | (simp only [hc]; try simp only [dcT, dcF, bnT, bnF, bnU, bnV] at hc)) | (refine aN (by omega) ?_) | (refine dN (by omega) ?_))
    all_goals exact fin_same trivial rfl
theorem refm_Id (n : Nat) (h1 : 1 ≤ n) (h8 : n ≤ 8) : CallOK Tryz.prog gl 104 [.v (.int .i64 n)] (.tup [.sl 1 (mrows (crM (unitD n))), .v (.int .i64 0)]) := by
  refine call_ok (C := ⟨Tryz.prog, gl, ti, 29, false⟩) ti_ok mixed 3000 Tryz.call104 Tryz.func104 rfl Tryz.ntmps104 (by simp) byClL byCl ?_
  rw [Tryz.results104]
  have o1 := ref_Of 1 (by omega)
  repeat' (first | (simp only [go_sem, Int.reduceAdd, Int.reduceEq, Int.reduceLE, Int.reduceLT, Int.reduceMul, Int.reduceNeg, Int.reducePow, Int.reduceSub, Int.reduceToNat, Nat.reduceAdd, Nat.reduceBEq, Nat.reduceEqDiff, Nat.reduceLT, Nat.reduceLeDiff, Nat.reduceMul, Nat.reducePow, Nat.reduceSub, reduceCtorEq, reduceIte, IntKind.bits.eq_def, ti, tin]) | (simp (disch := omega) only [w64, wu64, wu32, Nat.min_eq_left]) | (refine aL ti_ok ?_) | (refine dL ti_ok ?_) | (refine dE (by kernel_rfl) ?_) | ((first | refine cC ?_ ?_ | refine gS ?_ ?_ | refine dS ?_ ?_) <;> intro hc <;> first | (exfalso; simp only [dcT, dcF, bnT, bnF, bnU, bnV] at hc; omega) | (simp only [hc]; try simp only [dcT, dcF, bnT, bnF, bnU, bnV] at hc)) | (refine aN (by omega) ?_) | (refine dN (by omega) ?_))
  refine callF_n 12 rfl (show n + 1 ≤ 12 by omega) rfl ?_ zr_cl (.cons (.refl _) (.cons (.refl _) .nil)) (ref_ZeroM n n (by omega) (by omega)) ?_
  · repeat' (first | exact trivial | exact Cl.v _ | exact Cl.mat | exact Cl.vec | refine And.intro ?_ ?_)
  repeat' (first | (simp only [go_sem, Int.reduceAdd, Int.reduceEq, Int.reduceLE, Int.reduceLT, Int.reduceMul, Int.reduceNeg, Int.reducePow, Int.reduceSub, Int.reduceToNat, Nat.reduceAdd, Nat.reduceBEq, Nat.reduceEqDiff, Nat.reduceLT, Nat.reduceLeDiff, Nat.reduceMul, Nat.reducePow, Nat.reduceSub, reduceCtorEq, reduceIte, IntKind.bits.eq_def, ti, tin]) | (simp (disch := omega) only [w64, wu64, wu32, Nat.min_eq_left]) | (refine aL ti_ok ?_) | (refine dL ti_ok ?_) | (refine dE (by kernel_rfl) ?_) | ((first | refine cC ?_ ?_ | refine gS ?_ ?_ | refine dS ?_ ?_) <;> intro hc <;> first | (exfalso; simp only [dcT, dcF, bnT, bnF, bnU, bnV] at hc; omega) | (simp only [hc]; try simp only [dcT, dcF, bnT, bnF, bnU, bnV] at hc)) | (refine aN (by omega) ?_) | (refine dN (by omega) ?_))
  refine l_loop (α := Nat) (fun i => ⟨[(4, .ps 0 1 0 n), (16, .v (.int .i64 n)), (17, .v (.int .i64 i))], idMem n i, 12⟩) (fun i => i ≤ n) (fun i => n - i) (0) _ byFresh (fun _ h => by first | (cases h; done) | exact Nat.le_of_ble_eq_true rfl) ?_ ?_ ?_
  · exact Nat.zero_le _
  · obtain ⟨q, rfl⟩ : ∃ q, n = q + 1 := ⟨n - 1, by omega⟩
    rw [show idMem (q + 1) 0 = (1, (⟨3, vrows ((List.replicate (q + 1) Dy.zero).map can)⟩ : MB)) :: (0, ⟨1, mrows (crM (tabD 0 (q + 1) uI)) ++ [.ps 1 3 0 (q + 1)] :: slots (1 + 1) q (q + 1)⟩) :: nest (1 + 1) q (zr (q + 1)) from if_pos (by omega)]
    refine Weak.rowTakeL (D := mrows (crM (tabD 0 (q + 1) uI))) (c := 1) (by omega) (by omega) ?_ rfl (fun b h1 h2 => ?_) (mrows_cl _) zr_cl (MLe.zr _) (vrows_cl _)
    · repeat' (first | exact trivial | exact .inl ⟨_, rfl, .refl _, Cl.v _⟩ | exact .inr ⟨_, _, _, rfl, rfl⟩ | refine And.intro ?_ ?_)
    · show Ax.look ((0, _) :: nest 1 (q + 1) (zr (q + 1))) b = _
      simp only [Ax.look]; rw [if_neg (by omega)]; exact nest_has (by omega) (by omega)
  rintro i hi
  by_cases hin : i < n
  ·
    have hmem : idMem n i = (1, (⟨3, vrows ((List.replicate n Dy.zero).map can)⟩ : MB)) :: (0, ⟨1, mrows (crM (tabD i n uI)) ++ [.ps 1 3 0 n] :: slots (i + 1 + 1) (n - i - 1) n⟩) :: nest (i + 1 + 1) (n - i - 1) (zr n) := if_pos hin
    rw [hmem]
    have hD : (mrows (crM (tabD i n uI))).length = i := done_len
    have e1 := getD_mid (d := []) (x := [AV.ps 1 3 0 n]) (R := slots (i + 1 + 1) (n - i - 1) n) hD
    have e3 : (mrows (crM (tabD i n uI)) ++ [AV.ps 1 3 0 n] :: slots (i + 1 + 1) (n - i - 1) n).length = n := by rw [List.length_append, hD, List.length_cons, slots_len]; omega
    have e4 : (vrows ((List.replicate n Dy.zero).map can)).length = n := by rw [crows_length, List.length_replicate]
    have e7 : (vrows ((List.replicate n Dy.zero).map can)).getD i [] = crow Dy.zero := by rw [crows_getD (by rw [List.length_replicate]; exact hin)]; simp [List.getD, hin]
    have e6 : (vrows ((List.replicate n Dy.zero).map can)).set i (crow (Dy.int 1)) = vrows ((tabV n (uI i)).map can) := by rw [crows_set, uI_row hin]
    generalize hq : n - i - 1 = q at *
    repeat' (first | (simp only [go_sem, Int.reduceAdd, Int.reduceEq, Int.reduceLE, Int.reduceLT, Int.reduceMul, Int.reduceNeg, Int.reducePow, Int.reduceSub, Int.reduceToNat, Nat.reduceAdd, Nat.reduceBEq, Nat.reduceEqDiff, Nat.reduceLT, Nat.reduceLeDiff, Nat.reduceMul, Nat.reducePow, Nat.reduceSub, reduceCtorEq, reduceIte, IntKind.bits.eq_def, ti, tin, e1, e3, e4, e6, e7]) | (simp (disch := omega) only [w64, wu64, wu32, Nat.min_eq_left]) | (with_reducible first | refine cF (o1) ?_ | refine dF (o1) ?_) | (refine aL ti_ok ?_) | (refine dL ti_ok ?_) | (refine dE (by kernel_rfl) ?_) | ((first | refine cC ?_ ?_ | refine gS ?_ ?_ | refine dS ?_ ?_) <;> intro hc <;> first | (exfalso; simp only [dcT, dcF, bnT, bnF, bnU, bnV] at hc; omega) | (simp only [hc]; try simp only [dcT, dcF, bnT, bnF, bnU, bnV] at hc)) | (refine aN (by omega) ?_) | (refine dN (by omega) ?_))
    refine roundEnd_of (α := Nat) (i + 1) (show i + 1 ≤ n by omega) (by omega) ?_
    by_cases hl : i + 1 < n
    · obtain ⟨q', rfl⟩ : ∃ q', q = q' + 1 := ⟨q - 1, by omega⟩
      rw [show idMem n (i + 1) = (1, (⟨3, vrows ((List.replicate n Dy.zero).map can)⟩ : MB)) :: (0, ⟨1, mrows (crM (tabD (i + 1) n uI)) ++ [.ps 1 3 0 n] :: slots (i + 1 + 1 + 1) (n - (i + 1) - 1) n⟩) :: nest (i + 1 + 1 + 1) (n - (i + 1) - 1) (zr n) from if_pos hl]
      rw [show n - (i + 1) - 1 = q' by omega]
      refine Weak.trans0 (s1 := ⟨[(4, .ps 0 1 0 n), (16, .v (.int .i64 n)), (17, .v (.int .i64 (i + 1 : Nat)))], (0, ⟨1, (mrows (crM (tabD i n uI)) ++ [[.sl 3 (vrows ((tabV n (uI i)).map can))]]) ++ slots (i + 1 + 1) (q' + 1) n⟩) :: nest (i + 1 + 1) (q' + 1) (zr n), 100⟩) (Weak.rowDone (T := nest (i + 1 + 1) (q' + 1) (zr n)) ?_ rfl rfl vtab_len.symm (fun b M h => ?_) (no_cl (mrows_cl _)) (Nat.le_of_ble_eq_true rfl)) (Nat.zero_lt_succ _) ?_
      · repeat' (first | exact trivial | exact ⟨_, rfl, .refl _⟩ | refine And.intro ?_ ?_)
      · obtain ⟨g1, g2, rfl⟩ := nest_look h
        refine ⟨by omega, by omega, ?_⟩
        show Ax.look ((1, _) :: (1, _) :: (0, _) :: nest (i + 1 + 1) (q' + 1) (zr n)) b = _
        simp only [Ax.look]; rw [if_neg (by omega), if_neg (by omega), if_neg (by omega)]; exact h
      · rw [← tabD_done]
        refine Weak.rowTakeL (c := i + 1 + 1) (by omega) (by omega) ?_ rfl (fun b h1 h2 => ?_) (mrows_cl _) zr_cl (MLe.zr _) (vrows_cl _)
        · repeat' (first | exact trivial | exact .inl ⟨_, rfl, .refl _, Cl.v _⟩ | exact .inr ⟨_, _, _, rfl, rfl⟩ | refine And.intro ?_ ?_)
        · show Ax.look ((0, _) :: nest (i + 1 + 1) (q' + 1) (zr n)) b = _
          simp only [Ax.look]; rw [if_neg (by omega)]; exact nest_has (by omega) (by omega)
    · have hq0 : q = 0 := by omega
      subst hq0
      have hin2 : i + 1 = n := by omega
      rw [show idMem n (i + 1) = [(0, (⟨1, mrows (crM (tabD n n uI))⟩ : MB))] from if_neg hl]
      have hT : mrows (crM (tabD n n uI)) = (mrows (crM (tabD i n uI)) ++ [[.sl 3 (vrows ((tabV n (uI i)).map can))]]) ++ [] := by
        conv => lhs; rw [show tabD n n uI = tabD (i + 1) n uI by rw [hin2]]
        rw [← tabD_done, List.append_nil]
      rw [hT]
      refine Weak.trans0 (s1 := ⟨[(4, .ps 0 1 0 n), (16, .v (.int .i64 n)), (17, .v (.int .i64 (i + 1 : Nat)))], (0, ⟨1, (mrows (crM (tabD i n uI)) ++ [[.sl 3 (vrows ((tabV n (uI i)).map can))]]) ++ []⟩) :: [], 100⟩) (Weak.rowDone (T := []) ?_ rfl rfl vtab_len.symm (fun b M h => by cases h) (no_cl (mrows_cl _)) (Nat.le_of_ble_eq_true rfl)) (Nat.zero_lt_succ _) ?_
      · repeat' (first | exact trivial | exact ⟨_, rfl, .refl _⟩ | refine And.intro ?_ ?_)
      · rw [← hT]
        exact byWeak
  ·
    have hin2 : i = n := by omega
    subst hin2
    rw [show idMem i i = [(0, (⟨1, mrows (crM (tabD i i uI))⟩ : MB))] from if_neg (Nat.lt_irrefl _)]
    repeat' (first | (simp only [go_sem, Int.reduceAdd, Int.reduceEq, Int.reduceLE, Int.reduceLT, Int.reduceMul, Int.reduceNeg, Int.reducePow, Int.reduceSub, Int.reduceToNat, Nat.reduceAdd, Nat.reduceBEq, Nat.reduceEqDiff, Nat.reduceLT, Nat.reduceLeDiff, Nat.reduceMul, Nat.reducePow, Nat.reduceSub, reduceCtorEq, reduceIte, IntKind.bits.eq_def, ti, tin]) | (simp (disch := omega) only [w64, wu64, wu32, Nat.min_eq_left]) | (refine aL ti_ok ?_) | (refine dL ti_ok ?_) | (refine dE (by kernel_rfl) ?_) | ((first | refine cC ?_ ?_ | refine gS ?_ ?_ | refine dS ?_ ?_) <;> intro hc <;> first | (exfalso; simp only [dcT, dcF, bnT, bnF, bnU, bnV] at hc; omega) | (simp only [hc]; try simp only [dcT, dcF, bnT, bnF, bnU, bnV] at hc)) | (refine aN (by omega) ?_) | (refine dN (by omega) ?_))
    refine fin_pub trivial (.tup (.cons (.one (.ps rfl rfl (by show 0 + i ≤ _; rw [done_len]; omega))) (.cons (.one .same) .nil))) ?_
    rw [List.drop_zero, List.take_of_length_le (by rw [done_len]; exact Nat.le_refl _)]
    exact .refl _
theorem mat_Id_err (n : Int) (h : n < 1 ∨ 8 < n) : CallOK Tryz.prog gl 103 [.v (.int .i64 n)] (.tup [.v (.slice none 0 0), .v (.iface 155 (.int .i64 3))]) := by
  refine call_ok (C := ⟨Tryz.prog, gl, ti, 13, false⟩) ti_ok mixed 3000 Tryz.call103 Tryz.func103 rfl Tryz.ntmps103 (by simp) byClL byCl ?_
  rw [Tryz.results103]
  by_cases h1 : n < 1
  · clear h
    repeat' (first | (simp only [go_sem, Int.reduceAdd, Int.reduceEq, Int.reduceLE, Int.reduceLT, Int.reduceMul, Int.reduceNeg, Int.reducePow, Int.reduceSub, Int.reduceToNat, Nat.reduceAdd, Nat.reduceBEq, Nat.reduceEqDiff, Nat.reduceLT, Nat.reduceLeDiff, Nat.reduceMul, Nat.reducePow, Nat.reduceSub, reduceCtorEq, reduceIte, IntKind.bits.eq_def, ti, tin]) | (simp (disch := omega) only [w64, wu64, wu32, Nat.min_eq_left]) | (refine aL ti_ok ?_) | (refine dL ti_ok ?_) | (refine dE (by kernel_rfl) ?_) | ((first | refine cC ?_ ?_ | refine gS ?_ ?_ | refine dS ?_ ?_) <;> intro hc <;> first | (exfalso; simp only [dcT, dcF, bnT, bnF, bnU, bnV] at hc; omega) | (simp only [hc]; try simp only [dcT, dcF, bnT, bnF, bnU, bnV] at hc)) | (refine aN (by omega) ?_) | (refine dN (by omega) ?_))
    all_goals exact fin_same trivial rfl
  · have h2 : 8 < n := by omega
    clear h
    repeat' (first | (simp only [go_sem, Int.reduceAdd, Int.reduceEq, Int.reduceLE, Int.reduceLT, Int.reduceMul, Int.reduceNeg, Int.reducePow, Int.reduceSub, Int.reduceToNat, Nat.reduceAdd, Nat.reduceBEq, Nat.reduceEqDiff, Nat.reduceLT, Nat.reduceLeDiff, Nat.reduceMul, Nat.reducePow, Nat.reduceSub, reduceCtorEq, reduceIte, IntKind.bits.eq_def, ti, tin]) | (simp (disch := omega) only [w64, wu64, wu32, Nat.min_eq_left]) | (refine aL ti_ok ?_) | (refine dL ti_ok ?_) | (refine dE (by kernel_rfl) ?_) | ((first | refine cC ?_ ?_ | refine gS ?_ ?_ | refine dS ?_ ?_) <;> intro hc <;> first | (exfalso; simp only [dcT, dcF, bnT, bnF, bnU, bnV] at hc; omega) | (simp only [hc]; try simp only [dcT, dcF, bnT, bnF, bnU, bnV] at hc)) | (refine aN (by omega) ?_) | (refine dN (by omega) ?_))
    all_goals exact fin_same trivial rfl
theorem mat_Id (n : Nat) (h1 : 1 ≤ n) (h8 : n ≤ 8) : CallOK Tryz.prog gl 103 [.v (.int .i64 n)] (.tup [.sl 1 (mrows (crM (unitD n))), .v .nilIface]) := by
  refine call_ok (C := ⟨Tryz.prog, gl, ti, 13, false⟩) ti_ok mixed 3000 Tryz.call103 Tryz.func103 rfl Tryz.ntmps103 (by simp) byClL byCl ?_
  rw [Tryz.results103]
  have u := mat_unit n h8
  generalize crM (unitD n) = z at *
  repeat' (first | (simp only [go_sem, Int.reduceAdd, Int.reduceEq, Int.reduceLE, Int.reduceLT, Int.reduceMul, Int.reduceNeg, Int.reducePow, Int.reduceSub, Int.reduceToNat, Nat.reduceAdd, Nat.reduceBEq, Nat.reduceEqDiff, Nat.reduceLT, Nat.reduceLeDiff, Nat.reduceMul, Nat.reducePow, Nat.reduceSub, reduceCtorEq, reduceIte, IntKind.bits.eq_def, ti, tin]) | (simp (disch := omega) only [w64, wu64, wu32, Nat.min_eq_left]) | (with_reducible first | refine cF (u) ?_ | refine dF (u) ?_) | (refine aL ti_ok ?_) | (refine dL ti_ok ?_) | (refine dE (by kernel_rfl) ?_) | ((first | refine cC ?_ ?_ | refine gS ?_ ?_ | refine dS ?_ ?_) <;> intro hc <;> first | (exfalso; simp only [dcT, dcF, bnT, bnF, bnU, bnV] at hc; omega) | (simp only [hc]; try simp only [dcT, dcF, bnT, bnF, bnU, bnV] at hc)) | (refine aN (by omega) ?_) | (refine dN (by omega) ?_))
  all_goals exact fin_same trivial rfl
/-- Both identities, whatever is asked. -/
theorem id_pair (n : Int) : ∃ v e, CallOK Tryz.prog gl 103 [.v (.int .i64 n)] (.tup [v, .v (eV e)]) ∧ CallOK Tryz.prog gl 104 [.v (.int .i64 n)] (.tup [v, .v (.int .i64 e)]) ∧ CallOK Tryz.prog gl 102 [v, v] (.v (.bool true)) := by
  by_cases h : n < 1 ∨ 8 < n
  · exact ⟨_, 3, mat_Id_err n h, refm_Id_err n h, same_nil⟩
  · obtain ⟨k, rfl⟩ : ∃ k : Nat, n = k := ⟨n.toNat, by omega⟩
    exact ⟨_, 0, mat_Id k (by omega) (by omega), refm_Id k (by omega) (by omega), same_mat (unit_rect k) (by omega) (by omega) (by omega) (mg_unitD k)⟩

theorem ints11 : CallOK Tryz.prog gl 106 [.sl 1 [[.sl 1 [[.v (.int .i64 1)]]]]] (.sl 1 (mrows (crM (intD [[1]])))) :=
  law_ints [[1]] (by show 1 ≤ 1000; omega) (fun i => by
    match i with
    | 0 => show 1 ≤ 1000; omega
    | i + 1 => exact Nat.zero_le _) (fun i j => by
    match i, j with
    | 0, 0 => show -9223372036854775808 ≤ (1 : Int) ∧ (1 : Int) ≤ 9223372036854775807; omega
    | 0, j + 1 => show -9223372036854775808 ≤ (0 : Int) ∧ (0 : Int) ≤ 9223372036854775807; omega
    | i + 1, j => show -9223372036854775808 ≤ (0 : Int) ∧ (0 : Int) ≤ 9223372036854775807; omega)
theorem chk_out (a : List (List RD)) (x : List RD) (n : Int) (hl : a.length ≤ 9223372036854775807) (ha : argM a) (hx : x.length ≤ 9223372036854775807) (hf : ¬ (fewM a ∧ x.length ≤ 12)) : CallOK Tryz.prog gl 14 [.sl 1 (mrows (a)), .sl 3 (vrows (x)), .v (.int .i64 n)] (.v (.bool (true))) := by
  refine call_ok (C := ⟨Tryz.prog, gl, ti, 196, false⟩) ti_ok mixed 3000 Tryz.call14 Tryz.func14 rfl Tryz.ntmps14 (by simp) byClL byCl ?_
  rw [Tryz.results14]
  have f1 := few_ok hl ha
  by_cases h1 : fewM a
  · rw [decide_eq_true h1] at f1
    have h2 : 12 < x.length := by
      by_cases h : x.length ≤ 12
      · exact absurd ⟨h1, h⟩ hf
      · omega
    clear hf h1
    repeat' (first | (simp only [go_sem, Int.reduceAdd, Int.reduceEq, Int.reduceLE, Int.reduceLT, Int.reduceMul, Int.reduceNeg, Int.reducePow, Int.reduceSub, Int.reduceToNat, Nat.reduceAdd, Nat.reduceBEq, Nat.reduceEqDiff, Nat.reduceLT, Nat.reduceLeDiff, Nat.reduceMul, Nat.reducePow, Nat.reduceSub, reduceCtorEq, reduceIte, IntKind.bits.eq_def, ti, tin, vrows_length]) | (simp (disch := omega) only [w64, wu64, wu32, Nat.min_eq_left]) | (with_reducible first | refine cF (f1) ?_ | refine dF (f1) ?_) | (with_reducible first | refine cF (awake04) ?_ | refine dF (awake04) ?_) | (refine aL ti_ok ?_) | (refine dL ti_ok ?_) | (refine dE (by kernel_rfl) ?_) | ((first | refine cC ?_ ?_ | refine gS ?_ ?_ | refine dS ?_ ?_) <;> intro hc <;> first | (exfalso; simp only [dcT, dcF, bnT, bnF, bnU, bnV] at hc; omega) | (simp only [hc]; try simp only [dcT, dcF, bnT, bnF, bnU, bnV] at hc)) | (refine aN (by omega) ?_) | (refine dN (by omega) ?_))
    all_goals exact fin_same trivial rfl
  · rw [decide_eq_false h1] at f1
    clear hf h1
    repeat' (first | (simp only [go_sem, Int.reduceAdd, Int.reduceEq, Int.reduceLE, Int.reduceLT, Int.reduceMul, Int.reduceNeg, Int.reducePow, Int.reduceSub, Int.reduceToNat, Nat.reduceAdd, Nat.reduceBEq, Nat.reduceEqDiff, Nat.reduceLT, Nat.reduceLeDiff, Nat.reduceMul, Nat.reducePow, Nat.reduceSub, reduceCtorEq, reduceIte, IntKind.bits.eq_def, ti, tin, vrows_length]) | (simp (disch := omega) only [w64, wu64, wu32, Nat.min_eq_left]) | (with_reducible first | refine cF (f1) ?_ | refine dF (f1) ?_) | (with_reducible first | refine cF (awake04) ?_ | refine dF (awake04) ?_) | (refine aL ti_ok ?_) | (refine dL ti_ok ?_) | (refine dE (by kernel_rfl) ?_) | ((first | refine cC ?_ ?_ | refine gS ?_ ?_ | refine dS ?_ ?_) <;> intro hc <;> first | (exfalso; simp only [dcT, dcF, bnT, bnF, bnU, bnV] at hc; omega) | (simp only [hc]; try simp only [dcT, dcF, bnT, bnF, bnU, bnV] at hc)) | (refine aN (by omega) ?_) | (refine dN (by omega) ?_))
    all_goals exact fin_same trivial rfl
theorem chk_ok (a : List (List RD)) (x : List RD) (n : Int) (hl : a.length ≤ 9223372036854775807) (ha : argM a) (hf : fewM a) (hx : x.length ≤ 12) (k1 : ckM a = 0) : CallOK Tryz.prog gl 14 [.sl 1 (mrows (a)), .sl 3 (vrows (x)), .v (.int .i64 n)] (.v (.bool (true))) := by
  refine call_ok (C := ⟨Tryz.prog, gl, ti, 196, false⟩) ti_ok mixed 3000 Tryz.call14 Tryz.func14 rfl Tryz.ntmps14 (by simp) byClL byCl ?_
  rw [Tryz.results14]
  have f1 := few_ok hl ha
  rw [decide_eq_true hf] at f1
  have la := hf.1.1
  have c1 := ref_CheckM a (by omega)
  have c2 := mat_Check a (by omega)
  rw [k1] at c1 c2
  obtain ⟨v, e, i1, i2, s1⟩ := id_pair n
  have b1 := base_NumE e
  have b0 := base_NumE 0
  clear hf
  repeat' (first | (simp only [go_sem, Int.reduceAdd, Int.reduceEq, Int.reduceLE, Int.reduceLT, Int.reduceMul, Int.reduceNeg, Int.reducePow, Int.reduceSub, Int.reduceToNat, Nat.reduceAdd, Nat.reduceBEq, Nat.reduceEqDiff, Nat.reduceLT, Nat.reduceLeDiff, Nat.reduceMul, Nat.reducePow, Nat.reduceSub, reduceCtorEq, reduceIte, IntKind.bits.eq_def, ti, tin, vrows_length]) | (simp (disch := omega) only [w64, wu64, wu32, Nat.min_eq_left]) | (with_reducible first | refine cF (f1) ?_ | refine dF (f1) ?_) | (with_reducible first | refine cF (c1) ?_ | refine dF (c1) ?_) | (with_reducible first | refine cF (c2) ?_ | refine dF (c2) ?_) | (with_reducible first | refine cF (i1) ?_ | refine dF (i1) ?_) | (with_reducible first | refine cF (i2) ?_ | refine dF (i2) ?_) | (with_reducible first | refine cF (s1) ?_ | refine dF (s1) ?_) | (with_reducible first | refine cF (b1) ?_ | refine dF (b1) ?_) | (with_reducible first | refine cF (b0) ?_ | refine dF (b0) ?_) | (with_reducible first | refine cF (awake04) ?_ | refine dF (awake04) ?_) | (refine aL ti_ok ?_) | (refine dL ti_ok ?_) | (refine dE (by kernel_rfl) ?_) | ((first | refine cC ?_ ?_ | refine gS ?_ ?_ | refine dS ?_ ?_) <;> intro hc <;> first | (exfalso; simp only [dcT, dcF, bnT, bnF, bnU, bnV] at hc; omega) | (simp only [hc]; try simp only [dcT, dcF, bnT, bnF, bnU, bnV] at hc)) | (refine aN (by omega) ?_) | (refine dN (by omega) ?_))
  all_goals exact fin_same trivial rfl
theorem chk_bad (a : List (List RD)) (x : List RD) (n : Int) (hl : a.length ≤ 9223372036854775807) (ha : argM a) (hf : fewM a) (hx : x.length ≤ 12) (k1 : ¬ ckM a = 0) : CallOK Tryz.prog gl 14 [.sl 1 (mrows (a)), .sl 3 (vrows (x)), .v (.int .i64 n)] (.v (.bool (true))) := by
  refine call_ok (C := ⟨Tryz.prog, gl, ti, 196, false⟩) ti_ok mixed 3000 Tryz.call14 Tryz.func14 rfl Tryz.ntmps14 (by simp) byClL byCl ?_
  rw [Tryz.results14]
  have f1 := few_ok hl ha
  rw [decide_eq_true hf] at f1
  have la := hf.1.1
  have c1 := ref_CheckM a (by omega)
  have c2 := mat_Check a (by omega)
  obtain ⟨v, e, i1, i2, s1⟩ := id_pair n
  have b1 := base_NumE e
  have b2 := base_NumE (ckM a)
  have kg : ckM (crM (intD [[1]])) = 0 := by decide +kernel
  have lg : (crM (intD [[1]])).length = 1 := by decide +kernel
  have g1 : bothE a (crM (intD [[1]])) (fitAdd a (crM (intD [[1]]))) = ckM a := if_neg k1
  have g2 : bothE (crM (intD [[1]])) a (fitMul (crM (intD [[1]])) a) = ckM a := by unfold bothE; rw [if_pos kg, if_neg k1]
  have g3 : bothE (crM (intD [[1]])) a (fitAdd (crM (intD [[1]])) a) = ckM a := by unfold bothE; rw [if_pos kg, if_neg k1]
  have m1 := mat_Add_err a (crM (intD [[1]])) (by omega) (by omega) (by rw [g1]; exact k1)
  have m2 := mat_Mul_err (crM (intD [[1]])) a (by omega) (by omega) (by rw [g2]; exact k1)
  have m3 := mat_Power_err a n (by omega) k1
  have m4 := mat_Abs_err a (by omega) k1
  have m5 := mat_Apply_err a x (by omega) k1
  have m6 := mat_Le_err (crM (intD [[1]])) a (by omega) (by omega) (by rw [g3]; exact k1)
  have m7 := mat_Norm_err a (by omega) k1
  have m8 := mat_Text_err a (by omega) k1
  rw [g1] at m1
  rw [g2] at m2
  rw [g3] at m6
  have s2' := ref_Same Dy.zero Dy.zero (by decide +kernel) (by decide +kernel)
  rw [decide_eq_true rfl] at s2'
  have s2 := s2'.zlit2
  have e1 : (ByteArray.empty).size = 0 := rfl
  clear hf kg lg g1 g2 g3
  have i3 := ints11
  generalize crM (intD [[1]]) = Gd at *
  generalize hE : ckM a = E at *
  repeat' (first | (simp only [go_sem, Int.reduceAdd, Int.reduceEq, Int.reduceLE, Int.reduceLT, Int.reduceMul, Int.reduceNeg, Int.reducePow, Int.reduceSub, Int.reduceToNat, Nat.reduceAdd, Nat.reduceBEq, Nat.reduceEqDiff, Nat.reduceLT, Nat.reduceLeDiff, Nat.reduceMul, Nat.reducePow, Nat.reduceSub, reduceCtorEq, reduceIte, IntKind.bits.eq_def, ti, tin, vrows_length, e1]) | (simp (disch := omega) only [w64, wu64, wu32, Nat.min_eq_left]) | (with_reducible first | refine cF (f1) ?_ | refine dF (f1) ?_) | (with_reducible first | refine cF (c1) ?_ | refine dF (c1) ?_) | (with_reducible first | refine cF (c2) ?_ | refine dF (c2) ?_) | (with_reducible first | refine cF (i1) ?_ | refine dF (i1) ?_) | (with_reducible first | refine cF (i2) ?_ | refine dF (i2) ?_) | (with_reducible first | refine cF (s1) ?_ | refine dF (s1) ?_) | (with_reducible first | refine cF (b1) ?_ | refine dF (b1) ?_) | (with_reducible first | refine cF (b2) ?_ | refine dF (b2) ?_) | (with_reducible first | refine cF (awake04) ?_ | refine dF (awake04) ?_) | (with_reducible first | refine cF (m1) ?_ | refine dF (m1) ?_) | (with_reducible first | refine cF (m2) ?_ | refine dF (m2) ?_) | (with_reducible first | refine cF (m3) ?_ | refine dF (m3) ?_) | (with_reducible first | refine cF (m4) ?_ | refine dF (m4) ?_) | (with_reducible first | refine cF (m5) ?_ | refine dF (m5) ?_) | (with_reducible first | refine cF (m6) ?_ | refine dF (m6) ?_) | (with_reducible first | refine cF (m7) ?_ | refine dF (m7) ?_) | (with_reducible first | refine cF (m8) ?_ | refine dF (m8) ?_) | (with_reducible first | refine cF (s2) ?_ | refine dF (s2) ?_) | (with_reducible first | refine cF (i3) ?_ | refine dF (i3) ?_) | (refine aL ti_ok ?_) | (refine dL ti_ok ?_) | (refine dE (by kernel_rfl) ?_) | ((first | refine cC ?_ ?_ | refine gS ?_ ?_ | refine dS ?_ ?_) <;> intro hc <;> first | (exfalso; simp only [dcT, dcF, bnT, bnF, bnU, bnV] at hc; omega) | (simp only [hc]; try simp only [dcT, dcF, bnT, bnF, bnU, bnV] at hc)) | (refine aN (by omega) ?_) | (refine dN (by omega) ?_))
  all_goals exact fin_same trivial rfl
theorem checks_law (r r' : List (List AV)) (n : Int) (hr : r.length ≤ maxLen) (fr : ∀ x ∈ r, FitL [.sl [.bool, .sl [.int .u32], .int .i64]] x) (hr' : r'.length ≤ maxLen) (fr' : ∀ x ∈ r', FitL [.bool, .sl [.int .u32], .int .i64] x) (hn : -9223372036854775808 ≤ n ∧ n ≤ 9223372036854775807) :
    CallOK Tryz.prog gl 14 [.sl 1 r, .sl 3 r', .v (.int .i64 n)] (.v (.bool true)) := by
  unfold maxLen at hr hr'
  obtain ⟨a, ha, rfl, h1⟩ := fit_mrows fr
  obtain ⟨x, hx, rfl, h2⟩ := fit_vrows fr'
  have hl : a.length ≤ 9223372036854775807 := by omega
  by_cases hf : fewM a ∧ x.length ≤ 12
  · by_cases k1 : ckM a = 0
    · exact chk_ok a x n hl ha hf.1 hf.2 k1
    · exact chk_bad a x n hl ha hf.1 hf.2 k1
  · exact chk_out a x n hl ha (by omega) hf
end Go.Proofs.YtdjgckcninibhaaGreatDoor
