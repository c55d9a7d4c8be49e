/- The statements on layer 4: the document's examples. -/
import Derived.Test.YtdjgckcninibhaaGreatDoorL04a
import Derived.Test.YtdjgckcninibhaaGreatDoorMat7
import Derived.Test.YtdjgckcninibhaaGreatDoorRefD
set_option linter.unusedSimpArgs false
set_option linter.unusedVariables false
set_option linter.deprecated false
namespace Go.Proofs.YtdjgckcninibhaaGreatDoor
open Go Go.Ax
set_option maxRecDepth 100000
set_option maxHeartbeats 4000000

def iV (r : List Int) : List (List AV) := r.map fun n => [.v (.int .i64 n)]
def iM (l : List (List Int)) : List (List AV) := l.map fun r => [.sl 1 (iV r)]
theorem iV_len (r : List Int) : (iV r).length = r.length := by simp [iV]
theorem iM_len (l : List (List Int)) : (iM l).length = l.length := by simp [iM]
theorem iV_get {r : List Int} {i : Nat} (h : i < r.length) : (iV r).getD i [] = [.v (.int .i64 (r.getD i 0))] := by simp [iV, List.getD, h]
theorem iM_get {l : List (List Int)} {i : Nat} (h : i < l.length) : (iM l).getD i [] = [.sl 1 (iV (l.getD i []))] := by simp [iM, List.getD, h]
theorem Cl.iV {sz : Nat} {r : List Int} : Cl (.sl sz (iV r)) := Cl.sl (fun x hx a ha => by
  simp only [Proofs.YtdjgckcninibhaaGreatDoor.iV, List.mem_map] at hx
  obtain ⟨n, _, rfl⟩ := hx
  simp only [List.mem_cons, List.not_mem_nil, or_false] at ha
  subst ha; exact Cl.v _)
theorem Cl.iM {sz : Nat} {l : List (List Int)} : Cl (.sl sz (iM l)) := Cl.sl (fun x hx a ha => by
  simp only [Proofs.YtdjgckcninibhaaGreatDoor.iM, List.mem_map] at hx
  obtain ⟨n, _, rfl⟩ := hx
  simp only [List.mem_cons, List.not_mem_nil, or_false] at ha
  subst ha; exact Cl.iV)
def intD (l : List (List Int)) : List (List Dy) := tabS l.length fun i => tabV (l.getD i []).length fun j => Dy.int ((l.getD i []).getD j 0)
theorem crM_step {k : Nat} {f : Nat → List Dy} : mrows (crM (tabS k f)) ++ [[.sl 3 (vrows ((f k).map can))]] = mrows (crM (tabS (k + 1) f)) := by
  rw [tabS_succ, crM, crM, List.map_append, mrows_append]; rfl
theorem law_ints (l : List (List Int)) (hl : l.length ≤ 1000) (hr : ∀ i, (l.getD i []).length ≤ 1000) (hv : ∀ i j, -9223372036854775808 ≤ (l.getD i []).getD j 0 ∧ (l.getD i []).getD j 0 ≤ 9223372036854775807) :
    CallOK Tryz.prog gl 106 [.sl 1 (iM l)] (.sl 1 (mrows (crM (intD l)))) := by
  refine call_ok (C := ⟨Tryz.prog, gl, ti, 33, false⟩) ti_ok mixed 3000 Tryz.call106 Tryz.func106 rfl Tryz.ntmps106 (by simp) (fun x hx => by
    simp only [List.mem_cons, List.not_mem_nil, or_false] at hx; subst hx; exact Cl.iM) byCl ?_
  rw [Tryz.results106]
  have cI : Cl (.sl 1 (iM l)) := Cl.iM
  obtain ⟨n, hn⟩ : ∃ n, l.length = n := ⟨_, rfl⟩
  unfold intD
  generalize hf : (fun i => tabV (l.getD i []).length fun j => Dy.int ((l.getD i []).getD j 0)) = f
  rw [hn] at hl ⊢
  repeat' (first | (simp only [go_sem, Int.reduceAdd, Int.reduceEq, Int.reduceLE, Int.reduceLT, Int.reduceMul, Int.reduceNeg, Int.reducePow, Int.reduceSub, Int.reduceToNat, Nat.reduceAdd, Nat.reduceBEq, Nat.reduceEqDiff, Nat.reduceLT, Nat.reduceLeDiff, Nat.reduceMul, Nat.reducePow, Nat.reduceSub, reduceCtorEq, reduceIte, IntKind.bits.eq_def, ti, tin, iM_len, hn]) | (simp (disch := omega) only [w64, wu64, wu32, Nat.min_eq_left]) | (refine aL ti_ok ?_) | (refine dL ti_ok ?_) | (refine dE (by kernel_rfl) ?_) | ((first | refine cC ?_ ?_ | refine gS ?_ ?_ | refine dS ?_ ?_) <;> intro hc <;> first | (exfalso; simp only [dcT, dcF, bnT, bnF, bnU, bnV] at hc; omega) | (simp only [hc]; try simp only [dcT, dcF, bnT, bnF, bnU, bnV] at hc)) | (refine aN (by omega) ?_) | (refine dN (by omega) ?_))
  first | refine loop_weak (s' := ⟨[(3, .ps 0 1 0 ((0 : Nat))), (9, .sl 1 (iM l)), (10, .v (.int .i64 n)), (11, .v (.int .i64 (((0 : Nat) : Int))))], [(0, ⟨1, []⟩)], 1⟩) ?_ (by first | exact Nat.le_refl _ | exact Nat.le_of_ble_eq_true rfl) ?_ | refine loop_weak0 (s' := ⟨[(3, .ps 0 1 0 ((0 : Nat))), (9, .sl 1 (iM l)), (10, .v (.int .i64 n)), (11, .v (.int .i64 (((0 : Nat) : Int))))], [(0, ⟨1, []⟩)], 1⟩) ?_ (Nat.zero_lt_succ _) ?_
  · exact Weak.trans (Weak.newnil 0 1 (Nat.le_refl _)) (Nat.le_succ _) byWeak
  refine l_loop (α := Nat) (fun i => ⟨[(3, .ps 0 1 0 i), (9, .sl 1 (iM l)), (10, .v (.int .i64 n)), (11, .v (.int .i64 i))], [(0, ⟨1, mrows (crM (tabS i f))⟩)], 1⟩) (fun i => i ≤ n) (fun i => n - i) (0) _ byFresh (fun _ h => by first | (cases h; done) | exact Nat.le_of_ble_eq_true rfl) ?_ ?_ ?_
  · exact Nat.zero_le _
  · exact byWeak
  rintro i hi
  by_cases hin : i < n
  ·
    have ri := iM_get (l := l) (i := i) (by omega)
    have hri := hr i
    have hvi := hv i
    have hfi : f i = tabV (l.getD i []).length fun j => Dy.int ((l.getD i []).getD j 0) := by rw [← hf]
    have l6 : (mrows (crM (tabS i f))).length = i := by rw [mrows_length, crM_len, tabS_len]
    generalize l.getD i [] = x at *
    obtain ⟨m, hm⟩ : ∃ m, x.length = m := ⟨_, rfl⟩
    have va : (iV x).length = m := by rw [iV_len, hm]
    have cX : Cl (.sl 1 (iV x)) := Cl.iV
    rw [hm] at hri hfi
    repeat' (first | (simp only [go_sem, Int.reduceAdd, Int.reduceEq, Int.reduceLE, Int.reduceLT, Int.reduceMul, Int.reduceNeg, Int.reducePow, Int.reduceSub, Int.reduceToNat, Nat.reduceAdd, Nat.reduceBEq, Nat.reduceEqDiff, Nat.reduceLT, Nat.reduceLeDiff, Nat.reduceMul, Nat.reducePow, Nat.reduceSub, reduceCtorEq, reduceIte, IntKind.bits.eq_def, ti, tin, iM_len, hn, ri, va]) | (simp (disch := omega) only [w64, wu64, wu32, Nat.min_eq_left]) | (refine aL ti_ok ?_) | (refine dL ti_ok ?_) | (refine dE (by kernel_rfl) ?_) | ((first | refine cC ?_ ?_ | refine gS ?_ ?_ | refine dS ?_ ?_) <;> intro hc <;> first | (exfalso; simp only [dcT, dcF, bnT, bnF, bnU, bnV] at hc; omega) | (simp only [hc]; try simp only [dcT, dcF, bnT, bnF, bnU, bnV] at hc)) | (refine aN (by omega) ?_) | (refine dN (by omega) ?_))
    first | refine loop_weak (s' := ⟨[(3, .ps 0 1 0 i), (6, .ps 1 3 0 ((0 : Nat))), (9, .sl 1 (iM l)), (10, .v (.int .i64 n)), (11, .v (.int .i64 i)), (15, .sl 1 (iV x)), (16, .v (.int .i64 m)), (17, .v (.int .i64 (((0 : Nat) : Int))))], [(1, ⟨3, []⟩), (0, ⟨1, mrows (crM (tabS i f))⟩)], 2⟩) ?_ (by first | exact Nat.le_refl _ | exact Nat.le_of_ble_eq_true rfl) ?_ | refine loop_weak0 (s' := ⟨[(3, .ps 0 1 0 i), (6, .ps 1 3 0 ((0 : Nat))), (9, .sl 1 (iM l)), (10, .v (.int .i64 n)), (11, .v (.int .i64 i)), (15, .sl 1 (iV x)), (16, .v (.int .i64 m)), (17, .v (.int .i64 (((0 : Nat) : Int))))], [(1, ⟨3, []⟩), (0, ⟨1, mrows (crM (tabS i f))⟩)], 2⟩) ?_ (Nat.zero_lt_succ _) ?_
    · exact Weak.trans (Weak.newnil 1 3 (Nat.le_refl _)) (Nat.le_succ _) byWeak
    refine l_loop (α := Nat) (fun j => ⟨[(3, .ps 0 1 0 i), (6, .ps 1 3 0 j), (9, .sl 1 (iM l)), (10, .v (.int .i64 n)), (11, .v (.int .i64 i)), (15, .sl 1 (iV x)), (16, .v (.int .i64 m)), (17, .v (.int .i64 j))], [(1, ⟨3, vrows ((tabV j fun j => Dy.int (x.getD j 0)).map can)⟩), (0, ⟨1, mrows (crM (tabS i f))⟩)], 2⟩) (fun j => j ≤ m) (fun j => m - j) (0) _ byFresh (fun _ h => by first | (cases h; done) | exact Nat.le_of_ble_eq_true rfl) ?_ ?_ ?_
    · exact Nat.zero_le _
    · exact byWeak
    rintro j hj
    by_cases hjm : j < m
    ·
      have rj := iV_get (r := x) (i := j) (by omega)
      have o1 := ref_Of (x.getD j 0) (hvi j)
      have e4 : (vrows ((tabV j fun j => Dy.int (x.getD j 0)).map can)).length = j := vtab_len
      have e5 := vtab_step (k := j) (f := fun j => Dy.int (x.getD j 0))
      clear hvi
      repeat' (first | (simp only [go_sem, Int.reduceAdd, Int.reduceEq, Int.reduceLE, Int.reduceLT, Int.reduceMul, Int.reduceNeg, Int.reducePow, Int.reduceSub, Int.reduceToNat, Nat.reduceAdd, Nat.reduceBEq, Nat.reduceEqDiff, Nat.reduceLT, Nat.reduceLeDiff, Nat.reduceMul, Nat.reducePow, Nat.reduceSub, reduceCtorEq, reduceIte, IntKind.bits.eq_def, ti, tin, va, rj, e4]) | (simp (disch := omega) only [w64, wu64, wu32, Nat.min_eq_left]) | (with_reducible first | refine cF (o1) ?_ | refine dF (o1) ?_) | (refine after_append_nil ti_ok rfl rfl rfl rfl ⟨rfl, by decide⟩ rfl ⟨trivial, by (try simp only [List.length_cons, List.length_nil, List.length_append, u32s_length, List.length_map, e4]); omega, by (try simp only [List.length_cons, List.length_nil, List.length_append, u32s_length, List.length_map, e4]); omega⟩ (fun _ => byRows) ?_) | (refine after_append_own ti_ok rfl rfl rfl rfl rfl ⟨rfl, rfl, by decide, Nat.le_of_ble_eq_true rfl⟩ (fun h => by first | (cases h; done) | decide) rfl ⟨trivial, by (try simp only [List.length_cons, List.length_nil, List.length_append, u32s_length, List.length_map, e4]); omega, by (try simp only [List.length_cons, List.length_nil, List.length_append, u32s_length, List.length_map, e4]); omega, by (try simp only [List.length_cons, List.length_nil, List.length_append, u32s_length, List.length_map, e4]); omega⟩ byRows byNoE byNoM ?_) | (refine aL ti_ok ?_) | (refine dL ti_ok ?_) | (refine dE (by kernel_rfl) ?_) | ((first | refine cC ?_ ?_ | refine gS ?_ ?_ | refine dS ?_ ?_) <;> intro hc <;> first | (exfalso; simp only [dcT, dcF, bnT, bnF, bnU, bnV] at hc; omega) | (simp only [hc]; try simp only [dcT, dcF, bnT, bnF, bnU, bnV] at hc)) | (refine aN (by omega) ?_) | (refine dN (by omega) ?_))
      refine roundEnd_of (α := Nat) (j + 1) (show j + 1 ≤ m by omega) (by omega) ?_
      rw [← e5]
      exact byWeak
    ·
      have hjm2 : j = m := by omega
      subst hjm2
      have e4 : (vrows ((tabV j fun j => Dy.int (x.getD j 0)).map can)).length = j := vtab_len
      have e6 := crM_step (k := i) (f := f)
      rw [hfi] at e6
      repeat' (first | (simp only [go_sem, Int.reduceAdd, Int.reduceEq, Int.reduceLE, Int.reduceLT, Int.reduceMul, Int.reduceNeg, Int.reducePow, Int.reduceSub, Int.reduceToNat, Nat.reduceAdd, Nat.reduceBEq, Nat.reduceEqDiff, Nat.reduceLT, Nat.reduceLeDiff, Nat.reduceMul, Nat.reducePow, Nat.reduceSub, reduceCtorEq, reduceIte, IntKind.bits.eq_def, ti, tin]) | (simp (disch := omega) only [w64, wu64, wu32, Nat.min_eq_left]) | (refine aL ti_ok ?_) | (refine dL ti_ok ?_) | (refine dE (by kernel_rfl) ?_) | ((first | refine cC ?_ ?_ | refine gS ?_ ?_ | refine dS ?_ ?_) <;> intro hc <;> first | (exfalso; simp only [dcT, dcF, bnT, bnF, bnU, bnV] at hc; omega) | (simp only [hc]; try simp only [dcT, dcF, bnT, bnF, bnU, bnV] at hc)) | (refine aN (by omega) ?_) | (refine dN (by omega) ?_))
      refine after_append_own (k := i) (b := 0) (m := ⟨1, mrows (crM (tabS i f))⟩) ti_ok rfl rfl rfl rfl rfl ⟨rfl, rfl, by decide, Nat.le_of_ble_eq_true rfl⟩ (fun h => by cases h) rfl ⟨trivial, by show i ≤ (mrows (crM (tabS i f))).length; omega, by show (i + 1) * 24 ≤ _; omega, by show i + 1 ≤ _; omega⟩ (rowsOK_lit ⟨⟨rfl, ⟨rfl, .ps (by decide)⟩, trivial⟩, trivial⟩) (by repeat' (first | exact trivial | exact .inl rfl | exact .inr .v | exact .inr (.ps (by decide)) | exact .inr (.cl cI) | exact .inr (.cl cX) | exact .inr (NO.sl (fun r hr a ha => by simp only [List.mem_cons, List.not_mem_nil, or_false] at hr; subst hr; simp only [List.mem_cons, List.not_mem_nil, or_false] at ha; subst ha; exact .ps (by decide))) | refine And.intro ?_ ?_)) byNoM ?_
      repeat' (first | (simp only [go_sem, Int.reduceAdd, Int.reduceEq, Int.reduceLE, Int.reduceLT, Int.reduceMul, Int.reduceNeg, Int.reducePow, Int.reduceSub, Int.reduceToNat, Nat.reduceAdd, Nat.reduceBEq, Nat.reduceEqDiff, Nat.reduceLT, Nat.reduceLeDiff, Nat.reduceMul, Nat.reducePow, Nat.reduceSub, reduceCtorEq, reduceIte, IntKind.bits.eq_def, ti, tin, l6]) | (simp (disch := omega) only [w64, wu64, wu32, Nat.min_eq_left]) | (refine aL ti_ok ?_) | (refine dL ti_ok ?_) | (refine dE (by kernel_rfl) ?_) | ((first | refine cC ?_ ?_ | refine gS ?_ ?_ | refine dS ?_ ?_) <;> intro hc <;> first | (exfalso; simp only [dcT, dcF, bnT, bnF, bnU, bnV] at hc; omega) | (simp only [hc]; try simp only [dcT, dcF, bnT, bnF, bnU, bnV] at hc)) | (refine aN (by omega) ?_) | (refine dN (by omega) ?_))
      refine roundEnd_of (α := Nat) (i + 1) (show i + 1 ≤ n by omega) (by omega) ?_
      rw [← e6, show mrows (crM (tabS i f)) ++ [[AV.sl 3 (vrows ((tabV j fun j => Dy.int (x.getD j 0)).map can))]] = (mrows (crM (tabS i f)) ++ [[AV.sl 3 (vrows ((tabV j fun j => Dy.int (x.getD j 0)).map can))]]) ++ [] by rw [List.append_nil]]
      refine Weak.trans0 (s1 := ⟨[(3, .ps 0 1 0 (i + 1)), (9, .sl 1 (iM l)), (10, .v (.int .i64 n)), (11, .v (.int .i64 (i + 1 : Nat)))], (0, ⟨1, (mrows (crM (tabS i f)) ++ [[AV.sl 3 (vrows ((tabV j fun j => Dy.int (x.getD j 0)).map can))]]) ++ []⟩) :: [], 2⟩) (Weak.rowDone (k := j) (T := []) ?_ (by show some (MB.mk 1 (List.take i (mrows (crM (tabS i f))) ++ [[AV.ps 1 3 0 j]])) = _; rw [List.take_of_length_le (by omega)]) rfl e4.symm (fun b M h => by cases h) (no_cl (mrows_cl _)) (Nat.le_refl _)) (Nat.zero_lt_succ _) ?_
      · repeat' (first | exact trivial | exact ⟨_, rfl, .refl _⟩ | refine And.intro ?_ ?_)
      · refine Weak.cut ?_ ?_ ?_ ?_
        · repeat' (first | exact trivial | exact ⟨_, rfl, .refl _⟩ | refine And.intro ?_ ?_)
        · repeat' (first | exact trivial | exact rfl | refine And.intro ?_ ?_)
        · repeat' (first | exact trivial | exact .v | exact .ps (Nat.le_of_ble_eq_true rfl) | exact .cl cI | refine And.intro ?_ ?_)
        · rw [List.append_nil, e6]
          repeat' (first | exact trivial | exact Nat.le_of_ble_eq_true rfl | exact nbRows_mrows | refine And.intro ?_ ?_)
  ·
    have hin2 : i = n := by omega
    subst hin2
    repeat' (first | (simp only [go_sem, Int.reduceAdd, Int.reduceEq, Int.reduceLE, Int.reduceLT, Int.reduceMul, Int.reduceNeg, Int.reducePow, Int.reduceSub, Int.reduceToNat, Nat.reduceAdd, Nat.reduceBEq, Nat.reduceEqDiff, Nat.reduceLT, Nat.reduceLeDiff, Nat.reduceMul, Nat.reducePow, Nat.reduceSub, reduceCtorEq, reduceIte, IntKind.bits.eq_def, ti, tin]) | (simp (disch := omega) only [w64, wu64, wu32, Nat.min_eq_left]) | (refine aL ti_ok ?_) | (refine dL ti_ok ?_) | (refine dE (by kernel_rfl) ?_) | ((first | refine cC ?_ ?_ | refine gS ?_ ?_ | refine dS ?_ ?_) <;> intro hc <;> first | (exfalso; simp only [dcT, dcF, bnT, bnF, bnU, bnV] at hc; omega) | (simp only [hc]; try simp only [dcT, dcF, bnT, bnF, bnU, bnV] at hc)) | (refine aN (by omega) ?_) | (refine dN (by omega) ?_))
    refine fin_pub trivial (.one (.one (.ps rfl rfl (by show 0 + i ≤ _; rw [mrows_length, crM_len, tabS_len]; omega)))) ?_
    rw [List.drop_zero, List.take_of_length_le (by rw [mrows_length, crM_len, tabS_len]; exact Nat.le_refl _)]
    exact .refl _

end Go.Proofs.YtdjgckcninibhaaGreatDoor
