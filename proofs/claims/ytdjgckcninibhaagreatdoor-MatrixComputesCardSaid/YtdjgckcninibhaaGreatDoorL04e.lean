/- The statements on layer 4: the document's examples hold. -/
import Derived.Test.YtdjgckcninibhaaGreatDoorL04b
import Derived.Test.YtdjgckcninibhaaGreatDoorU4
set_option linter.unusedSimpArgs false
set_option linter.unusedVariables false
set_option linter.deprecated false
namespace Go.Proofs.YtdjgckcninibhaaGreatDoor
open Go Go.Ax
set_option maxRecDepth 100000
set_option maxHeartbeats 4000000

theorem awake_pow : powD (intD [[1, 2], [0, -1]]) 2 = intD [[1, 0], [0, 1]] := by decide +kernel
theorem awake_norm : normD (intD [[1, 2], [0, -1]]) = Dy.int 3 := by decide +kernel
theorem awake_text : matText (intD [[1, 2], [0, -1]]) = [49, 32, 50, 59, 32, 48, 32, 45, 49] := by decide +kernel
theorem int_mg (l : List (List Int)) (h : ∀ i j, ((l.getD i []).getD j 0).natAbs < 2 ^ 64) : ∀ i j, Mg 64 (el (intD l) i j) := fun i j => by
  unfold el intD
  by_cases hi : i < l.length
  · rw [show (tabS l.length fun i => tabV (l.getD i []).length fun j => Dy.int ((l.getD i []).getD j 0)).getD i [] = tabV (l.getD i []).length fun j => Dy.int ((l.getD i []).getD j 0) by simp [tabS, List.getD, hi]]
    by_cases hj : j < (l.getD i []).length
    · rw [tabV_get hj]; exact Mg.int (h i j)
    · rw [List.getD, List.getElem?_eq_none (by rw [tabV_len]; omega)]; exact Mg.zero _
  · rw [show (tabS l.length fun i => tabV (l.getD i []).length fun j => Dy.int ((l.getD i []).getD j 0)).getD i [] = [] by simp [tabS, List.getD, hi]]
    exact Mg.zero _
theorem two_bd {p q r s : Int} {P : Int → Prop} (h0 : P 0) (hp : P p) (hq : P q) (hr : P r) (hs : P s) (i j : Nat) : P (([[p, q], [r, s]].getD i []).getD j 0) := by
  match i, j with
  | 0, 0 => exact hp
  | 0, 1 => exact hq
  | 0, j + 2 => exact h0
  | 1, 0 => exact hr
  | 1, 1 => exact hs
  | 1, j + 2 => exact h0
  | i + 2, j => exact h0
theorem len_bd {p q r s : Int} (i : Nat) : ([[p, q], [r, s]].getD i []).length ≤ 1000 := by
  match i with
  | 0 => show 2 ≤ 1000; omega
  | 1 => show 2 ≤ 1000; omega
  | i + 2 => exact Nat.zero_le _
theorem ints22 (p q r s : Int) (hp : -100 ≤ p ∧ p ≤ 100) (hq : -100 ≤ q ∧ q ≤ 100) (hr : -100 ≤ r ∧ r ≤ 100) (hs : -100 ≤ s ∧ s ≤ 100) :
    CallOK Tryz.prog gl 106 [.sl 1 [[.sl 1 [[.v (.int .i64 p)], [.v (.int .i64 q)]]], [.sl 1 [[.v (.int .i64 r)], [.v (.int .i64 s)]]]]] (.sl 1 (mrows (crM (intD [[p, q], [r, s]])))) :=
  law_ints [[p, q], [r, s]] (by show 2 ≤ 1000; omega) len_bd (fun i j => two_bd (P := fun n => -9223372036854775808 ≤ n ∧ n ≤ 9223372036854775807) (by omega) (by omega) (by omega) (by omega) (by omega) i j)
theorem n2 : ((2 : Nat) : Int) = 2 := rfl
theorem awake04  : CallOK Tryz.prog gl 85 [] (.v (.bool (true))) := by
  refine call_ok (C := ⟨Tryz.prog, gl, ti, 54, false⟩) ti_ok mixed 3000 Tryz.call85 Tryz.func85 rfl Tryz.ntmps85 (by simp) byClL byCl ?_
  rw [Tryz.results85]
  have i1 := ints22 1 2 0 (-1) (by omega) (by omega) (by omega) (by omega)
  have i2 := ints22 1 0 0 1 (by omega) (by omega) (by omega) (by omega)
  have g1 : ∀ i j, Mg 64 (el (intD [[1, 2], [0, -1]]) i j) := int_mg _ (fun i j => two_bd (P := fun n => n.natAbs < 2 ^ 64) (by decide) (by decide) (by decide) (by decide) (by decide) i j)
  have o1 : okM 64 (crM (intD [[1, 2], [0, -1]])) := okM_cr g1 (by omega)
  have k1 : ckM (crM (intD [[1, 2], [0, -1]])) = 0 := by decide +kernel
  have p1 := mat_Power (crM (intD [[1, 2], [0, -1]])) 2 64 (by omega) k1 (by decide +kernel) (by omega) o1
  have n1 := mat_Norm (crM (intD [[1, 2], [0, -1]])) 64 (by omega) k1 o1
  have t1 := mat_Text (crM (intD [[1, 2], [0, -1]])) 64 (by omega) k1 o1
  rw [dyM_cr] at p1 n1 t1
  rw [awake_pow] at p1
  rw [awake_norm] at n1
  rw [awake_text] at t1
  rw [n2] at p1
  have s1 := ref_SameM (intD [[1, 0], [0, 1]]) (intD [[1, 0], [0, 1]]) (by decide +kernel) (by decide +kernel) (by decide +kernel) (by decide +kernel)
  rw [decide_eq_true rfl] at s1
  have s2 := ref_Same (Dy.int 3) (Dy.int 3) (by decide +kernel) (by decide +kernel)
  rw [decide_eq_true rfl] at s2
  have f1 := ref_Of 3 (by omega)
  have e1 : decide ((⟨[49, 32, 50, 59, 32, 48, 32, 45, 49].toArray⟩ : ByteArray) = ⟨#[49, 32, 50, 59, 32, 48, 32, 45, 49]⟩) = true := decide_eq_true rfl
  have s3 : CallOK Tryz.prog gl 102 [.sl 1 (mrows (crM (intD [[1, 0], [0, 1]]))), .sl 1 (mrows (crM (intD [[1, 0], [0, 1]])))] (.v (.bool true)) := s1
  clear g1 o1 k1 s1
  generalize crM (intD [[1, 2], [0, -1]]) = A at *
  generalize crM (intD [[1, 0], [0, 1]]) = B at *
  generalize Dy.int 3 = z at *
  repeat' (first | (simp only [go_sem, Int.reduceAdd, Int.reduceEq, Int.reduceLE, Int.reduceLT, Int.reduceMul, Int.reduceNeg, Int.reducePow, Int.reduceSub, Int.reduceToNat, Nat.reduceAdd, Nat.reduceBEq, Nat.reduceEqDiff, Nat.reduceLT, Nat.reduceLeDiff, Nat.reduceMul, Nat.reducePow, Nat.reduceSub, reduceCtorEq, reduceIte, IntKind.bits.eq_def, ti, tin, e1]) | (simp (disch := omega) only [w64, wu64, wu32, Nat.min_eq_left]) | (with_reducible first | refine cF (i1) ?_ | refine dF (i1) ?_) | (with_reducible first | refine cF (i2) ?_ | refine dF (i2) ?_) | (with_reducible first | refine cF (p1) ?_ | refine dF (p1) ?_) | (with_reducible first | refine cF (n1) ?_ | refine dF (n1) ?_) | (with_reducible first | refine cF (t1) ?_ | refine dF (t1) ?_) | (with_reducible first | refine cF (s3) ?_ | refine dF (s3) ?_) | (with_reducible first | refine cF (s2) ?_ | refine dF (s2) ?_) | (with_reducible first | refine cF (f1) ?_ | refine dF (f1) ?_) | (refine aL ti_ok ?_) | (refine dL ti_ok ?_) | (refine dE (by kernel_rfl) ?_) | ((first | refine cC ?_ ?_ | refine gS ?_ ?_ | refine dS ?_ ?_) <;> intro hc <;> first | (exfalso; simp only [dcT, dcF, bnT, bnF, bnU, bnV] at hc; omega) | (simp only [hc]; try simp only [dcT, dcF, bnT, bnF, bnU, bnV] at hc)) | (refine aN (by omega) ?_) | (refine dN (by omega) ?_))
  all_goals exact fin_same trivial rfl
end Go.Proofs.YtdjgckcninibhaaGreatDoor
/- The statements on layer 4: what the arguments are. -/
set_option linter.unusedSimpArgs false
set_option linter.unusedVariables false
set_option linter.deprecated false
namespace Go.Proofs.YtdjgckcninibhaaGreatDoor
open Go Go.Ax
set_option maxRecDepth 100000
set_option maxHeartbeats 4000000

/-- A matrix as it is handed in. -/
def argM (a : List (List RD)) : Prop := ∀ r ∈ a, r.length ≤ maxLen ∧ ∀ x ∈ r, x.arg0
theorem argM_row {a : List (List RD)} (h : argM a) (i : Nat) : (a.getD i []).length ≤ 9223372036854775807 := by
  by_cases hi : i < a.length
  · have := (h _ (getD_mem (d := []) hi)).1
    unfold maxLen at this; omega
  · rw [List.getD, List.getElem?_eq_none (by omega)]; exact Nat.zero_le _
theorem argM_el {a : List (List RD)} (h : argM a) (i j : Nat) : ((a.getD i []).getD j RD.zero).arg0 ∨ (a.getD i []).getD j RD.zero = RD.zero := by
  by_cases hi : i < a.length
  · have h1 := (h _ (getD_mem (d := []) hi)).2
    generalize a.getD i [] = y at *
    by_cases hj : j < y.length
    · exact .inl (h1 _ (getD_mem (d := RD.zero) hj))
    · right; rw [List.getD, List.getElem?_eq_none (by omega)]; rfl
  · right
    have e : a.getD i [] = [] := by rw [List.getD, List.getElem?_eq_none (by omega)]; rfl
    rw [e]; rfl
theorem argM_ws {a : List (List RD)} (h : argM a) (i j : Nat) : ((a.getD i []).getD j RD.zero).ws.length ≤ 9223372036854775807 := by
  rcases argM_el h i j with h1 | h1
  · have := h1.2.1
    unfold maxLen at this; omega
  · rw [h1]; exact Nat.zero_le _
theorem few_el {x : RD} (h : x.arg0) (f : fewX x) : okR 96 x ∧ x.dy.d ≤ 60 := by
  have ho : x.ok := ⟨h.1, by have := f.1; omega⟩
  have ha := RD.arg ho
  refine ⟨⟨ho, ha.mg (k := 3) f.1⟩, ?_⟩
  have := ha.den (k := 60) f.2 (by omega)
  unfold dn at this; omega
theorem okR_zero (k : Nat) : okR k RD.zero := ⟨⟨Wd.nil, Nat.zero_le _⟩, by rw [RD.dy_zero]; exact Mg.zero _⟩
theorem few_okM {a : List (List RD)} (h : argM a) (f : fewM a) : okM 96 a ∧ fine 60 (dyM a) := by
  have key : ∀ i j, okR 96 ((a.getD i []).getD j RD.zero) ∧ ((a.getD i []).getD j RD.zero).dy.d ≤ 60 := fun i j => by
    rcases argM_el h i j with h1 | h1
    · by_cases hi : i < a.length
      · by_cases hj : j < (a.getD i []).length
        · exact few_el h1 ((f.1.2 i hi).2 j hj)
        · have e : (a.getD i []).getD j RD.zero = RD.zero := by
            generalize a.getD i [] = y at *
            rw [List.getD, List.getElem?_eq_none (by omega)]; rfl
          rw [e]; exact ⟨okR_zero _, by rw [RD.dy_zero]; exact Nat.zero_le _⟩
      · have e : a.getD i [] = [] := by rw [List.getD, List.getElem?_eq_none (by omega)]; rfl
        have e2 : (a.getD i []).getD j RD.zero = RD.zero := by rw [e]; rfl
        rw [e2]; exact ⟨okR_zero _, by rw [RD.dy_zero]; exact Nat.zero_le _⟩
    · rw [h1]; exact ⟨okR_zero _, by rw [RD.dy_zero]; exact Nat.zero_le _⟩
  exact ⟨fun i j => (key i j).1, fun i j => by rw [dyM_el]; exact (key i j).2⟩
theorem few_ok {a : List (List RD)} (hl : a.length ≤ 9223372036854775807) (h : argM a) : CallOK Tryz.prog gl 83 [.sl 1 (mrows a)] (.v (.bool (decide (fewM a)))) := law04_few a hl (argM_row h) (argM_ws h)
/-- Matrices whose numbers are not too great are compared. -/
theorem same_mat {n m k : Nat} {a : List (List Dy)} (ha : rect n m a) (hn : n ≤ 1000) (hm : m ≤ 1000) (hk : k ≤ 1099511627776) (h : ∀ i j, Mg k (el a i j)) : CallOK Tryz.prog gl 102 [.sl 1 (mrows (crM a)), .sl 1 (mrows (crM a))] (.v (.bool true)) := by
  have kk : ∀ r ∈ a, r.length ≤ 4611686018427387904 ∧ ∀ x ∈ r, (ms x).length ≤ 4611686018427387904 := fun r hr => by
    obtain ⟨i, hi, rfl⟩ := List.mem_iff_getElem.1 hr
    have e : a.getD i [] = a[i] := by rw [List.getD, List.getElem?_eq_getElem hi, Option.getD_some]
    have hi2 : i < n := by rw [← ha.1]; exact hi
    have hrow := ha.2 i hi2
    rw [e] at hrow
    refine ⟨by omega, fun x hx => ?_⟩
    obtain ⟨j, hj, rfl⟩ := List.mem_iff_getElem.1 hx
    have g := h i j
    have e2 : el a i j = a[i][j] := by
      unfold el
      rw [e, List.getD, List.getElem?_eq_getElem hj, Option.getD_some]
    rw [e2] at g
    have := (Arg.of g hk).len
    omega
  have := ref_SameM a a (by rw [ha.1]; omega) (by rw [ha.1]; omega) kk kk
  rw [decide_eq_true rfl] at this
  exact this
theorem same_vec {n k : Nat} {a : List Dy} (ha : a.length = n) (hn : n ≤ 1000) (hk : k ≤ 1099511627776) (h : ∀ i, Mg k (a.getD i Dy.zero)) : CallOK Tryz.prog gl 46 [.sl 3 (vrows (a.map can)), .sl 3 (vrows (a.map can))] (.v (.bool true)) := by
  have kk : ∀ x ∈ a, (ms x).length ≤ 4611686018427387904 := fun x hx => by
    obtain ⟨j, hj, rfl⟩ := List.mem_iff_getElem.1 hx
    have g := h j
    rw [List.getD, List.getElem?_eq_getElem hj, Option.getD_some] at g
    have := (Arg.of g hk).len
    omega
  have := ref_SameRow a a (by omega) (by omega) kk kk
  rw [decide_eq_true rfl] at this
  exact this
end Go.Proofs.YtdjgckcninibhaaGreatDoor
/- The statement MatrixRings: its code returns true. -/
set_option linter.unusedSimpArgs false
set_option linter.unusedVariables false
set_option linter.deprecated false
namespace Go.Proofs.YtdjgckcninibhaaGreatDoor
open Go Go.Ax
set_option maxRecDepth 100000
set_option maxHeartbeats 4000000

theorem mg_addD {n m p : Nat} {a b : List (List Dy)} (ha : rect n m a) (hn : 0 < n) (ga : ∀ i j, Mg p (el a i j)) (gb : ∀ i j, Mg p (el b i j)) (i j : Nat) : Mg (p + 1) (el (addD a b) i j) := by
  by_cases hij : i < n ∧ j < m
  · rw [el_add ha hn hij.1 hij.2]; exact Mg.add (ga i j) (gb i j)
  · rw [el_out (rect_add ha hn) hij]; exact Mg.zero _
theorem mg_appD {n m p q : Nat} {a : List (List Dy)} {x : List Dy} (ha : rect n m a) (ga : ∀ i j, Mg p (el a i j)) (gx : ∀ i, Mg q (x.getD i Dy.zero)) (i : Nat) : Mg (p + q + m) ((appD a x).getD i Dy.zero) := by
  by_cases hi : i < n
  · rw [el_app ha hi]; exact mg_dot (fun k _ => ga i k) (fun k _ => gx k)
  · rw [List.getD, List.getElem?_eq_none (by rw [app_len, ha.1]; omega)]; exact Mg.zero _
end Go.Proofs.YtdjgckcninibhaaGreatDoor
/- The statements on layer 4: what several of them use. -/
set_option linter.unusedSimpArgs false
set_option linter.unusedVariables false
set_option linter.deprecated false
namespace Go.Proofs.YtdjgckcninibhaaGreatDoor
open Go Go.Ax
set_option maxRecDepth 100000
set_option maxHeartbeats 4000000

theorem argM_one {x : List RD} (h : x.length ≤ maxLen) (k : ∀ r ∈ x, r.arg0) : argM [x] := fun r hr => by
  simp only [List.mem_cons, List.not_mem_nil, or_false] at hr; subst hr; exact ⟨h, k⟩
theorem mg_absD {n m p : Nat} {a : List (List Dy)} (ha : rect n m a) (hn : 0 < n) (ga : ∀ i j, Mg p (el a i j)) (i j : Nat) : Mg p (el (absD a) i j) := by
  by_cases hij : i < n ∧ j < m
  · rw [el_abs ha hn hij.1 hij.2]; exact Mg.abs (ga i j)
  · rw [el_out (rect_abs ha hn) hij]; exact Mg.zero _
theorem mg_normD {n m p : Nat} {a : List (List Dy)} (ha : rect n m a) (ga : ∀ i j, Mg p (el a i j)) : Mg (p + m) (normD a) := by
  unfold normD
  refine mg_maxD fun i hi => ?_
  rw [ha.1] at hi
  unfold rowN
  rw [ha.2 i hi]
  exact mg_sumD fun k _ => Mg.abs (ga i k)
theorem same_nil : CallOK Tryz.prog gl 102 [.v (.slice none 0 0), .v (.slice none 0 0)] (.v (.bool true)) := by
  have h := same_mat (n := 0) (m := 0) (k := 0) (a := []) ⟨rfl, fun i h => by omega⟩ (by omega) (by omega) (by omega) (fun i j => Mg.zero _)
  exact h.le (.cons (Le.nil 1) (.cons (Le.nil 1) .nil)) (fun x hx => by
    simp only [List.mem_cons, List.not_mem_nil, or_false] at hx
    rcases hx with rfl | rfl <;> exact Cl.v _)
end Go.Proofs.YtdjgckcninibhaaGreatDoor
