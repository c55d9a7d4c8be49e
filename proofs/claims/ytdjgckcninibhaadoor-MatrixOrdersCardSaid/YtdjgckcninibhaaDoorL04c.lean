/- The statements on layer 4: the document's examples hold. -/
import Derived.Test.YtdjgckcninibhaaDoorL04b
set_option linter.unusedSimpArgs false
set_option linter.unusedVariables false
set_option linter.deprecated false
namespace Go.Proofs.YtdjgckcninibhaaDoor
open Go Go.Ax
set_option maxRecDepth 100000
set_option maxHeartbeats 4000000

theorem awake_pow : powD (intD [[1, 2], [0, -1]]) 2 = intD [[1, 0], [0, 1]] := by decide +kernel
theorem awake_norm : normD (intD [[1, 2], [0, -1]]) = Dy.int 3 := by decide +kernel
theorem awake_text : matText (intD [[1, 2], [0, -1]]) = [49, 32, 50, 59, 32, 48, 32, 45, 49] := by decide +kernel
theorem int_mg (l : List (List Int)) (h : ∀ i j, ((l.getD i []).getD j 0).natAbs < 2 ^ 64) : ∀ i j, Mg 64 (el (intD l) i j) := fun i j => by
  unfold el intD
  by_cases hi : i < l.length
  · rw [show (tabS l.length fun i => tabV (l.getD i []).length fun j => Dy.int ((l.getD i []).getD j 0)).getD i [] = tabV (l.getD i []).length fun j => Dy.int ((l.getD i []).getD j 0) by simp [tabS, List.getD, hi]]
    by_cases hj : j < (l.getD i []).length
    · rw [tabV_get hj]; exact Mg.int (h i j)
    · rw [List.getD, List.getElem?_eq_none (by rw [tabV_len]; omega)]; exact Mg.zero _
  · rw [show (tabS l.length fun i => tabV (l.getD i []).length fun j => Dy.int ((l.getD i []).getD j 0)).getD i [] = [] by simp [tabS, List.getD, hi]]
    exact Mg.zero _
theorem two_bd {p q r s : Int} {P : Int → Prop} (h0 : P 0) (hp : P p) (hq : P q) (hr : P r) (hs : P s) (i j : Nat) : P (([[p, q], [r, s]].getD i []).getD j 0) := by
  match i, j with
  | 0, 0 => exact hp
  | 0, 1 => exact hq
  | 0, j + 2 => exact h0
  | 1, 0 => exact hr
  | 1, 1 => exact hs
  | 1, j + 2 => exact h0
  | i + 2, j => exact h0
theorem len_bd {p q r s : Int} (i : Nat) : ([[p, q], [r, s]].getD i []).length ≤ 1000 := by
  match i with
  | 0 => show 2 ≤ 1000; omega
  | 1 => show 2 ≤ 1000; omega
  | i + 2 => exact Nat.zero_le _
theorem ints22 (p q r s : Int) (hp : -100 ≤ p ∧ p ≤ 100) (hq : -100 ≤ q ∧ q ≤ 100) (hr : -100 ≤ r ∧ r ≤ 100) (hs : -100 ≤ s ∧ s ≤ 100) :
    CallOK Tryd.prog gl 87 [.sl 1 [[.sl 1 [[.v (.int .i64 p)], [.v (.int .i64 q)]]], [.sl 1 [[.v (.int .i64 r)], [.v (.int .i64 s)]]]]] (.sl 1 (mrows (crM (intD [[p, q], [r, s]])))) :=
  law_ints [[p, q], [r, s]] (by show 2 ≤ 1000; omega) len_bd (fun i j => two_bd (P := fun n => -9223372036854775808 ≤ n ∧ n ≤ 9223372036854775807) (by omega) (by omega) (by omega) (by omega) (by omega) i j)
theorem n2 : ((2 : Nat) : Int) = 2 := rfl
theorem awake04  : CallOK Tryd.prog gl 40 [] (.v (.bool (true))) := by
  refine call_ok (C := ⟨Tryd.prog, gl, ti, 54, false⟩) ti_ok mixed 3000 Tryd.call40 Tryd.func40 rfl Tryd.ntmps40 (by simp) byClL byCl ?_
  rw [Tryd.results40]
  have i1 := ints22 1 2 0 (-1) (by omega) (by omega) (by omega) (by omega)
  have i2 := ints22 1 0 0 1 (by omega) (by omega) (by omega) (by omega)
  have g1 : ∀ i j, Mg 64 (el (intD [[1, 2], [0, -1]]) i j) := int_mg _ (fun i j => two_bd (P := fun n => n.natAbs < 2 ^ 64) (by decide) (by decide) (by decide) (by decide) (by decide) i j)
  have o1 : okM 64 (crM (intD [[1, 2], [0, -1]])) := okM_cr g1 (by omega)
  have k1 : ckM (crM (intD [[1, 2], [0, -1]])) = 0 := by decide +kernel
  have p1 := mat_Power (crM (intD [[1, 2], [0, -1]])) 2 64 (by omega) k1 (by decide +kernel) (by omega) o1
  have n1 := mat_Norm (crM (intD [[1, 2], [0, -1]])) 64 (by omega) k1 o1
  have t1 := mat_Text (crM (intD [[1, 2], [0, -1]])) 64 (by omega) k1 o1
  rw [dyM_cr] at p1 n1 t1
  rw [awake_pow] at p1
  rw [awake_norm] at n1
  rw [awake_text] at t1
  rw [n2] at p1
  have s1 := ref_SameM (intD [[1, 0], [0, 1]]) (intD [[1, 0], [0, 1]]) (by decide +kernel) (by decide +kernel) (by decide +kernel) (by decide +kernel)
  rw [decide_eq_true rfl] at s1
  have s2 := ref_Same (Dy.int 3) (Dy.int 3) (by decide +kernel) (by decide +kernel)
  rw [decide_eq_true rfl] at s2
  have f1 := ref_Of 3 (by omega)
  have e1 : decide ((⟨[49, 32, 50, 59, 32, 48, 32, 45, 49].toArray⟩ : ByteArray) = ⟨#[49, 32, 50, 59, 32, 48, 32, 45, 49]⟩) = true := decide_eq_true rfl
  have s3 : CallOK Tryd.prog gl 43 [.sl 1 (mrows (crM (intD [[1, 0], [0, 1]]))), .sl 1 (mrows (crM (intD [[1, 0], [0, 1]])))] (.v (.bool true)) := s1
  clear g1 o1 k1 s1
  generalize crM (intD [[1, 2], [0, -1]]) = A at *
  generalize crM (intD [[1, 0], [0, 1]]) = B at *
  generalize Dy.int 3 = z at *
  repeat' (first | (simp only [go_sem, Int.reduceAdd, Int.reduceEq, Int.reduceLE, Int.reduceLT, Int.reduceMul, Int.reduceNeg, Int.reducePow, Int.reduceSub, Int.reduceToNat, Nat.reduceAdd, Nat.reduceBEq, Nat.reduceEqDiff, Nat.reduceLT, Nat.reduceLeDiff, Nat.reduceMul, Nat.reducePow, Nat.reduceSub, reduceCtorEq, reduceIte, IntKind.bits.eq_def, ti, tin, e1]) | (simp (disch := omega) only [w64, wu64, wu32, Nat.min_eq_left]) | (with_reducible first | refine cF (i1) ?_ | refine dF (i1) ?_) | (with_reducible first | refine cF (i2) ?_ | refine dF (i2) ?_) | (with_reducible first | refine cF (p1) ?_ | refine dF (p1) ?_) | (with_reducible first | refine cF (n1) ?_ | refine dF (n1) ?_) | (with_reducible first | refine cF (t1) ?_ | refine dF (t1) ?_) | (with_reducible first | refine cF (s3) ?_ | refine dF (s3) ?_) | (with_reducible first | refine cF (s2) ?_ | refine dF (s2) ?_) | (with_reducible first | refine cF (f1) ?_ | refine dF (f1) ?_) | (refine aL ti_ok ?_) | (refine dL ti_ok ?_) | (refine dE (by kernel_rfl) ?_) | ((first | refine cC ?_ ?_ | refine gS ?_ ?_ | refine dS ?_ ?_) <;> intro hc <;> first | (exfalso; simp only [dcT, dcF, bnT, bnF, bnU, bnV] at hc; omega) | (simp only [hc]; try simp only [dcT, dcF, bnT, bnF, bnU, bnV] at hc)) | (refine aN (by omega) ?_) | (refine dN (by omega) ?_))
  all_goals exact fin_same trivial rfl
end Go.Proofs.YtdjgckcninibhaaDoor
