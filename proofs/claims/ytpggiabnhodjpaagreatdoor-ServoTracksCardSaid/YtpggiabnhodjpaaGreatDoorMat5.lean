/- Layer 4 (matrix): Mul, Power, Add, Abs. -/
import Derived.Test.YtpggiabnhodjpaaGreatDoorMat4
set_option linter.unusedSimpArgs false
set_option linter.unusedVariables false
set_option linter.deprecated false
namespace Go.Proofs.YtpggiabnhodjpaaGreatDoor
open Go Go.Ax
set_option maxRecDepth 100000
set_option maxHeartbeats 4000000
def fitMul (a b : List (List RD)) : Bool := decide ((a.getD 0 []).length = b.length)
theorem bothE_ok {a b : List (List RD)} {z : Bool} (h : bothE a b z = 0) : ckM a = 0 ∧ ckM b = 0 ∧ z = true := by
  unfold bothE at h
  split at h
  · split at h
    · split at h
      · exact ⟨by assumption, by assumption, by assumption⟩
      · omega
    · exact absurd h (by assumption)
  · exact absurd h (by assumption)
theorem mat_fitMul (a b : List (List RD)) (ha : 0 < a.length) (hl : a.length ≤ 1000) (hb : b.length ≤ 1000) (hr : (a.getD 0 []).length ≤ 1000) : CallOK Tryz.prog gl 163 [.rp [.sl 1 (mrows a)], .rp [.sl 1 (mrows b)]] (.v (.bool ((fitMul a b)))) := by
  refine call_ok (C := ⟨Tryz.prog, gl, ti, 10, false⟩) ti_ok mixed 3000 Tryz.call163 Tryz.func163 rfl Tryz.ntmps163 (by simp) byClL byCl ?_
  rw [Tryz.results163]
  have r0 := mrows_getD (a := a) (i := 0) ha
  have l0 : (vrows (a.getD 0 [])).length = (a.getD 0 []).length := vrows_length _
  unfold fitMul
  generalize a.getD 0 [] = y at *
  obtain ⟨n, hn⟩ : ∃ n, y.length = n := ⟨_, rfl⟩
  obtain ⟨m, hm⟩ : ∃ m, b.length = m := ⟨_, rfl⟩
  rw [hn] at l0 hr ⊢
  rw [hm] at hb ⊢
  by_cases h : n = m
  · rw [decide_eq_true h]
    subst h
    repeat' (first | (simp only [go_sem, seval, IntKind.bits.eq_def, ti, tin, mrows_length, r0, l0, hm]) | (simp (disch := omega) only [wA]) | refine aL ti_ok ?_ | refine dL ti_ok ?_ | refine dG ?_ | ((first | refine cC ?_ ?_ | refine gS ?_ ?_ | refine dS ?_ ?_) <;> intro hc <;> first | (exfalso; simp only [dcA] at hc; omega) | (simp only [hc]; try simp only [dcA] at hc)) | refine aO ?_ | refine dO ?_)
    all_goals exact fin_same trivial rfl
  · rw [decide_eq_false h]
    have h2 : ¬ (n : Int) = (m : Int) := by omega
    repeat' (first | (simp only [go_sem, seval, IntKind.bits.eq_def, ti, tin, mrows_length, r0, l0, hm, h2]) | (simp (disch := omega) only [wA]) | refine aL ti_ok ?_ | refine dL ti_ok ?_ | refine dG ?_ | ((first | refine cC ?_ ?_ | refine gS ?_ ?_ | refine dS ?_ ?_) <;> intro hc <;> first | (exfalso; simp only [dcA] at hc; omega) | (simp only [hc]; try simp only [dcA] at hc)) | refine aO ?_ | refine dO ?_)
    all_goals exact fin_same trivial rfl
theorem mat_Mul (a b : List (List RD)) (p q : Nat) (hp : p + q ≤ 1000000) (h : bothE a b (fitMul a b) = 0) (oa : okM p a) (ob : okM q b) : CallOK Tryz.prog gl 121 [.sl 1 (mrows (a)), .sl 1 (mrows (b))] (.tup [.sl 1 (mrows (crM (mulD (dyM a) (dyM b)))), .v .nilIface]) := by
  refine call_ok (C := ⟨Tryz.prog, gl, ti, 17, false⟩) ti_ok mixed 3000 Tryz.call121 Tryz.func121 rfl Tryz.ntmps121 (by simp) byClL byCl ?_
  rw [Tryz.results121]
  obtain ⟨h1, h2, h3⟩ := bothE_ok h
  obtain ⟨a1, a2, a3, a4, a5⟩ := ckM_ok h1
  obtain ⟨b1, b2, b3, b4, b5⟩ := ckM_ok h2
  have c1 := mat_both 163 [.rp [.sl 1 (mrows a)], .rp [.sl 1 (mrows b)]] a b (fitMul a b) (by omega) (by omega) (caps2 Cl.mat Cl.mat) (fun _ _ => mat_fitMul a b a1 (by omega) (by omega) (by omega))
  rw [h, eV_zero] at c1
  have c2 := mat_product a b p q hp h1 h2 (of_decide_eq_true h3) oa ob
  generalize mulD (dyM a) (dyM b) = z at *
  repeat' (first | (simp only [go_sem, seval, IntKind.bits.eq_def, ti, tin]) | (simp (disch := omega) only [wA]) | (with_reducible first | refine cF c1 ?_ | refine dF c1 ?_ | refine cF c2 ?_ | refine dF c2 ?_) | (refine after_boxF rfl rfl ?_) | refine aL ti_ok ?_ | refine dL ti_ok ?_ | refine dG ?_ | ((first | refine cC ?_ ?_ | refine gS ?_ ?_ | refine dS ?_ ?_) <;> intro hc <;> first | (exfalso; simp only [dcA] at hc; omega) | (simp only [hc]; try simp only [dcA] at hc)) | refine aO ?_ | refine dO ?_)
  all_goals exact fin_same trivial rfl
theorem mat_abs1 (i j : Nat) (a : List (List RD)) (p : Nat) (hi : i < a.length) (hj : j < (a.getD i []).length) (la : a.length ≤ 1000) (l1 : (a.getD i []).length ≤ 1000) (oa : okM p a) : CallOK Tryz.prog gl 174 [.v (.int .i64 i), .v (.int .i64 j), .rp [.sl 1 (mrows a)]] (.agg [.v (.bool (sg ((((a.getD i []).getD j RD.zero).dy.abs)))), .sl 1 (u32s (ms ((((a.getD i []).getD j RD.zero).dy.abs)))), .v (.int .i64 (dn ((((a.getD i []).getD j RD.zero).dy.abs))))]) := by
  refine call_ok (C := ⟨Tryz.prog, gl, ti, 14, false⟩) ti_ok mixed 3000 Tryz.call174 Tryz.func174 rfl Tryz.ntmps174 (by simp) byClL byCl ?_
  rw [Tryz.results174]
  have ri := mrows_getD hi
  have rj := vrows_getD hj
  have v1 : (vrows (a.getD i [])).length = (a.getD i []).length := vrows_length _
  have c1 := Abs_ok _ _ _ _ (RD.arg (oa i j).1)
  clear oa
  unfold vrow at rj
  generalize a.getD i [] = x at *
  generalize x.getD j RD.zero = r at *
  repeat' (first | (simp only [go_sem, seval, IntKind.bits.eq_def, ti, tin, mrows_length, ri, rj, v1]) | (simp (disch := omega) only [wA]) | (with_reducible first | refine cF c1 ?_ | refine dF c1 ?_) | refine aL ti_ok ?_ | refine dL ti_ok ?_ | refine dG ?_ | ((first | refine cC ?_ ?_ | refine gS ?_ ?_ | refine dS ?_ ?_) <;> intro hc <;> first | (exfalso; simp only [dcA] at hc; omega) | (simp only [hc]; try simp only [dcA] at hc)) | refine aO ?_ | refine dO ?_)
  all_goals exact fin_same trivial rfl
theorem absD_raw {a : List (List RD)} : absD (dyM a) = tabD a.length (a.getD 0 []).length fun i j => ((a.getD i []).getD j RD.zero).dy.abs := by
  unfold absD
  rw [dyM_len, dyM_get, dyV_len]
  exact tabD_congr fun i j hi hj => by rw [dyM_el]
theorem mat_Abs (a : List (List RD)) (p : Nat) (h : ckM a = 0) (oa : okM p a) : CallOK Tryz.prog gl 140 [.sl 1 (mrows (a))] (.tup [.sl 1 (mrows (crM (absD (dyM a)))), .v .nilIface]) := by
  refine call_ok (C := ⟨Tryz.prog, gl, ti, 18, false⟩) ti_ok mixed 3000 Tryz.call140 Tryz.func140 rfl Tryz.ntmps140 (by simp) byClL byCl ?_
  rw [Tryz.results140]
  obtain ⟨a1, a2, a3, a4, a5⟩ := ckM_ok h
  have c1 := mat_Check a (by omega)
  rw [h, eV_zero] at c1
  have c2 := mat_build 174 [.rp [.sl 1 (mrows a)]] a.length (a.getD 0 []).length (fun i j => ((a.getD i []).getD j RD.zero).dy.abs) (by omega) (by omega) (caps1 Cl.mat)
    (fun i j hi hj => mat_abs1 i j a p hi (by rw [a5 i hi]; exact hj) (by omega) (by rw [a5 i hi]; omega) oa)
  rw [absD_raw]
  have r0 := mrows_getD (a := a) (i := 0) a1
  have l0 : (vrows (a.getD 0 [])).length = (a.getD 0 []).length := vrows_length _
  clear oa a5
  generalize tabD a.length (a.getD 0 []).length (fun i j => ((a.getD i []).getD j RD.zero).dy.abs) = z at *
  generalize a.getD 0 [] = y at *
  repeat' (first | (simp only [go_sem, seval, IntKind.bits.eq_def, ti, tin, mrows_length, r0, l0]) | (simp (disch := omega) only [wA]) | (with_reducible first | refine cF c1 ?_ | refine dF c1 ?_ | refine cF c2 ?_ | refine dF c2 ?_) | (refine after_boxF rfl rfl ?_) | refine aL ti_ok ?_ | refine dL ti_ok ?_ | refine dG ?_ | ((first | refine cC ?_ ?_ | refine gS ?_ ?_ | refine dS ?_ ?_) <;> intro hc <;> first | (exfalso; simp only [dcA] at hc; omega) | (simp only [hc]; try simp only [dcA] at hc)) | refine aO ?_ | refine dO ?_)
  all_goals exact fin_same trivial rfl
theorem mg_dot {n p q : Nat} {f g : Nat → Dy} (hf : ∀ k, k < n → Mg p (f k)) (hg : ∀ k, k < n → Mg q (g k)) : Mg (p + q + n) (sumD n fun k => (f k).mul (g k)) := mg_sumD fun i hi => Mg.mul (hf i hi) (hg i hi)
theorem mg_mulD {n m l p q : Nat} {a b : List (List Dy)} (ha : rect n m a) (hb : rect m l b) (hm : 0 < m) (ga : ∀ i j, Mg p (el a i j)) (gb : ∀ i j, Mg q (el b i j)) (i j : Nat) : Mg (p + q + m) (el (mulD a b) i j) := by
  by_cases hij : i < n ∧ j < l
  · rw [el_mul ha hb hm hij.1 hij.2]; exact mg_dot (fun k _ => ga i k) (fun k _ => gb k j)
  · rw [el_out (rect_mul ha hb hm) hij]; exact Mg.zero _
theorem mg_int1 : Mg 1 (Dy.int 1) := Mg.int (by decide)
theorem mg_unitD (n : Nat) (i j : Nat) : Mg 1 (el (unitD n) i j) := by
  unfold unitD
  exact mg_el_tab (fun i j _ _ => by
    split
    · exact mg_int1
    · exact Mg.zero _) i j
theorem mg_powD {n p : Nat} {a : List (List Dy)} (ha : rect n n a) (hn : 0 < n) (ga : ∀ i j, Mg p (el a i j)) : ∀ k i j, Mg (1 + k * (p + n)) (el (powD a k) i j)
  | 0, i, j => by simp only [powD]; exact (mg_unitD _ i j).mono (by omega)
  | k + 1, i, j => by
    have := mg_mulD (pow_rect ha hn k) ha hn (mg_powD ha hn ga k) ga i j
    rw [Nat.succ_mul]
    exact this.mono (by omega)
theorem mg_el_raw {p : Nat} {a : List (List RD)} (h : okM p a) (i j : Nat) : Mg p (el (dyM a) i j) := by rw [dyM_el]; exact (h i j).2
end Go.Proofs.YtpggiabnhodjpaaGreatDoor
