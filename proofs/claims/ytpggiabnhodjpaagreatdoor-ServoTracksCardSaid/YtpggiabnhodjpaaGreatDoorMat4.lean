/- Layer 4 (matrix): both, unit, product. -/
import Derived.Test.YtpggiabnhodjpaaGreatDoorMat3
import Derived.Test.YtpggiabnhodjpaaGreatDoorDy6
import Derived.Test.YtpggiabnhodjpaaGreatDoorU4
set_option linter.unusedSimpArgs false
set_option linter.unusedVariables false
set_option linter.deprecated false
namespace Go.Proofs.YtpggiabnhodjpaaGreatDoor
open Go Go.Ax
set_option maxRecDepth 100000
set_option maxHeartbeats 4000000
theorem ckM_ok {α : Type} {a : List (List α)} (h : ckM a = 0) : 0 < a.length ∧ a.length ≤ 8 ∧ 0 < (a.getD 0 []).length ∧ (a.getD 0 []).length ≤ 8 ∧ ∀ i, i < a.length → (a.getD i []).length = (a.getD 0 []).length := by
  unfold ckM at h
  split at h
  · omega
  split at h
  · omega
  split at h
  · omega
  split at h
  · omega
  split at h
  · rename_i h1; exact ⟨by omega, by omega, by omega, by omega, h1⟩
  · omega
theorem ckM_of {α : Type} {a : List (List α)} {n m : Nat} (hn : 0 < n) (hn8 : n ≤ 8) (hm : 0 < m) (hm8 : m ≤ 8) (h1 : a.length = n) (h2 : ∀ i, i < n → (a.getD i []).length = m) : ckM a = 0 := by
  have h0 := h2 0 hn
  unfold ckM
  rw [h0, if_neg (by omega), if_neg (by omega), if_neg (by omega), if_neg (by omega), if_pos (fun i hi => h2 i (by omega))]
theorem ckM_rect {a : List (List Dy)} {n m : Nat} (h : rect n m a) (hn : 0 < n) (hn8 : n ≤ 8) (hm : 0 < m) (hm8 : m ≤ 8) : ckM (crM a) = 0 :=
  ckM_of hn hn8 hm hm8 (by rw [crM_len]; exact h.1) (fun i hi => by rw [crM_get, List.length_map]; exact h.2 i hi)
theorem rect_of {a : List (List RD)} (h : ckM a = 0) : rect a.length (a.getD 0 []).length (dyM a) := ⟨dyM_len a, fun i hi => by rw [dyM_get, dyV_len]; exact (ckM_ok h).2.2.2.2 i hi⟩
def bothE (a b : List (List RD)) (z : Bool) : Int := if ckM a = 0 then if ckM b = 0 then if z = true then 0 else 11 else ckM b else ckM a
theorem mat_both (fid : FuncId) (caps : List AV) (a b : List (List RD)) (z : Bool) (ha : a.length ≤ 1000) (hb : b.length ≤ 1000) (hcaps : ∀ c ∈ caps, Cl c) (hf : ckM a = 0 → ckM b = 0 → CallOK Tryz.prog gl fid caps (.v (.bool z))) :
    CallOK Tryz.prog gl 144 [.sl 1 (mrows a), .sl 1 (mrows b), .fn fid caps] (.v (eV (bothE a b z))) := by
  refine call_ok (C := ⟨Tryz.prog, gl, ti, 28, false⟩) ti_ok mixed 3000 Tryz.call144 Tryz.func144 rfl Tryz.ntmps144 (by simp) (by
    intro x hx
    simp only [List.mem_cons, List.not_mem_nil, or_false] at hx
    rcases hx with rfl | rfl | rfl
    · exact Cl.mat
    · exact Cl.mat
    · exact Cl.fn hcaps) byCl ?_
  rw [Tryz.results144]
  have c1 := mat_Check a (by omega)
  have c2 := mat_Check b (by omega)
  unfold bothE
  by_cases h1 : ckM a = 0
  · rw [if_pos h1]
    rw [h1, eV_zero] at c1
    by_cases h2 : ckM b = 0
    · rw [if_pos h2]
      rw [h2, eV_zero] at c2
      have c3 := hf h1 h2
      cases z with
      | true =>
        rw [if_pos rfl, eV_zero]
        repeat' (first | (simp only [go_sem, seval, IntKind.bits.eq_def, ti, tin]) | (simp (disch := omega) only [wA]) | (refine l_unroll 3 _ rfl ?_) | (with_reducible first | refine cF c1 ?_ | refine dF c1 ?_ | refine cF c2 ?_ | refine dF c2 ?_ | refine cF c3 ?_ | refine dF c3 ?_) | refine aL ti_ok ?_ | refine dL ti_ok ?_ | refine dG ?_ | ((first | refine cC ?_ ?_ | refine gS ?_ ?_ | refine dS ?_ ?_) <;> intro hc <;> first | (exfalso; simp only [dcA] at hc; omega) | (simp only [hc]; try simp only [dcA] at hc)) | refine aO ?_ | refine dO ?_)
        all_goals exact fin_same trivial rfl
      | false =>
        rw [if_neg (by simp), eV_ne (by decide)]
        repeat' (first | (simp only [go_sem, seval, IntKind.bits.eq_def, ti, tin]) | (simp (disch := omega) only [wA]) | (refine l_unroll 3 _ rfl ?_) | (with_reducible first | refine cF c1 ?_ | refine dF c1 ?_ | refine cF c2 ?_ | refine dF c2 ?_ | refine cF c3 ?_ | refine dF c3 ?_) | refine aL ti_ok ?_ | refine dL ti_ok ?_ | refine dG ?_ | ((first | refine cC ?_ ?_ | refine gS ?_ ?_ | refine dS ?_ ?_) <;> intro hc <;> first | (exfalso; simp only [dcA] at hc; omega) | (simp only [hc]; try simp only [dcA] at hc)) | refine aO ?_ | refine dO ?_)
        all_goals exact fin_same trivial rfl
    · rw [if_neg h2]
      rw [eV_ne h2] at c2 ⊢
      generalize ckM b = e at *
      repeat' (first | (simp only [go_sem, seval, IntKind.bits.eq_def, ti, tin]) | (simp (disch := omega) only [wA]) | (refine l_unroll 3 _ rfl ?_) | (with_reducible first | refine cF c1 ?_ | refine dF c1 ?_ | refine cF c2 ?_ | refine dF c2 ?_) | refine aL ti_ok ?_ | refine dL ti_ok ?_ | refine dG ?_ | ((first | refine cC ?_ ?_ | refine gS ?_ ?_ | refine dS ?_ ?_) <;> intro hc <;> first | (exfalso; simp only [dcA] at hc; omega) | (simp only [hc]; try simp only [dcA] at hc)) | refine aO ?_ | refine dO ?_)
      all_goals exact fin_same trivial rfl
  · rw [if_neg h1]
    rw [eV_ne h1] at c1 ⊢
    generalize ckM a = e at *
    repeat' (first | (simp only [go_sem, seval, IntKind.bits.eq_def, ti, tin]) | (simp (disch := omega) only [wA]) | (refine l_unroll 3 _ rfl ?_) | (with_reducible first | refine cF c1 ?_ | refine dF c1 ?_) | refine aL ti_ok ?_ | refine dL ti_ok ?_ | refine dG ?_ | ((first | refine cC ?_ ?_ | refine gS ?_ ?_ | refine dS ?_ ?_) <;> intro hc <;> first | (exfalso; simp only [dcA] at hc; omega) | (simp only [hc]; try simp only [dcA] at hc)) | refine aO ?_ | refine dO ?_)
    all_goals exact fin_same trivial rfl
theorem mat_unit1 (i j : Nat) (hi : i ≤ 1000) (hj : j ≤ 1000) : CallOK Tryz.prog gl 181 [.v (.int .i64 i), .v (.int .i64 j)] (.agg [.v (.bool (sg ((if i = j then Dy.int 1 else Dy.zero)))), .sl 1 (u32s (ms ((if i = j then Dy.int 1 else Dy.zero)))), .v (.int .i64 (dn ((if i = j then Dy.int 1 else Dy.zero))))]) := by
  refine call_ok (C := ⟨Tryz.prog, gl, ti, 10, false⟩) ti_ok mixed 3000 Tryz.call181 Tryz.func181 rfl Tryz.ntmps181 (by simp) byClL byCl ?_
  rw [Tryz.results181]
  have c1 := Of_ok 1 (by omega)
  by_cases h : i = j
  · rw [if_pos h]
    subst h
    repeat' (first | (simp only [go_sem, seval, IntKind.bits.eq_def, ti, tin]) | (simp (disch := omega) only [wA]) | (with_reducible first | refine cF c1 ?_ | refine dF c1 ?_) | refine aL ti_ok ?_ | refine dL ti_ok ?_ | refine dG ?_ | ((first | refine cC ?_ ?_ | refine gS ?_ ?_ | refine dS ?_ ?_) <;> intro hc <;> first | (exfalso; simp only [dcA] at hc; omega) | (simp only [hc]; try simp only [dcA] at hc)) | refine aO ?_ | refine dO ?_)
    all_goals exact fin_same trivial rfl
  · rw [if_neg h]
    repeat' (first | (simp only [go_sem, seval, IntKind.bits.eq_def, ti, tin]) | (simp (disch := omega) only [wA]) | (with_reducible first | refine cF c1 ?_ | refine dF c1 ?_) | refine aL ti_ok ?_ | refine dL ti_ok ?_ | refine dG ?_ | ((first | refine cC ?_ ?_ | refine gS ?_ ?_ | refine dS ?_ ?_) <;> intro hc <;> first | (exfalso; simp only [dcA] at hc; omega) | (simp only [hc]; try simp only [dcA] at hc)) | refine aO ?_ | refine dO ?_)
    all_goals exact fin_le trivial Le.dy0
theorem mat_unit (n : Nat) (hn : n ≤ 8) : CallOK Tryz.prog gl 162 [.v (.int .i64 n)] (.sl 1 (mrows (crM (unitD n)))) := by
  refine call_ok (C := ⟨Tryz.prog, gl, ti, 6, false⟩) ti_ok mixed 3000 Tryz.call162 Tryz.func162 rfl Tryz.ntmps162 (by simp) byClL byCl ?_
  rw [Tryz.results162]
  have c1 := mat_build 181 [] n n (fun i j => if i = j then Dy.int 1 else Dy.zero) (by omega) (by omega) (fun c h => by cases h) (fun i j hi hj => mat_unit1 i j (by omega) (by omega))
  unfold unitD
  repeat' (first | (simp only [go_sem, seval, IntKind.bits.eq_def, ti, tin]) | (simp (disch := omega) only [wA]) | (with_reducible first | refine cF c1 ?_ | refine dF c1 ?_) | refine aL ti_ok ?_ | refine dL ti_ok ?_ | refine dG ?_ | ((first | refine cC ?_ ?_ | refine gS ?_ ?_ | refine dS ?_ ?_) <;> intro hc <;> first | (exfalso; simp only [dcA] at hc; omega) | (simp only [hc]; try simp only [dcA] at hc)) | refine aO ?_ | refine dO ?_)
  all_goals exact fin_same trivial rfl
theorem Cl.rp1 {a : AV} (h : Cl a) : Cl (.rp [a]) := Cl.rp fun x hx => by
  simp only [List.mem_cons, List.not_mem_nil, or_false] at hx; subst hx; exact h
theorem caps1 {a : AV} (h : Cl a) : ∀ c ∈ [AV.rp [a]], Cl c := fun c hc => by
  simp only [List.mem_cons, List.not_mem_nil, or_false] at hc; subst hc; exact Cl.rp1 h
theorem caps2 {a b : AV} (h : Cl a) (k : Cl b) : ∀ c ∈ [AV.rp [a], AV.rp [b]], Cl c := fun c hc => by
  simp only [List.mem_cons, List.not_mem_nil, or_false] at hc
  rcases hc with rfl | rfl
  · exact Cl.rp1 h
  · exact Cl.rp1 k
theorem mat_prod2 (k j : Nat) (b : List (List RD)) (hb : b.length ≤ 1000) (hk : k < b.length) (hj : j < (b.getD k []).length) (hl : (b.getD k []).length ≤ 1000) : CallOK Tryz.prog gl 183 [.v (.int .i64 k), .rp [.sl 1 (mrows b)], .rp [.v (.int .i64 j)]] (.agg [.v (.bool ((b.getD k []).getD j RD.zero).s), .sl 1 (u32s ((b.getD k []).getD j RD.zero).ws), .v (.int .i64 ((b.getD k []).getD j RD.zero).d)]) := by
  refine call_ok (C := ⟨Tryz.prog, gl, ti, 12, false⟩) ti_ok mixed 3000 Tryz.call183 Tryz.func183 rfl Tryz.ntmps183 (by simp) byClL byCl ?_
  rw [Tryz.results183]
  have rk := mrows_getD hk
  have rj := vrows_getD hj
  have l1 : (vrows (b.getD k [])).length = (b.getD k []).length := vrows_length _
  unfold vrow at rj
  generalize b.getD k [] = y at *
  generalize y.getD j RD.zero = r at *
  repeat' (first | (simp only [go_sem, seval, IntKind.bits.eq_def, ti, tin, mrows_length, rk, rj, l1]) | (simp (disch := omega) only [wA]) | refine aL ti_ok ?_ | refine dL ti_ok ?_ | refine dG ?_ | ((first | refine cC ?_ ?_ | refine gS ?_ ?_ | refine dS ?_ ?_) <;> intro hc <;> first | (exfalso; simp only [dcA] at hc; omega) | (simp only [hc]; try simp only [dcA] at hc)) | refine aO ?_ | refine dO ?_)
  all_goals exact fin_same trivial rfl
theorem mat_prod1 (i j : Nat) (a b : List (List RD)) (p q : Nat) (hp : p + q ≤ 1000000) (ha : a.length ≤ 1000) (hi : i < a.length) (hla : (a.getD i []).length = b.length) (hb : b.length ≤ 1000) (hj : ∀ k, k < b.length → j < (b.getD k []).length ∧ (b.getD k []).length ≤ 1000) (hj2 : j ≤ 1000) (oa : okM p a) (ob : okM q b) : CallOK Tryz.prog gl 182 [.v (.int .i64 i), .v (.int .i64 j), .rp [.sl 1 (mrows a)], .rp [.sl 1 (mrows b)]] (.agg (crow (sumD b.length fun k => ((a.getD i []).getD k RD.zero).dy.mul ((b.getD k []).getD j RD.zero).dy))) := by
  refine call_ok (C := ⟨Tryz.prog, gl, ti, 13, false⟩) ti_ok mixed 3000 Tryz.call182 Tryz.func182 rfl Tryz.ntmps182 (by simp) byClL byCl ?_
  rw [Tryz.results182]
  have ri := mrows_getD hi
  have c1 := mat_dot 183 [.rp [.sl 1 (mrows b)], .rp [.v (.int .i64 j)]] (a.getD i []) (fun k => (b.getD k []).getD j RD.zero) p q (by omega) hp (caps2 Cl.mat (Cl.v _)) (oa i) (fun k _ => ob k j) (fun k hk => mat_prod2 k j b hb (by omega) (hj k (by omega)).1 (hj k (by omega)).2)
  rw [hla] at c1
  generalize (sumD b.length fun k => ((a.getD i []).getD k RD.zero).dy.mul ((b.getD k []).getD j RD.zero).dy) = z at *
  generalize a.getD i [] = y at *
  repeat' (first | (simp only [go_sem, seval, IntKind.bits.eq_def, ti, tin, mrows_length, ri]) | (simp (disch := omega) only [wA]) | (with_reducible first | refine cF c1 ?_ | refine dF c1 ?_) | (refine after_thaws ti_ok [0] (by (repeat' (first | exact trivial | exact fun _ => ⟨rfl, Nat.le_of_ble_eq_true rfl⟩ | exact fun h => absurd h (by decide) | refine And.intro ?_ ?_))) rfl rfl trivial ?_) | refine aL ti_ok ?_ | refine dL ti_ok ?_ | refine dG ?_ | ((first | refine cC ?_ ?_ | refine gS ?_ ?_ | refine dS ?_ ?_) <;> intro hc <;> first | (exfalso; simp only [dcA] at hc; omega) | (simp only [hc]; try simp only [dcA] at hc)) | refine aO ?_ | refine dO ?_)
  all_goals exact fin_same trivial rfl
theorem mulD_raw {a b : List (List RD)} (h : ∀ i, i < a.length → (a.getD i []).length = b.length) : mulD (dyM a) (dyM b) = tabD a.length (b.getD 0 []).length fun i j => sumD b.length fun k => ((a.getD i []).getD k RD.zero).dy.mul ((b.getD k []).getD j RD.zero).dy := by
  unfold mulD
  rw [dyM_len, dyM_get, dyV_len]
  refine tabD_congr fun i j hi hj => ?_
  unfold dotD
  rw [dyM_get, dyV_len, h i hi]
  exact sumD_congr fun k hk => by
    rw [dyV_get]
    show Dy.mul _ (el (dyM b) k j) = _
    rw [dyM_el]
theorem mat_product (a b : List (List RD)) (p q : Nat) (hp : p + q ≤ 1000000) (ha : ckM a = 0) (hb : ckM b = 0) (hab : (a.getD 0 []).length = b.length) (oa : okM p a) (ob : okM q b) : CallOK Tryz.prog gl 164 [.sl 1 (mrows (a)), .sl 1 (mrows (b))] (.sl 1 (mrows (crM (mulD (dyM a) (dyM b))))) := by
  refine call_ok (C := ⟨Tryz.prog, gl, ti, 13, false⟩) ti_ok mixed 3000 Tryz.call164 Tryz.func164 rfl Tryz.ntmps164 (by simp) byClL byCl ?_
  rw [Tryz.results164]
  obtain ⟨a1, a2, a3, a4, a5⟩ := ckM_ok ha
  obtain ⟨b1, b2, b3, b4, b5⟩ := ckM_ok hb
  rw [mulD_raw (fun i hi => by rw [a5 i hi, hab])]
  have c1 := mat_build 182 [.rp [.sl 1 (mrows a)], .rp [.sl 1 (mrows b)]] a.length (b.getD 0 []).length (fun i j => sumD b.length fun k => ((a.getD i []).getD k RD.zero).dy.mul ((b.getD k []).getD j RD.zero).dy) (by omega) (by omega) (caps2 Cl.mat Cl.mat)
    (fun i j hi hj => mat_prod1 i j a b p q hp (by omega) hi (by rw [a5 i hi, hab]) (by omega) (fun k hk => by rw [b5 k hk]; exact ⟨hj, by omega⟩) (by omega) oa ob)
  have r0 := mrows_getD (a := b) (i := 0) b1
  have l0 : (vrows (b.getD 0 [])).length = (b.getD 0 []).length := vrows_length _
  generalize tabD a.length (b.getD 0 []).length (fun i j => sumD b.length fun k => ((a.getD i []).getD k RD.zero).dy.mul ((b.getD k []).getD j RD.zero).dy) = z at *
  generalize b.getD 0 [] = y at *
  repeat' (first | (simp only [go_sem, seval, IntKind.bits.eq_def, ti, tin, mrows_length, r0, l0]) | (simp (disch := omega) only [wA]) | (with_reducible first | refine cF c1 ?_ | refine dF c1 ?_) | (refine after_boxF rfl rfl ?_) | refine aL ti_ok ?_ | refine dL ti_ok ?_ | refine dG ?_ | ((first | refine cC ?_ ?_ | refine gS ?_ ?_ | refine dS ?_ ?_) <;> intro hc <;> first | (exfalso; simp only [dcA] at hc; omega) | (simp only [hc]; try simp only [dcA] at hc)) | refine aO ?_ | refine dO ?_)
  all_goals exact fin_same trivial rfl
end Go.Proofs.YtpggiabnhodjpaaGreatDoor
