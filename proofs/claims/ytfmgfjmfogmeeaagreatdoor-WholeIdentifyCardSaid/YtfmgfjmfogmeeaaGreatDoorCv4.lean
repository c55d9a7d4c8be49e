/- Layer 9 (curve): the value of a curve; the library's search. -/
import Derived.Test.YtfmgfjmfogmeeaaGreatDoorCv2
import Derived.Test.YtfmgfjmfogmeeaaGreatDoorU4
set_option linter.unusedSimpArgs false
set_option linter.unusedVariables false
set_option linter.deprecated false
namespace Go.Proofs.YtfmgfjmfogmeeaaGreatDoor
open Go Go.Ax
set_option maxRecDepth 100000
set_option maxHeartbeats 4000000
theorem sort_search (fid : FuncId) (caps : List AV) (n q : Nat) (hn : n ≤ 1099511627776) (hcaps : ∀ c ∈ caps, Cl c) (hq : q ≤ n)
    (hf : ∀ k : Nat, k < n → CallOK Tryz.prog gl fid (.v (.int .i64 k) :: caps) (.v (.bool (decide (q ≤ k))))) :
    CallOK Tryz.prog gl 196 [.v (.int .i64 n), .fn fid caps] (.v (.int .i64 q)) := by
  refine call_ok (C := ⟨Tryz.prog, gl, ti, 26, false⟩) ti_ok mixed 3000 Tryz.call196 Tryz.func196 rfl Tryz.ntmps196 (by simp) (by
    intro x hx
    simp only [List.mem_cons, List.not_mem_nil, or_false] at hx
    rcases hx with rfl | rfl
    · exact Cl.v _
    · exact Cl.fn hcaps) byCl ?_
  rw [Tryz.results196]
  have hfn : Cl (.fn fid caps) := Cl.fn hcaps
  repeat' (first | (simp only [go_sem, seval, IntKind.bits.eq_def, ti, tin]) | (simp (disch := omega) only [wA]) | refine aL ti_ok ?_ | refine dL ti_ok ?_ | refine dG ?_ | ((first | refine cC ?_ ?_ | refine gS ?_ ?_ | refine dS ?_ ?_) <;> intro hc <;> first | (exfalso; simp only [dcA] at hc; omega) | (simp only [hc]; try simp only [dcA] at hc)) | refine aO ?_ | refine dO ?_)
  refine l_loop (α := Nat × Nat) (fun y => ⟨[(1, .fn fid caps), (5, .v (.int .i64 y.1)), (6, .v (.int .i64 y.2))], [], 0⟩) (fun y => y.1 ≤ q ∧ q ≤ y.2 ∧ y.2 ≤ n) (fun y => y.2 - y.1) ((0, n)) _ byFresh (fun _ h => by first | (cases h; done) | exact Nat.le_of_ble_eq_true rfl) ?_ ?_ ?_
  · exact ⟨Nat.zero_le _, hq, Nat.le_refl _⟩
  · exact byWeak
  rintro ⟨i, j⟩ ⟨h1, h2, h3⟩
  simp only at h1 h2 h3
  by_cases hij : i < j
  · obtain ⟨m, hm⟩ : ∃ m, m = (i + j) / 2 := ⟨_, rfl⟩
    have e1 : (i : Int) + (j : Int) = ((i + j : Nat) : Int) := by omega
    have e2 : ((i + j : Nat) : Int) / 2 = (m : Int) := by omega
    have c1 := hf m (by omega)
    by_cases hqm : q ≤ m
    · rw [decide_eq_true hqm] at c1
      clear hf
      repeat' (first | (simp only [go_sem, seval, IntKind.bits.eq_def, ti, tin, e1, e2]) | (simp (disch := omega) only [wA]) | (with_reducible first | refine cF c1 ?_ | refine dF c1 ?_) | refine aL ti_ok ?_ | refine dL ti_ok ?_ | refine dG ?_ | ((first | refine cC ?_ ?_ | refine gS ?_ ?_ | refine dS ?_ ?_) <;> intro hc <;> first | (exfalso; simp only [dcA] at hc; omega) | (simp only [hc]; try simp only [dcA] at hc)) | refine aO ?_ | refine dO ?_)
      refine roundEnd_of (α := Nat × Nat) (i, m) ?_ ?_ ?_
      · exact ⟨h1, hqm, by show m ≤ n; omega⟩
      · show m - i < j - i; omega
      · exact byWeak
    · rw [decide_eq_false hqm] at c1
      clear hf
      have e3 : (m : Int) + 1 = ((m + 1 : Nat) : Int) := by omega
      repeat' (first | (simp only [go_sem, seval, IntKind.bits.eq_def, ti, tin, e1, e2, e3]) | (simp (disch := omega) only [wA]) | (with_reducible first | refine cF c1 ?_ | refine dF c1 ?_) | refine aL ti_ok ?_ | refine dL ti_ok ?_ | refine dG ?_ | ((first | refine cC ?_ ?_ | refine gS ?_ ?_ | refine dS ?_ ?_) <;> intro hc <;> first | (exfalso; simp only [dcA] at hc; omega) | (simp only [hc]; try simp only [dcA] at hc)) | refine aO ?_ | refine dO ?_)
      refine roundEnd_of (α := Nat × Nat) (m + 1, j) ?_ ?_ ?_
      · exact ⟨by show m + 1 ≤ q; omega, h2, h3⟩
      · show j - (m + 1) < j - i; omega
      · exact byWeak
  · obtain rfl : i = q := by omega
    clear hf
    repeat' (first | (simp only [go_sem, seval, IntKind.bits.eq_def, ti, tin]) | (simp (disch := omega) only [wA]) | refine aL ti_ok ?_ | refine dL ti_ok ?_ | refine dG ?_ | ((first | refine cC ?_ ?_ | refine gS ?_ ?_ | refine dS ?_ ?_) <;> intro hc <;> first | (exfalso; simp only [dcA] at hc; omega) | (simp only [hc]; try simp only [dcA] at hc)) | refine aO ?_ | refine dO ?_)
    exact fin_same trivial rfl
theorem search_in (X : List Int) (x : Int) (k : Nat) (hk : k < X.length) (hb : k ≤ 1099511627776) : CallOK Tryz.prog gl 197 [.v (.int .i64 k), .rp [.sl 1 (rws irow X)], .rp [.v (.int .i64 x)]] (.v (.bool ((decide (x ≤ X.getD k 0))))) := by
  refine call_ok (C := ⟨Tryz.prog, gl, ti, 11, false⟩) ti_ok mixed 3000 Tryz.call197 Tryz.func197 rfl Tryz.ntmps197 (by simp) byClL byCl ?_
  rw [Tryz.results197]
  have rx := ig hk
  generalize X.getD k 0 = z at *
  obtain ⟨n, hn⟩ : ∃ n, X.length = n := ⟨_, rfl⟩
  rw [hn] at hk
  repeat' (first | (simp only [go_sem, seval, IntKind.bits.eq_def, ti, tin, rws_length, hn, rx]) | (simp (disch := omega) only [wA]) | refine aL ti_ok ?_ | refine dL ti_ok ?_ | refine dG ?_ | ((first | refine cC ?_ ?_ | refine gS ?_ ?_ | refine dS ?_ ?_) <;> intro hc <;> first | (exfalso; simp only [dcA] at hc; omega) | (simp only [hc]; try simp only [dcA] at hc)) | refine aO ?_ | refine dO ?_)
  exact fin_same trivial rfl
theorem capsI {a b : AV} (ha : Cl a) (hb : Cl b) : ∀ c ∈ [AV.rp [a], AV.rp [b]], Cl c := fun c hc => by
  simp only [List.mem_cons, List.not_mem_nil, or_false] at hc
  rcases hc with rfl | rfl
  · exact Cl.rp (fun x hx => by simp at hx; subst hx; exact ha)
  · exact Cl.rp (fun x hx => by simp at hx; subst hx; exact hb)
theorem search_ints (X : List Int) (x : Int) (n q : Nat) (hX : X.length = n) (hn : n ≤ 1099511627776) (hq : q ≤ n) (h : ∀ k, k < n → (x ≤ X.getD k 0 ↔ q ≤ k)) : CallOK Tryz.prog gl 177 [.sl 1 (rws irow X), .v (.int .i64 x)] (.v (.int .i64 q)) := by
  refine call_ok (C := ⟨Tryz.prog, gl, ti, 9, false⟩) ti_ok mixed 3000 Tryz.call177 Tryz.func177 rfl Tryz.ntmps177 (by simp) byClL byCl ?_
  rw [Tryz.results177]
  have c1 := sort_search 197 [.rp [.sl 1 (rws irow X)], .rp [.v (.int .i64 x)]] n q hn (capsI (Cl.rws clrow_i) (Cl.v _)) hq (fun k hk => by
    have := search_in X x k (by omega) (by omega)
    rwa [decide_eq_decide.2 (h k hk)] at this)
  clear h
  repeat' (first | (simp only [go_sem, seval, IntKind.bits.eq_def, ti, tin, rws_length, hX]) | (simp (disch := omega) only [wA]) | (with_reducible first | refine cF c1 ?_ | refine dF c1 ?_) | (refine after_thaws ti_ok [1] (by (repeat' (first | exact trivial | exact fun _ => ⟨rfl, Nat.le_of_ble_eq_true rfl⟩ | exact fun h => absurd h (by decide) | refine And.intro ?_ ?_))) rfl rfl trivial ?_) | (refine after_boxF rfl rfl ?_) | refine aL ti_ok ?_ | refine dL ti_ok ?_ | refine dG ?_ | ((first | refine cC ?_ ?_ | refine gS ?_ ?_ | refine dS ?_ ?_) <;> intro hc <;> first | (exfalso; simp only [dcA] at hc; omega) | (simp only [hc]; try simp only [dcA] at hc)) | refine aO ?_ | refine dO ?_)
  all_goals exact fin_same trivial rfl
theorem Cv.mono {X Y : List Int} {n : Nat} (h : Cv X Y n) {i j : Nat} (hij : i ≤ j) (hj : j < n) : X.getD i 0 ≤ X.getD j 0 := by
  induction j with
  | zero => rw [show i = 0 by omega]; exact Int.le_refl _
  | succ j ih =>
    by_cases e : i = j + 1
    · rw [e]; exact Int.le_refl _
    · have := ih (by omega) (by omega)
      have := h.oX j hj
      omega
theorem cv_value_lo (X Y : List Int) (n : Nat) (h : Cv X Y n) (x : Int) (hx : x ≤ X.getD 0 0) : CallOK Tryz.prog gl 137 [.agg [.sl 1 (rws irow X), .sl 1 (rws irow Y)], .v (.int .i64 x)] (.tup [.v (.int .i64 (Y.getD 0 0)), .v (.int .i64 1)]) := by
  refine call_ok (C := ⟨Tryz.prog, gl, ti, 85, false⟩) ti_ok mixed 3000 Tryz.call137 Tryz.func137 rfl Tryz.ntmps137 (by simp) byClL byCl ?_
  rw [Tryz.results137]
  obtain ⟨hX, hY, h1, h2, bX, bY, oX, oY⟩ := h
  have r0 := ig (l := X) (i := 0) (by omega)
  have s0 := ig (l := Y) (i := 0) (by omega)
  clear bX bY oX oY
  generalize X.getD 0 0 = z at *
  generalize Y.getD 0 0 = w at *
  repeat' (first | (simp only [go_sem, seval, IntKind.bits.eq_def, ti, tin, rws_length, hX, hY, r0, s0]) | (simp (disch := omega) only [wA]) | refine aL ti_ok ?_ | refine dL ti_ok ?_ | refine dG ?_ | ((first | refine cC ?_ ?_ | refine gS ?_ ?_ | refine dS ?_ ?_) <;> intro hc <;> first | (exfalso; simp only [dcA] at hc; omega) | (simp only [hc]; try simp only [dcA] at hc)) | refine aO ?_ | refine dO ?_)
  exact fin_same trivial rfl
theorem cv_value_hi (X Y : List Int) (n : Nat) (h : Cv X Y n) (x : Int) (h0 : X.getD 0 0 < x) (hx : X.getD (n - 1) 0 ≤ x) : CallOK Tryz.prog gl 137 [.agg [.sl 1 (rws irow X), .sl 1 (rws irow Y)], .v (.int .i64 x)] (.tup [.v (.int .i64 (Y.getD (n - 1) 0)), .v (.int .i64 1)]) := by
  refine call_ok (C := ⟨Tryz.prog, gl, ti, 85, false⟩) ti_ok mixed 3000 Tryz.call137 Tryz.func137 rfl Tryz.ntmps137 (by simp) byClL byCl ?_
  rw [Tryz.results137]
  obtain ⟨hX, hY, h1, h2, bX, bY, oX, oY⟩ := h
  have r0 := ig (l := X) (i := 0) (by omega)
  have rx := ig (l := X) (i := n - 1) (by omega)
  have ry := ig (l := Y) (i := n - 1) (by omega)
  have ee : (n : Int) - 1 = ((n - 1 : Nat) : Int) := by omega
  clear bX bY oX oY
  generalize X.getD 0 0 = z0 at *
  generalize X.getD (n - 1) 0 = z at *
  generalize Y.getD (n - 1) 0 = w at *
  repeat' (first | (simp only [go_sem, seval, IntKind.bits.eq_def, ti, tin, rws_length, hX, hY, r0, rx, ry, ee]) | (simp (disch := omega) only [wA]) | refine aL ti_ok ?_ | refine dL ti_ok ?_ | refine dG ?_ | ((first | refine cC ?_ ?_ | refine gS ?_ ?_ | refine dS ?_ ?_) <;> intro hc <;> first | (exfalso; simp only [dcA] at hc; omega) | (simp only [hc]; try simp only [dcA] at hc)) | refine aO ?_ | refine dO ?_)
  exact fin_same trivial rfl
theorem cv_value (X Y : List Int) (n : Nat) (h : Cv X Y n) (x : Int) (k : Nat) (h0 : 0 < k) (hk : k < n) (hx0 : X.getD 0 0 < x) (hxn : x < X.getD (n - 1) 0) (hx : x < X.getD k 0) (hl : ∀ i, i < k → X.getD i 0 ≤ x) : CallOK Tryz.prog gl 137 [.agg [.sl 1 (rws irow X), .sl 1 (rws irow Y)], .v (.int .i64 x)] (.tup [.v (.int .i64 (segN X Y k x)), .v (.int .i64 (segD X k))]) := by
  refine call_ok (C := ⟨Tryz.prog, gl, ti, 85, false⟩) ti_ok mixed 3000 Tryz.call137 Tryz.func137 rfl Tryz.ntmps137 (by simp) byClL byCl ?_
  rw [Tryz.results137]
  have bxn := h.bX (n - 1) (by omega)
  have bx0 := h.bX 0 (by omega)
  have sr := search_ints X (x + 1) n k h.hX (by have := h.h2; omega) (by omega) (fun j hj => by
    constructor
    · intro hh
      rcases Nat.lt_or_ge j k with g | g
      · have := hl j g; omega
      · exact g
    · intro g
      have := h.mono g hj
      omega)
  obtain ⟨hX, hY, h1, h2, bX, bY, oX, oY⟩ := h
  have r0 := ig (l := X) (i := 0) (by omega)
  have rn := ig (l := X) (i := n - 1) (by omega)
  have en : (n : Int) - 1 = ((n - 1 : Nat) : Int) := by omega
  have rx := ig (l := X) (i := k) (by omega)
  have ry := ig (l := Y) (i := k) (by omega)
  have px := ig (l := X) (i := k - 1) (by omega)
  have py := ig (l := Y) (i := k - 1) (by omega)
  have ee : (k : Int) - 1 = ((k - 1 : Nat) : Int) := by omega
  have b1 := bX k hk
  have b2 := bX (k - 1) (by omega)
  have b3 := bY k hk
  have b4 := bY (k - 1) (by omega)
  have lp := hl (k - 1) (by omega)
  unfold segN segD
  clear hl bX bY oX oY
  obtain ⟨a0, ha0⟩ : ∃ a, a = X.getD 0 0 := ⟨_, rfl⟩
  obtain ⟨an, han⟩ : ∃ a, a = X.getD (n - 1) 0 := ⟨_, rfl⟩
  rw [← ha0] at hx0 bx0 r0
  rw [← han] at hxn bxn rn
  clear ha0 han
  generalize X.getD (k - 1) 0 = x0 at *
  generalize Y.getD (k - 1) 0 = y0 at *
  generalize X.getD k 0 = x1 at *
  generalize Y.getD k 0 = y1 at *
  obtain ⟨dx, hdx⟩ : ∃ d, d = x1 - x0 := ⟨_, rfl⟩
  obtain ⟨dy, hdy⟩ : ∃ d, d = y1 - y0 := ⟨_, rfl⟩
  obtain ⟨dz, hdz⟩ : ∃ d, d = x - x0 := ⟨_, rfl⟩
  rw [← hdx, ← hdy, ← hdz]
  have q1 : y0.natAbs ≤ 1048576 := by omega
  have q2 : dx.natAbs ≤ 536870912 := by omega
  have q3 : dy.natAbs ≤ 2097152 := by omega
  have q4 : dz.natAbs ≤ 536870912 := by omega
  have m1 := Int.natAbs_mul y0 dx
  have m2 := Int.natAbs_mul dy dz
  have m3 := Nat.mul_le_mul q1 q2
  have m4 := Nat.mul_le_mul q3 q4
  generalize hp : y0 * dx = p at *
  generalize hr : dy * dz = r at *
  generalize y0.natAbs * dx.natAbs = p' at *
  generalize dy.natAbs * dz.natAbs = r' at *
  repeat' (first | (simp only [go_sem, seval, IntKind.bits.eq_def, ti, tin, rws_length, hX, hY, r0, rn, en, rx, ry, px, py, ee, ← hdx, ← hdy, ← hdz, hp, hr]) | (simp (disch := omega) only [wA]) | (with_reducible first | refine cF sr ?_ | refine dF sr ?_) | refine aL ti_ok ?_ | refine dL ti_ok ?_ | refine dG ?_ | ((first | refine cC ?_ ?_ | refine gS ?_ ?_ | refine dS ?_ ?_) <;> intro hc <;> first | (exfalso; simp only [dcA] at hc; omega) | (simp only [hc]; try simp only [dcA] at hc)) | refine aO ?_ | refine dO ?_)
  exact fin_same trivial rfl
end Go.Proofs.YtfmgfjmfogmeeaaGreatDoor
/- Layer 9 (curve): At; what lies between. -/
set_option linter.unusedSimpArgs false
set_option linter.unusedVariables false
set_option linter.deprecated false
namespace Go.Proofs.YtfmgfjmfogmeeaaGreatDoor
open Go Go.Ax
set_option maxRecDepth 100000
set_option maxHeartbeats 4000000
theorem seg_bd {X Y : List Int} {n : Nat} (h : Cv X Y n) {k : Nat} (h0 : 0 < k) (hk : k < n) {x : Int} (h1 : X.getD (k - 1) 0 ≤ x) (h2 : x ≤ X.getD k 0) :
    0 < segD X k ∧ segD X k ≤ 536870912 ∧ (segN X Y k x).natAbs ≤ 1048576 * 536870912 ∧ -1048576 ≤ (segN X Y k x).tdiv (segD X k) ∧ (segN X Y k x).tdiv (segD X k) ≤ 1048576 := by
  have o1 := h.oX (k - 1) (by omega)
  have o2 := h.oY (k - 1) (by omega)
  rw [show k - 1 + 1 = k by omega] at o1 o2
  have b1 := h.bX k hk
  have b2 := h.bX (k - 1) (by omega)
  have b3 := h.bY k hk
  have b4 := h.bY (k - 1) (by omega)
  unfold segN segD
  generalize X.getD (k - 1) 0 = x0 at *
  generalize Y.getD (k - 1) 0 = y0 at *
  generalize X.getD k 0 = x1 at *
  generalize Y.getD k 0 = y1 at *
  obtain ⟨dx, hdx⟩ : ∃ d, d = x1 - x0 := ⟨_, rfl⟩
  obtain ⟨t, ht⟩ : ∃ t, t = x - x0 := ⟨_, rfl⟩
  rw [← hdx, ← ht]
  have m1 : (y1 - y0) * t ≤ (y1 - y0) * dx := Int.mul_le_mul_of_nonneg_left (by omega) (by omega)
  have m2 : 0 ≤ (y1 - y0) * t := Int.mul_nonneg (by omega) (by omega)
  have m3 : (y1 - y0) * dx = y1 * dx - y0 * dx := Int.sub_mul ..
  have m4 : y1 * dx ≤ 1048576 * dx := Int.mul_le_mul_of_nonneg_right b3.2 (by omega)
  have m5 : -1048576 * dx ≤ y0 * dx := Int.mul_le_mul_of_nonneg_right b4.1 (by omega)
  have hq : ((y0 * dx + (y1 - y0) * t).tdiv dx).natAbs = (y0 * dx + (y1 - y0) * t).natAbs / dx.natAbs := Int.natAbs_tdiv _ _
  have hN : (y0 * dx + (y1 - y0) * t).natAbs ≤ 1048576 * dx.natAbs := by omega
  have hq2 : (y0 * dx + (y1 - y0) * t).natAbs / dx.natAbs ≤ 1048576 := Nat.div_le_of_le_mul (by rw [Nat.mul_comm]; exact hN)
  refine ⟨by omega, by omega, by omega, by omega, by omega⟩
theorem cv_at (X Y : List Int) (x p d : Int) (hv : CallOK Tryz.prog gl 137 [.agg [.sl 1 (rws irow X), .sl 1 (rws irow Y)], .v (.int .i64 x)] (.tup [.v (.int .i64 p), .v (.int .i64 d)])) (hd : 0 < d) (hp : p.natAbs ≤ 4611686018427387904) : CallOK Tryz.prog gl 94 [.agg [.sl 1 (rws irow X), .sl 1 (rws irow Y)], .v (.int .i64 x)] (.v (.int .i64 ((p.tdiv d)))) := by
  refine call_ok (C := ⟨Tryz.prog, gl, ti, 16, false⟩) ti_ok mixed 3000 Tryz.call94 Tryz.func94 rfl Tryz.ntmps94 (by simp) byClL byCl ?_
  rw [Tryz.results94]
  have hq : (p.tdiv d).natAbs = p.natAbs / d.natAbs := Int.natAbs_tdiv _ _
  have hq2 := Nat.div_le_self p.natAbs d.natAbs
  have hq3 : -9223372036854775808 ≤ p.tdiv d ∧ p.tdiv d ≤ 9223372036854775807 := by omega
  clear hq hq2
  repeat' (first | (simp only [go_sem, seval, IntKind.bits.eq_def, ti, tin]) | (simp (disch := omega) only [wA]) | (with_reducible first | refine cF hv ?_ | refine dF hv ?_) | refine aL ti_ok ?_ | refine dL ti_ok ?_ | refine dG ?_ | ((first | refine cC ?_ ?_ | refine gS ?_ ?_ | refine dS ?_ ?_) <;> intro hc <;> first | (exfalso; simp only [dcA] at hc; omega) | (simp only [hc]; try simp only [dcA] at hc)) | refine aO ?_ | refine dO ?_)
  exact fin_same trivial rfl
theorem cv_At (X Y : List Int) (n : Nat) (h : Cv X Y n) (x v : Int) (hv : CallOK Tryz.prog gl 94 [.agg [.sl 1 (rws irow X), .sl 1 (rws irow Y)], .v (.int .i64 x)] (.v (.int .i64 v))) : CallOK Tryz.prog gl 51 [.agg [.sl 1 (rws irow X), .sl 1 (rws irow Y)], .v (.int .i64 x)] (.tup [.v (.int .i64 v), .v .nilIface]) := by
  refine call_ok (C := ⟨Tryz.prog, gl, ti, 15, false⟩) ti_ok mixed 3000 Tryz.call51 Tryz.func51 rfl Tryz.ntmps51 (by simp) byClL byCl ?_
  rw [Tryz.results51]
  have c1 := cv_Check X Y n h
  clear h
  repeat' (first | (simp only [go_sem, seval, IntKind.bits.eq_def, ti, tin]) | (simp (disch := omega) only [wA]) | (with_reducible first | refine cF c1 ?_ | refine dF c1 ?_ | refine cF hv ?_ | refine dF hv ?_) | refine aL ti_ok ?_ | refine dL ti_ok ?_ | refine dG ?_ | ((first | refine cC ?_ ?_ | refine gS ?_ ?_ | refine dS ?_ ?_) <;> intro hc <;> first | (exfalso; simp only [dcA] at hc; omega) | (simp only [hc]; try simp only [dcA] at hc)) | refine aO ?_ | refine dO ?_)
  exact fin_same trivial rfl
theorem at_ex {X Y : List Int} {n : Nat} (h : Cv X Y n) (x : Int) : ∃ v : Int, CallOK Tryz.prog gl 51 [.agg [.sl 1 (rws irow X), .sl 1 (rws irow Y)], .v (.int .i64 x)] (.tup [.v (.int .i64 v), .v .nilIface]) ∧ -1048576 ≤ v ∧ v ≤ 1048576 := by
  have hn := h.h1
  by_cases h1 : x ≤ X.getD 0 0
  · have b := h.bY 0 (by omega)
    have a := cv_at X Y x _ _ (cv_value_lo X Y n h x h1) (by omega) (by omega)
    rw [Int.tdiv_one] at a
    exact ⟨_, cv_At X Y n h x _ a, b⟩
  · by_cases h2 : X.getD (n - 1) 0 ≤ x
    · have b := h.bY (n - 1) (by omega)
      have a := cv_at X Y x _ _ (cv_value_hi X Y n h x (by omega) h2) (by omega) (by omega)
      rw [Int.tdiv_one] at a
      exact ⟨_, cv_At X Y n h x _ a, b⟩
    · obtain ⟨k, k0, kn, kx, kl⟩ := first_gt X x (n := n) (by omega) hn (by omega)
      obtain ⟨s1, s2, s3, s4⟩ := seg_bd h k0 kn (kl (k - 1) (by omega)) (by omega)
      have a := cv_at X Y x _ _ (cv_value X Y n h x k k0 kn (by omega) (by omega) kx kl) s1 (by omega)
      exact ⟨_, cv_At X Y n h x _ a, s4⟩
theorem seg_end {X Y : List Int} {n : Nat} (h : Cv X Y n) {k : Nat} (h0 : 0 < k) (hk : k < n) : (segN X Y k (X.getD k 0)).tdiv (segD X k) = Y.getD k 0 := by
  have o1 := h.oX (k - 1) (by omega)
  rw [show k - 1 + 1 = k by omega] at o1
  unfold segN segD
  rw [← Int.add_mul, show Y.getD (k - 1) 0 + (Y.getD k 0 - Y.getD (k - 1) 0) = Y.getD k 0 by omega]
  exact Int.mul_tdiv_cancel _ (by omega)
theorem seg_start {X Y : List Int} {n : Nat} (h : Cv X Y n) {k : Nat} (hk : k + 1 < n) : (segN X Y (k + 1) (X.getD k 0)).tdiv (segD X (k + 1)) = Y.getD k 0 := by
  have o1 := h.oX k hk
  unfold segN segD
  rw [Nat.add_sub_cancel, Int.sub_self, Int.mul_zero, Int.add_zero]
  exact Int.mul_tdiv_cancel _ (by omega)
theorem at_zero {X Y : List Int} {n : Nat} (h : Cv X Y n) (h0 : X.getD 0 0 < 0) (hn : 0 < X.getD (n - 1) 0) {k : Nat} (k0 : 0 < k) (kn : k < n) (kx : 0 ≤ X.getD k 0) (kl : ∀ i, i < k → X.getD i 0 < 0) (hz : (segN X Y k 0).tdiv (segD X k) = 0) :
    CallOK Tryz.prog gl 51 [.agg [.sl 1 (rws irow X), .sl 1 (rws irow Y)], .v (.int .i64 0)] (.tup [.v (.int .i64 0), .v .nilIface]) := by
  by_cases hx : 0 < X.getD k 0
  · have kl' := fun i (hi : i < k) => Int.le_of_lt (kl i hi)
    obtain ⟨s1, s2, s3, s4⟩ := seg_bd h k0 kn (kl' (k - 1) (by omega)) kx
    have a := cv_at X Y 0 _ _ (cv_value X Y n h 0 k k0 kn h0 hn hx kl') s1 (by omega)
    rw [hz] at a
    exact cv_At X Y n h 0 0 a
  · have e : X.getD k 0 = 0 := by omega
    have hk1 : k + 1 < n := by
      rcases Nat.lt_or_ge (k + 1) n with g | g
      · exact g
      · have : k = n - 1 := by omega
        rw [← this, e] at hn; omega
    have y0 := seg_end h k0 kn
    rw [e, hz] at y0
    have y1 := seg_start h hk1
    rw [e, ← y0] at y1
    have o := h.oX k hk1
    have kl' : ∀ i, i < k + 1 → X.getD i 0 ≤ 0 := fun i hi => by
      by_cases c : i = k
      · rw [c, e]; exact Int.le_refl _
      · exact Int.le_of_lt (kl i (by omega))
    obtain ⟨s1, s2, s3, s4⟩ := seg_bd h (k := k + 1) (x := 0) (by omega) hk1 (by rw [Nat.add_sub_cancel, e]; exact Int.le_refl _) (by omega)
    have a := cv_at X Y 0 _ _ (cv_value X Y n h 0 (k + 1) (by omega) hk1 h0 hn (by omega) kl') s1 (by omega)
    rw [y1] at a
    exact cv_At X Y n h 0 0 a
end Go.Proofs.YtfmgfjmfogmeeaaGreatDoor
