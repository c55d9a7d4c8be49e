/- The reference of layer 9 (curve): its check, its value. -/
import Derived.Test.YtfmgfjmfogmeeaaGreatDoorCv1
import Derived.Test.YtfmgfjmfogmeeaaGreatDoorU5
set_option linter.unusedSimpArgs false
set_option linter.unusedVariables false
set_option linter.deprecated false
namespace Go.Proofs.YtfmgfjmfogmeeaaGreatDoor
open Go Go.Ax
set_option maxRecDepth 100000
set_option maxHeartbeats 4000000
theorem rf_Check_len (X Y : List Int) (n m : Nat) (hX : X.length = n) (hY : Y.length = m) (hn : n ≤ 9223372036854775807) (hm : m ≤ 9223372036854775807) (h : n ≠ m ∨ 32 < n ∨ n < 2) : CallOK Tryz.prog gl 88 [.agg [.sl 1 (rws irow X), .sl 1 (rws irow Y)]] (.v (.int .i64 (if n ≠ m ∨ n < 2 then 11 else 4))) := by
  refine call_ok (C := ⟨Tryz.prog, gl, ti, 86, false⟩) ti_ok mixed 3000 Tryz.call88 Tryz.func88 rfl Tryz.ntmps88 (by simp) byClL byCl ?_
  rw [Tryz.results88]
  by_cases h1 : n = m
  · subst h1
    by_cases h2 : n < 2
    · rw [if_pos (.inr h2)]
      clear h
      repeat' (first | (simp only [go_sem, seval, IntKind.bits.eq_def, ti, tin, rws_length, hX, hY]) | (simp (disch := omega) only [wA]) | refine aL ti_ok ?_ | refine dL ti_ok ?_ | refine dG ?_ | ((first | refine cC ?_ ?_ | refine gS ?_ ?_ | refine dS ?_ ?_) <;> intro hc <;> first | (exfalso; simp only [dcA] at hc; omega) | (simp only [hc]; try simp only [dcA] at hc)) | refine aO ?_ | refine dO ?_)
      all_goals exact fin_same trivial rfl
    · have h3 : 32 < n := by omega
      rw [if_neg (by omega)]
      clear h
      repeat' (first | (simp only [go_sem, seval, IntKind.bits.eq_def, ti, tin, rws_length, hX, hY]) | (simp (disch := omega) only [wA]) | refine aL ti_ok ?_ | refine dL ti_ok ?_ | refine dG ?_ | ((first | refine cC ?_ ?_ | refine gS ?_ ?_ | refine dS ?_ ?_) <;> intro hc <;> first | (exfalso; simp only [dcA] at hc; omega) | (simp only [hc]; try simp only [dcA] at hc)) | refine aO ?_ | refine dO ?_)
      all_goals exact fin_same trivial rfl
  · rw [if_pos (.inl h1)]
    have h0 : ¬ ((n : Nat) : Int) = (m : Int) := by omega
    clear h
    repeat' (first | (simp only [go_sem, seval, IntKind.bits.eq_def, ti, tin, rws_length, hX, hY, h0]) | (simp (disch := omega) only [wA]) | refine aL ti_ok ?_ | refine dL ti_ok ?_ | refine dG ?_ | ((first | refine cC ?_ ?_ | refine gS ?_ ?_ | refine dS ?_ ?_) <;> intro hc <;> first | (exfalso; simp only [dcA] at hc; omega) | (simp only [hc]; try simp only [dcA] at hc)) | refine aO ?_ | refine dO ?_)
    all_goals exact fin_same trivial rfl
theorem rf_Check (X Y : List Int) (n : Nat) (hX : X.length = n) (hY : Y.length = n) (h1 : 2 ≤ n) (h2 : n ≤ 32) (q : Nat) (hq : q ≤ n) (hg : ∀ i, i < q → ckPt X Y i = 0) (hb : q < n → ¬ ckPt X Y q = 0) : CallOK Tryz.prog gl 88 [.agg [.sl 1 (rws irow X), .sl 1 (rws irow Y)]] (.v (.int .i64 (if q < n then ckPt X Y q else 0))) := by
  refine call_ok (C := ⟨Tryz.prog, gl, ti, 86, false⟩) ti_ok mixed 3000 Tryz.call88 Tryz.func88 rfl Tryz.ntmps88 (by simp) byClL byCl ?_
  rw [Tryz.results88]
  repeat' (first | (simp only [go_sem, seval, IntKind.bits.eq_def, ti, tin, rws_length, hX, hY]) | (simp (disch := omega) only [wA]) | refine aL ti_ok ?_ | refine dL ti_ok ?_ | refine dG ?_ | ((first | refine cC ?_ ?_ | refine gS ?_ ?_ | refine dS ?_ ?_) <;> intro hc <;> first | (exfalso; simp only [dcA] at hc; omega) | (simp only [hc]; try simp only [dcA] at hc)) | refine aO ?_ | refine dO ?_)
  refine l_loop (α := Nat) (fun k => ⟨[(1, .p 0 2 0 0), (3, .v (.int .i64 k))], [(0, ⟨2, [[.sl 1 (rws irow X), .sl 1 (rws irow Y)]]⟩)], 1⟩) (fun k => k ≤ q) (fun k => q - k) (0) _ byFresh (fun _ h => by first | (cases h; done) | exact Nat.le_of_ble_eq_true rfl) ?_ ?_ ?_
  · exact Nat.zero_le _
  · exact byWeak
  rintro k hk
  by_cases hkn : k < n
  · have rx := ig (l := X) (i := k) (by omega)
    have ry := ig (l := Y) (i := k) (by omega)
    have px := ig (l := X) (i := k - 1) (by omega)
    have py := ig (l := Y) (i := k - 1) (by omega)
    have ee : 0 < k → (k : Int) - 1 = ((k - 1 : Nat) : Int) := fun h => by omega
    by_cases hkq : k < q
    · obtain ⟨g1, g2⟩ := ckPt_zero (hg k hkq)
      clear hg hb
      unfold wild at g1
      unfold slack at g2
      generalize X.getD (k - 1) 0 = x0 at *
      generalize Y.getD (k - 1) 0 = y0 at *
      generalize X.getD k 0 = x at *
      generalize Y.getD k 0 = y at *
      by_cases hk0 : 0 < k
      · have ee := ee hk0
        repeat' (first | (simp only [go_sem, seval, IntKind.bits.eq_def, ti, tin, rws_length, hX, hY, rx, ry, ee, px, py]) | (simp (disch := omega) only [wA]) | refine aL ti_ok ?_ | refine dL ti_ok ?_ | refine dG ?_ | ((first | refine cC ?_ ?_ | refine gS ?_ ?_ | refine dS ?_ ?_) <;> intro hc <;> first | (exfalso; simp only [dcA] at hc; omega) | (simp only [hc]; try simp only [dcA] at hc)) | refine aO ?_ | refine dO ?_)
        refine roundEnd_of (α := Nat) (k + 1) (by omega) (by omega) ?_
        exact byWeak
      · clear ee px py
        repeat' (first | (simp only [go_sem, seval, IntKind.bits.eq_def, ti, tin, rws_length, hX, hY, rx, ry]) | (simp (disch := omega) only [wA]) | refine aL ti_ok ?_ | refine dL ti_ok ?_ | refine dG ?_ | ((first | refine cC ?_ ?_ | refine gS ?_ ?_ | refine dS ?_ ?_) <;> intro hc <;> first | (exfalso; simp only [dcA] at hc; omega) | (simp only [hc]; try simp only [dcA] at hc)) | refine aO ?_ | refine dO ?_)
        refine roundEnd_of (α := Nat) (k + 1) (by omega) (by omega) ?_
        exact byWeak
    · obtain rfl : k = q := by omega
      rw [if_pos hkn]
      have hb := hb hkn
      clear hg
      unfold ckPt at hb ⊢
      by_cases hw : wild X Y k
      · rw [if_pos hw]
        clear hb ee px py
        unfold wild at hw
        generalize X.getD k 0 = x at *
        generalize Y.getD k 0 = y at *
        repeat' (first | (simp only [go_sem, seval, IntKind.bits.eq_def, ti, tin, rws_length, hX, hY, rx, ry]) | (simp (disch := omega) only [wA]) | refine aL ti_ok ?_ | refine dL ti_ok ?_ | refine dG ?_ | ((first | refine cC ?_ ?_ | refine gS ?_ ?_ | refine dS ?_ ?_) <;> intro hc <;> first | (exfalso; simp only [dcA] at hc; omega) | (simp only [hc]; try simp only [dcA] at hc)) | refine aO ?_ | refine dO ?_)
        all_goals exact fin_same trivial rfl
      · rw [if_neg hw] at hb ⊢
        have hs : slack X Y k := by
          by_cases hs : slack X Y k
          · exact hs
          · rw [if_neg hs] at hb; exact absurd rfl hb
        rw [if_pos hs]
        clear hb
        unfold wild at hw
        unfold slack at hs
        have ee := ee hs.1
        generalize X.getD (k - 1) 0 = x0 at *
        generalize Y.getD (k - 1) 0 = y0 at *
        generalize X.getD k 0 = x at *
        generalize Y.getD k 0 = y at *
        repeat' (first | (simp only [go_sem, seval, IntKind.bits.eq_def, ti, tin, rws_length, hX, hY, rx, ry, ee, px, py]) | (simp (disch := omega) only [wA]) | refine aL ti_ok ?_ | refine dL ti_ok ?_ | refine dG ?_ | ((first | refine cC ?_ ?_ | refine gS ?_ ?_ | refine dS ?_ ?_) <;> intro hc <;> first | (exfalso; simp only [dcA] at hc; omega) | (simp only [hc]; try simp only [dcA] at hc)) | refine aO ?_ | refine dO ?_)
        all_goals exact fin_same trivial rfl
  · obtain rfl : k = n := by omega
    obtain rfl : q = k := by omega
    rw [if_neg hkn]
    clear hg hb
    repeat' (first | (simp only [go_sem, seval, IntKind.bits.eq_def, ti, tin, rws_length, hX, hY]) | (simp (disch := omega) only [wA]) | refine aL ti_ok ?_ | refine dL ti_ok ?_ | refine dG ?_ | ((first | refine cC ?_ ?_ | refine gS ?_ ?_ | refine dS ?_ ?_) <;> intro hc <;> first | (exfalso; simp only [dcA] at hc; omega) | (simp only [hc]; try simp only [dcA] at hc)) | refine aO ?_ | refine dO ?_)
    exact fin_same trivial rfl
theorem rf_Value (X Y : List Int) (n : Nat) (h : Cv X Y n) (x : Int) (k : Nat) (h0 : 0 < k) (hk : k < n) (hx : x ≤ X.getD k 0) (hl : ∀ i, i < k → X.getD i 0 < x) : CallOK Tryz.prog gl 136 [.agg [.sl 1 (rws irow X), .sl 1 (rws irow Y)], .v (.int .i64 x)] (.tup [.v (.int .i64 (segN X Y k x)), .v (.int .i64 (segD X k))]) := by
  refine call_ok (C := ⟨Tryz.prog, gl, ti, 85, false⟩) ti_ok mixed 3000 Tryz.call136 Tryz.func136 rfl Tryz.ntmps136 (by simp) byClL byCl ?_
  rw [Tryz.results136]
  obtain ⟨hX, hY, h1, h2, bX, bY, oX, oY⟩ := h
  have r0 := ig (l := X) (i := 0) (by omega)
  have l0 := hl 0 h0
  repeat' (first | (simp only [go_sem, seval, IntKind.bits.eq_def, ti, tin, rws_length, hX, hY, r0]) | (simp (disch := omega) only [wA]) | refine aL ti_ok ?_ | refine dL ti_ok ?_ | refine dG ?_ | ((first | refine cC ?_ ?_ | refine gS ?_ ?_ | refine dS ?_ ?_) <;> intro hc <;> first | (exfalso; simp only [dcA] at hc; omega) | (simp only [hc]; try simp only [dcA] at hc)) | refine aO ?_ | refine dO ?_)
  refine l_loop (α := Nat) (fun j => ⟨[(2, .p 0 2 0 0), (1, .v (.int .i64 x)), (6, .v (.int .i64 n)), (7, .v (.int .i64 j))], [(0, ⟨2, [[.sl 1 (rws irow X), .sl 1 (rws irow Y)]]⟩)], 1⟩) (fun j => 0 < j ∧ j ≤ k) (fun j => k - j) (1) _ byFresh (fun _ h => by first | (cases h; done) | exact Nat.le_of_ble_eq_true rfl) ?_ ?_ ?_
  · exact ⟨Nat.zero_lt_one, h0⟩
  · exact byWeak
  rintro j ⟨hj0, hj⟩
  have rx := ig (l := X) (i := j) (by omega)
  by_cases hjk : j < k
  · have lj := hl j hjk
    clear hl bX bY oX oY r0 l0
    generalize X.getD j 0 = z at *
    repeat' (first | (simp only [go_sem, seval, IntKind.bits.eq_def, ti, tin, rws_length, hX, hY, rx]) | (simp (disch := omega) only [wA]) | refine aL ti_ok ?_ | refine dL ti_ok ?_ | refine dG ?_ | ((first | refine cC ?_ ?_ | refine gS ?_ ?_ | refine dS ?_ ?_) <;> intro hc <;> first | (exfalso; simp only [dcA] at hc; omega) | (simp only [hc]; try simp only [dcA] at hc)) | refine aO ?_ | refine dO ?_)
    refine roundEnd_of (α := Nat) (j + 1) ⟨by omega, by omega⟩ (by omega) ?_
    exact byWeak
  · obtain rfl : j = k := by omega
    have ry := ig (l := Y) (i := j) (by omega)
    have px := ig (l := X) (i := j - 1) (by omega)
    have py := ig (l := Y) (i := j - 1) (by omega)
    have ee : (j : Int) - 1 = ((j - 1 : Nat) : Int) := by omega
    have b1 := bX j hk
    have b2 := bX (j - 1) (by omega)
    have b3 := bY j hk
    have b4 := bY (j - 1) (by omega)
    have lp := hl (j - 1) (by omega)
    unfold segN segD
    clear hl bX bY oX oY r0 l0
    generalize X.getD (j - 1) 0 = x0 at *
    generalize Y.getD (j - 1) 0 = y0 at *
    generalize X.getD j 0 = x1 at *
    generalize Y.getD j 0 = y1 at *
    obtain ⟨dx, hdx⟩ : ∃ d, d = x1 - x0 := ⟨_, rfl⟩
    obtain ⟨dy, hdy⟩ : ∃ d, d = y1 - y0 := ⟨_, rfl⟩
    obtain ⟨dz, hdz⟩ : ∃ d, d = x - x0 := ⟨_, rfl⟩
    rw [← hdx, ← hdy, ← hdz]
    have q1 : y0.natAbs ≤ 1048576 := by omega
    have q2 : dx.natAbs ≤ 536870912 := by omega
    have q3 : dy.natAbs ≤ 2097152 := by omega
    have q4 : dz.natAbs ≤ 536870912 := by omega
    have m1 := Int.natAbs_mul y0 dx
    have m2 := Int.natAbs_mul dy dz
    have m3 := Nat.mul_le_mul q1 q2
    have m4 := Nat.mul_le_mul q3 q4
    generalize hp : y0 * dx = p at *
    generalize hr : dy * dz = r at *
    generalize y0.natAbs * dx.natAbs = p' at *
    generalize dy.natAbs * dz.natAbs = r' at *
    repeat' (first | (simp only [go_sem, seval, IntKind.bits.eq_def, ti, tin, rws_length, hX, hY, rx, ry, px, py, ee, ← hdx, ← hdy, ← hdz, hp, hr]) | (simp (disch := omega) only [wA]) | refine aL ti_ok ?_ | refine dL ti_ok ?_ | refine dG ?_ | ((first | refine cC ?_ ?_ | refine gS ?_ ?_ | refine dS ?_ ?_) <;> intro hc <;> first | (exfalso; simp only [dcA] at hc; omega) | (simp only [hc]; try simp only [dcA] at hc)) | refine aO ?_ | refine dO ?_)
    exact fin_same trivial rfl
theorem rf_At (X Y : List Int) (n : Nat) (h : Cv X Y n) (x : Int) (k : Nat) (h0 : 0 < k) (hk : k < n) (hx : x ≤ X.getD k 0) (hl : ∀ i, i < k → X.getD i 0 < x) : CallOK Tryz.prog gl 89 [.agg [.sl 1 (rws irow X), .sl 1 (rws irow Y)], .v (.int .i64 x)] (.v (.int .i64 ((segN X Y k x).tdiv (segD X k)))) := by
  refine call_ok (C := ⟨Tryz.prog, gl, ti, 16, false⟩) ti_ok mixed 3000 Tryz.call89 Tryz.func89 rfl Tryz.ntmps89 (by simp) byClL byCl ?_
  rw [Tryz.results89]
  have v := rf_Value X Y n h x k h0 hk hx hl
  have hp : (segN X Y k x).natAbs ≤ 9223372036854775807 := by
    have b3 := h.bY k hk
    have b4 := h.bY (k - 1) (by omega)
    have b1 := h.bX k hk
    have b2 := h.bX (k - 1) (by omega)
    have lp := hl (k - 1) (by omega)
    unfold segN
    have m1 := Int.natAbs_mul (Y.getD (k - 1) 0) (X.getD k 0 - X.getD (k - 1) 0)
    have m2 := Int.natAbs_mul (Y.getD k 0 - Y.getD (k - 1) 0) (x - X.getD (k - 1) 0)
    have m3 := Nat.mul_le_mul (show (Y.getD (k - 1) 0).natAbs ≤ 1048576 by omega) (show (X.getD k 0 - X.getD (k - 1) 0).natAbs ≤ 536870912 by omega)
    have m4 := Nat.mul_le_mul (show (Y.getD k 0 - Y.getD (k - 1) 0).natAbs ≤ 2097152 by omega) (show (x - X.getD (k - 1) 0).natAbs ≤ 536870912 by omega)
    omega
  have hq : ((segN X Y k x).tdiv (segD X k)).natAbs = (segN X Y k x).natAbs / (segD X k).natAbs := Int.natAbs_tdiv _ _
  have hq2 := Nat.div_le_self (segN X Y k x).natAbs (segD X k).natAbs
  have hd : 0 < segD X k ∧ segD X k ≤ 536870912 := by
    have := hl (k - 1) (by omega)
    have := h.bX k hk
    have := h.bX (k - 1) (by omega)
    unfold segD; omega
  clear hl h
  generalize segN X Y k x = p at *
  generalize segD X k = d at *
  have hq3 : -9223372036854775808 ≤ p.tdiv d ∧ p.tdiv d ≤ 9223372036854775807 := by omega
  clear hq hq2
  repeat' (first | (simp only [go_sem, seval, IntKind.bits.eq_def, ti, tin]) | (simp (disch := omega) only [wA]) | (with_reducible first | refine cF v ?_ | refine dF v ?_) | refine aL ti_ok ?_ | refine dL ti_ok ?_ | refine dG ?_ | ((first | refine cC ?_ ?_ | refine gS ?_ ?_ | refine dS ?_ ?_) <;> intro hc <;> first | (exfalso; simp only [dcA] at hc; omega) | (simp only [hc]; try simp only [dcA] at hc)) | refine aO ?_ | refine dO ?_)
  exact fin_same trivial rfl
end Go.Proofs.YtfmgfjmfogmeeaaGreatDoor
