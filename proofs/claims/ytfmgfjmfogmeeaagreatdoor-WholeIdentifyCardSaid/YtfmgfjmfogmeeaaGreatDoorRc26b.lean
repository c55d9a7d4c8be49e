/- The reference of layer 26 (machine): its check. -/
import Derived.Test.YtfmgfjmfogmeeaaGreatDoorMc1
set_option linter.unusedSimpArgs false
set_option linter.unusedVariables false
set_option linter.deprecated false
namespace Go.Proofs.YtfmgfjmfogmeeaaGreatDoor
open Go Go.Ax
set_option maxRecDepth 100000
set_option maxHeartbeats 4000000
theorem r26_within (n lo hi : Int) : CallOK Tryz.prog gl 46 [.v (.int .i64 n), .v (.int .i64 lo), .v (.int .i64 hi)] (.v (.bool ((decide (lo ≤ n ∧ n ≤ hi))))) := by
  refine call_ok (C := ⟨Tryz.prog, gl, ti, 15, false⟩) ti_ok mixed 3000 Tryz.call46 Tryz.func46 rfl Tryz.ntmps46 (by simp) byClL byCl ?_
  rw [Tryz.results46]
  by_cases h1 : lo ≤ n
  · by_cases h2 : n ≤ hi
    · rw [decide_eq_true ⟨h1, h2⟩]
      repeat' (first | (simp only [go_sem, seval, IntKind.bits.eq_def, ti, tin]) | (simp (disch := omega) only [wA]) | refine aL ti_ok ?_ | refine dL ti_ok ?_ | refine dG ?_ | ((first | refine cC ?_ ?_ | refine gS ?_ ?_ | refine dS ?_ ?_) <;> intro hc <;> first | (exfalso; simp only [dcA] at hc; omega) | (simp only [hc]; try simp only [dcA] at hc)) | refine aO ?_ | refine dO ?_)
      all_goals exact fin_same trivial (by have : n ≥ lo := h1; simp [one, this, h2])
    · rw [decide_eq_false (fun h => h2 h.2)]
      repeat' (first | (simp only [go_sem, seval, IntKind.bits.eq_def, ti, tin]) | (simp (disch := omega) only [wA]) | refine aL ti_ok ?_ | refine dL ti_ok ?_ | refine dG ?_ | ((first | refine cC ?_ ?_ | refine gS ?_ ?_ | refine dS ?_ ?_) <;> intro hc <;> first | (exfalso; simp only [dcA] at hc; omega) | (simp only [hc]; try simp only [dcA] at hc)) | refine aO ?_ | refine dO ?_)
      all_goals exact fin_same trivial (by have : n ≥ lo := h1; simp [one, this, h2])
  · rw [decide_eq_false (fun h => h1 h.1)]
    repeat' (first | (simp only [go_sem, seval, IntKind.bits.eq_def, ti, tin]) | (simp (disch := omega) only [wA]) | refine aL ti_ok ?_ | refine dL ti_ok ?_ | refine dG ?_ | ((first | refine cC ?_ ?_ | refine gS ?_ ?_ | refine dS ?_ ?_) <;> intro hc <;> first | (exfalso; simp only [dcA] at hc; omega) | (simp only [hc]; try simp only [dcA] at hc)) | refine aO ?_ | refine dO ?_)
    all_goals exact fin_same trivial (by simp [one, h1])
theorem r26_curve_ck (X Y : List Int) (e : Int) (he : e ≠ 0) (c1 : CallOK Tryz.prog gl 88 [.agg [.sl 1 (rws irow X), .sl 1 (rws irow Y)]] (.v (.int .i64 e))) : CallOK Tryz.prog gl 47 [.agg [.sl 1 (rws irow X), .sl 1 (rws irow Y)]] (.v (.int .i64 e)) := by
  refine call_ok (C := ⟨Tryz.prog, gl, ti, 54, false⟩) ti_ok mixed 3000 Tryz.call47 Tryz.func47 rfl Tryz.ntmps47 (by simp) byClL byCl ?_
  rw [Tryz.results47]
  repeat' (first | (simp only [go_sem, seval, IntKind.bits.eq_def, ti, tin]) | (simp (disch := omega) only [wA]) | (with_reducible first | refine cF c1 ?_ | refine dF c1 ?_) | refine aL ti_ok ?_ | refine dL ti_ok ?_ | refine dG ?_ | ((first | refine cC ?_ ?_ | refine gS ?_ ?_ | refine dS ?_ ?_) <;> intro hc <;> first | (exfalso; simp only [dcA] at hc; omega) | (simp only [hc]; try simp only [dcA] at hc)) | refine aO ?_ | refine dO ?_)
  all_goals exact fin_same trivial rfl
def tame (X Y : List Int) (i : Nat) : Prop := (-268435456 ≤ X.getD i 0 ∧ X.getD i 0 ≤ 268435456) ∧ (-1048576 ≤ Y.getD i 0 ∧ Y.getD i 0 ≤ 1048576)
instance (X Y : List Int) (i : Nat) : Decidable (tame X Y i) := inferInstanceAs (Decidable (_ ∧ _))
theorem r26_curve_bad (X Y : List Int) (n : Nat) (hX : X.length = n) (hY : Y.length = n) (h2 : n ≤ 32) (c1 : CallOK Tryz.prog gl 88 [.agg [.sl 1 (rws irow X), .sl 1 (rws irow Y)]] (.v (.int .i64 0))) (q : Nat) (hq : q < n) (hg : ∀ i, i < q → tame X Y i) (hb : ¬ tame X Y q) : CallOK Tryz.prog gl 47 [.agg [.sl 1 (rws irow X), .sl 1 (rws irow Y)]] (.v (.int .i64 3)) := by
  refine call_ok (C := ⟨Tryz.prog, gl, ti, 54, false⟩) ti_ok mixed 3000 Tryz.call47 Tryz.func47 rfl Tryz.ntmps47 (by simp) byClL byCl ?_
  rw [Tryz.results47]
  repeat' (first | (simp only [go_sem, seval, IntKind.bits.eq_def, ti, tin, rws_length, hX, hY]) | (simp (disch := omega) only [wA]) | (with_reducible first | refine cF c1 ?_ | refine dF c1 ?_) | refine aL ti_ok ?_ | refine dL ti_ok ?_ | refine dG ?_ | ((first | refine cC ?_ ?_ | refine gS ?_ ?_ | refine dS ?_ ?_) <;> intro hc <;> first | (exfalso; simp only [dcA] at hc; omega) | (simp only [hc]; try simp only [dcA] at hc)) | refine aO ?_ | refine dO ?_)
  refine l_loop (α := Nat) (fun k => ⟨[(1, .p 0 2 0 0), (4, .v (.int .i64 n)), (5, .v (.int .i64 k))], [(0, ⟨2, [[.sl 1 (rws irow X), .sl 1 (rws irow Y)]]⟩)], 1⟩) (fun k => k ≤ q) (fun k => q - k) (0) _ byFresh (fun _ h => by first | (cases h; done) | exact Nat.le_of_ble_eq_true rfl) ?_ ?_ ?_
  · exact Nat.zero_le _
  · exact byWeak
  rintro k hk
  have rx := ig (l := X) (i := k) (by omega)
  have ry := ig (l := Y) (i := k) (by omega)
  have w1 := r26_within (X.getD k 0) (-268435456) 268435456
  have w2 := r26_within (Y.getD k 0) (-1048576) 1048576
  by_cases hkq : k < q
  · have g := hg k hkq
    rw [decide_eq_true g.1] at w1
    rw [decide_eq_true g.2] at w2
    clear hg hb g c1
    generalize X.getD k 0 = x at *
    generalize Y.getD k 0 = y at *
    repeat' (first | (simp only [go_sem, seval, IntKind.bits.eq_def, ti, tin, rws_length, hX, hY, rx, ry]) | (simp (disch := omega) only [wA]) | (with_reducible first | refine cF w1 ?_ | refine dF w1 ?_ | refine cF w2 ?_ | refine dF w2 ?_) | refine aL ti_ok ?_ | refine dL ti_ok ?_ | refine dG ?_ | ((first | refine cC ?_ ?_ | refine gS ?_ ?_ | refine dS ?_ ?_) <;> intro hc <;> first | (exfalso; simp only [dcA] at hc; omega) | (simp only [hc]; try simp only [dcA] at hc)) | refine aO ?_ | refine dO ?_)
    refine roundEnd_of (α := Nat) (k + 1) (by omega) (by omega) ?_
    exact byWeak
  · obtain rfl : k = q := by omega
    unfold tame at hb
    clear hg c1
    by_cases hx : -268435456 ≤ X.getD k 0 ∧ X.getD k 0 ≤ 268435456
    · have hy : ¬ (-1048576 ≤ Y.getD k 0 ∧ Y.getD k 0 ≤ 1048576) := fun h => hb ⟨hx, h⟩
      rw [decide_eq_true hx] at w1
      rw [decide_eq_false hy] at w2
      clear hx hy hb
      generalize X.getD k 0 = x at *
      generalize Y.getD k 0 = y at *
      repeat' (first | (simp only [go_sem, seval, IntKind.bits.eq_def, ti, tin, rws_length, hX, hY, rx, ry]) | (simp (disch := omega) only [wA]) | (with_reducible first | refine cF w1 ?_ | refine dF w1 ?_ | refine cF w2 ?_ | refine dF w2 ?_) | refine aL ti_ok ?_ | refine dL ti_ok ?_ | refine dG ?_ | ((first | refine cC ?_ ?_ | refine gS ?_ ?_ | refine dS ?_ ?_) <;> intro hc <;> first | (exfalso; simp only [dcA] at hc; omega) | (simp only [hc]; try simp only [dcA] at hc)) | refine aO ?_ | refine dO ?_)
      all_goals exact fin_same trivial rfl
    · rw [decide_eq_false hx] at w1
      clear hx hb w2
      generalize X.getD k 0 = x at *
      generalize Y.getD k 0 = y at *
      repeat' (first | (simp only [go_sem, seval, IntKind.bits.eq_def, ti, tin, rws_length, hX, hY, rx, ry]) | (simp (disch := omega) only [wA]) | (with_reducible first | refine cF w1 ?_ | refine dF w1 ?_) | refine aL ti_ok ?_ | refine dL ti_ok ?_ | refine dG ?_ | ((first | refine cC ?_ ?_ | refine gS ?_ ?_ | refine dS ?_ ?_) <;> intro hc <;> first | (exfalso; simp only [dcA] at hc; omega) | (simp only [hc]; try simp only [dcA] at hc)) | refine aO ?_ | refine dO ?_)
      all_goals exact fin_same trivial rfl
theorem r26_curve_end (X Y : List Int) (n : Nat) (hX : X.length = n) (hY : Y.length = n) (h1 : 2 ≤ n) (h2 : n ≤ 32) (c1 : CallOK Tryz.prog gl 88 [.agg [.sl 1 (rws irow X), .sl 1 (rws irow Y)]] (.v (.int .i64 0))) (hg : ∀ i, i < n → tame X Y i) (v : Int) (ha : X.getD 0 0 < 0 → 0 < X.getD (n - 1) 0 → CallOK Tryz.prog gl 89 [.agg [.sl 1 (rws irow X), .sl 1 (rws irow Y)], .v (.int .i64 0)] (.v (.int .i64 v))) : CallOK Tryz.prog gl 47 [.agg [.sl 1 (rws irow X), .sl 1 (rws irow Y)]] (.v (.int .i64 (if X.getD 0 0 < 0 ∧ 0 < X.getD (n - 1) 0 ∧ v = 0 then 0 else 2))) := by
  refine call_ok (C := ⟨Tryz.prog, gl, ti, 54, false⟩) ti_ok mixed 3000 Tryz.call47 Tryz.func47 rfl Tryz.ntmps47 (by simp) byClL byCl ?_
  rw [Tryz.results47]
  repeat' (first | (simp only [go_sem, seval, IntKind.bits.eq_def, ti, tin, rws_length, hX, hY]) | (simp (disch := omega) only [wA]) | (with_reducible first | refine cF c1 ?_ | refine dF c1 ?_) | refine aL ti_ok ?_ | refine dL ti_ok ?_ | refine dG ?_ | ((first | refine cC ?_ ?_ | refine gS ?_ ?_ | refine dS ?_ ?_) <;> intro hc <;> first | (exfalso; simp only [dcA] at hc; omega) | (simp only [hc]; try simp only [dcA] at hc)) | refine aO ?_ | refine dO ?_)
  refine l_loop (α := Nat) (fun k => ⟨[(1, .p 0 2 0 0), (4, .v (.int .i64 n)), (5, .v (.int .i64 k))], [(0, ⟨2, [[.sl 1 (rws irow X), .sl 1 (rws irow Y)]]⟩)], 1⟩) (fun k => k ≤ n) (fun k => n - k) (0) _ byFresh (fun _ h => by first | (cases h; done) | exact Nat.le_of_ble_eq_true rfl) ?_ ?_ ?_
  · exact Nat.zero_le _
  · exact byWeak
  rintro k hk
  by_cases hkn : k < n
  · have rx := ig (l := X) (i := k) (by omega)
    have ry := ig (l := Y) (i := k) (by omega)
    have w1 := r26_within (X.getD k 0) (-268435456) 268435456
    have w2 := r26_within (Y.getD k 0) (-1048576) 1048576
    have g := hg k hkn
    rw [decide_eq_true g.1] at w1
    rw [decide_eq_true g.2] at w2
    clear hg g c1 ha
    generalize X.getD k 0 = x at *
    generalize Y.getD k 0 = y at *
    repeat' (first | (simp only [go_sem, seval, IntKind.bits.eq_def, ti, tin, rws_length, hX, hY, rx, ry]) | (simp (disch := omega) only [wA]) | (with_reducible first | refine cF w1 ?_ | refine dF w1 ?_ | refine cF w2 ?_ | refine dF w2 ?_) | refine aL ti_ok ?_ | refine dL ti_ok ?_ | refine dG ?_ | ((first | refine cC ?_ ?_ | refine gS ?_ ?_ | refine dS ?_ ?_) <;> intro hc <;> first | (exfalso; simp only [dcA] at hc; omega) | (simp only [hc]; try simp only [dcA] at hc)) | refine aO ?_ | refine dO ?_)
    refine roundEnd_of (α := Nat) (k + 1) (by omega) (by omega) ?_
    exact byWeak
  · obtain rfl : k = n := by omega
    have r0 := ig (l := X) (i := 0) (by omega)
    have rn := ig (l := X) (i := k - 1) (by omega)
    have en : (k : Int) - 1 = ((k - 1 : Nat) : Int) := by omega
    clear hg c1
    generalize X.getD 0 0 = z0 at *
    generalize X.getD (k - 1) 0 = zn at *
    by_cases g0 : z0 < 0
    · by_cases gn : 0 < zn
      · have a := ha g0 gn
        clear ha
        by_cases hv : v = 0
        · subst hv
          rw [if_pos ⟨g0, gn, rfl⟩]
          repeat' (first | (simp only [go_sem, seval, IntKind.bits.eq_def, ti, tin, rws_length, hX, hY, r0, rn, en]) | (simp (disch := omega) only [wA]) | (with_reducible first | refine cF a ?_ | refine dF a ?_) | refine aL ti_ok ?_ | refine dL ti_ok ?_ | refine dG ?_ | ((first | refine cC ?_ ?_ | refine gS ?_ ?_ | refine dS ?_ ?_) <;> intro hc <;> first | (exfalso; simp only [dcA] at hc; omega) | (simp only [hc]; try simp only [dcA] at hc)) | refine aO ?_ | refine dO ?_)
          all_goals exact fin_same trivial rfl
        · rw [if_neg (fun h => hv h.2.2)]
          repeat' (first | (simp only [go_sem, seval, IntKind.bits.eq_def, ti, tin, rws_length, hX, hY, r0, rn, en]) | (simp (disch := omega) only [wA]) | (with_reducible first | refine cF a ?_ | refine dF a ?_) | refine aL ti_ok ?_ | refine dL ti_ok ?_ | refine dG ?_ | ((first | refine cC ?_ ?_ | refine gS ?_ ?_ | refine dS ?_ ?_) <;> intro hc <;> first | (exfalso; simp only [dcA] at hc; omega) | (simp only [hc]; try simp only [dcA] at hc)) | refine aO ?_ | refine dO ?_)
          all_goals exact fin_same trivial rfl
      · rw [if_neg (fun h => gn h.2.1)]
        clear ha
        repeat' (first | (simp only [go_sem, seval, IntKind.bits.eq_def, ti, tin, rws_length, hX, hY, r0, rn, en]) | (simp (disch := omega) only [wA]) | refine aL ti_ok ?_ | refine dL ti_ok ?_ | refine dG ?_ | ((first | refine cC ?_ ?_ | refine gS ?_ ?_ | refine dS ?_ ?_) <;> intro hc <;> first | (exfalso; simp only [dcA] at hc; omega) | (simp only [hc]; try simp only [dcA] at hc)) | refine aO ?_ | refine dO ?_)
        all_goals exact fin_same trivial rfl
    · rw [if_neg (fun h => g0 h.1)]
      clear ha
      repeat' (first | (simp only [go_sem, seval, IntKind.bits.eq_def, ti, tin, rws_length, hX, hY, r0, rn, en]) | (simp (disch := omega) only [wA]) | refine aL ti_ok ?_ | refine dL ti_ok ?_ | refine dG ?_ | ((first | refine cC ?_ ?_ | refine gS ?_ ?_ | refine dS ?_ ?_) <;> intro hc <;> first | (exfalso; simp only [dcA] at hc; omega) | (simp only [hc]; try simp only [dcA] at hc)) | refine aO ?_ | refine dO ?_)
      all_goals exact fin_same trivial rfl
end Go.Proofs.YtfmgfjmfogmeeaaGreatDoor
/- The reference of layer 26 (machine): what it accepts. -/
set_option linter.unusedSimpArgs false
set_option linter.unusedVariables false
set_option linter.deprecated false
namespace Go.Proofs.YtfmgfjmfogmeeaaGreatDoor
open Go Go.Ax
set_option maxRecDepth 100000
set_option maxHeartbeats 4000000
theorem r26_curve_ex (X Y : List Int) (hX : X.length ≤ 9223372036854775807) (hY : Y.length ≤ 9223372036854775807) :
    ∃ e : Int, CallOK Tryz.prog gl 47 [.agg [.sl 1 (rws irow X), .sl 1 (rws irow Y)]] (.v (.int .i64 e)) ∧ (e = 0 → ∃ n, Cc X Y n) := by
  obtain ⟨n, hn⟩ : ∃ n, X.length = n := ⟨_, rfl⟩
  obtain ⟨m, hm⟩ : ∃ m, Y.length = m := ⟨_, rfl⟩
  by_cases hl : n ≠ m ∨ 32 < n ∨ n < 2
  · have c1 := rf_Check_len X Y n m hn hm (by omega) (by omega) hl
    have he : (if n ≠ m ∨ n < 2 then 11 else 4 : Int) ≠ 0 := by split <;> decide
    exact ⟨_, r26_curve_ck X Y _ he c1, fun h => absurd h he⟩
  · obtain rfl : n = m := by omega
    have h1 : 2 ≤ n := by omega
    have h2 : n ≤ 32 := by omega
    obtain ⟨q, q1, q2, q3⟩ := first_bad (fun i => ckPt X Y i = 0) n
    have c1 := rf_Check X Y n hn hm h1 h2 q q1 q2 q3
    by_cases hq : q < n
    · rw [if_pos hq] at c1
      exact ⟨_, r26_curve_ck X Y _ (q3 hq) c1, fun h => absurd h (q3 hq)⟩
    · rw [if_neg hq] at c1
      obtain rfl : q = n := by omega
      obtain ⟨p, p1, p2, p3⟩ := first_bad (fun i => tame X Y i) q
      by_cases hp : p < q
      · exact ⟨3, r26_curve_bad X Y q hn hm h2 c1 p hp p2 (p3 hp), fun h => by cases h⟩
      · obtain rfl : p = q := by omega
        have hc : Cv X Y p := ⟨hn, hm, h1, h2, fun i hi => (p2 i hi).1, fun i hi => (p2 i hi).2, fun i hi => by
            obtain ⟨_, g⟩ := ckPt_zero (q2 (i + 1) hi)
            unfold slack at g
            rw [Nat.add_sub_cancel] at g
            omega, fun i hi => by
            obtain ⟨_, g⟩ := ckPt_zero (q2 (i + 1) hi)
            unfold slack at g
            rw [Nat.add_sub_cancel] at g
            omega⟩
        by_cases h0 : X.getD 0 0 < 0 ∧ 0 < X.getD (p - 1) 0
        · obtain ⟨k, k0, kn, kx, kl⟩ := first_ge X 0 (n := p) h0.1 h1 (by omega)
          have a := r26_curve_end X Y p hn hm h1 h2 c1 p2 _ (fun _ _ => rf_At X Y p hc 0 k k0 kn kx kl)
          refine ⟨_, a, fun h => ⟨p, hc, h0.1, h0.2, ?_⟩⟩
          have hz : (segN X Y k 0).tdiv (segD X k) = 0 := by
            by_cases hz : (segN X Y k 0).tdiv (segD X k) = 0
            · exact hz
            · rw [if_neg (fun hh => hz hh.2.2)] at h; cases h
          exact at_zero hc h0.1 h0.2 k0 kn kx kl hz
        · have a := r26_curve_end X Y p hn hm h1 h2 c1 p2 0 (fun g1 g2 => absurd ⟨g1, g2⟩ h0)
          rw [if_neg (fun hh => h0 ⟨hh.1, hh.2.1⟩)] at a
          exact ⟨_, a, fun h => by cases h⟩
def cfgA (R M : Int) : Prop := (0 ≤ R ∧ R ≤ 1048576) ∧ (0 ≤ M ∧ M ≤ 268435456)
def cfgB (P S F : Int) : Prop := (1 ≤ P ∧ P ≤ 64) ∧ (1 ≤ S ∧ S ≤ 1099511627776) ∧ (0 ≤ F ∧ F ≤ 268435456)
instance (R M : Int) : Decidable (cfgA R M) := inferInstanceAs (Decidable (_ ∧ _))
instance (P S F : Int) : Decidable (cfgB P S F) := inferInstanceAs (Decidable (_ ∧ _))
theorem r26_Check (R M : Int) (DX DY QX QY : List Int) (P S F : Int) (eD eQ : Int) (cD : CallOK Tryz.prog gl 47 [.agg [.sl 1 (rws irow DX), .sl 1 (rws irow DY)]] (.v (.int .i64 eD))) (cQ : CallOK Tryz.prog gl 47 [.agg [.sl 1 (rws irow QX), .sl 1 (rws irow QY)]] (.v (.int .i64 eQ))) : CallOK Tryz.prog gl 16 [.agg [.v (.int .i64 R), .v (.int .i64 M), .sl 1 (rws irow DX), .sl 1 (rws irow DY), .sl 1 (rws irow QX), .sl 1 (rws irow QY), .v (.int .i64 P), .v (.int .i64 S), .v (.int .i64 F)]] (.v (.int .i64 (if cfgA R M then (if eD = 0 then (if eQ = 0 then (if cfgB P S F then 0 else 3) else eQ) else eD) else 3))) := by
  refine call_ok (C := ⟨Tryz.prog, gl, ti, 43, false⟩) ti_ok mixed 3000 Tryz.call16 Tryz.func16 rfl Tryz.ntmps16 (by simp) byClL byCl ?_
  rw [Tryz.results16]
  have w1 := r26_within R 0 1048576
  have w2 := r26_within M 0 268435456
  have w3 := r26_within P 1 64
  have w4 := r26_within S 1 1099511627776
  have w5 := r26_within F 0 268435456
  by_cases h1 : 0 ≤ R ∧ R ≤ 1048576
  · rw [decide_eq_true h1] at w1
    by_cases h2 : 0 ≤ M ∧ M ≤ 268435456
    · rw [decide_eq_true h2] at w2
      rw [if_pos (show cfgA R M from ⟨h1, h2⟩)]
      by_cases h3 : eD = 0
      · subst h3
        rw [if_pos (rfl : (0 : Int) = 0)]
        by_cases h4 : eQ = 0
        · subst h4
          rw [if_pos (rfl : (0 : Int) = 0)]
          by_cases h5 : 1 ≤ P ∧ P ≤ 64
          · rw [decide_eq_true h5] at w3
            by_cases h6 : 1 ≤ S ∧ S ≤ 1099511627776
            · rw [decide_eq_true h6] at w4
              by_cases h7 : 0 ≤ F ∧ F ≤ 268435456
              · rw [decide_eq_true h7] at w5
                rw [if_pos (show cfgB P S F from ⟨h5, h6, h7⟩)]
                repeat' (first | (simp only [go_sem, seval, IntKind.bits.eq_def, ti, tin]) | (simp (disch := omega) only [wA]) | (with_reducible first | refine cF w1 ?_ | refine dF w1 ?_ | refine cF w2 ?_ | refine dF w2 ?_ | refine cF w3 ?_ | refine dF w3 ?_ | refine cF w4 ?_ | refine dF w4 ?_ | refine cF w5 ?_ | refine dF w5 ?_ | refine cF cD ?_ | refine dF cD ?_ | refine cF cQ ?_ | refine dF cQ ?_) | refine aL ti_ok ?_ | refine dL ti_ok ?_ | refine dG ?_ | ((first | refine cC ?_ ?_ | refine gS ?_ ?_ | refine dS ?_ ?_) <;> intro hc <;> first | (exfalso; simp only [dcA] at hc; omega) | (simp only [hc]; try simp only [dcA] at hc)) | refine aO ?_ | refine dO ?_)
                all_goals exact fin_same trivial rfl
              · rw [decide_eq_false h7] at w5
                rw [if_neg (show ¬ cfgB P S F from fun h => h7 h.2.2)]
                repeat' (first | (simp only [go_sem, seval, IntKind.bits.eq_def, ti, tin]) | (simp (disch := omega) only [wA]) | (with_reducible first | refine cF w1 ?_ | refine dF w1 ?_ | refine cF w2 ?_ | refine dF w2 ?_ | refine cF w3 ?_ | refine dF w3 ?_ | refine cF w4 ?_ | refine dF w4 ?_ | refine cF w5 ?_ | refine dF w5 ?_ | refine cF cD ?_ | refine dF cD ?_ | refine cF cQ ?_ | refine dF cQ ?_) | refine aL ti_ok ?_ | refine dL ti_ok ?_ | refine dG ?_ | ((first | refine cC ?_ ?_ | refine gS ?_ ?_ | refine dS ?_ ?_) <;> intro hc <;> first | (exfalso; simp only [dcA] at hc; omega) | (simp only [hc]; try simp only [dcA] at hc)) | refine aO ?_ | refine dO ?_)
                all_goals exact fin_same trivial rfl
            · rw [decide_eq_false h6] at w4
              rw [if_neg (show ¬ cfgB P S F from fun h => h6 h.2.1)]
              repeat' (first | (simp only [go_sem, seval, IntKind.bits.eq_def, ti, tin]) | (simp (disch := omega) only [wA]) | (with_reducible first | refine cF w1 ?_ | refine dF w1 ?_ | refine cF w2 ?_ | refine dF w2 ?_ | refine cF w3 ?_ | refine dF w3 ?_ | refine cF w4 ?_ | refine dF w4 ?_ | refine cF cD ?_ | refine dF cD ?_ | refine cF cQ ?_ | refine dF cQ ?_) | refine aL ti_ok ?_ | refine dL ti_ok ?_ | refine dG ?_ | ((first | refine cC ?_ ?_ | refine gS ?_ ?_ | refine dS ?_ ?_) <;> intro hc <;> first | (exfalso; simp only [dcA] at hc; omega) | (simp only [hc]; try simp only [dcA] at hc)) | refine aO ?_ | refine dO ?_)
              all_goals exact fin_same trivial rfl
          · rw [decide_eq_false h5] at w3
            rw [if_neg (show ¬ cfgB P S F from fun h => h5 h.1)]
            repeat' (first | (simp only [go_sem, seval, IntKind.bits.eq_def, ti, tin]) | (simp (disch := omega) only [wA]) | (with_reducible first | refine cF w1 ?_ | refine dF w1 ?_ | refine cF w2 ?_ | refine dF w2 ?_ | refine cF w3 ?_ | refine dF w3 ?_ | refine cF cD ?_ | refine dF cD ?_ | refine cF cQ ?_ | refine dF cQ ?_) | refine aL ti_ok ?_ | refine dL ti_ok ?_ | refine dG ?_ | ((first | refine cC ?_ ?_ | refine gS ?_ ?_ | refine dS ?_ ?_) <;> intro hc <;> first | (exfalso; simp only [dcA] at hc; omega) | (simp only [hc]; try simp only [dcA] at hc)) | refine aO ?_ | refine dO ?_)
            all_goals exact fin_same trivial rfl
        · rw [if_neg h4]
          repeat' (first | (simp only [go_sem, seval, IntKind.bits.eq_def, ti, tin]) | (simp (disch := omega) only [wA]) | (with_reducible first | refine cF w1 ?_ | refine dF w1 ?_ | refine cF w2 ?_ | refine dF w2 ?_ | refine cF cD ?_ | refine dF cD ?_ | refine cF cQ ?_ | refine dF cQ ?_) | refine aL ti_ok ?_ | refine dL ti_ok ?_ | refine dG ?_ | ((first | refine cC ?_ ?_ | refine gS ?_ ?_ | refine dS ?_ ?_) <;> intro hc <;> first | (exfalso; simp only [dcA] at hc; omega) | (simp only [hc]; try simp only [dcA] at hc)) | refine aO ?_ | refine dO ?_)
          all_goals exact fin_same trivial rfl
      · rw [if_neg h3]
        repeat' (first | (simp only [go_sem, seval, IntKind.bits.eq_def, ti, tin]) | (simp (disch := omega) only [wA]) | (with_reducible first | refine cF w1 ?_ | refine dF w1 ?_ | refine cF w2 ?_ | refine dF w2 ?_ | refine cF cD ?_ | refine dF cD ?_) | refine aL ti_ok ?_ | refine dL ti_ok ?_ | refine dG ?_ | ((first | refine cC ?_ ?_ | refine gS ?_ ?_ | refine dS ?_ ?_) <;> intro hc <;> first | (exfalso; simp only [dcA] at hc; omega) | (simp only [hc]; try simp only [dcA] at hc)) | refine aO ?_ | refine dO ?_)
        all_goals exact fin_same trivial rfl
    · rw [decide_eq_false h2] at w2
      rw [if_neg (show ¬ cfgA R M from fun h => h2 h.2)]
      repeat' (first | (simp only [go_sem, seval, IntKind.bits.eq_def, ti, tin]) | (simp (disch := omega) only [wA]) | (with_reducible first | refine cF w1 ?_ | refine dF w1 ?_ | refine cF w2 ?_ | refine dF w2 ?_) | refine aL ti_ok ?_ | refine dL ti_ok ?_ | refine dG ?_ | ((first | refine cC ?_ ?_ | refine gS ?_ ?_ | refine dS ?_ ?_) <;> intro hc <;> first | (exfalso; simp only [dcA] at hc; omega) | (simp only [hc]; try simp only [dcA] at hc)) | refine aO ?_ | refine dO ?_)
      all_goals exact fin_same trivial rfl
  · rw [decide_eq_false h1] at w1
    rw [if_neg (show ¬ cfgA R M from fun h => h1 h.1)]
    repeat' (first | (simp only [go_sem, seval, IntKind.bits.eq_def, ti, tin]) | (simp (disch := omega) only [wA]) | (with_reducible first | refine cF w1 ?_ | refine dF w1 ?_) | refine aL ti_ok ?_ | refine dL ti_ok ?_ | refine dG ?_ | ((first | refine cC ?_ ?_ | refine gS ?_ ?_ | refine dS ?_ ?_) <;> intro hc <;> first | (exfalso; simp only [dcA] at hc; omega) | (simp only [hc]; try simp only [dcA] at hc)) | refine aO ?_ | refine dO ?_)
    all_goals exact fin_same trivial rfl
theorem r26_Check_ex (R M : Int) (DX DY QX QY : List Int) (P S F : Int) (l1 : DX.length ≤ 9223372036854775807) (l2 : DY.length ≤ 9223372036854775807) (l3 : QX.length ≤ 9223372036854775807) (l4 : QY.length ≤ 9223372036854775807) :
    ∃ e : Int, CallOK Tryz.prog gl 16 [.agg [.v (.int .i64 R), .v (.int .i64 M), .sl 1 (rws irow DX), .sl 1 (rws irow DY), .sl 1 (rws irow QX), .sl 1 (rws irow QY), .v (.int .i64 P), .v (.int .i64 S), .v (.int .i64 F)]] (.v (.int .i64 e)) ∧
      (e = 0 → ∃ nd nq, Mc R M DX DY QX QY P S F nd nq) := by
  obtain ⟨eD, cD, gD⟩ := r26_curve_ex DX DY l1 l2
  obtain ⟨eQ, cQ, gQ⟩ := r26_curve_ex QX QY l3 l4
  refine ⟨_, r26_Check R M DX DY QX QY P S F eD eQ cD cQ, fun h => ?_⟩
  by_cases h1 : cfgA R M
  · rw [if_pos h1] at h
    by_cases h2 : eD = 0
    · rw [if_pos h2] at h
      by_cases h3 : eQ = 0
      · rw [if_pos h3] at h
        by_cases h4 : cfgB P S F
        · obtain ⟨nd, d⟩ := gD h2
          obtain ⟨nq, q⟩ := gQ h3
          exact ⟨nd, nq, h1.1, h1.2, d, q, h4.1, h4.2.1, h4.2.2⟩
        · rw [if_neg h4] at h; cases h
      · rw [if_neg h3] at h; exact absurd h h3
    · rw [if_neg h2] at h; exact absurd h h2
  · rw [if_neg h1] at h; cases h
end Go.Proofs.YtfmgfjmfogmeeaaGreatDoor
