/- The facts that the statements on all layers begin with: a trip, a task. -/
import Derived.Test.YtfmgfjmfogmeeaaGreatDoorTrp1
import Derived.Test.YtfmgfjmfogmeeaaGreatDoorTy
import Derived.Test.YtfmgfjmfogmeeaaGreatDoorU4
set_option linter.unusedSimpArgs false
set_option linter.unusedVariables false
set_option linter.deprecated false
namespace Go.Proofs.YtfmgfjmfogmeeaaGreatDoor
open Go Go.Ax
set_option maxRecDepth 100000
set_option maxHeartbeats 4000000
theorem t_within (n lo hi : Int) (h : lo ≤ n ∧ n ≤ hi) : CallOK Tryz.prog gl 132 [.v (.int .i64 n), .v (.int .i64 lo), .v (.int .i64 hi)] (.v (.bool (true))) := by
  refine call_ok (C := ⟨Tryz.prog, gl, ti, 15, false⟩) ti_ok mixed 3000 Tryz.call132 Tryz.func132 rfl Tryz.ntmps132 (by simp) byClL byCl ?_
  rw [Tryz.results132]
  repeat' (first | (simp only [go_sem, seval, IntKind.bits.eq_def, ti, tin]) | (simp (disch := omega) only [wA]) | refine aL ti_ok ?_ | refine dL ti_ok ?_ | refine dG ?_ | ((first | refine cC ?_ ?_ | refine gS ?_ ?_ | refine dS ?_ ?_) <;> intro hc <;> first | (exfalso; simp only [dcA] at hc; omega) | (simp only [hc]; try simp only [dcA] at hc)) | refine aO ?_ | refine dO ?_)
  all_goals exact fin_same trivial (by have : n ≥ lo := h.1; simp [one, this, h.2])
theorem t_clip (n lo hi : Int) (h : lo ≤ n ∧ n ≤ hi) : CallOK Tryz.prog gl 83 [.v (.int .i64 n), .v (.int .i64 lo), .v (.int .i64 hi)] (.v (.int .i64 n)) := by
  refine call_ok (C := ⟨Tryz.prog, gl, ti, 12, false⟩) ti_ok mixed 3000 Tryz.call83 Tryz.func83 rfl Tryz.ntmps83 (by simp) byClL byCl ?_
  rw [Tryz.results83]
  have e : min (max n lo) hi = n := by omega
  repeat' (first | (simp only [go_sem, seval, IntKind.bits.eq_def, ti, tin, e]) | (simp (disch := omega) only [wA]) | refine aL ti_ok ?_ | refine dL ti_ok ?_ | refine dG ?_ | ((first | refine cC ?_ ?_ | refine gS ?_ ?_ | refine dS ?_ ?_) <;> intro hc <;> first | (exfalso; simp only [dcA] at hc; omega) | (simp only [hc]; try simp only [dcA] at hc)) | refine aO ?_ | refine dO ?_)
  exact fin_same trivial rfl
theorem t_counted (n m : Int) : CallOK Tryz.prog gl 84 [.v (.int .i64 n), .v (.bool (false)), .v (.int .i64 m)] (.v (.int .i64 0)) := by
  refine call_ok (C := ⟨Tryz.prog, gl, ti, 13, false⟩) ti_ok mixed 3000 Tryz.call84 Tryz.func84 rfl Tryz.ntmps84 (by simp) byClL byCl ?_
  rw [Tryz.results84]
  repeat' (first | (simp only [go_sem, seval, IntKind.bits.eq_def, ti, tin]) | (simp (disch := omega) only [wA]) | refine aL ti_ok ?_ | refine dL ti_ok ?_ | refine dG ?_ | ((first | refine cC ?_ ?_ | refine gS ?_ ?_ | refine dS ?_ ?_) <;> intro hc <;> first | (exfalso; simp only [dcA] at hc; omega) | (simp only [hc]; try simp only [dcA] at hc)) | refine aO ?_ | refine dO ?_)
  exact fin_same trivial rfl
theorem over_ok' : CallOK Tryz.prog gl 133 [.agg [.v (.int .i64 10), .v (.int .i64 0), .v (.int .i64 1), .v (.int .i64 0), .v (.int .i64 1), .v (.int .i64 1)], .agg [.v (.int .i64 11), .v (.int .i64 0), .v (.int .i64 (-11)), .v (.int .i64 0), .v (.bool false), .v (.bool false), .v (.bool false), .v (.bool false), .v (.bool false), .v (.bool false)]] (.v (.bool true)) := over_ok
theorem t_cause  : CallOK Tryz.prog gl 85 [.agg [.v (.int .i64 10), .v (.int .i64 0), .v (.int .i64 1), .v (.int .i64 0), .v (.int .i64 1), .v (.int .i64 1)], .agg [.v (.int .i64 0), .v (.int .i64 0), .v (.int .i64 0), .v (.int .i64 0), .v (.bool (false))], .agg [.v (.int .i64 11), .v (.int .i64 0), .v (.int .i64 (-11)), .v (.int .i64 0), .v (.bool (false)), .v (.bool (false)), .v (.bool (false)), .v (.bool (false)), .v (.bool (false)), .v (.bool (false))]] (.v (.int .i64 1)) := by
  refine call_ok (C := ⟨Tryz.prog, gl, ti, 26, false⟩) ti_ok mixed 3000 Tryz.call85 Tryz.func85 rfl Tryz.ntmps85 (by simp) byClL byCl ?_
  rw [Tryz.results85]
  repeat' (first | (simp only [go_sem, seval, IntKind.bits.eq_def, ti, tin]) | (simp (disch := omega) only [wA]) | (with_reducible first | refine cF (over_ok') ?_ | refine dF (over_ok') ?_) | refine aL ti_ok ?_ | refine dL ti_ok ?_ | refine dG ?_ | ((first | refine cC ?_ ?_ | refine gS ?_ ?_ | refine dS ?_ ?_) <;> intro hc <;> first | (exfalso; simp only [dcA] at hc; omega) | (simp only [hc]; try simp only [dcA] at hc)) | refine aO ?_ | refine dO ?_)
  exact fin_same trivial rfl
theorem t_Check  : CallOK Tryz.prog gl 82 [.agg [.v (.int .i64 10), .v (.int .i64 0), .v (.int .i64 1), .v (.int .i64 0), .v (.int .i64 1), .v (.int .i64 1)]] (.v .nilIface) := by
  refine call_ok (C := ⟨Tryz.prog, gl, ti, 36, false⟩) ti_ok mixed 3000 Tryz.call82 Tryz.func82 rfl Tryz.ntmps82 (by simp) byClL byCl ?_
  rw [Tryz.results82]
  have w1 := t_within 10 0 2097152 (by decide)
  have w2 := t_within 0 0 1048576 (by decide)
  have w3 := t_within 1 0 1048576 (by decide)
  have w4 := t_within 0 0 64 (by decide)
  have w5 := t_within 1 1 4096 (by decide)
  repeat' (first | (simp only [go_sem, seval, IntKind.bits.eq_def, ti, tin]) | (simp (disch := omega) only [wA]) | (with_reducible first | refine cF w1 ?_ | refine dF w1 ?_ | refine cF w2 ?_ | refine dF w2 ?_ | refine cF w3 ?_ | refine dF w3 ?_ | refine cF w4 ?_ | refine dF w4 ?_ | refine cF w5 ?_ | refine dF w5 ?_) | refine aL ti_ok ?_ | refine dL ti_ok ?_ | refine dG ?_ | ((first | refine cC ?_ ?_ | refine gS ?_ ?_ | refine dS ?_ ?_) <;> intro hc <;> first | (exfalso; simp only [dcA] at hc; omega) | (simp only [hc]; try simp only [dcA] at hc)) | refine aO ?_ | refine dO ?_)
  exact fin_same trivial rfl
theorem t_Step  : CallOK Tryz.prog gl 43 [.agg [.v (.int .i64 10), .v (.int .i64 0), .v (.int .i64 1), .v (.int .i64 0), .v (.int .i64 1), .v (.int .i64 1)], .agg [.v (.int .i64 0), .v (.int .i64 0), .v (.int .i64 0), .v (.int .i64 0), .v (.bool (false))], .agg [.v (.int .i64 11), .v (.int .i64 0), .v (.int .i64 (-11)), .v (.int .i64 0), .v (.bool (false)), .v (.bool (false)), .v (.bool (false)), .v (.bool (false)), .v (.bool (false)), .v (.bool (false))]] (.tup [.agg [.v (.int .i64 1), .v (.int .i64 0), .v (.int .i64 0), .v (.int .i64 0), .v (.bool (true))], .v .nilIface]) := by
  refine call_ok (C := ⟨Tryz.prog, gl, ti, 89, false⟩) ti_ok mixed 3000 Tryz.call43 Tryz.func43 rfl Tryz.ntmps43 (by simp) byClL byCl ?_
  rw [Tryz.results43]
  have k1 := t_clip 0 0 4 (by decide)
  have k2 := t_clip 0 0 64 (by decide)
  have k3 := t_clip 0 0 1 (by decide)
  have n1 := t_counted 0 1
  repeat' (first | (simp only [go_sem, seval, IntKind.bits.eq_def, ti, tin]) | (simp (disch := omega) only [wA]) | (with_reducible first | refine cF t_Check ?_ | refine dF t_Check ?_ | refine cF k1 ?_ | refine dF k1 ?_ | refine cF k2 ?_ | refine dF k2 ?_ | refine cF k3 ?_ | refine dF k3 ?_ | refine cF n1 ?_ | refine dF n1 ?_ | refine cF t_cause ?_ | refine dF t_cause ?_) | refine aL ti_ok ?_ | refine dL ti_ok ?_ | refine dG ?_ | ((first | refine cC ?_ ?_ | refine gS ?_ ?_ | refine dS ?_ ?_) <;> intro hc <;> first | (exfalso; simp only [dcA] at hc; omega) | (simp only [hc]; try simp only [dcA] at hc)) | refine aO ?_ | refine dO ?_)
  all_goals exact fin_same trivial rfl
theorem k_Check  : CallOK Tryz.prog gl 86 [.sl 5 [[.v (.int .i64 4), .v (.int .i64 0), .v (.int .i64 1), .v (.int .i64 4), .v (.int .i64 0)]]] (.v .nilIface) := by
  refine call_ok (C := ⟨Tryz.prog, gl, ti, 74, false⟩) ti_ok mixed 3000 Tryz.call86 Tryz.func86 rfl Tryz.ntmps86 (by simp) byClL byCl ?_
  rw [Tryz.results86]
  repeat' (first | (simp only [go_sem, seval, IntKind.bits.eq_def, ti, tin]) | (simp (disch := omega) only [wA]) | (refine l_unroll 3 _ byFresh ?_) | refine aL ti_ok ?_ | refine dL ti_ok ?_ | refine dG ?_ | ((first | refine cC ?_ ?_ | refine gS ?_ ?_ | refine dS ?_ ?_) <;> intro hc <;> first | (exfalso; simp only [dcA] at hc; omega) | (simp only [hc]; try simp only [dcA] at hc)) | refine aO ?_ | refine dO ?_)
  all_goals exact fin_same trivial rfl
theorem rs_worst  : CallOK Tryz.prog gl 87 [.sl 5 [[.v (.int .i64 4), .v (.int .i64 0), .v (.int .i64 1), .v (.int .i64 4), .v (.int .i64 0)]], .v (.int .i64 0)] (.v (.int .i64 1)) := by
  refine call_ok (C := ⟨Tryz.prog, gl, ti, 54, false⟩) ti_ok mixed 3000 Tryz.call87 Tryz.func87 rfl Tryz.ntmps87 (by simp) byClL byCl ?_
  rw [Tryz.results87]
  repeat' (first | (simp only [go_sem, seval, IntKind.bits.eq_def, ti, tin]) | (simp (disch := omega) only [wA]) | (refine l_unroll 3 _ byFresh ?_) | refine aL ti_ok ?_ | refine dL ti_ok ?_ | refine dG ?_ | ((first | refine cC ?_ ?_ | refine gS ?_ ?_ | refine dS ?_ ?_) <;> intro hc <;> first | (exfalso; simp only [dcA] at hc; omega) | (simp only [hc]; try simp only [dcA] at hc)) | refine aO ?_ | refine dO ?_)
  all_goals exact fin_same trivial rfl
theorem rs_Worst  : CallOK Tryz.prog gl 44 [.sl 5 [[.v (.int .i64 4), .v (.int .i64 0), .v (.int .i64 1), .v (.int .i64 4), .v (.int .i64 0)]]] (.tup [.sl 1 [[.v (.int .i64 1)]], .v .nilIface]) := by
  refine call_ok (C := ⟨Tryz.prog, gl, ti, 25, false⟩) ti_ok mixed 3000 Tryz.call44 Tryz.func44 rfl Tryz.ntmps44 (by simp) byClL byCl ?_
  rw [Tryz.results44]
  repeat' (first | (simp only [go_sem, seval, IntKind.bits.eq_def, ti, tin]) | (simp (disch := omega) only [wA]) | (refine l_unroll 3 _ byFresh ?_) | (with_reducible first | refine cF k_Check ?_ | refine dF k_Check ?_ | refine cF rs_worst ?_ | refine dF rs_worst ?_) | (refine after_append_nil ti_ok rfl rfl rfl rfl ⟨rfl, by decide⟩ rfl ⟨trivial, by (try simp only [List.length_cons, List.length_nil, List.length_append, u32s_length, List.length_map]); omega, by (try simp only [List.length_cons, List.length_nil, List.length_append, u32s_length, List.length_map]); omega⟩ (fun _ => byRows) ?_) | (refine after_append_own ti_ok rfl rfl rfl rfl rfl ⟨rfl, rfl, by decide, Nat.le_of_ble_eq_true rfl⟩ (fun h => by first | (cases h; done) | decide) rfl ⟨trivial, by (try simp only [List.length_cons, List.length_nil, List.length_append, u32s_length, List.length_map]); omega, by (try simp only [List.length_cons, List.length_nil, List.length_append, u32s_length, List.length_map]); omega, by (try simp only [List.length_cons, List.length_nil, List.length_append, u32s_length, List.length_map]); omega⟩ byRows byNoE byNoM ?_) | refine aL ti_ok ?_ | refine dL ti_ok ?_ | refine dG ?_ | ((first | refine cC ?_ ?_ | refine gS ?_ ?_ | refine dS ?_ ?_) <;> intro hc <;> first | (exfalso; simp only [dcA] at hc; omega) | (simp only [hc]; try simp only [dcA] at hc)) | refine aO ?_ | refine dO ?_)
  all_goals
    refine fin_pub trivial (.tup (.cons (.one (.ps rfl rfl (Nat.le_refl 1))) (.cons (.one .same) .nil))) ?_
    exact .refl _
theorem b_Ints  : CallOK Tryz.prog gl 45 [.sl 1 [[.v (.int .i64 1)]], .sl 1 [[.v (.int .i64 1)]]] (.v (.bool (true))) := by
  refine call_ok (C := ⟨Tryz.prog, gl, ti, 26, false⟩) ti_ok mixed 3000 Tryz.call45 Tryz.func45 rfl Tryz.ntmps45 (by simp) byClL byCl ?_
  rw [Tryz.results45]
  repeat' (first | (simp only [go_sem, seval, IntKind.bits.eq_def, ti, tin]) | (simp (disch := omega) only [wA]) | (refine l_unroll 3 _ byFresh ?_) | refine aL ti_ok ?_ | refine dL ti_ok ?_ | refine dG ?_ | ((first | refine cC ?_ ?_ | refine gS ?_ ?_ | refine dS ?_ ?_) <;> intro hc <;> first | (exfalso; simp only [dcA] at hc; omega) | (simp only [hc]; try simp only [dcA] at hc)) | refine aO ?_ | refine dO ?_)
  all_goals exact fin_same trivial rfl
theorem guarded  : CallOK Tryz.prog gl 15 [] (.v (.bool (true))) := by
  refine call_ok (C := ⟨Tryz.prog, gl, ti, 39, false⟩) ti_ok mixed 3000 Tryz.call15 Tryz.func15 rfl Tryz.ntmps15 (by simp) byClL byCl ?_
  rw [Tryz.results15]
  repeat' (first | (simp only [go_sem, seval, IntKind.bits.eq_def, ti, tin]) | (simp (disch := omega) only [wA]) | (with_reducible first | refine cF t_Step ?_ | refine dF t_Step ?_ | refine cF rs_Worst ?_ | refine dF rs_Worst ?_ | refine cF b_Ints ?_ | refine dF b_Ints ?_) | refine aL ti_ok ?_ | refine dL ti_ok ?_ | refine dG ?_ | ((first | refine cC ?_ ?_ | refine gS ?_ ?_ | refine dS ?_ ?_) <;> intro hc <;> first | (exfalso; simp only [dcA] at hc; omega) | (simp only [hc]; try simp only [dcA] at hc)) | refine aO ?_ | refine dO ?_)
  all_goals exact fin_same trivial rfl
end Go.Proofs.YtfmgfjmfogmeeaaGreatDoor
/- Layer 9 (curve) and its reference: checks. -/
set_option linter.unusedSimpArgs false
set_option linter.unusedVariables false
set_option linter.deprecated false
namespace Go.Proofs.YtfmgfjmfogmeeaaGreatDoor
open Go Go.Ax
set_option maxRecDepth 100000
set_option maxHeartbeats 4000000
structure Cv (X Y : List Int) (n : Nat) : Prop where
  hX : X.length = n
  hY : Y.length = n
  h1 : 2 ≤ n
  h2 : n ≤ 32
  bX : ∀ i, i < n → -268435456 ≤ X.getD i 0 ∧ X.getD i 0 ≤ 268435456
  bY : ∀ i, i < n → -1048576 ≤ Y.getD i 0 ∧ Y.getD i 0 ≤ 1048576
  oX : ∀ i, i + 1 < n → X.getD i 0 < X.getD (i + 1) 0
  oY : ∀ i, i + 1 < n → Y.getD i 0 ≤ Y.getD (i + 1) 0
theorem ig {l : List Int} {i : Nat} (h : i < l.length) : (rws irow l).getD i [] = [.v (.int .i64 (l.getD i 0))] := by rw [rws_getD (f := irow) 0 h]; rfl
theorem cv_Check (X Y : List Int) (n : Nat) (h : Cv X Y n) : CallOK Tryz.prog gl 93 [.agg [.sl 1 (rws irow X), .sl 1 (rws irow Y)]] (.v .nilIface) := by
  refine call_ok (C := ⟨Tryz.prog, gl, ti, 77, false⟩) ti_ok mixed 3000 Tryz.call93 Tryz.func93 rfl Tryz.ntmps93 (by simp) byClL byCl ?_
  rw [Tryz.results93]
  obtain ⟨hX, hY, h1, h2, bX, bY, oX, oY⟩ := h
  repeat' (first | (simp only [go_sem, seval, IntKind.bits.eq_def, ti, tin, rws_length, hX, hY]) | (simp (disch := omega) only [wA]) | refine aL ti_ok ?_ | refine dL ti_ok ?_ | refine dG ?_ | ((first | refine cC ?_ ?_ | refine gS ?_ ?_ | refine dS ?_ ?_) <;> intro hc <;> first | (exfalso; simp only [dcA] at hc; omega) | (simp only [hc]; try simp only [dcA] at hc)) | refine aO ?_ | refine dO ?_)
  refine l_loop (α := Nat) (fun k => ⟨[(1, .p 0 2 0 0), (26, .sl 1 (rws irow X)), (27, .v (.int .i64 n)), (28, .v (.int .i64 k))], [(0, ⟨2, [[.sl 1 (rws irow X), .sl 1 (rws irow Y)]]⟩)], 1⟩) (fun k => k ≤ n) (fun k => n - k) (0) _ byFresh (fun _ h => by first | (cases h; done) | exact Nat.le_of_ble_eq_true rfl) ?_ ?_ ?_
  · exact Nat.zero_le _
  · exact byWeak
  rintro k hk
  by_cases hkn : k < n
  · have rx := ig (l := X) (i := k) (by omega)
    have ry := ig (l := Y) (i := k) (by omega)
    have b1 := bX k hkn
    have b2 := bY k hkn
    cases k with
    | zero =>
      clear bX bY oX oY
      generalize X.getD 0 0 = x at *
      generalize Y.getD 0 0 = y at *
      repeat' (first | (simp only [go_sem, seval, IntKind.bits.eq_def, ti, tin, rws_length, hX, hY, rx, ry]) | (simp (disch := omega) only [wA]) | refine aL ti_ok ?_ | refine dL ti_ok ?_ | refine dG ?_ | ((first | refine cC ?_ ?_ | refine gS ?_ ?_ | refine dS ?_ ?_) <;> intro hc <;> first | (exfalso; simp only [dcA] at hc; omega) | (simp only [hc]; try simp only [dcA] at hc)) | refine aO ?_ | refine dO ?_)
      refine roundEnd_of (α := Nat) 1 (by omega) (by omega) ?_
      exact byWeak
    | succ j =>
      have px := ig (l := X) (i := j) (by omega)
      have py := ig (l := Y) (i := j) (by omega)
      have o1 := oX j hkn
      have o2 := oY j hkn
      have e1 : ((j + 1 : Nat) : Int) - 1 = (j : Int) := by omega
      clear bX bY oX oY
      generalize X.getD j 0 = x0 at *
      generalize Y.getD j 0 = y0 at *
      generalize X.getD (j + 1) 0 = x at *
      generalize Y.getD (j + 1) 0 = y at *
      repeat' (first | (simp only [go_sem, seval, IntKind.bits.eq_def, ti, tin, rws_length, hX, hY, rx, ry, px, py, e1]) | (simp (disch := omega) only [wA]) | refine aL ti_ok ?_ | refine dL ti_ok ?_ | refine dG ?_ | ((first | refine cC ?_ ?_ | refine gS ?_ ?_ | refine dS ?_ ?_) <;> intro hc <;> first | (exfalso; simp only [dcA] at hc; omega) | (simp only [hc]; try simp only [dcA] at hc)) | refine aO ?_ | refine dO ?_)
      refine roundEnd_of (α := Nat) (j + 1 + 1) (by omega) (by omega) ?_
      exact byWeak
  · obtain rfl : k = n := by omega
    clear bX bY oX oY
    repeat' (first | (simp only [go_sem, seval, IntKind.bits.eq_def, ti, tin, rws_length, hX, hY]) | (simp (disch := omega) only [wA]) | refine aL ti_ok ?_ | refine dL ti_ok ?_ | refine dG ?_ | ((first | refine cC ?_ ?_ | refine gS ?_ ?_ | refine dS ?_ ?_) <;> intro hc <;> first | (exfalso; simp only [dcA] at hc; omega) | (simp only [hc]; try simp only [dcA] at hc)) | refine aO ?_ | refine dO ?_)
    exact fin_same trivial rfl
end Go.Proofs.YtfmgfjmfogmeeaaGreatDoor
