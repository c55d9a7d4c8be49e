/- Layer 26 (machine): its check, its state. -/
import Derived.Test.YtfmgfjmfogmeeaaGreatDoorCv4
set_option linter.unusedSimpArgs false
set_option linter.unusedVariables false
set_option linter.deprecated false
namespace Go.Proofs.YtfmgfjmfogmeeaaGreatDoor
open Go Go.Ax
set_option maxRecDepth 100000
set_option maxHeartbeats 4000000
theorem m_within (n lo hi : Int) : CallOK Tryz.prog gl 90 [.v (.int .i64 n), .v (.int .i64 lo), .v (.int .i64 hi)] (.v (.bool ((decide (lo ≤ n ∧ n ≤ hi))))) := by
  refine call_ok (C := ⟨Tryz.prog, gl, ti, 15, false⟩) ti_ok mixed 3000 Tryz.call90 Tryz.func90 rfl Tryz.ntmps90 (by simp) byClL byCl ?_
  rw [Tryz.results90]
  by_cases h1 : lo ≤ n
  · by_cases h2 : n ≤ hi
    · rw [decide_eq_true ⟨h1, h2⟩]
      repeat' (first | (simp only [go_sem, seval, IntKind.bits.eq_def, ti, tin]) | (simp (disch := omega) only [wA]) | refine aL ti_ok ?_ | refine dL ti_ok ?_ | refine dG ?_ | ((first | refine cC ?_ ?_ | refine gS ?_ ?_ | refine dS ?_ ?_) <;> intro hc <;> first | (exfalso; simp only [dcA] at hc; omega) | (simp only [hc]; try simp only [dcA] at hc)) | refine aO ?_ | refine dO ?_)
      all_goals exact fin_same trivial (by have : n ≥ lo := h1; simp [one, this, h2])
    · rw [decide_eq_false (fun h => h2 h.2)]
      repeat' (first | (simp only [go_sem, seval, IntKind.bits.eq_def, ti, tin]) | (simp (disch := omega) only [wA]) | refine aL ti_ok ?_ | refine dL ti_ok ?_ | refine dG ?_ | ((first | refine cC ?_ ?_ | refine gS ?_ ?_ | refine dS ?_ ?_) <;> intro hc <;> first | (exfalso; simp only [dcA] at hc; omega) | (simp only [hc]; try simp only [dcA] at hc)) | refine aO ?_ | refine dO ?_)
      all_goals exact fin_same trivial (by have : n ≥ lo := h1; simp [one, this, h2])
  · rw [decide_eq_false (fun h => h1 h.1)]
    repeat' (first | (simp only [go_sem, seval, IntKind.bits.eq_def, ti, tin]) | (simp (disch := omega) only [wA]) | refine aL ti_ok ?_ | refine dL ti_ok ?_ | refine dG ?_ | ((first | refine cC ?_ ?_ | refine gS ?_ ?_ | refine dS ?_ ?_) <;> intro hc <;> first | (exfalso; simp only [dcA] at hc; omega) | (simp only [hc]; try simp only [dcA] at hc)) | refine aO ?_ | refine dO ?_)
    all_goals exact fin_same trivial (by simp [one, h1])
theorem m_clip (n lo hi : Int) : CallOK Tryz.prog gl 53 [.v (.int .i64 n), .v (.int .i64 lo), .v (.int .i64 hi)] (.v (.int .i64 ((min (max n lo) hi)))) := by
  refine call_ok (C := ⟨Tryz.prog, gl, ti, 12, false⟩) ti_ok mixed 3000 Tryz.call53 Tryz.func53 rfl Tryz.ntmps53 (by simp) byClL byCl ?_
  rw [Tryz.results53]
  repeat' (first | (simp only [go_sem, seval, IntKind.bits.eq_def, ti, tin]) | (simp (disch := omega) only [wA]) | refine aL ti_ok ?_ | refine dL ti_ok ?_ | refine dG ?_ | ((first | refine cC ?_ ?_ | refine gS ?_ ?_ | refine dS ?_ ?_) <;> intro hc <;> first | (exfalso; simp only [dcA] at hc; omega) | (simp only [hc]; try simp only [dcA] at hc)) | refine aO ?_ | refine dO ?_)
  exact fin_same trivial rfl
structure Cc (X Y : List Int) (n : Nat) : Prop where
  c : Cv X Y n
  x0 : X.getD 0 0 < 0
  xn : 0 < X.getD (n - 1) 0
  a0 : CallOK Tryz.prog gl 51 [.agg [.sl 1 (rws irow X), .sl 1 (rws irow Y)], .v (.int .i64 0)] (.tup [.v (.int .i64 0), .v .nilIface])
theorem m_check (X Y : List Int) (n : Nat) (h : Cc X Y n) : CallOK Tryz.prog gl 91 [.agg [.sl 1 (rws irow X), .sl 1 (rws irow Y)]] (.v .nilIface) := by
  refine call_ok (C := ⟨Tryz.prog, gl, ti, 68, false⟩) ti_ok mixed 3000 Tryz.call91 Tryz.func91 rfl Tryz.ntmps91 (by simp) byClL byCl ?_
  rw [Tryz.results91]
  obtain ⟨hc, x0, xn, a0⟩ := h
  have c1 := cv_Check X Y n hc
  obtain ⟨hX, hY, h1, h2, bX, bY, oX, oY⟩ := hc
  have en : (n : Int) - 1 = ((n - 1 : Nat) : Int) := by omega
  repeat' (first | (simp only [go_sem, seval, IntKind.bits.eq_def, ti, tin, rws_length, hX, hY, en]) | (simp (disch := omega) only [wA]) | (with_reducible first | refine cF c1 ?_ | refine dF c1 ?_) | refine aL ti_ok ?_ | refine dL ti_ok ?_ | refine dG ?_ | ((first | refine cC ?_ ?_ | refine gS ?_ ?_ | refine dS ?_ ?_) <;> intro hc <;> first | (exfalso; simp only [dcA] at hc; omega) | (simp only [hc]; try simp only [dcA] at hc)) | refine aO ?_ | refine dO ?_)
  refine l_loop (α := Nat) (fun k => ⟨[(1, .p 0 2 0 0), (4, .v (.int .i64 ((n - 1 : Nat)))), (18, .sl 1 (rws irow X)), (19, .v (.int .i64 n)), (20, .v (.int .i64 k))], [(0, ⟨2, [[.sl 1 (rws irow X), .sl 1 (rws irow Y)]]⟩)], 1⟩) (fun k => k ≤ n) (fun k => n - k) (0) _ byFresh (fun _ h => by first | (cases h; done) | exact Nat.le_of_ble_eq_true rfl) ?_ ?_ ?_
  · exact Nat.zero_le _
  · exact byWeak
  rintro k hk
  by_cases hkn : k < n
  · have rx := ig (l := X) (i := k) (by omega)
    have ry := ig (l := Y) (i := k) (by omega)
    have w1 := m_within (X.getD k 0) (-268435456) 268435456
    have w2 := m_within (Y.getD k 0) (-1048576) 1048576
    rw [decide_eq_true (bX k hkn)] at w1
    rw [decide_eq_true (bY k hkn)] at w2
    clear bX bY oX oY a0
    generalize X.getD k 0 = x at *
    generalize Y.getD k 0 = y at *
    repeat' (first | (simp only [go_sem, seval, IntKind.bits.eq_def, ti, tin, rws_length, hX, hY, rx, ry]) | (simp (disch := omega) only [wA]) | (with_reducible first | refine cF w1 ?_ | refine dF w1 ?_ | refine cF w2 ?_ | refine dF w2 ?_) | refine aL ti_ok ?_ | refine dL ti_ok ?_ | refine dG ?_ | ((first | refine cC ?_ ?_ | refine gS ?_ ?_ | refine dS ?_ ?_) <;> intro hc <;> first | (exfalso; simp only [dcA] at hc; omega) | (simp only [hc]; try simp only [dcA] at hc)) | refine aO ?_ | refine dO ?_)
    refine roundEnd_of (α := Nat) (k + 1) (by omega) (by omega) ?_
    exact byWeak
  · obtain rfl : k = n := by omega
    have r0 := ig (l := X) (i := 0) (by omega)
    have rn := ig (l := X) (i := k - 1) (by omega)
    clear bX bY oX oY
    generalize X.getD 0 0 = z0 at *
    generalize X.getD (k - 1) 0 = zn at *
    repeat' (first | (simp only [go_sem, seval, IntKind.bits.eq_def, ti, tin, rws_length, hX, hY, r0, rn]) | (simp (disch := omega) only [wA]) | (with_reducible first | refine cF a0 ?_ | refine dF a0 ?_) | refine aL ti_ok ?_ | refine dL ti_ok ?_ | refine dG ?_ | ((first | refine cC ?_ ?_ | refine gS ?_ ?_ | refine dS ?_ ?_) <;> intro hc <;> first | (exfalso; simp only [dcA] at hc; omega) | (simp only [hc]; try simp only [dcA] at hc)) | refine aO ?_ | refine dO ?_)
    all_goals exact fin_same trivial rfl
theorem m_into (X Y : List Int) (n : Nat) (h : Cv X Y n) (z : Int) : CallOK Tryz.prog gl 92 [.agg [.sl 1 (rws irow X), .sl 1 (rws irow Y)], .v (.int .i64 z)] (.v (.int .i64 ((min (max z (X.getD 0 0)) (X.getD (n - 1) 0))))) := by
  refine call_ok (C := ⟨Tryz.prog, gl, ti, 19, false⟩) ti_ok mixed 3000 Tryz.call92 Tryz.func92 rfl Tryz.ntmps92 (by simp) byClL byCl ?_
  rw [Tryz.results92]
  have hX := h.hX
  have h1 := h.h1
  have h2 := h.h2
  have r0 := ig (l := X) (i := 0) (by omega)
  have rn := ig (l := X) (i := n - 1) (by omega)
  have en : (n : Int) - 1 = ((n - 1 : Nat) : Int) := by omega
  have c1 := m_clip z (X.getD 0 0) (X.getD (n - 1) 0)
  clear h
  generalize X.getD 0 0 = z0 at *
  generalize X.getD (n - 1) 0 = zn at *
  repeat' (first | (simp only [go_sem, seval, IntKind.bits.eq_def, ti, tin, rws_length, hX, r0, rn, en]) | (simp (disch := omega) only [wA]) | (with_reducible first | refine cF c1 ?_ | refine dF c1 ?_) | refine aL ti_ok ?_ | refine dL ti_ok ?_ | refine dG ?_ | ((first | refine cC ?_ ?_ | refine gS ?_ ?_ | refine dS ?_ ?_) <;> intro hc <;> first | (exfalso; simp only [dcA] at hc; omega) | (simp only [hc]; try simp only [dcA] at hc)) | refine aO ?_ | refine dO ?_)
  exact fin_same trivial rfl
structure Mc (R M : Int) (DX DY QX QY : List Int) (P S F : Int) (nd nq : Nat) : Prop where
  r : 0 ≤ R ∧ R ≤ 1048576
  m : 0 ≤ M ∧ M ≤ 268435456
  d : Cc DX DY nd
  q : Cc QX QY nq
  p : 1 ≤ P ∧ P ≤ 64
  s : 1 ≤ S ∧ S ≤ 1099511627776
  f : 0 ≤ F ∧ F ≤ 268435456
theorem m_Check (R M : Int) (DX DY QX QY : List Int) (P S F : Int) (nd nq : Nat) (h : Mc R M DX DY QX QY P S F nd nq) : CallOK Tryz.prog gl 48 [.agg [.v (.int .i64 R), .v (.int .i64 M), .sl 1 (rws irow DX), .sl 1 (rws irow DY), .sl 1 (rws irow QX), .sl 1 (rws irow QY), .v (.int .i64 P), .v (.int .i64 S), .v (.int .i64 F)]] (.v .nilIface) := by
  refine call_ok (C := ⟨Tryz.prog, gl, ti, 45, false⟩) ti_ok mixed 3000 Tryz.call48 Tryz.func48 rfl Tryz.ntmps48 (by simp) byClL byCl ?_
  rw [Tryz.results48]
  obtain ⟨hr, hm, hd, hq, hp, hs, hf⟩ := h
  have w1 := m_within R 0 1048576
  have w2 := m_within M 0 268435456
  have w3 := m_within P 1 64
  have w4 := m_within S 1 1099511627776
  have w5 := m_within F 0 268435456
  rw [decide_eq_true hr] at w1
  rw [decide_eq_true hm] at w2
  rw [decide_eq_true hp] at w3
  rw [decide_eq_true hs] at w4
  rw [decide_eq_true hf] at w5
  have c1 := m_check DX DY nd hd
  have c2 := m_check QX QY nq hq
  clear hd hq
  repeat' (first | (simp only [go_sem, seval, IntKind.bits.eq_def, ti, tin]) | (simp (disch := omega) only [wA]) | (with_reducible first | refine cF w1 ?_ | refine dF w1 ?_ | refine cF w2 ?_ | refine dF w2 ?_ | refine cF w3 ?_ | refine dF w3 ?_ | refine cF w4 ?_ | refine dF w4 ?_ | refine cF w5 ?_ | refine dF w5 ?_ | refine cF c1 ?_ | refine dF c1 ?_ | refine cF c2 ?_ | refine dF c2 ?_) | refine aL ti_ok ?_ | refine dL ti_ok ?_ | refine dG ?_ | ((first | refine cC ?_ ?_ | refine gS ?_ ?_ | refine dS ?_ ?_) <;> intro hc <;> first | (exfalso; simp only [dcA] at hc; omega) | (simp only [hc]; try simp only [dcA] at hc)) | refine aO ?_ | refine dO ?_)
  exact fin_same trivial rfl
theorem m_state (R M : Int) (DX DY QX QY : List Int) (P S F : Int) (nd nq : Nat) (hd : Cv DX DY nd) (hq : Cv QX QY nq) (hm : 0 ≤ M ∧ M ≤ 268435456) (d q : Int) : CallOK Tryz.prog gl 49 [.agg [.v (.int .i64 R), .v (.int .i64 M), .sl 1 (rws irow DX), .sl 1 (rws irow DY), .sl 1 (rws irow QX), .sl 1 (rws irow QY), .v (.int .i64 P), .v (.int .i64 S), .v (.int .i64 F)], .v (.int .i64 d), .v (.int .i64 q)] (.agg [.v (.int .i64 (M + min (max d (DX.getD 0 0)) (DX.getD (nd - 1) 0))), .v (.int .i64 ((min (max q (QX.getD 0 0)) (QX.getD (nq - 1) 0))))]) := by
  refine call_ok (C := ⟨Tryz.prog, gl, ti, 20, false⟩) ti_ok mixed 3000 Tryz.call49 Tryz.func49 rfl Tryz.ntmps49 (by simp) byClL byCl ?_
  rw [Tryz.results49]
  have i1 := m_into DX DY nd hd d
  have i2 := m_into QX QY nq hq q
  have b1 := hd.bX 0 (by have := hd.h1; omega)
  have b2 := hd.bX (nd - 1) (by have := hd.h1; omega)
  have b3 : -9223372036854775808 ≤ M + min (max d (DX.getD 0 0)) (DX.getD (nd - 1) 0) ∧ M + min (max d (DX.getD 0 0)) (DX.getD (nd - 1) 0) ≤ 9223372036854775807 := by omega
  clear hd hq
  generalize min (max d (DX.getD 0 0)) (DX.getD (nd - 1) 0) = a at *
  generalize min (max q (QX.getD 0 0)) (QX.getD (nq - 1) 0) = b at *
  repeat' (first | (simp only [go_sem, seval, IntKind.bits.eq_def, ti, tin]) | (simp (disch := omega) only [wA]) | (with_reducible first | refine cF i1 ?_ | refine dF i1 ?_ | refine cF i2 ?_ | refine dF i2 ?_) | refine aL ti_ok ?_ | refine dL ti_ok ?_ | refine dG ?_ | ((first | refine cC ?_ ?_ | refine gS ?_ ?_ | refine dS ?_ ?_) <;> intro hc <;> first | (exfalso; simp only [dcA] at hc; omega) | (simp only [hc]; try simp only [dcA] at hc)) | refine aO ?_ | refine dO ?_)
  exact fin_same trivial rfl
theorem m_off (R M : Int) (DX DY QX QY : List Int) (P S F : Int) (nd nq : Nat) (hd : Cv DX DY nd) (hq : Cv QX QY nq) (hm : 0 ≤ M ∧ M ≤ 268435456) (d q : Int) (h1 : -1073741824 ≤ d ∧ d ≤ 1073741824) (h2 : -1073741824 ≤ q ∧ q ≤ 1073741824) (h3 : DX.getD 0 0 ≤ d - M ∧ d - M ≤ DX.getD (nd - 1) 0) (h4 : QX.getD 0 0 ≤ q ∧ q ≤ QX.getD (nq - 1) 0) : CallOK Tryz.prog gl 50 [.agg [.v (.int .i64 R), .v (.int .i64 M), .sl 1 (rws irow DX), .sl 1 (rws irow DY), .sl 1 (rws irow QX), .sl 1 (rws irow QY), .v (.int .i64 P), .v (.int .i64 S), .v (.int .i64 F)], .agg [.v (.int .i64 d), .v (.int .i64 q)]] (.tup [.v (.int .i64 (d - M)), .v (.int .i64 q)]) := by
  refine call_ok (C := ⟨Tryz.prog, gl, ti, 22, false⟩) ti_ok mixed 3000 Tryz.call50 Tryz.func50 rfl Tryz.ntmps50 (by simp) byClL byCl ?_
  rw [Tryz.results50]
  have k1 := m_clip d (-1073741824) 1073741824
  have k2 := m_clip q (-1073741824) 1073741824
  rw [show min (max d (-1073741824)) 1073741824 = d by omega] at k1
  rw [show min (max q (-1073741824)) 1073741824 = q by omega] at k2
  have i1 := m_into DX DY nd hd (d - M)
  have i2 := m_into QX QY nq hq q
  rw [show min (max (d - M) (DX.getD 0 0)) (DX.getD (nd - 1) 0) = d - M by omega] at i1
  rw [show min (max q (QX.getD 0 0)) (QX.getD (nq - 1) 0) = q by omega] at i2
  clear hd hq h3 h4
  repeat' (first | (simp only [go_sem, seval, IntKind.bits.eq_def, ti, tin]) | (simp (disch := omega) only [wA]) | (with_reducible first | refine cF k1 ?_ | refine dF k1 ?_ | refine cF k2 ?_ | refine dF k2 ?_ | refine cF i1 ?_ | refine dF i1 ?_ | refine cF i2 ?_ | refine dF i2 ?_) | refine aL ti_ok ?_ | refine dL ti_ok ?_ | refine dG ?_ | ((first | refine cC ?_ ?_ | refine gS ?_ ?_ | refine dS ?_ ?_) <;> intro hc <;> first | (exfalso; simp only [dcA] at hc; omega) | (simp only [hc]; try simp only [dcA] at hc)) | refine aO ?_ | refine dO ?_)
  exact fin_same trivial rfl
end Go.Proofs.YtfmgfjmfogmeeaaGreatDoor
