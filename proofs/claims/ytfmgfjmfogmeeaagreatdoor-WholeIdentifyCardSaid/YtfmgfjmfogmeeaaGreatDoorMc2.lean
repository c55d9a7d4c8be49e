/- The functions of the layers 34 and 38 (pi, servo) and of their references do what plain functions say. -/
import Derived.Test.YtfmgfjmfogmeeaaGreatDoorTy
import Derived.Test.YtfmgfjmfogmeeaaGreatDoorU2
import Derived.Test.YtfmgfjmfogmeeaaGreatDoorMc1
set_option linter.unusedSimpArgs false
set_option linter.unusedVariables false
set_option linter.deprecated false
namespace Go.Proofs.YtfmgfjmfogmeeaaGreatDoor
open Go Go.Ax
set_option maxRecDepth 100000
set_option maxHeartbeats 2000000
theorem base_Clip (x lo hi : Int) : CallOK Tryz.prog gl 18 [.v (.int .i64 x), .v (.int .i64 lo), .v (.int .i64 hi)] (.v (.int .i64 (clip x lo hi))) := by
  refine call_ok (C := ⟨Tryz.prog, gl, ti, 12, false⟩) ti_ok mixed 3000 Tryz.call18 Tryz.func18 rfl Tryz.ntmps18 (by simp) byClL byCl ?_
  rw [Tryz.results18]
  repeat' (first | (simp only [go_sem, seval, IntKind.bits.eq_def, ti, tin]) | (simp (disch := omega) only [wA]) | refine aL ti_ok ?_ | refine dL ti_ok ?_ | refine dG ?_ | ((first | refine cC ?_ ?_ | refine gS ?_ ?_ | refine dS ?_ ?_) <;> intro hc <;> first | (exfalso; simp only [dcA] at hc; omega) | (simp only [hc]; try simp only [dcA] at hc)) | refine aO ?_ | refine dO ?_)
  exact fin_same trivial rfl
end Go.Proofs.YtfmgfjmfogmeeaaGreatDoor
/- The layers 5 to 7 (angle, sine, arctan) and their references, as layer 39 uses them. -/
set_option linter.unusedSimpArgs false
set_option linter.unusedVariables false
set_option linter.deprecated false
namespace Go.Proofs.YtfmgfjmfogmeeaaGreatDoor
open Go Go.Ax
set_option maxRecDepth 100000
set_option maxHeartbeats 4000000
theorem ang_Norm (x : Int) : CallOK Tryz.prog gl 138 [.v (.int .i64 x)] (.v (.int .i64 (x % 65536))) := by
  refine call_ok (C := ⟨Tryz.prog, gl, ti, 5, false⟩) ti_ok mixed 3000 Tryz.call138 Tryz.func138 rfl Tryz.ntmps138 (by simp) byClL byCl ?_
  rw [Tryz.results138]
  repeat' (first | (simp only [go_sem, seval, IntKind.bits.eq_def, ti, tin, and_16]) | (simp (disch := omega) only [wA]) | refine aL ti_ok ?_ | refine dL ti_ok ?_ | refine dG ?_ | ((first | refine cC ?_ ?_ | refine gS ?_ ?_ | refine dS ?_ ?_) <;> intro hc <;> first | (exfalso; simp only [dcA] at hc; omega) | (simp only [hc]; try simp only [dcA] at hc)) | refine aO ?_ | refine dO ?_)
  exact fin_same trivial rfl
def sinT : List Int := [0, 804, 1607, 2410, 3211, 4011, 4808, 5602, 6392, 7179, 7961, 8739, 9512, 10278, 11039, 11793,
  12539, 13278, 14010, 14732, 15446, 16151, 16846, 17530, 18204, 18868, 19519, 20159, 20787, 21403, 22005, 22594,
  23170, 23732, 24279, 24812, 25330, 25832, 26319, 26790, 27245, 27684, 28106, 28511, 28898, 29269, 29621, 29956,
  30273, 30572, 30852, 31114, 31357, 31581, 31785, 31971, 32138, 32285, 32413, 32521, 32610, 32679, 32728, 32758, 32768]
def sinA (k : Nat) : Int := sinT.getD k 0
theorem sinA_bd (k : Nat) : 0 ≤ sinA k ∧ sinA k ≤ 32768 := by
  have h : ∀ x ∈ sinT, 0 ≤ x ∧ x ≤ 32768 := by decide
  unfold sinA
  by_cases hk : k < sinT.length
  · rw [getD_in hk]; exact h _ (List.getElem_mem hk)
  · rw [getD_out (by omega)]; omega
theorem sinT_row {k : Nat} (h : k < 65) : (i64s sinT).getD k [] = [.v (.int .i64 (sinA k))] := i64s_getD (by exact h)
theorem sinT_len : (i64s sinT).length = 65 := by rw [i64s_length]; rfl
theorem sine_Table  : CallOK Tryz.prog gl 178 [] (.sl 1 (i64s sinT)) := by
  refine call_ok (C := ⟨Tryz.prog, gl, ti, 2, false⟩) ti_ok mixed 3000 Tryz.call178 Tryz.func178 rfl Tryz.ntmps178 (by simp) byClL byCl ?_
  rw [Tryz.results178]
  repeat' (first | (simp only [go_sem, seval, IntKind.bits.eq_def, ti, tin]) | (simp (disch := omega) only [wA]) | refine aL ti_ok ?_ | refine dL ti_ok ?_ | refine dG ?_ | ((first | refine cC ?_ ?_ | refine gS ?_ ?_ | refine dS ?_ ?_) <;> intro hc <;> first | (exfalso; simp only [dcA] at hc; omega) | (simp only [hc]; try simp only [dcA] at hc)) | refine aO ?_ | refine dO ?_)
  exact fin_same trivial rfl
def sinF (a : Nat) : Int := (256 * sinA (a / 256) + (sinA (a / 256 + 1) - sinA (a / 256)) * ((a % 256 : Nat) : Int)) / 256
def cosF (a : Nat) : Int := (256 * sinA (64 - a / 256) - (sinA (64 - a / 256) - sinA (63 - a / 256)) * ((a % 256 : Nat) : Int)) / 256
theorem mix_bd {s t f : Int} (hs : 0 ≤ s ∧ s ≤ 32768) (ht : 0 ≤ t ∧ t ≤ 32768) (hf : 0 ≤ f ∧ f ≤ 255) : 0 ≤ 256 * s + (t - s) * f ∧ 256 * s + (t - s) * f ≤ 8388608 ∧ -8388608 ≤ (t - s) * f ∧ (t - s) * f ≤ 8388608 ∧ s * (256 - f) + t * f = 256 * s + (t - s) * f ∧ 0 ≤ s * (256 - f) ∧ 0 ≤ t * f ∧ s * (256 - f) ≤ 8388608 ∧ t * f ≤ 8388608 := by
  have h1 : 0 ≤ s * (256 - f) := Int.mul_nonneg hs.1 (by omega)
  have h2 : 0 ≤ t * f := Int.mul_nonneg ht.1 hf.1
  have h3 : s * (256 - f) ≤ 32768 * (256 - f) := Int.mul_le_mul_of_nonneg_right hs.2 (by omega)
  have h4 : t * f ≤ 32768 * f := Int.mul_le_mul_of_nonneg_right ht.2 hf.1
  have h5 : s * f ≤ 32768 * f := Int.mul_le_mul_of_nonneg_right hs.2 hf.1
  have h6 : 0 ≤ s * f := Int.mul_nonneg hs.1 hf.1
  have e1 : s * (256 - f) = 256 * s - s * f := by rw [Int.mul_sub]; omega
  have e2 : (t - s) * f = t * f - s * f := Int.sub_mul ..
  omega
theorem mix_neg {s t f : Int} : 256 * s - (s - t) * f = 256 * s + (t - s) * f := by
  have e1 : (s - t) * f = s * f - t * f := Int.sub_mul ..
  have e2 : (t - s) * f = t * f - s * f := Int.sub_mul ..
  omega
theorem sinF_bd (a : Nat) : 0 ≤ sinF a ∧ sinF a ≤ 32768 := by
  have := mix_bd (sinA_bd (a / 256)) (sinA_bd (a / 256 + 1)) (f := ((a % 256 : Nat) : Int)) (by omega)
  unfold sinF; omega
theorem cosF_bd (a : Nat) : 0 ≤ cosF a ∧ cosF a ≤ 32768 := by
  have := mix_bd (sinA_bd (64 - a / 256)) (sinA_bd (63 - a / 256)) (f := ((a % 256 : Nat) : Int)) (by omega)
  unfold cosF; rw [mix_neg]; omega
theorem sine_first (a : Nat) (h : a < 16384) : CallOK Tryz.prog gl 139 [.v (.int .i64 a)] (.tup [.v (.int .i64 (cosF a)), .v (.int .i64 (sinF a))]) := by
  refine call_ok (C := ⟨Tryz.prog, gl, ti, 56, false⟩) ti_ok mixed 3000 Tryz.call139 Tryz.func139 rfl Tryz.ntmps139 (by simp) byClL byCl ?_
  rw [Tryz.results139]
  have e1 : (a : Int).tdiv 256 = ((a / 256 : Nat) : Int) := by rw [tdiv_nn (by omega)]; rfl
  have e2 : (a : Int).tmod 256 = ((a % 256 : Nat) : Int) := by rw [tmod_nn (by omega)]; rfl
  have hk : a / 256 < 64 := by omega
  have hf : a % 256 < 256 := by omega
  have e3 : ((a / 256 : Nat) : Int) + 1 = ((a / 256 + 1 : Nat) : Int) := rfl
  have e4 : (64 : Int) - ((a / 256 : Nat) : Int) = ((64 - a / 256 : Nat) : Int) := by omega
  have e5 : (63 : Int) - ((a / 256 : Nat) : Int) = ((63 - a / 256 : Nat) : Int) := by omega
  have r1 := sinT_row (k := a / 256) (by omega)
  have r2 := sinT_row (k := a / 256 + 1) (by omega)
  have r3 := sinT_row (k := 64 - a / 256) (by omega)
  have r4 := sinT_row (k := 63 - a / 256) (by omega)
  have b1 := sinA_bd (a / 256)
  have b2 := sinA_bd (a / 256 + 1)
  have b3 := sinA_bd (64 - a / 256)
  have b4 := sinA_bd (63 - a / 256)
  have m1 := mix_bd b1 b2 (f := ((a % 256 : Nat) : Int)) (by omega)
  have m2 := mix_bd b3 b4 (f := ((a % 256 : Nat) : Int)) (by omega)
  have m3 := mix_neg (s := sinA (64 - a / 256)) (t := sinA (63 - a / 256)) (f := ((a % 256 : Nat) : Int))
  have e6 : (256 * sinA (a / 256) + (sinA (a / 256 + 1) - sinA (a / 256)) * ((a % 256 : Nat) : Int)).tdiv 256 = sinF a := tdiv_nn (by omega)
  have e7 : (256 * sinA (64 - a / 256) - (sinA (64 - a / 256) - sinA (63 - a / 256)) * ((a % 256 : Nat) : Int)).tdiv 256 = cosF a := tdiv_nn (by omega)
  have c1 := sinF_bd a
  have c2 := cosF_bd a
  repeat' (first | (simp only [go_sem, seval, IntKind.bits.eq_def, ti, tin, e1, e2, e3, e4, e5, r1, r2, r3, r4, sinT_len, e6, e7]) | (simp (disch := omega) only [wA]) | (with_reducible first | refine cF sine_Table ?_ | refine dF sine_Table ?_) | refine aL ti_ok ?_ | refine dL ti_ok ?_ | refine dG ?_ | ((first | refine cC ?_ ?_ | refine gS ?_ ?_ | refine dS ?_ ?_) <;> intro hc <;> first | (exfalso; simp only [dcA] at hc; omega) | (simp only [hc]; try simp only [dcA] at hc)) | refine aO ?_ | refine dO ?_)
  exact fin_same trivial rfl
theorem sine_Both (a : Nat) (h : a < 16384) : CallOK Tryz.prog gl 95 [.v (.int .i64 a)] (.tup [.v (.int .i64 (cosF a)), .v (.int .i64 (sinF a))]) := by
  refine call_ok (C := ⟨Tryz.prog, gl, ti, 32, false⟩) ti_ok mixed 3000 Tryz.call95 Tryz.func95 rfl Tryz.ntmps95 (by simp) byClL byCl ?_
  rw [Tryz.results95]
  have e1 : (a : Int) % 65536 = (a : Int) := by omega
  have e2 : (a : Int).tmod 16384 = (a : Int) := by rw [tmod_nn (by omega)]; omega
  have e3 : (a : Int).tdiv 16384 = 0 := by rw [tdiv_nn (by omega)]; omega
  repeat' (first | (simp only [go_sem, seval, IntKind.bits.eq_def, ti, tin, e1, e2, e3]) | (simp (disch := omega) only [wA]) | (with_reducible first | refine cF (ang_Norm _) ?_ | refine dF (ang_Norm _) ?_ | refine cF (sine_first _ h) ?_ | refine dF (sine_first _ h) ?_) | refine aL ti_ok ?_ | refine dL ti_ok ?_ | refine dG ?_ | ((first | refine cC ?_ ?_ | refine gS ?_ ?_ | refine dS ?_ ?_) <;> intro hc <;> first | (exfalso; simp only [dcA] at hc; omega) | (simp only [hc]; try simp only [dcA] at hc)) | refine aO ?_ | refine dO ?_)
  exact fin_same trivial rfl
end Go.Proofs.YtfmgfjmfogmeeaaGreatDoor
/- Layer 26 (machine): a tick of a machine at rest. -/
set_option linter.unusedSimpArgs false
set_option linter.unusedVariables false
set_option linter.deprecated false
namespace Go.Proofs.YtfmgfjmfogmeeaaGreatDoor
open Go Go.Ax
set_option maxRecDepth 100000
set_option maxHeartbeats 4000000
theorem pk_Turn (x y : Int) (hx : -1099511627776 ≤ x ∧ x ≤ 1099511627776) (hy : -1099511627776 ≤ y ∧ y ≤ 1099511627776) : CallOK Tryz.prog gl 52 [.v (.int .i64 x), .v (.int .i64 y), .v (.int .i64 0)] (.tup [.v (.int .i64 x), .v (.int .i64 y), .v .nilIface]) := by
  refine call_ok (C := ⟨Tryz.prog, gl, ti, 47, false⟩) ti_ok mixed 3000 Tryz.call52 Tryz.func52 rfl Tryz.ntmps52 (by simp) byClL byCl ?_
  rw [Tryz.results52]
  have b := sine_Both 0 (by omega)
  rw [show cosF 0 = 32768 by decide +kernel, show sinF 0 = 0 by decide +kernel] at b
  have b : CallOK _ _ _ [.v (.int .i64 0)] _ := b
  have e1 : (32768 * x).tdiv 32768 = x := by rw [Int.mul_comm]; exact Int.mul_tdiv_cancel _ (by decide)
  have e2 : (32768 * y).tdiv 32768 = y := by rw [Int.mul_comm]; exact Int.mul_tdiv_cancel _ (by decide)
  repeat' (first | (simp only [go_sem, seval, IntKind.bits.eq_def, ti, tin, Int.zero_mul, Int.sub_zero, Int.zero_add, e1, e2]) | (simp (disch := omega) only [wA]) | (with_reducible first | refine cF b ?_ | refine dF b ?_) | refine aL ti_ok ?_ | refine dL ti_ok ?_ | refine dG ?_ | ((first | refine cC ?_ ?_ | refine gS ?_ ?_ | refine dS ?_ ?_) <;> intro hc <;> first | (exfalso; simp only [dcA] at hc; omega) | (simp only [hc]; try simp only [dcA] at hc)) | refine aO ?_ | refine dO ?_)
  all_goals exact fin_same trivial rfl
theorem m_Start (R M : Int) (DX DY QX QY : List Int) (P S F : Int) (nd nq : Nat) (h : Mc R M DX DY QX QY P S F nd nq) : CallOK Tryz.prog gl 17 [.agg [.v (.int .i64 R), .v (.int .i64 M), .sl 1 (rws irow DX), .sl 1 (rws irow DY), .sl 1 (rws irow QX), .sl 1 (rws irow QY), .v (.int .i64 P), .v (.int .i64 S), .v (.int .i64 F)]] (.tup [.agg [.v (.int .i64 M), .v (.int .i64 0)], .v .nilIface]) := by
  refine call_ok (C := ⟨Tryz.prog, gl, ti, 13, false⟩) ti_ok mixed 3000 Tryz.call17 Tryz.func17 rfl Tryz.ntmps17 (by simp) byClL byCl ?_
  rw [Tryz.results17]
  have c1 := m_Check R M DX DY QX QY P S F nd nq h
  have c2 := m_state R M DX DY QX QY P S F nd nq h.d.c h.q.c h.m 0 0
  have x0 := h.d.x0
  have xn := h.d.xn
  have y0 := h.q.x0
  have yn := h.q.xn
  rw [show M + min (max 0 (DX.getD 0 0)) (DX.getD (nd - 1) 0) = M by omega, show min (max 0 (QX.getD 0 0)) (QX.getD (nq - 1) 0) = 0 by omega] at c2
  clear h x0 xn y0 yn
  repeat' (first | (simp only [go_sem, seval, IntKind.bits.eq_def, ti, tin]) | (simp (disch := omega) only [wA]) | (with_reducible first | refine cF c1 ?_ | refine dF c1 ?_ | refine cF c2 ?_ | refine dF c2 ?_) | refine aL ti_ok ?_ | refine dL ti_ok ?_ | refine dG ?_ | ((first | refine cC ?_ ?_ | refine gS ?_ ?_ | refine dS ?_ ?_) <;> intro hc <;> first | (exfalso; simp only [dcA] at hc; omega) | (simp only [hc]; try simp only [dcA] at hc)) | refine aO ?_ | refine dO ?_)
  exact fin_same trivial rfl
structure Ms (M : Int) (DX QX : List Int) (nd nq : Nat) (d q : Int) : Prop where
  d1 : -1073741824 ≤ d ∧ d ≤ 1073741824
  q1 : -1073741824 ≤ q ∧ q ≤ 1073741824
  d2 : DX.getD 0 0 ≤ d - M ∧ d - M ≤ DX.getD (nd - 1) 0
  q2 : QX.getD 0 0 ≤ q ∧ q ≤ QX.getD (nq - 1) 0
theorem m_Currents (R M : Int) (DX DY QX QY : List Int) (P S F : Int) (nd nq : Nat) (h : Mc R M DX DY QX QY P S F nd nq) (d q : Int) (hs : Ms M DX QX nd nq d q) (x y : Int) (hx : CallOK Tryz.prog gl 51 [.agg [.sl 1 (rws irow DX), .sl 1 (rws irow DY)], .v (.int .i64 (d - M))] (.tup [.v (.int .i64 x), .v .nilIface])) (hy : CallOK Tryz.prog gl 51 [.agg [.sl 1 (rws irow QX), .sl 1 (rws irow QY)], .v (.int .i64 q)] (.tup [.v (.int .i64 y), .v .nilIface])) : CallOK Tryz.prog gl 19 [.agg [.v (.int .i64 R), .v (.int .i64 M), .sl 1 (rws irow DX), .sl 1 (rws irow DY), .sl 1 (rws irow QX), .sl 1 (rws irow QY), .v (.int .i64 P), .v (.int .i64 S), .v (.int .i64 F)], .agg [.v (.int .i64 d), .v (.int .i64 q)]] (.tup [.agg [.v (.int .i64 x), .v (.int .i64 y)], .v .nilIface]) := by
  refine call_ok (C := ⟨Tryz.prog, gl, ti, 50, false⟩) ti_ok mixed 3000 Tryz.call19 Tryz.func19 rfl Tryz.ntmps19 (by simp) byClL byCl ?_
  rw [Tryz.results19]
  have c1 := m_Check R M DX DY QX QY P S F nd nq h
  have c2 := m_off R M DX DY QX QY P S F nd nq h.d.c h.q.c h.m d q hs.d1 hs.q1 hs.d2 hs.q2
  clear h hs
  repeat' (first | (simp only [go_sem, seval, IntKind.bits.eq_def, ti, tin]) | (simp (disch := omega) only [wA]) | (with_reducible first | refine cF c1 ?_ | refine dF c1 ?_ | refine cF c2 ?_ | refine dF c2 ?_ | refine cF hx ?_ | refine dF hx ?_ | refine cF hy ?_ | refine dF hy ?_) | refine aL ti_ok ?_ | refine dL ti_ok ?_ | refine dG ?_ | ((first | refine cC ?_ ?_ | refine gS ?_ ?_ | refine dS ?_ ?_) <;> intro hc <;> first | (exfalso; simp only [dcA] at hc; omega) | (simp only [hc]; try simp only [dcA] at hc)) | refine aO ?_ | refine dO ?_)
  exact fin_same trivial rfl
theorem m_Step (R M : Int) (DX DY QX QY : List Int) (P S F : Int) (nd nq : Nat) (h : Mc R M DX DY QX QY P S F nd nq) (d q : Int) (hs : Ms M DX QX nd nq d q) (x y : Int) (hx : CallOK Tryz.prog gl 51 [.agg [.sl 1 (rws irow DX), .sl 1 (rws irow DY)], .v (.int .i64 (d - M))] (.tup [.v (.int .i64 x), .v .nilIface])) (hy : CallOK Tryz.prog gl 51 [.agg [.sl 1 (rws irow QX), .sl 1 (rws irow QY)], .v (.int .i64 q)] (.tup [.v (.int .i64 y), .v .nilIface])) (bx : -1048576 ≤ x ∧ x ≤ 1048576) (by' : -1048576 ≤ y ∧ y ≤ 1048576) (u v : Int) (hu : -1048576 ≤ u ∧ u ≤ 1048576) (hv : -1048576 ≤ v ∧ v ≤ 1048576) : CallOK Tryz.prog gl 20 [.agg [.v (.int .i64 R), .v (.int .i64 M), .sl 1 (rws irow DX), .sl 1 (rws irow DY), .sl 1 (rws irow QX), .sl 1 (rws irow QY), .v (.int .i64 P), .v (.int .i64 S), .v (.int .i64 F)], .agg [.v (.int .i64 d), .v (.int .i64 q)], .agg [.v (.int .i64 u), .v (.int .i64 v), .v (.int .i64 0)]] (.tup [.agg [.v (.int .i64 (M + min (max (d + (u - (R * x).tdiv 1000) - M) (DX.getD 0 0)) (DX.getD (nd - 1) 0))), .v (.int .i64 ((min (max (q + (v - (R * y).tdiv 1000)) (QX.getD 0 0)) (QX.getD (nq - 1) 0))))], .v .nilIface]) := by
  refine call_ok (C := ⟨Tryz.prog, gl, ti, 79, false⟩) ti_ok mixed 3000 Tryz.call20 Tryz.func20 rfl Tryz.ntmps20 (by simp) byClL byCl ?_
  rw [Tryz.results20]
  have c1 := m_Currents R M DX DY QX QY P S F nd nq h d q hs x y hx hy
  have c2 := m_off R M DX DY QX QY P S F nd nq h.d.c h.q.c h.m d q hs.d1 hs.q1 hs.d2 hs.q2
  have c3 := pk_Turn d q (by have := hs.d1; omega) (by have := hs.q1; omega)
  have c4 := m_state R M DX DY QX QY P S F nd nq h.d.c h.q.c h.m (d + (u - (R * x).tdiv 1000) - M) (q + (v - (R * y).tdiv 1000))
  have k1 := m_clip u (-1048576) 1048576
  have k2 := m_clip v (-1048576) 1048576
  rw [show min (max u (-1048576)) 1048576 = u by omega] at k1
  rw [show min (max v (-1048576)) 1048576 = v by omega] at k2
  have e1 : M + (d - M) = d := by omega
  have hR := h.r
  have hM := h.m
  have d1 := hs.d1
  have q1 := hs.q1
  have m1 := Int.natAbs_mul R x
  have m2 := Int.natAbs_mul R y
  have m3 := Nat.mul_le_mul (show R.natAbs ≤ 1048576 by omega) (show x.natAbs ≤ 1048576 by omega)
  have m4 := Nat.mul_le_mul (show R.natAbs ≤ 1048576 by omega) (show y.natAbs ≤ 1048576 by omega)
  have t1 : ((R * x).tdiv 1000).natAbs = (R * x).natAbs / (1000 : Int).natAbs := Int.natAbs_tdiv _ _
  have t2 : ((R * y).tdiv 1000).natAbs = (R * y).natAbs / (1000 : Int).natAbs := Int.natAbs_tdiv _ _
  have t3 := Nat.div_le_self (R * x).natAbs (1000 : Int).natAbs
  have t4 := Nat.div_le_self (R * y).natAbs (1000 : Int).natAbs
  generalize min (max (d + (u - (R * x).tdiv 1000) - M) (DX.getD 0 0)) (DX.getD (nd - 1) 0) = s1 at *
  generalize min (max (q + (v - (R * y).tdiv 1000)) (QX.getD 0 0)) (QX.getD (nq - 1) 0) = s2 at *
  have u1 : ((R * x).tdiv 1000).natAbs ≤ 1099511627776 := by omega
  have u2 : ((R * y).tdiv 1000).natAbs ≤ 1099511627776 := by omega
  have u3 : (R * x).natAbs ≤ 1099511627776 := by omega
  have u4 : (R * y).natAbs ≤ 1099511627776 := by omega
  clear m1 m2 m3 m4 t1 t2 t3 t4 h hs hx hy
  generalize hp : R * x = p at *
  generalize hr : R * y = r at *
  generalize hp2 : p.tdiv 1000 = p' at *
  generalize hr2 : r.tdiv 1000 = r' at *
  repeat' (first | (simp only [go_sem, seval, IntKind.bits.eq_def, ti, tin, e1, hp, hr, hp2, hr2]) | (simp (disch := omega) only [wA]) | (with_reducible first | refine cF c1 ?_ | refine dF c1 ?_ | refine cF c2 ?_ | refine dF c2 ?_ | refine cF c3 ?_ | refine dF c3 ?_ | refine cF c4 ?_ | refine dF c4 ?_ | refine cF k1 ?_ | refine dF k1 ?_ | refine cF k2 ?_ | refine dF k2 ?_) | refine aL ti_ok ?_ | refine dL ti_ok ?_ | refine dG ?_ | ((first | refine cC ?_ ?_ | refine gS ?_ ?_ | refine dS ?_ ?_) <;> intro hc <;> first | (exfalso; simp only [dcA] at hc; omega) | (simp only [hc]; try simp only [dcA] at hc)) | refine aO ?_ | refine dO ?_)
  exact fin_same trivial rfl
end Go.Proofs.YtfmgfjmfogmeeaaGreatDoor
