/- The plain arithmetic of the reference (ref02), part 7: sums and orders. -/
import Derived.Test.YtfmgfjmfogmeeaaGreatDoorRef6
import Derived.Test.YtfmgfjmfogmeeaaGreatDoorU2
import Derived.Test.YtfmgfjmfogmeeaaGreatDoorNum
import Derived.Test.YtfmgfjmfogmeeaaGreatDoorU3
set_option linter.unusedSimpArgs false
set_option linter.unusedVariables false
set_option linter.deprecated false
namespace Go.Proofs.YtfmgfjmfogmeeaaGreatDoor
open Go Go.Ax
set_option maxRecDepth 100000
set_option maxHeartbeats 4000000
theorem ref_num (s : Bool) (ws : List Nat) (den : Int) (hW : Wd ws) (hl : ws.length ≤ 1099511627776) (h0 : 0 ≤ den) (h1 : den ≤ 549755813888) : CallOK Tryz.prog gl 150 [.v (.bool s), .sl 1 (u32s ws), .v (.int .i64 den)] (.agg [.v (.bool (sg (nrm (sgn s (val ws)) den.toNat))), .sl 1 (u32s (ms (nrm (sgn s (val ws)) den.toNat))), .v (.int .i64 (dn (nrm (sgn s (val ws)) den.toNat)))]) := by
  obtain ⟨e, rfl⟩ : ∃ e : Nat, den = e := ⟨den.toNat, by omega⟩
  rw [Int.toNat_natCast]
  exact ref_number s ws e hW hl (by omega)
theorem ref_Norm (s : Bool) (ws : List Nat) (d : Int) (x : Dy) (h : Arg s ws d x) : CallOK Tryz.prog gl 12 [.agg [.v (.bool s), .sl 1 (u32s ws), .v (.int .i64 d)]] (.agg [.v (.bool (sg (x))), .sl 1 (u32s (ms (x))), .v (.int .i64 (dn (x)))]) := by
  refine call_ok (C := ⟨Tryz.prog, gl, ti, 7, false⟩) ti_ok mixed 3000 Tryz.call12 Tryz.func12 rfl Tryz.ntmps12 (by simp) byClL byCl ?_
  rw [Tryz.results12]
  have va := ref_Valid s ws d (by have := h.len; omega)
  rcases h.is with ⟨hv, rfl, h2, rfl⟩ | ⟨hv, rfl⟩
  · subst h2
    rw [hv] at va
    repeat' (first | (simp only [go_sem, seval, IntKind.bits.eq_def, ti, tin]) | (simp (disch := omega) only [wA]) | (with_reducible first | refine cF va ?_ | refine dF va ?_) | refine aL ti_ok ?_ | refine dL ti_ok ?_ | refine dG ?_ | ((first | refine cC ?_ ?_ | refine gS ?_ ?_ | refine dS ?_ ?_) <;> intro hc <;> first | (exfalso; simp only [dcA] at hc; omega) | (simp only [hc]; try simp only [dcA] at hc)) | refine aO ?_ | refine dO ?_)
    exact fin_same trivial rfl
  · rw [hv] at va
    repeat' (first | (simp only [go_sem, seval, IntKind.bits.eq_def, ti, tin]) | (simp (disch := omega) only [wA]) | (with_reducible first | refine cF va ?_ | refine dF va ?_) | refine aL ti_ok ?_ | refine dL ti_ok ?_ | refine dG ?_ | ((first | refine cC ?_ ?_ | refine gS ?_ ?_ | refine dS ?_ ?_) <;> intro hc <;> first | (exfalso; simp only [dcA] at hc; omega) | (simp only [hc]; try simp only [dcA] at hc)) | refine aO ?_ | refine dO ?_)
    exact fin_le trivial Le.dy0
theorem ref_Norm' (x : Dy) (h : (ms x).length ≤ 4611686018427387904) : CallOK Tryz.prog gl 12 [.agg [.v (.bool (sg (x))), .sl 1 (u32s (ms (x))), .v (.int .i64 (dn (x)))]] (.agg [.v (.bool (sg (x))), .sl 1 (u32s (ms (x))), .v (.int .i64 (dn (x)))]) := by
  refine call_ok (C := ⟨Tryz.prog, gl, ti, 7, false⟩) ti_ok mixed 3000 Tryz.call12 Tryz.func12 rfl Tryz.ntmps12 (by simp) byClL byCl ?_
  rw [Tryz.results12]
  have va := ref_Valid (sg x) (ms x) (dn x) h
  rw [valid_of] at va
  repeat' (first | (simp only [go_sem, seval, IntKind.bits.eq_def, ti, tin]) | (simp (disch := omega) only [wA]) | (with_reducible first | refine cF va ?_ | refine dF va ?_) | refine aL ti_ok ?_ | refine dL ti_ok ?_ | refine dG ?_ | ((first | refine cC ?_ ?_ | refine gS ?_ ?_ | refine dS ?_ ?_) <;> intro hc <;> first | (exfalso; simp only [dcA] at hc; omega) | (simp only [hc]; try simp only [dcA] at hc)) | refine aO ?_ | refine dO ?_)
  exact fin_same trivial rfl
theorem ref_Neg (s : Bool) (ws : List Nat) (d : Int) (x : Dy) (h : Arg s ws d x) : CallOK Tryz.prog gl 105 [.agg [.v (.bool s), .sl 1 (u32s ws), .v (.int .i64 d)]] (.agg [.v (.bool (sg (x.neg))), .sl 1 (u32s (ms (x.neg))), .v (.int .i64 (dn (x.neg)))]) := by
  refine call_ok (C := ⟨Tryz.prog, gl, ti, 13, false⟩) ti_ok mixed 3000 Tryz.call105 Tryz.func105 rfl Tryz.ntmps105 (by simp) byClL byCl ?_
  rw [Tryz.results105]
  have pa := ref_Norm s ws d x h
  have hl := h.mlen
  have hd := dn_nn x
  have rs := ref_num (!sg x) (ms x) (dn x) (ms_wd x) (by omega) (by omega) (by omega)
  rw [res_neg] at rs
  repeat' (first | (simp only [go_sem, seval, IntKind.bits.eq_def, ti, tin]) | (simp (disch := omega) only [wA]) | (with_reducible first | refine cF pa ?_ | refine dF pa ?_ | refine cF rs ?_ | refine dF rs ?_) | refine aL ti_ok ?_ | refine dL ti_ok ?_ | refine dG ?_ | ((first | refine cC ?_ ?_ | refine gS ?_ ?_ | refine dS ?_ ?_) <;> intro hc <;> first | (exfalso; simp only [dcA] at hc; omega) | (simp only [hc]; try simp only [dcA] at hc)) | refine aO ?_ | refine dO ?_)
  exact fin_same trivial rfl
theorem ref_Sign' (x : Dy) (h : (ms x).length ≤ 4611686018427387904) : CallOK Tryz.prog gl 61 [.agg [.v (.bool (sg (x))), .sl 1 (u32s (ms (x))), .v (.int .i64 (dn (x)))]] (.v (.int .i64 x.sign)) := by
  refine call_ok (C := ⟨Tryz.prog, gl, ti, 11, false⟩) ti_ok mixed 3000 Tryz.call61 Tryz.func61 rfl Tryz.ntmps61 (by simp) byClL byCl ?_
  rw [Tryz.results61]
  have pa := ref_Norm' x h
  rw [sign_sg]
  by_cases h0 : x.n = 0
  · have h1 : (ms x).length = 0 := by show (words x.n.natAbs).length = 0; rw [h0, Int.natAbs_zero, words_zero]; rfl
    rw [if_pos h0]
    repeat' (first | (simp only [go_sem, seval, IntKind.bits.eq_def, ti, tin, u32s_length, h1]) | (simp (disch := omega) only [wA]) | (with_reducible first | refine cF pa ?_ | refine dF pa ?_) | refine aL ti_ok ?_ | refine dL ti_ok ?_ | refine dG ?_ | ((first | refine cC ?_ ?_ | refine gS ?_ ?_ | refine dS ?_ ?_) <;> intro hc <;> first | (exfalso; simp only [dcA] at hc; omega) | (simp only [hc]; try simp only [dcA] at hc)) | refine aO ?_ | refine dO ?_)
    exact fin_same trivial rfl
  · have h1 : 0 < (ms x).length := words_length_pos.2 (by omega)
    have h1' : ¬ ((ms x).length : Int) = 0 := by omega
    rw [if_neg h0]
    cases hs : sg x
    · rw [hs] at pa
      repeat' (first | (simp only [go_sem, seval, IntKind.bits.eq_def, ti, tin, u32s_length, h1']) | (simp (disch := omega) only [wA]) | (with_reducible first | refine cF pa ?_ | refine dF pa ?_) | refine aL ti_ok ?_ | refine dL ti_ok ?_ | refine dG ?_ | ((first | refine cC ?_ ?_ | refine gS ?_ ?_ | refine dS ?_ ?_) <;> intro hc <;> first | (exfalso; simp only [dcA] at hc; omega) | (simp only [hc]; try simp only [dcA] at hc)) | refine aO ?_ | refine dO ?_)
      exact fin_same trivial rfl
    · rw [hs] at pa
      repeat' (first | (simp only [go_sem, seval, IntKind.bits.eq_def, ti, tin, u32s_length, h1']) | (simp (disch := omega) only [wA]) | (with_reducible first | refine cF pa ?_ | refine dF pa ?_) | refine aL ti_ok ?_ | refine dL ti_ok ?_ | refine dG ?_ | ((first | refine cC ?_ ?_ | refine gS ?_ ?_ | refine dS ?_ ?_) <;> intro hc <;> first | (exfalso; simp only [dcA] at hc; omega) | (simp only [hc]; try simp only [dcA] at hc)) | refine aO ?_ | refine dO ?_)
      exact fin_same trivial rfl
theorem ref_Add (s : Bool) (ws : List Nat) (d : Int) (s' : Bool) (ws' : List Nat) (d' : Int) (x y : Dy) (h : Arg s ws d x) (h' : Arg s' ws' d' y) : CallOK Tryz.prog gl 104 [.agg [.v (.bool s), .sl 1 (u32s ws), .v (.int .i64 d)], .agg [.v (.bool s'), .sl 1 (u32s ws'), .v (.int .i64 d')]] (.agg [.v (.bool (sg (x.add y))), .sl 1 (u32s (ms (x.add y))), .v (.int .i64 (dn (x.add y)))]) := by
  refine call_ok (C := ⟨Tryz.prog, gl, ti, 60, false⟩) ti_ok mixed 3000 Tryz.call104 Tryz.func104 rfl Tryz.ntmps104 (by simp) byClL byCl ?_
  rw [Tryz.results104]
  have pa := ref_Norm s ws d x h
  have pb := ref_Norm s' ws' d' y h'
  have hl : (words x.n.natAbs).length ≤ _ := h.mlen
  have hl' : (words y.n.natAbs).length ≤ _ := h'.mlen
  have hd := x.ok.1
  have hd' := y.ok.1
  have e1 := max_dn x y
  have e2 : ((max x.d y.d : Nat) : Int) - dn x = ((max x.d y.d - x.d : Nat) : Int) := by unfold dn; omega
  have e3 : ((max x.d y.d : Nat) : Int) - dn y = ((max x.d y.d - y.d : Nat) : Int) := by unfold dn; omega
  have la := words_shl_len (a := x.n.natAbs) (n := max x.d y.d - x.d) (by omega)
  have lb := words_shl_len (a := y.n.natAbs) (n := max x.d y.d - y.d) (by omega)
  have lfa := ref_left x.n.natAbs (max x.d y.d - x.d) (by omega) (by omega)
  have lfb := ref_left y.n.natAbs (max x.d y.d - y.d) (by omega) (by omega)
  have hr := fun s m => res_add (x := x) (y := y) (s := s) (m := m)
  have hD : max x.d y.d ≤ 65536 := by omega
  generalize x.n.natAbs * 2 ^ (max x.d y.d - x.d) = a at *
  generalize y.n.natAbs * 2 ^ (max x.d y.d - y.d) = b at *
  have g1 : max x.d y.d - x.d ≤ 65536 := by omega
  have g2 : max x.d y.d - y.d ≤ 65536 := by omega
  generalize max x.d y.d - x.d = k at *
  generalize max x.d y.d - y.d = l at *
  have co := ref_less a b (by omega) (by omega)
  generalize max x.d y.d = D at *
  have dnx := dn_nn x
  have dny := dn_nn y
  by_cases hst : sg x = sg y
  · have ad := ref_plus a b (by omega) (by omega)
    have lab := words_add_len (a := a) (b := b) (k := 68719478784) (by omega) (by omega)
    have rs := ref_num (sg x) (words (a + b)) D (Wd.words _) (by omega) (by omega) (by omega)
    rw [hr (sg x) (a + b) (by rw [sgn_add_same, ← hst])] at rs
    have e4 : decide (sg x = sg y) = true := decide_eq_true hst
    clear hr
    repeat' (first | (simp only [go_sem, seval, IntKind.bits.eq_def, ti, tin, e1, e2, e3, e4]) | (simp (disch := omega) only [wA]) | (with_reducible first | refine cF pa ?_ | refine dF pa ?_ | refine cF pb ?_ | refine dF pb ?_ | refine cF lfa ?_ | refine dF lfa ?_ | refine cF lfb ?_ | refine dF lfb ?_ | refine cF ad ?_ | refine dF ad ?_ | refine cF rs ?_ | refine dF rs ?_) | refine aL ti_ok ?_ | refine dL ti_ok ?_ | refine dG ?_ | ((first | refine cC ?_ ?_ | refine gS ?_ ?_ | refine dS ?_ ?_) <;> intro hc <;> first | (exfalso; simp only [dcA] at hc; omega) | (simp only [hc]; try simp only [dcA] at hc)) | refine aO ?_ | refine dO ?_)
    exact fin_same trivial rfl
  · have e4 : decide (sg x = sg y) = false := decide_eq_false hst
    by_cases hab : a < b
    · have sb := ref_minus b a (by omega) (by omega)
      have lab := words_sub_len (a := b) (b := a) (k := 68719478784) (by omega)
      have rs := ref_num (sg y) (words (b - a)) D (Wd.words _) (by omega) (by omega) (by omega)
      rw [hr (sg y) (b - a) (by rw [sgn_sub_other (t := sg x) (by omega) (fun h => hst h.symm)]; omega)] at rs
      rw [decide_eq_true hab] at co
      clear hr
      repeat' (first | (simp only [go_sem, seval, IntKind.bits.eq_def, ti, tin, e1, e2, e3, e4]) | (simp (disch := omega) only [wA]) | (with_reducible first | refine cF pa ?_ | refine dF pa ?_ | refine cF pb ?_ | refine dF pb ?_ | refine cF lfa ?_ | refine dF lfa ?_ | refine cF lfb ?_ | refine dF lfb ?_ | refine cF co ?_ | refine dF co ?_ | refine cF sb ?_ | refine dF sb ?_ | refine cF rs ?_ | refine dF rs ?_) | refine aL ti_ok ?_ | refine dL ti_ok ?_ | refine dG ?_ | ((first | refine cC ?_ ?_ | refine gS ?_ ?_ | refine dS ?_ ?_) <;> intro hc <;> first | (exfalso; simp only [dcA] at hc; omega) | (simp only [hc]; try simp only [dcA] at hc)) | refine aO ?_ | refine dO ?_)
      exact fin_same trivial rfl
    · have sb := ref_minus a b (by omega) (by omega)
      have lab := words_sub_len (a := a) (b := b) (k := 68719478784) (by omega)
      have rs := ref_num (sg x) (words (a - b)) D (Wd.words _) (by omega) (by omega) (by omega)
      rw [hr (sg x) (a - b) (sgn_sub_other (by omega) hst)] at rs
      rw [decide_eq_false hab] at co
      clear hr
      repeat' (first | (simp only [go_sem, seval, IntKind.bits.eq_def, ti, tin, e1, e2, e3, e4]) | (simp (disch := omega) only [wA]) | (with_reducible first | refine cF pa ?_ | refine dF pa ?_ | refine cF pb ?_ | refine dF pb ?_ | refine cF lfa ?_ | refine dF lfa ?_ | refine cF lfb ?_ | refine dF lfb ?_ | refine cF co ?_ | refine dF co ?_ | refine cF sb ?_ | refine dF sb ?_ | refine cF rs ?_ | refine dF rs ?_) | refine aL ti_ok ?_ | refine dL ti_ok ?_ | refine dG ?_ | ((first | refine cC ?_ ?_ | refine gS ?_ ?_ | refine dS ?_ ?_) <;> intro hc <;> first | (exfalso; simp only [dcA] at hc; omega) | (simp only [hc]; try simp only [dcA] at hc)) | refine aO ?_ | refine dO ?_)
      exact fin_same trivial rfl
theorem ref_Sub (s : Bool) (ws : List Nat) (d : Int) (s' : Bool) (ws' : List Nat) (d' : Int) (x y : Dy) (h : Arg s ws d x) (h' : Arg s' ws' d' y) : CallOK Tryz.prog gl 62 [.agg [.v (.bool s), .sl 1 (u32s ws), .v (.int .i64 d)], .agg [.v (.bool s'), .sl 1 (u32s ws'), .v (.int .i64 d')]] (.agg [.v (.bool (sg (x.sub y))), .sl 1 (u32s (ms (x.sub y))), .v (.int .i64 (dn (x.sub y)))]) := by
  refine call_ok (C := ⟨Tryz.prog, gl, ti, 9, false⟩) ti_ok mixed 3000 Tryz.call62 Tryz.func62 rfl Tryz.ntmps62 (by simp) byClL byCl ?_
  rw [Tryz.results62]
  have ne := ref_Neg s' ws' d' y h'
  have ad := ref_Add s ws d _ _ _ x y.neg h (h'.neg_of)
  repeat' (first | (simp only [go_sem, seval, IntKind.bits.eq_def, ti, tin]) | (simp (disch := omega) only [wA]) | (with_reducible first | refine cF ne ?_ | refine dF ne ?_ | refine cF ad ?_ | refine dF ad ?_) | refine aL ti_ok ?_ | refine dL ti_ok ?_ | refine dG ?_ | ((first | refine cC ?_ ?_ | refine gS ?_ ?_ | refine dS ?_ ?_) <;> intro hc <;> first | (exfalso; simp only [dcA] at hc; omega) | (simp only [hc]; try simp only [dcA] at hc)) | refine aO ?_ | refine dO ?_)
  exact fin_same trivial rfl
end Go.Proofs.YtfmgfjmfogmeeaaGreatDoor
/- The plain arithmetic of the reference (ref02), part 8: Cmp, Min, Max, Shift, Of, Make. -/
set_option linter.unusedSimpArgs false
set_option linter.unusedVariables false
set_option linter.deprecated false
namespace Go.Proofs.YtfmgfjmfogmeeaaGreatDoor
open Go Go.Ax
set_option maxRecDepth 100000
set_option maxHeartbeats 4000000
theorem sub_sign (x y : Dy) : (x.sub y).sign = x.cmp y := by
  rw [Dy.sign_v, Dy.v_sub, Dy.cmp]
  by_cases h1 : x.v < y.v
  · rw [if_pos h1, if_pos (by grind)]
  · rw [if_neg h1, if_neg (by grind)]
    by_cases h2 : y.v < x.v
    · rw [if_pos h2, if_neg (by grind)]
    · rw [if_neg h2, if_pos (by grind)]
theorem sub_len {s : Bool} {ws : List Nat} {d : Int} {s' : Bool} {ws' : List Nat} {d' : Int} {x y : Dy} (h : Arg s ws d x) (h' : Arg s' ws' d' y) : (ms (x.sub y)).length ≤ 4611686018427387904 := by
  have h1 := ((h.mg h.len).sub (h'.mg h'.len)).len
  show (words (x.sub y).n.natAbs).length ≤ _
  omega
theorem ref_Cmp (s : Bool) (ws : List Nat) (d : Int) (s' : Bool) (ws' : List Nat) (d' : Int) (x y : Dy) (h : Arg s ws d x) (h' : Arg s' ws' d' y) : CallOK Tryz.prog gl 27 [.agg [.v (.bool s), .sl 1 (u32s ws), .v (.int .i64 d)], .agg [.v (.bool s'), .sl 1 (u32s ws'), .v (.int .i64 d')]] (.v (.int .i64 ((x.cmp y)))) := by
  refine call_ok (C := ⟨Tryz.prog, gl, ti, 9, false⟩) ti_ok mixed 3000 Tryz.call27 Tryz.func27 rfl Tryz.ntmps27 (by simp) byClL byCl ?_
  rw [Tryz.results27]
  have sb := ref_Sub s ws d s' ws' d' x y h h'
  have sg' := ref_Sign' (x.sub y) (sub_len h h')
  rw [sub_sign] at sg'
  repeat' (first | (simp only [go_sem, seval, IntKind.bits.eq_def, ti, tin]) | (simp (disch := omega) only [wA]) | (with_reducible first | refine cF sb ?_ | refine dF sb ?_ | refine cF (sg') ?_ | refine dF (sg') ?_) | refine aL ti_ok ?_ | refine dL ti_ok ?_ | refine dG ?_ | ((first | refine cC ?_ ?_ | refine gS ?_ ?_ | refine dS ?_ ?_) <;> intro hc <;> first | (exfalso; simp only [dcA] at hc; omega) | (simp only [hc]; try simp only [dcA] at hc)) | refine aO ?_ | refine dO ?_)
  exact fin_same trivial rfl
theorem add_zero (x : Dy) : x.add Dy.zero = x := Dy.ext_v (by rw [Dy.v_add, Dy.v_zero]; grind)
end Go.Proofs.YtfmgfjmfogmeeaaGreatDoor
/- The plain arithmetic of the reference (ref02), part 9: Shift, Same. -/
set_option linter.unusedSimpArgs false
set_option linter.unusedVariables false
set_option linter.deprecated false
namespace Go.Proofs.YtfmgfjmfogmeeaaGreatDoor
open Go Go.Ax
set_option maxRecDepth 100000
set_option maxHeartbeats 4000000
end Go.Proofs.YtfmgfjmfogmeeaaGreatDoor
/- The plain arithmetic of the reference (ref02), part 10: Same. -/
set_option linter.unusedSimpArgs false
set_option linter.unusedVariables false
set_option linter.deprecated false
namespace Go.Proofs.YtfmgfjmfogmeeaaGreatDoor
open Go Go.Ax
set_option maxRecDepth 100000
set_option maxHeartbeats 4000000
theorem Dy.same {x y : Dy} : (sg x = sg y ∧ ms x = ms y ∧ dn x = dn y) ↔ x = y := by
  refine ⟨fun ⟨h1, h2, h3⟩ => ?_, fun h => by subst h; exact ⟨rfl, rfl, rfl⟩⟩
  have a := res_self x
  have b := res_self y
  rw [h1, h2, h3] at a
  exact a.symm.trans b
instance : DecidableEq Dy := fun _ _ => decidable_of_iff _ Dy.same
end Go.Proofs.YtfmgfjmfogmeeaaGreatDoor
/- Layer 4 (matrix) and its reference: Check; equal vectors and matrices. -/
set_option linter.unusedSimpArgs false
set_option linter.unusedVariables false
set_option linter.deprecated false
namespace Go.Proofs.YtfmgfjmfogmeeaaGreatDoor
open Go Go.Ax
set_option maxRecDepth 100000
set_option maxHeartbeats 4000000
def eV (e : Int) : Value := if e = 0 then .nilIface else .iface 67 (.int .i64 e)
theorem eV_zero : eV 0 = .nilIface := (rfl)
theorem eV_ne {e : Int} (h : ¬ e = 0) : eV e = .iface 67 (.int .i64 e) := if_neg h
end Go.Proofs.YtfmgfjmfogmeeaaGreatDoor
