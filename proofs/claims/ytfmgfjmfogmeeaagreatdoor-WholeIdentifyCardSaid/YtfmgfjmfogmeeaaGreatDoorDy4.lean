/- Layer 2 (dyadic.go), part 3: Of, Neg, Abs, Sign, Cmp. -/
import Derived.Test.YtfmgfjmfogmeeaaGreatDoorDy2
set_option linter.unusedSimpArgs false
set_option linter.unusedVariables false
set_option linter.deprecated false
namespace Go.Proofs.YtfmgfjmfogmeeaaGreatDoor
open Go Go.Ax
set_option maxRecDepth 100000
set_option maxHeartbeats 4000000
theorem Of_ok (n : Int) (h : -9223372036854775808 ≤ n ∧ n ≤ 9223372036854775807) : CallOK Tryz.prog gl 25 [.v (.int .i64 n)] (.agg [.v (.bool (sg (Dy.int n))), .sl 1 (u32s (ms (Dy.int n))), .v (.int .i64 (dn (Dy.int n)))]) := by
  refine call_ok (C := ⟨Tryz.prog, gl, ti, 15, false⟩) ti_ok mixed 3000 Tryz.call25 Tryz.func25 rfl Tryz.ntmps25 (by simp) byClL byCl ?_
  rw [Tryz.results25]
  have ou := ofUint_ok n.natAbs (by omega)
  have hl : (words n.natAbs).length ≤ 2 := words_length_le (by omega)
  have rs := result_ok (decide (n < 0)) (words n.natAbs) 0 (Wd.words _) (by omega) (by omega) (by omega)
  rw [res_int] at rs
  by_cases hn : n < 0
  · have e1 : IntKind.u64.wrap n = n + 18446744073709551616 := by simp only [IntKind.wrap, IntKind.bits, IntKind.signed]; simp; omega
    have e2 : IntKind.u64.wrap (0 - (n + 18446744073709551616)) = (n.natAbs : Int) := by simp only [IntKind.wrap, IntKind.bits, IntKind.signed]; simp; omega
    repeat' (first | (simp only [go_sem, seval, IntKind.bits.eq_def, ti, tin, e1, e2]) | (simp (disch := omega) only [wA]) | (with_reducible first | refine cF ou ?_ | refine dF ou ?_ | refine cF rs ?_ | refine dF rs ?_) | refine aL ti_ok ?_ | refine dL ti_ok ?_ | refine dG ?_ | ((first | refine cC ?_ ?_ | refine gS ?_ ?_ | refine dS ?_ ?_) <;> intro hc <;> first | (exfalso; simp only [dcA] at hc; omega) | (simp only [hc]; try simp only [dcA] at hc)) | refine aO ?_ | refine dO ?_)
    exact fin_same trivial rfl
  · have e1 : IntKind.u64.wrap n = (n.natAbs : Int) := by simp only [IntKind.wrap, IntKind.bits, IntKind.signed]; simp; omega
    repeat' (first | (simp only [go_sem, seval, IntKind.bits.eq_def, ti, tin, e1]) | (simp (disch := omega) only [wA]) | (with_reducible first | refine cF ou ?_ | refine dF ou ?_ | refine cF rs ?_ | refine dF rs ?_) | refine aL ti_ok ?_ | refine dL ti_ok ?_ | refine dG ?_ | ((first | refine cC ?_ ?_ | refine gS ?_ ?_ | refine dS ?_ ?_) <;> intro hc <;> first | (exfalso; simp only [dcA] at hc; omega) | (simp only [hc]; try simp only [dcA] at hc)) | refine aO ?_ | refine dO ?_)
    exact fin_same trivial rfl
theorem Neg_ok (s : Bool) (ws : List Nat) (d : Int) (x : Dy) (h : Arg s ws d x) : CallOK Tryz.prog gl 30 [.agg [.v (.bool s), .sl 1 (u32s ws), .v (.int .i64 d)]] (.agg [.v (.bool (sg (x.neg))), .sl 1 (u32s (ms (x.neg))), .v (.int .i64 (dn (x.neg)))]) := by
  refine call_ok (C := ⟨Tryz.prog, gl, ti, 17, false⟩) ti_ok mixed 3000 Tryz.call30 Tryz.func30 rfl Tryz.ntmps30 (by simp) byClL byCl ?_
  rw [Tryz.results30]
  have pa := parts_ok s ws d x h
  have hl := h.mlen
  have hd := dn_nn x
  have rs := result_ok (!sg x) (ms x) (dn x) (ms_wd x) (by omega) (by omega) (by omega)
  rw [res_neg] at rs
  repeat' (first | (simp only [go_sem, seval, IntKind.bits.eq_def, ti, tin]) | (simp (disch := omega) only [wA]) | (with_reducible first | refine cF pa ?_ | refine dF pa ?_ | refine cF rs ?_ | refine dF rs ?_) | refine aL ti_ok ?_ | refine dL ti_ok ?_ | refine dG ?_ | ((first | refine cC ?_ ?_ | refine gS ?_ ?_ | refine dS ?_ ?_) <;> intro hc <;> first | (exfalso; simp only [dcA] at hc; omega) | (simp only [hc]; try simp only [dcA] at hc)) | refine aO ?_ | refine dO ?_)
  exact fin_same trivial rfl
theorem Sign_ok (s : Bool) (ws : List Nat) (d : Int) (x : Dy) (h : Arg s ws d x) : CallOK Tryz.prog gl 101 [.agg [.v (.bool s), .sl 1 (u32s ws), .v (.int .i64 d)]] (.v (.int .i64 x.sign)) := by
  refine call_ok (C := ⟨Tryz.prog, gl, ti, 18, false⟩) ti_ok mixed 3000 Tryz.call101 Tryz.func101 rfl Tryz.ntmps101 (by simp) byClL byCl ?_
  rw [Tryz.results101]
  have pa := parts_ok s ws d x h
  have hl := h.mlen
  rw [sign_sg]
  by_cases h0 : x.n = 0
  · have h1 : (ms x).length = 0 := by show (words x.n.natAbs).length = 0; rw [h0, Int.natAbs_zero, words_zero]; rfl
    rw [if_pos h0]
    repeat' (first | (simp only [go_sem, seval, IntKind.bits.eq_def, ti, tin, u32s_length, h1]) | (simp (disch := omega) only [wA]) | (with_reducible first | refine cF pa ?_ | refine dF pa ?_) | refine aL ti_ok ?_ | refine dL ti_ok ?_ | refine dG ?_ | ((first | refine cC ?_ ?_ | refine gS ?_ ?_ | refine dS ?_ ?_) <;> intro hc <;> first | (exfalso; simp only [dcA] at hc; omega) | (simp only [hc]; try simp only [dcA] at hc)) | refine aO ?_ | refine dO ?_)
    exact fin_same trivial rfl
  · have h1 : 0 < (ms x).length := words_length_pos.2 (by omega)
    rw [if_neg h0]
    cases hs : sg x
    · rw [hs] at pa
      repeat' (first | (simp only [go_sem, seval, IntKind.bits.eq_def, ti, tin, u32s_length]) | (simp (disch := omega) only [wA]) | (with_reducible first | refine cF pa ?_ | refine dF pa ?_) | refine aL ti_ok ?_ | refine dL ti_ok ?_ | refine dG ?_ | ((first | refine cC ?_ ?_ | refine gS ?_ ?_ | refine dS ?_ ?_) <;> intro hc <;> first | (exfalso; simp only [dcA] at hc; omega) | (simp only [hc]; try simp only [dcA] at hc)) | refine aO ?_ | refine dO ?_)
      exact fin_same trivial rfl
    · rw [hs] at pa
      repeat' (first | (simp only [go_sem, seval, IntKind.bits.eq_def, ti, tin, u32s_length]) | (simp (disch := omega) only [wA]) | (with_reducible first | refine cF pa ?_ | refine dF pa ?_) | refine aL ti_ok ?_ | refine dL ti_ok ?_ | refine dG ?_ | ((first | refine cC ?_ ?_ | refine gS ?_ ?_ | refine dS ?_ ?_) <;> intro hc <;> first | (exfalso; simp only [dcA] at hc; omega) | (simp only [hc]; try simp only [dcA] at hc)) | refine aO ?_ | refine dO ?_)
      exact fin_same trivial rfl
theorem align_ok (s : Bool) (ws : List Nat) (d : Int) (s' : Bool) (ws' : List Nat) (d' : Int) (x y : Dy) (h : Arg s ws d x) (h' : Arg s' ws' d' y) : CallOK Tryz.prog gl 102 [.agg [.v (.bool s), .sl 1 (u32s ws), .v (.int .i64 d)], .agg [.v (.bool s'), .sl 1 (u32s ws'), .v (.int .i64 d')]] (.tup [.v (.bool (sg x)), .sl 1 (u32s (words (x.n.natAbs * 2 ^ (max x.d y.d - x.d)))), .v (.bool (sg y)), .sl 1 (u32s (words (y.n.natAbs * 2 ^ (max x.d y.d - y.d)))), .v (.int .i64 (((max x.d y.d : Nat) : Int)))]) := by
  refine call_ok (C := ⟨Tryz.prog, gl, ti, 39, false⟩) ti_ok mixed 3000 Tryz.call102 Tryz.func102 rfl Tryz.ntmps102 (by simp) byClL byCl ?_
  rw [Tryz.results102]
  have pa := parts_ok s ws d x h
  have pb := parts_ok s' ws' d' y h'
  have hl : (words x.n.natAbs).length ≤ _ := h.mlen
  have hl' : (words y.n.natAbs).length ≤ _ := h'.mlen
  have hd := x.ok.1
  have hd' := y.ok.1
  have e1 := max_dn x y
  have e2 : ((max x.d y.d : Nat) : Int) - dn x = ((max x.d y.d - x.d : Nat) : Int) := by unfold dn; omega
  have e3 : ((max x.d y.d : Nat) : Int) - dn y = ((max x.d y.d - y.d : Nat) : Int) := by unfold dn; omega
  have la := nat_left x.n.natAbs (max x.d y.d - x.d) (by omega) (by omega)
  have lb := nat_left y.n.natAbs (max x.d y.d - y.d) (by omega) (by omega)
  have hD : max x.d y.d ≤ 65536 := by omega
  generalize x.n.natAbs * 2 ^ (max x.d y.d - x.d) = a at *
  generalize y.n.natAbs * 2 ^ (max x.d y.d - y.d) = b at *
  have g1 : max x.d y.d - x.d ≤ 65536 := by omega
  have g2 : max x.d y.d - y.d ≤ 65536 := by omega
  generalize max x.d y.d - x.d = k at *
  generalize max x.d y.d - y.d = l at *
  generalize max x.d y.d = D at *
  repeat' (first | (simp only [go_sem, seval, IntKind.bits.eq_def, ti, tin, e1, e2, e3]) | (simp (disch := omega) only [wA]) | (with_reducible first | refine cF pa ?_ | refine dF pa ?_ | refine cF pb ?_ | refine dF pb ?_ | refine cF la ?_ | refine dF la ?_ | refine cF lb ?_ | refine dF lb ?_) | refine aL ti_ok ?_ | refine dL ti_ok ?_ | refine dG ?_ | ((first | refine cC ?_ ?_ | refine gS ?_ ?_ | refine dS ?_ ?_) <;> intro hc <;> first | (exfalso; simp only [dcA] at hc; omega) | (simp only [hc]; try simp only [dcA] at hc)) | refine aO ?_ | refine dO ?_)
  exact fin_same trivial rfl
end Go.Proofs.YtfmgfjmfogmeeaaGreatDoor
/- Layer 2 (dyadic.go), part 4: Cmp, Add, Sub, Mul, Shift, Min, Max. -/
set_option linter.unusedSimpArgs false
set_option linter.unusedVariables false
set_option linter.deprecated false
namespace Go.Proofs.YtfmgfjmfogmeeaaGreatDoor
open Go Go.Ax
set_option maxRecDepth 100000
set_option maxHeartbeats 4000000
theorem Cmp_ok (s : Bool) (ws : List Nat) (d : Int) (s' : Bool) (ws' : List Nat) (d' : Int) (x y : Dy) (h : Arg s ws d x) (h' : Arg s' ws' d' y) : CallOK Tryz.prog gl 60 [.agg [.v (.bool s), .sl 1 (u32s ws), .v (.int .i64 d)], .agg [.v (.bool s'), .sl 1 (u32s ws'), .v (.int .i64 d')]] (.v (.int .i64 ((x.cmp y)))) := by
  refine call_ok (C := ⟨Tryz.prog, gl, ti, 39, false⟩) ti_ok mixed 3000 Tryz.call60 Tryz.func60 rfl Tryz.ntmps60 (by simp) byClL byCl ?_
  rw [Tryz.results60]
  have sa := Sign_ok s ws d x h
  have sb := Sign_ok s' ws' d' y h'
  have al := align_ok s ws d s' ws' d' x y h h'
  have hl : (words x.n.natAbs).length ≤ _ := h.mlen
  have hl' : (words y.n.natAbs).length ≤ _ := h'.mlen
  have hd := x.ok.1
  have hd' := y.ok.1
  by_cases hs : x.sign = y.sign
  · have key := cmp_same hs rfl rfl
    have la := words_shl_len (a := x.n.natAbs) (n := max x.d y.d - x.d) (by omega)
    have lb := words_shl_len (a := y.n.natAbs) (n := max x.d y.d - y.d) (by omega)
    generalize x.n.natAbs * 2 ^ (max x.d y.d - x.d) = a at *
    generalize y.n.natAbs * 2 ^ (max x.d y.d - y.d) = b at *
    have co := nat_compare a b (by omega) (by omega)
    generalize max x.d y.d = D at *
    have hb : -1 ≤ cmpI a b ∧ cmpI a b ≤ 1 := by unfold cmpI; split <;> (try split) <;> omega
    have key : x.cmp y = if sg x then -(cmpI a b) else cmpI a b := key
    generalize cmpI a b = c at *
    generalize x.sign = p at *
    generalize y.sign = q at *
    have e0 : (0 : Int) - c = -c := by omega
    cases hx : sg x
    · rw [hx] at key al
      rw [key]
      repeat' (first | (simp only [go_sem, seval, IntKind.bits.eq_def, ti, tin]) | (simp (disch := omega) only [wA]) | (with_reducible first | refine cF sa ?_ | refine dF sa ?_ | refine cF sb ?_ | refine dF sb ?_ | refine cF al ?_ | refine dF al ?_ | refine cF co ?_ | refine dF co ?_) | refine aL ti_ok ?_ | refine dL ti_ok ?_ | refine dG ?_ | ((first | refine cC ?_ ?_ | refine gS ?_ ?_ | refine dS ?_ ?_) <;> intro hc <;> first | (exfalso; simp only [dcA] at hc; omega) | (simp only [hc]; try simp only [dcA] at hc)) | refine aO ?_ | refine dO ?_)
      exact fin_same trivial rfl
    · rw [hx] at key al
      rw [key]
      repeat' (first | (simp only [go_sem, seval, IntKind.bits.eq_def, ti, tin, e0]) | (simp (disch := omega) only [wA]) | (with_reducible first | refine cF sa ?_ | refine dF sa ?_ | refine cF sb ?_ | refine dF sb ?_ | refine cF al ?_ | refine dF al ?_ | refine cF co ?_ | refine dF co ?_) | refine aL ti_ok ?_ | refine dL ti_ok ?_ | refine dG ?_ | ((first | refine cC ?_ ?_ | refine gS ?_ ?_ | refine dS ?_ ?_) <;> intro hc <;> first | (exfalso; simp only [dcA] at hc; omega) | (simp only [hc]; try simp only [dcA] at hc)) | refine aO ?_ | refine dO ?_)
      exact fin_same trivial rfl
  · have key := cmp_signs hs
    rw [key]
    generalize x.sign = p at *
    generalize y.sign = q at *
    by_cases hpq : p < q
    · rw [if_pos hpq]
      repeat' (first | (simp only [go_sem, seval, IntKind.bits.eq_def, ti, tin]) | (simp (disch := omega) only [wA]) | (with_reducible first | refine cF sa ?_ | refine dF sa ?_ | refine cF sb ?_ | refine dF sb ?_) | refine aL ti_ok ?_ | refine dL ti_ok ?_ | refine dG ?_ | ((first | refine cC ?_ ?_ | refine gS ?_ ?_ | refine dS ?_ ?_) <;> intro hc <;> first | (exfalso; simp only [dcA] at hc; omega) | (simp only [hc]; try simp only [dcA] at hc)) | refine aO ?_ | refine dO ?_)
      exact fin_same trivial rfl
    · rw [if_neg hpq]
      repeat' (first | (simp only [go_sem, seval, IntKind.bits.eq_def, ti, tin]) | (simp (disch := omega) only [wA]) | (with_reducible first | refine cF sa ?_ | refine dF sa ?_ | refine cF sb ?_ | refine dF sb ?_) | refine aL ti_ok ?_ | refine dL ti_ok ?_ | refine dG ?_ | ((first | refine cC ?_ ?_ | refine gS ?_ ?_ | refine dS ?_ ?_) <;> intro hc <;> first | (exfalso; simp only [dcA] at hc; omega) | (simp only [hc]; try simp only [dcA] at hc)) | refine aO ?_ | refine dO ?_)
      exact fin_same trivial rfl
theorem Add_ok (s : Bool) (ws : List Nat) (d : Int) (s' : Bool) (ws' : List Nat) (d' : Int) (x y : Dy) (h : Arg s ws d x) (h' : Arg s' ws' d' y) : CallOK Tryz.prog gl 179 [.agg [.v (.bool s), .sl 1 (u32s ws), .v (.int .i64 d)], .agg [.v (.bool s'), .sl 1 (u32s ws'), .v (.int .i64 d')]] (.agg [.v (.bool (sg (x.add y))), .sl 1 (u32s (ms (x.add y))), .v (.int .i64 (dn (x.add y)))]) := by
  refine call_ok (C := ⟨Tryz.prog, gl, ti, 48, false⟩) ti_ok mixed 3000 Tryz.call179 Tryz.func179 rfl Tryz.ntmps179 (by simp) byClL byCl ?_
  rw [Tryz.results179]
  have al := align_ok s ws d s' ws' d' x y h h'
  have hl : (words x.n.natAbs).length ≤ _ := h.mlen
  have hl' : (words y.n.natAbs).length ≤ _ := h'.mlen
  have hd := x.ok.1
  have hd' := y.ok.1
  have la := words_shl_len (a := x.n.natAbs) (n := max x.d y.d - x.d) (by omega)
  have lb := words_shl_len (a := y.n.natAbs) (n := max x.d y.d - y.d) (by omega)
  have hr := fun s m => res_add (x := x) (y := y) (s := s) (m := m)
  have hD : max x.d y.d ≤ 65536 := by omega
  generalize x.n.natAbs * 2 ^ (max x.d y.d - x.d) = a at *
  generalize y.n.natAbs * 2 ^ (max x.d y.d - y.d) = b at *
  have co := nat_compare a b (by omega) (by omega)
  generalize max x.d y.d = D at *
  by_cases hst : sg x = sg y
  · have ad := nat_add a b (by omega) (by omega)
    have lab := words_add_len (a := a) (b := b) (k := 68719478784) (by omega) (by omega)
    have rs := result_ok (sg x) (words (a + b)) D (Wd.words _) (by omega) (by omega) (by omega)
    rw [hr (sg x) (a + b) (by rw [sgn_add_same, ← hst])] at rs
    rw [← hst] at al
    repeat' (first | (simp only [go_sem, seval, IntKind.bits.eq_def, ti, tin]) | (simp (disch := omega) only [wA]) | (with_reducible first | refine cF al ?_ | refine dF al ?_ | refine cF co ?_ | refine dF co ?_ | refine cF ad ?_ | refine dF ad ?_ | refine cF rs ?_ | refine dF rs ?_) | refine aL ti_ok ?_ | refine dL ti_ok ?_ | refine dG ?_ | ((first | refine cC ?_ ?_ | refine gS ?_ ?_ | refine dS ?_ ?_) <;> intro hc <;> first | (exfalso; simp only [dcA] at hc; omega) | (simp only [hc]; try simp only [dcA] at hc)) | refine aO ?_ | refine dO ?_)
    exact fin_same trivial rfl
  · have hst' : ¬ (sg x = sg y) := hst
    have e1 : decide (sg x = sg y) = false := decide_eq_false hst
    by_cases hab : b ≤ a
    · have sb := nat_sub a b hab (by omega)
      have lab := words_sub_len (a := a) (b := b) (k := 68719478784) (by omega)
      have rs := result_ok (sg x) (words (a - b)) D (Wd.words _) (by omega) (by omega) (by omega)
      rw [hr (sg x) (a - b) (sgn_sub_other hab hst)] at rs
      have hc0 : 0 ≤ cmpI a b := by unfold cmpI; split <;> (try split) <;> omega
      generalize cmpI a b = c at *
      repeat' (first | (simp only [go_sem, seval, IntKind.bits.eq_def, ti, tin, e1]) | (simp (disch := omega) only [wA]) | (with_reducible first | refine cF al ?_ | refine dF al ?_ | refine cF co ?_ | refine dF co ?_ | refine cF sb ?_ | refine dF sb ?_ | refine cF rs ?_ | refine dF rs ?_) | refine aL ti_ok ?_ | refine dL ti_ok ?_ | refine dG ?_ | ((first | refine cC ?_ ?_ | refine gS ?_ ?_ | refine dS ?_ ?_) <;> intro hc <;> first | (exfalso; simp only [dcA] at hc; omega) | (simp only [hc]; try simp only [dcA] at hc)) | refine aO ?_ | refine dO ?_)
      exact fin_same trivial rfl
    · have sb := nat_sub b a (by omega) (by omega)
      have lab := words_sub_len (a := b) (b := a) (k := 68719478784) (by omega)
      have rs := result_ok (sg y) (words (b - a)) D (Wd.words _) (by omega) (by omega) (by omega)
      rw [hr (sg y) (b - a) (by rw [sgn_sub_other (t := sg x) (by omega) (fun h => hst h.symm)]; omega)] at rs
      have hc0 : cmpI a b < 0 := by unfold cmpI; split <;> (try split) <;> omega
      generalize cmpI a b = c at *
      repeat' (first | (simp only [go_sem, seval, IntKind.bits.eq_def, ti, tin, e1]) | (simp (disch := omega) only [wA]) | (with_reducible first | refine cF al ?_ | refine dF al ?_ | refine cF co ?_ | refine dF co ?_ | refine cF sb ?_ | refine dF sb ?_ | refine cF rs ?_ | refine dF rs ?_) | refine aL ti_ok ?_ | refine dL ti_ok ?_ | refine dG ?_ | ((first | refine cC ?_ ?_ | refine gS ?_ ?_ | refine dS ?_ ?_) <;> intro hc <;> first | (exfalso; simp only [dcA] at hc; omega) | (simp only [hc]; try simp only [dcA] at hc)) | refine aO ?_ | refine dO ?_)
      exact fin_same trivial rfl
theorem Sub_ok (s : Bool) (ws : List Nat) (d : Int) (s' : Bool) (ws' : List Nat) (d' : Int) (x y : Dy) (h : Arg s ws d x) (h' : Arg s' ws' d' y) : CallOK Tryz.prog gl 143 [.agg [.v (.bool s), .sl 1 (u32s ws), .v (.int .i64 d)], .agg [.v (.bool s'), .sl 1 (u32s ws'), .v (.int .i64 d')]] (.agg [.v (.bool (sg (x.sub y))), .sl 1 (u32s (ms (x.sub y))), .v (.int .i64 (dn (x.sub y)))]) := by
  refine call_ok (C := ⟨Tryz.prog, gl, ti, 9, false⟩) ti_ok mixed 3000 Tryz.call143 Tryz.func143 rfl Tryz.ntmps143 (by simp) byClL byCl ?_
  rw [Tryz.results143]
  have ne := Neg_ok s' ws' d' y h'
  have ad := Add_ok s ws d _ _ _ x y.neg h (h'.neg_of)
  repeat' (first | (simp only [go_sem, seval, IntKind.bits.eq_def, ti, tin]) | (simp (disch := omega) only [wA]) | (with_reducible first | refine cF ne ?_ | refine dF ne ?_ | refine cF ad ?_ | refine dF ad ?_) | refine aL ti_ok ?_ | refine dL ti_ok ?_ | refine dG ?_ | ((first | refine cC ?_ ?_ | refine gS ?_ ?_ | refine dS ?_ ?_) <;> intro hc <;> first | (exfalso; simp only [dcA] at hc; omega) | (simp only [hc]; try simp only [dcA] at hc)) | refine aO ?_ | refine dO ?_)
  exact fin_same trivial rfl
theorem Mul_ok (s : Bool) (ws : List Nat) (d : Int) (s' : Bool) (ws' : List Nat) (d' : Int) (x y : Dy) (h : Arg s ws d x) (h' : Arg s' ws' d' y) : CallOK Tryz.prog gl 144 [.agg [.v (.bool s), .sl 1 (u32s ws), .v (.int .i64 d)], .agg [.v (.bool s'), .sl 1 (u32s ws'), .v (.int .i64 d')]] (.agg [.v (.bool (sg (x.mul y))), .sl 1 (u32s (ms (x.mul y))), .v (.int .i64 (dn (x.mul y)))]) := by
  refine call_ok (C := ⟨Tryz.prog, gl, ti, 33, false⟩) ti_ok mixed 3000 Tryz.call144 Tryz.func144 rfl Tryz.ntmps144 (by simp) byClL byCl ?_
  rw [Tryz.results144]
  have pa := parts_ok s ws d x h
  have pb := parts_ok s' ws' d' y h'
  have hl : (words x.n.natAbs).length ≤ _ := h.mlen
  have hl' : (words y.n.natAbs).length ≤ _ := h'.mlen
  have hd := dn_nn x
  have hd' := dn_nn y
  have mu := nat_mul x.n.natAbs y.n.natAbs (by omega) (by omega)
  have lm := words_mul_len (a := x.n.natAbs) (b := y.n.natAbs)
  have rs := result_ok (!decide (sg x = sg y)) (words (x.n.natAbs * y.n.natAbs)) (dn x + dn y) (Wd.words _) (by omega) (by omega) (by omega)
  rw [res_mul] at rs
  repeat' (first | (simp only [go_sem, seval, IntKind.bits.eq_def, ti, tin]) | (simp (disch := omega) only [wA]) | (with_reducible first | refine cF pa ?_ | refine dF pa ?_ | refine cF pb ?_ | refine dF pb ?_ | refine cF mu ?_ | refine dF mu ?_ | refine cF rs ?_ | refine dF rs ?_) | refine aL ti_ok ?_ | refine dL ti_ok ?_ | refine dG ?_ | ((first | refine cC ?_ ?_ | refine gS ?_ ?_ | refine dS ?_ ?_) <;> intro hc <;> first | (exfalso; simp only [dcA] at hc; omega) | (simp only [hc]; try simp only [dcA] at hc)) | refine aO ?_ | refine dO ?_)
  exact fin_same trivial rfl
theorem Shift_ok (s : Bool) (ws : List Nat) (d : Int) (k : Int) (x : Dy) (h : Arg s ws d x) : CallOK Tryz.prog gl 148 [.agg [.v (.bool s), .sl 1 (u32s ws), .v (.int .i64 d)], .v (.int .i64 k)] (.agg [.v (.bool (sg (x.shift k))), .sl 1 (u32s (ms (x.shift k))), .v (.int .i64 (dn (x.shift k)))]) := by
  refine call_ok (C := ⟨Tryz.prog, gl, ti, 29, false⟩) ti_ok mixed 3000 Tryz.call148 Tryz.func148 rfl Tryz.ntmps148 (by simp) byClL byCl ?_
  rw [Tryz.results148]
  have pa := parts_ok s ws d x h
  have hl : (words x.n.natAbs).length ≤ _ := h.mlen
  have hd := dn_nn x
  have hdd : dn x = (x.d : Int) := rfl
  have hl2 := h.mlen
  have hc1 := clipD_bd k
  have e1 : max (-65536) (min k 65536) = clipD k := rfl
  by_cases hk : clipD k ≤ x.d
  · have rs := result_ok (sg x) (ms x) (dn x - clipD k) (ms_wd x) (by omega) (by omega) (by omega)
    rw [res_shift hk] at rs
    generalize clipD k = c at *
    repeat' (first | (simp only [go_sem, seval, IntKind.bits.eq_def, ti, tin, e1]) | (simp (disch := omega) only [wA]) | (with_reducible first | refine cF pa ?_ | refine dF pa ?_ | refine cF rs ?_ | refine dF rs ?_) | refine aL ti_ok ?_ | refine dL ti_ok ?_ | refine dG ?_ | ((first | refine cC ?_ ?_ | refine gS ?_ ?_ | refine dS ?_ ?_) <;> intro hc <;> first | (exfalso; simp only [dcA] at hc; omega) | (simp only [hc]; try simp only [dcA] at hc)) | refine aO ?_ | refine dO ?_)
    exact fin_same trivial rfl
  · have lf := nat_left x.n.natAbs (clipD k - x.d).toNat (by omega) (by omega)
    have ll := words_shl_len (a := x.n.natAbs) (n := (clipD k - x.d).toNat) (by omega)
    have rs := result_ok (sg x) (words (x.n.natAbs * 2 ^ (clipD k - x.d).toNat)) 0 (Wd.words _) (by omega) (by omega) (by omega)
    rw [res_shift' hk] at rs
    have e2 : (0 : Int) - (dn x - clipD k) = ((clipD k - x.d).toNat : Int) := by omega
    generalize x.n.natAbs * 2 ^ (clipD k - x.d).toNat = m at *
    generalize (clipD k - x.d).toNat = j at *
    generalize clipD k = c at *
    repeat' (first | (simp only [go_sem, seval, IntKind.bits.eq_def, ti, tin, e1, e2]) | (simp (disch := omega) only [wA]) | (with_reducible first | refine cF pa ?_ | refine dF pa ?_ | refine cF lf ?_ | refine dF lf ?_ | refine cF rs ?_ | refine dF rs ?_) | refine aL ti_ok ?_ | refine dL ti_ok ?_ | refine dG ?_ | ((first | refine cC ?_ ?_ | refine gS ?_ ?_ | refine dS ?_ ?_) <;> intro hc <;> first | (exfalso; simp only [dcA] at hc; omega) | (simp only [hc]; try simp only [dcA] at hc)) | refine aO ?_ | refine dO ?_)
    exact fin_same trivial rfl
end Go.Proofs.YtfmgfjmfogmeeaaGreatDoor
