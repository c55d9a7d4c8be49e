/- The plain arithmetic of the reference (ref02), part 8: Cmp, Min, Max, Shift, Of, Make. -/
import Derived.Test.YtpggiabnhodjpaaGreatDoorRef7
import Derived.Test.YtpggiabnhodjpaaGreatDoorU2
set_option linter.unusedSimpArgs false
set_option linter.unusedVariables false
set_option linter.deprecated false
namespace Go.Proofs.YtpggiabnhodjpaaGreatDoor
open Go Go.Ax
set_option maxRecDepth 100000
set_option maxHeartbeats 4000000
theorem sub_sign (x y : Dy) : (x.sub y).sign = x.cmp y := by
  rw [Dy.sign_v, Dy.v_sub, Dy.cmp]
  by_cases h1 : x.v < y.v
  · rw [if_pos h1, if_pos (by grind)]
  · rw [if_neg h1, if_neg (by grind)]
    by_cases h2 : y.v < x.v
    · rw [if_pos h2, if_neg (by grind)]
    · rw [if_neg h2, if_pos (by grind)]
theorem sub_len {s : Bool} {ws : List Nat} {d : Int} {s' : Bool} {ws' : List Nat} {d' : Int} {x y : Dy} (h : Arg s ws d x) (h' : Arg s' ws' d' y) : (ms (x.sub y)).length ≤ 4611686018427387904 := by
  have h1 := ((h.mg h.len).sub (h'.mg h'.len)).len
  show (words (x.sub y).n.natAbs).length ≤ _
  omega
theorem ref_Cmp (s : Bool) (ws : List Nat) (d : Int) (s' : Bool) (ws' : List Nat) (d' : Int) (x y : Dy) (h : Arg s ws d x) (h' : Arg s' ws' d' y) : CallOK Tryz.prog gl 20 [.agg [.v (.bool s), .sl 1 (u32s ws), .v (.int .i64 d)], .agg [.v (.bool s'), .sl 1 (u32s ws'), .v (.int .i64 d')]] (.v (.int .i64 ((x.cmp y)))) := by
  refine call_ok (C := ⟨Tryz.prog, gl, ti, 9, false⟩) ti_ok mixed 3000 Tryz.call20 Tryz.func20 rfl Tryz.ntmps20 (by simp) byClL byCl ?_
  rw [Tryz.results20]
  have sb := ref_Sub s ws d s' ws' d' x y h h'
  have sg' := ref_Sign' (x.sub y) (sub_len h h')
  rw [sub_sign] at sg'
  repeat' (first | (simp only [go_sem, seval, IntKind.bits.eq_def, ti, tin]) | (simp (disch := omega) only [wA]) | (with_reducible first | refine cF sb ?_ | refine dF sb ?_ | refine cF (sg') ?_ | refine dF (sg') ?_) | refine aL ti_ok ?_ | refine dL ti_ok ?_ | refine dG ?_ | ((first | refine cC ?_ ?_ | refine gS ?_ ?_ | refine dS ?_ ?_) <;> intro hc <;> first | (exfalso; simp only [dcA] at hc; omega) | (simp only [hc]; try simp only [dcA] at hc)) | refine aO ?_ | refine dO ?_)
  exact fin_same trivial rfl
theorem add_zero (x : Dy) : x.add Dy.zero = x := Dy.ext_v (by rw [Dy.v_add, Dy.v_zero]; grind)
theorem ref_Max (s : Bool) (ws : List Nat) (d : Int) (s' : Bool) (ws' : List Nat) (d' : Int) (x y : Dy) (h : Arg s ws d x) (h' : Arg s' ws' d' y) : CallOK Tryz.prog gl 66 [.agg [.v (.bool s), .sl 1 (u32s ws), .v (.int .i64 d)], .agg [.v (.bool s'), .sl 1 (u32s ws'), .v (.int .i64 d')]] (.agg [.v (.bool (sg (x.max y))), .sl 1 (u32s (ms (x.max y))), .v (.int .i64 (dn (x.max y)))]) := by
  refine call_ok (C := ⟨Tryz.prog, gl, ti, 13, false⟩) ti_ok mixed 3000 Tryz.call66 Tryz.func66 rfl Tryz.ntmps66 (by simp) byClL byCl ?_
  rw [Tryz.results66]
  have cm := ref_Cmp s ws d s' ws' d' x y h h'
  have sa := ref_Add s ws d _ _ _ x Dy.zero h (Arg.of (Mg.zero 0) (by omega))
  have sb := ref_Add s' ws' d' _ _ _ y Dy.zero h' (Arg.of (Mg.zero 0) (by omega))
  rw [add_zero] at sa sb
  rw [max_cmp]
  generalize x.cmp y = c at *
  by_cases hc1 : 0 ≤ c
  · rw [if_pos hc1]
    repeat' (first | (simp only [go_sem, seval, IntKind.bits.eq_def, ti, tin]) | (simp (disch := omega) only [wA]) | (with_reducible first | refine cF cm ?_ | refine dF cm ?_) | refine aL ti_ok ?_ | refine dL ti_ok ?_ | refine dG ?_ | ((first | refine cC ?_ ?_ | refine gS ?_ ?_ | refine dS ?_ ?_) <;> intro hc <;> first | (exfalso; simp only [dcA] at hc; omega) | (simp only [hc]; try simp only [dcA] at hc)) | refine aO ?_ | refine dO ?_)
    refine callF_le (.cons (.refl _) (.cons Le.dy0 .nil)) sa ?_
    repeat' (first | (simp only [go_sem, seval, IntKind.bits.eq_def, ti, tin]) | (simp (disch := omega) only [wA]) | (with_reducible first | refine cF cm ?_ | refine dF cm ?_) | refine aL ti_ok ?_ | refine dL ti_ok ?_ | refine dG ?_ | ((first | refine cC ?_ ?_ | refine gS ?_ ?_ | refine dS ?_ ?_) <;> intro hc <;> first | (exfalso; simp only [dcA] at hc; omega) | (simp only [hc]; try simp only [dcA] at hc)) | refine aO ?_ | refine dO ?_)
    exact fin_same trivial rfl
  · rw [if_neg hc1]
    repeat' (first | (simp only [go_sem, seval, IntKind.bits.eq_def, ti, tin]) | (simp (disch := omega) only [wA]) | (with_reducible first | refine cF cm ?_ | refine dF cm ?_) | refine aL ti_ok ?_ | refine dL ti_ok ?_ | refine dG ?_ | ((first | refine cC ?_ ?_ | refine gS ?_ ?_ | refine dS ?_ ?_) <;> intro hc <;> first | (exfalso; simp only [dcA] at hc; omega) | (simp only [hc]; try simp only [dcA] at hc)) | refine aO ?_ | refine dO ?_)
    refine callF_le (.cons (.refl _) (.cons Le.dy0 .nil)) sb ?_
    repeat' (first | (simp only [go_sem, seval, IntKind.bits.eq_def, ti, tin]) | (simp (disch := omega) only [wA]) | (with_reducible first | refine cF cm ?_ | refine dF cm ?_) | refine aL ti_ok ?_ | refine dL ti_ok ?_ | refine dG ?_ | ((first | refine cC ?_ ?_ | refine gS ?_ ?_ | refine dS ?_ ?_) <;> intro hc <;> first | (exfalso; simp only [dcA] at hc; omega) | (simp only [hc]; try simp only [dcA] at hc)) | refine aO ?_ | refine dO ?_)
    exact fin_same trivial rfl
theorem u32s_two (n : Nat) : [[AV.v (.int .u32 (n % 4294967296 : Nat))], [AV.v (.int .u32 (n / 4294967296 : Nat))]] = u32s [n % 4294967296, n / 4294967296] := rfl
theorem ref_Of (n : Int) (h : -9223372036854775808 ≤ n ∧ n ≤ 9223372036854775807) : CallOK Tryz.prog gl 21 [.v (.int .i64 n)] (.agg [.v (.bool (sg (Dy.int n))), .sl 1 (u32s (ms (Dy.int n))), .v (.int .i64 (dn (Dy.int n)))]) := by
  refine call_ok (C := ⟨Tryz.prog, gl, ti, 22, false⟩) ti_ok mixed 3000 Tryz.call21 Tryz.func21 rfl Tryz.ntmps21 (by simp) byClL byCl ?_
  rw [Tryz.results21]
  have hv : val [n.natAbs % 4294967296, n.natAbs / 4294967296] = n.natAbs := by simp only [val]; omega
  have hq : n.natAbs / 4294967296 < 4294967296 := by omega
  have rs := ref_num (decide (n < 0)) [n.natAbs % 4294967296, n.natAbs / 4294967296] 0 (.cons (Nat.mod_lt _ (by omega)) (.cons hq .nil)) (by simp) (by omega) (by omega)
  have ri := res_int n
  rw [val_words] at ri
  rw [hv, ri, ← u32s_two] at rs
  have f1 := wrap_u32 n.natAbs
  have f2 : (n.natAbs : Int) / 4294967296 = ((n.natAbs / 4294967296 : Nat) : Int) := rfl
  have f3 := wrap_u32 (n.natAbs / 4294967296)
  rw [Nat.mod_eq_of_lt hq] at f3
  by_cases hn : n < 0
  · have e1 : IntKind.u64.wrap n = n + 18446744073709551616 := by simp only [IntKind.wrap, IntKind.bits, IntKind.signed]; simp; omega
    have e2 : (0 : Int) - (n + 1) + 1 = (n.natAbs : Int) := by omega
    clear hv ri hq
    repeat' (first | (simp only [go_sem, seval, IntKind.bits.eq_def, ti, tin, e1, e2, f1, f2, f3]) | (simp (disch := omega) only [wA]) | (with_reducible first | refine cF rs ?_ | refine dF rs ?_) | refine aL ti_ok ?_ | refine dL ti_ok ?_ | refine dG ?_ | ((first | refine cC ?_ ?_ | refine gS ?_ ?_ | refine dS ?_ ?_) <;> intro hc <;> first | (exfalso; simp only [dcA] at hc; omega) | (simp only [hc]; try simp only [dcA] at hc)) | refine aO ?_ | refine dO ?_)
    exact fin_same trivial rfl
  · have e1 : IntKind.u64.wrap n = (n.natAbs : Int) := by simp only [IntKind.wrap, IntKind.bits, IntKind.signed]; simp; omega
    clear hv ri hq
    repeat' (first | (simp only [go_sem, seval, IntKind.bits.eq_def, ti, tin, e1, f1, f2, f3]) | (simp (disch := omega) only [wA]) | (with_reducible first | refine cF rs ?_ | refine dF rs ?_) | refine aL ti_ok ?_ | refine dL ti_ok ?_ | refine dG ?_ | ((first | refine cC ?_ ?_ | refine gS ?_ ?_ | refine dS ?_ ?_) <;> intro hc <;> first | (exfalso; simp only [dcA] at hc; omega) | (simp only [hc]; try simp only [dcA] at hc)) | refine aO ?_ | refine dO ?_)
    exact fin_same trivial rfl
theorem ref_Make (n : Int) (den : Nat) (hn : -9223372036854775808 ≤ n ∧ n ≤ 9223372036854775807) (hd : den ≤ 65536) : CallOK Tryz.prog gl 91 [.v (.int .i64 n), .v (.int .i64 den)] (.tup [.agg [.v (.bool (sg (nrm n den))), .sl 1 (u32s (ms (nrm n den))), .v (.int .i64 (dn (nrm n den)))], .v (.int .i64 0)]) := by
  refine call_ok (C := ⟨Tryz.prog, gl, ti, 22, false⟩) ti_ok mixed 3000 Tryz.call91 Tryz.func91 rfl Tryz.ntmps91 (by simp) byClL byCl ?_
  rw [Tryz.results91]
  have oo := ref_Of n hn
  have hl : (ms (Dy.int n)).length ≤ 2 := words_length_le (by show n.natAbs < _; omega)
  have rs := ref_num (sg (Dy.int n)) (ms (Dy.int n)) den (ms_wd _) (by omega) (by omega) (by omega)
  rw [Int.toNat_natCast, res_make] at rs
  repeat' (first | (simp only [go_sem, seval, IntKind.bits.eq_def, ti, tin]) | (simp (disch := omega) only [wA]) | (with_reducible first | refine cF oo ?_ | refine dF oo ?_ | refine cF rs ?_ | refine dF rs ?_) | refine aL ti_ok ?_ | refine dL ti_ok ?_ | refine dG ?_ | ((first | refine cC ?_ ?_ | refine gS ?_ ?_ | refine dS ?_ ?_) <;> intro hc <;> first | (exfalso; simp only [dcA] at hc; omega) | (simp only [hc]; try simp only [dcA] at hc)) | refine aO ?_ | refine dO ?_)
  exact fin_same trivial rfl
end Go.Proofs.YtpggiabnhodjpaaGreatDoor
