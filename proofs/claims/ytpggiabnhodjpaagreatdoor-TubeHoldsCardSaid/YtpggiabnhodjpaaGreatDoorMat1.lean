/- The plain arithmetic of the reference (ref02), part 8: Cmp, Min, Max, Shift, Of, Make. -/
import Derived.Test.YtpggiabnhodjpaaGreatDoorRef7
import Derived.Test.YtpggiabnhodjpaaGreatDoorU2
import Derived.Test.YtpggiabnhodjpaaGreatDoorNat1
import Derived.Test.YtpggiabnhodjpaaGreatDoorU3
set_option linter.unusedSimpArgs false
set_option linter.unusedVariables false
set_option linter.deprecated false
namespace Go.Proofs.YtpggiabnhodjpaaGreatDoor
open Go Go.Ax
set_option maxRecDepth 100000
set_option maxHeartbeats 4000000
theorem sub_sign (x y : Dy) : (x.sub y).sign = x.cmp y := by
  rw [Dy.sign_v, Dy.v_sub, Dy.cmp]
  by_cases h1 : x.v < y.v
  · rw [if_pos h1, if_pos (by grind)]
  · rw [if_neg h1, if_neg (by grind)]
    by_cases h2 : y.v < x.v
    · rw [if_pos h2, if_neg (by grind)]
    · rw [if_neg h2, if_pos (by grind)]
theorem sub_len {s : Bool} {ws : List Nat} {d : Int} {s' : Bool} {ws' : List Nat} {d' : Int} {x y : Dy} (h : Arg s ws d x) (h' : Arg s' ws' d' y) : (ms (x.sub y)).length ≤ 4611686018427387904 := by
  have h1 := ((h.mg h.len).sub (h'.mg h'.len)).len
  show (words (x.sub y).n.natAbs).length ≤ _
  omega
theorem ref_Cmp (s : Bool) (ws : List Nat) (d : Int) (s' : Bool) (ws' : List Nat) (d' : Int) (x y : Dy) (h : Arg s ws d x) (h' : Arg s' ws' d' y) : CallOK Tryz.prog gl 20 [.agg [.v (.bool s), .sl 1 (u32s ws), .v (.int .i64 d)], .agg [.v (.bool s'), .sl 1 (u32s ws'), .v (.int .i64 d')]] (.v (.int .i64 ((x.cmp y)))) := by
  refine call_ok (C := ⟨Tryz.prog, gl, ti, 9, false⟩) ti_ok mixed 3000 Tryz.call20 Tryz.func20 rfl Tryz.ntmps20 (by simp) byClL byCl ?_
  rw [Tryz.results20]
  have sb := ref_Sub s ws d s' ws' d' x y h h'
  have sg' := ref_Sign' (x.sub y) (sub_len h h')
  rw [sub_sign] at sg'
  repeat' (first | (simp only [go_sem, seval, IntKind.bits.eq_def, ti, tin]) | (simp (disch := omega) only [wA]) | (with_reducible first | refine cF sb ?_ | refine dF sb ?_ | refine cF (sg') ?_ | refine dF (sg') ?_) | refine aL ti_ok ?_ | refine dL ti_ok ?_ | refine dG ?_ | ((first | refine cC ?_ ?_ | refine gS ?_ ?_ | refine dS ?_ ?_) <;> intro hc <;> first | (exfalso; simp only [dcA] at hc; omega) | (simp only [hc]; try simp only [dcA] at hc)) | refine aO ?_ | refine dO ?_)
  exact fin_same trivial rfl
theorem add_zero (x : Dy) : x.add Dy.zero = x := Dy.ext_v (by rw [Dy.v_add, Dy.v_zero]; grind)
theorem u32s_two (n : Nat) : [[AV.v (.int .u32 (n % 4294967296 : Nat))], [AV.v (.int .u32 (n / 4294967296 : Nat))]] = u32s [n % 4294967296, n / 4294967296] := rfl
theorem ref_Of (n : Int) (h : -9223372036854775808 ≤ n ∧ n ≤ 9223372036854775807) : CallOK Tryz.prog gl 21 [.v (.int .i64 n)] (.agg [.v (.bool (sg (Dy.int n))), .sl 1 (u32s (ms (Dy.int n))), .v (.int .i64 (dn (Dy.int n)))]) := by
  refine call_ok (C := ⟨Tryz.prog, gl, ti, 22, false⟩) ti_ok mixed 3000 Tryz.call21 Tryz.func21 rfl Tryz.ntmps21 (by simp) byClL byCl ?_
  rw [Tryz.results21]
  have hv : val [n.natAbs % 4294967296, n.natAbs / 4294967296] = n.natAbs := by simp only [val]; omega
  have hq : n.natAbs / 4294967296 < 4294967296 := by omega
  have rs := ref_num (decide (n < 0)) [n.natAbs % 4294967296, n.natAbs / 4294967296] 0 (.cons (Nat.mod_lt _ (by omega)) (.cons hq .nil)) (by simp) (by omega) (by omega)
  have ri := res_int n
  rw [val_words] at ri
  rw [hv, ri, ← u32s_two] at rs
  have f1 := wrap_u32 n.natAbs
  have f2 : (n.natAbs : Int) / 4294967296 = ((n.natAbs / 4294967296 : Nat) : Int) := rfl
  have f3 := wrap_u32 (n.natAbs / 4294967296)
  rw [Nat.mod_eq_of_lt hq] at f3
  by_cases hn : n < 0
  · have e1 : IntKind.u64.wrap n = n + 18446744073709551616 := by simp only [IntKind.wrap, IntKind.bits, IntKind.signed]; simp; omega
    have e2 : (0 : Int) - (n + 1) + 1 = (n.natAbs : Int) := by omega
    clear hv ri hq
    repeat' (first | (simp only [go_sem, seval, IntKind.bits.eq_def, ti, tin, e1, e2, f1, f2, f3]) | (simp (disch := omega) only [wA]) | (with_reducible first | refine cF rs ?_ | refine dF rs ?_) | refine aL ti_ok ?_ | refine dL ti_ok ?_ | refine dG ?_ | ((first | refine cC ?_ ?_ | refine gS ?_ ?_ | refine dS ?_ ?_) <;> intro hc <;> first | (exfalso; simp only [dcA] at hc; omega) | (simp only [hc]; try simp only [dcA] at hc)) | refine aO ?_ | refine dO ?_)
    exact fin_same trivial rfl
  · have e1 : IntKind.u64.wrap n = (n.natAbs : Int) := by simp only [IntKind.wrap, IntKind.bits, IntKind.signed]; simp; omega
    clear hv ri hq
    repeat' (first | (simp only [go_sem, seval, IntKind.bits.eq_def, ti, tin, e1, f1, f2, f3]) | (simp (disch := omega) only [wA]) | (with_reducible first | refine cF rs ?_ | refine dF rs ?_) | refine aL ti_ok ?_ | refine dL ti_ok ?_ | refine dG ?_ | ((first | refine cC ?_ ?_ | refine gS ?_ ?_ | refine dS ?_ ?_) <;> intro hc <;> first | (exfalso; simp only [dcA] at hc; omega) | (simp only [hc]; try simp only [dcA] at hc)) | refine aO ?_ | refine dO ?_)
    exact fin_same trivial rfl
theorem ref_Make (n : Int) (den : Nat) (hn : -9223372036854775808 ≤ n ∧ n ≤ 9223372036854775807) (hd : den ≤ 65536) : CallOK Tryz.prog gl 91 [.v (.int .i64 n), .v (.int .i64 den)] (.tup [.agg [.v (.bool (sg (nrm n den))), .sl 1 (u32s (ms (nrm n den))), .v (.int .i64 (dn (nrm n den)))], .v (.int .i64 0)]) := by
  refine call_ok (C := ⟨Tryz.prog, gl, ti, 22, false⟩) ti_ok mixed 3000 Tryz.call91 Tryz.func91 rfl Tryz.ntmps91 (by simp) byClL byCl ?_
  rw [Tryz.results91]
  have oo := ref_Of n hn
  have hl : (ms (Dy.int n)).length ≤ 2 := words_length_le (by show n.natAbs < _; omega)
  have rs := ref_num (sg (Dy.int n)) (ms (Dy.int n)) den (ms_wd _) (by omega) (by omega) (by omega)
  rw [Int.toNat_natCast, res_make] at rs
  repeat' (first | (simp only [go_sem, seval, IntKind.bits.eq_def, ti, tin]) | (simp (disch := omega) only [wA]) | (with_reducible first | refine cF oo ?_ | refine dF oo ?_ | refine cF rs ?_ | refine dF rs ?_) | refine aL ti_ok ?_ | refine dL ti_ok ?_ | refine dG ?_ | ((first | refine cC ?_ ?_ | refine gS ?_ ?_ | refine dS ?_ ?_) <;> intro hc <;> first | (exfalso; simp only [dcA] at hc; omega) | (simp only [hc]; try simp only [dcA] at hc)) | refine aO ?_ | refine dO ?_)
  exact fin_same trivial rfl
end Go.Proofs.YtpggiabnhodjpaaGreatDoor
/- The plain arithmetic of the reference (ref02), part 9: Shift, Same. -/
set_option linter.unusedSimpArgs false
set_option linter.unusedVariables false
set_option linter.deprecated false
namespace Go.Proofs.YtpggiabnhodjpaaGreatDoor
open Go Go.Ax
set_option maxRecDepth 100000
set_option maxHeartbeats 4000000
end Go.Proofs.YtpggiabnhodjpaaGreatDoor
/- The plain arithmetic of the reference (ref02), part 10: Same. -/
set_option linter.unusedSimpArgs false
set_option linter.unusedVariables false
set_option linter.deprecated false
namespace Go.Proofs.YtpggiabnhodjpaaGreatDoor
open Go Go.Ax
set_option maxRecDepth 100000
set_option maxHeartbeats 4000000
theorem take_eq_succ {a b : List Nat} {i : Nat} (h1 : i < a.length) (h2 : i < b.length) (h : a.take i = b.take i) (hx : a.getD i 0 = b.getD i 0) : a.take (i + 1) = b.take (i + 1) := by
  rw [take_succ_getD h1, take_succ_getD h2, h, hx]
theorem ref_Same_raw (s : Bool) (ws : List Nat) (d : Int) (s' : Bool) (ws' : List Nat) (d' : Int) (hl : ws.length ≤ 4611686018427387904) (hl' : ws'.length ≤ 4611686018427387904) : CallOK Tryz.prog gl 53 [.agg [.v (.bool s), .sl 1 (u32s ws), .v (.int .i64 d)], .agg [.v (.bool s'), .sl 1 (u32s ws'), .v (.int .i64 d')]] (.v (.bool ((decide (s = s' ∧ ws = ws' ∧ d = d'))))) := by
  refine call_ok (C := ⟨Tryz.prog, gl, ti, 45, false⟩) ti_ok mixed 3000 Tryz.call53 Tryz.func53 rfl Tryz.ntmps53 (by simp) byClL byCl ?_
  rw [Tryz.results53]
  obtain ⟨z, hz⟩ : ∃ z, decide (s = s' ∧ ws = ws' ∧ d = d') = z := ⟨_, rfl⟩
  rw [hz]
  by_cases hs : s = s'
  · subst hs
    have e1 : decide (s = s) = true := decide_eq_true rfl
    by_cases hd : d = d'
    · subst hd
      by_cases hw : ws.length = ws'.length
      · obtain ⟨n, hn⟩ : ∃ n : Nat, ws.length = n := ⟨_, rfl⟩
        have hn' : ws'.length = n := by omega
        repeat' (first | (simp only [go_sem, seval, IntKind.bits.eq_def, ti, tin, u32s_length, e1, hn, hn']) | (simp (disch := omega) only [wA]) | refine aL ti_ok ?_ | refine dL ti_ok ?_ | refine dG ?_ | ((first | refine cC ?_ ?_ | refine gS ?_ ?_ | refine dS ?_ ?_) <;> intro hc <;> first | (exfalso; simp only [dcA] at hc; omega) | (simp only [hc]; try simp only [dcA] at hc)) | refine aO ?_ | refine dO ?_)
        refine l_loop (α := Nat) (fun x => ⟨[(2, .p 0 3 0 0), (3, .p 1 3 0 0), (29, .v (.int .i64 n)), (30, .v (.int .i64 x))], [(0, ⟨3, [[.v (.bool s), .sl 1 (u32s ws), .v (.int .i64 d)]]⟩), (1, ⟨3, [[.v (.bool s), .sl 1 (u32s ws'), .v (.int .i64 d)]]⟩)], 2⟩) (fun x => x ≤ n ∧ ws.take x = ws'.take x) (fun x => n - x) (0) _ byFresh (fun _ h => by first | (cases h; done) | exact Nat.le_of_ble_eq_true rfl) ?_ ?_ ?_
        · exact ⟨Nat.zero_le _, rfl⟩
        · exact byWeak
        rintro i ⟨hi, ht⟩
        by_cases hin : i < n
        ·
          have ra := u32s_getD (ws := ws) (i := i) (by omega)
          have rb := u32s_getD (ws := ws') (i := i) (by omega)
          have ts := take_eq_succ (a := ws) (b := ws') (i := i) (by omega) (by omega) ht
          have hne : ws.getD i 0 ≠ ws'.getD i 0 → decide (s = s ∧ ws = ws' ∧ d = d) = false := fun h => decide_eq_false (fun hh => h (by rw [hh.2.1]))
          generalize ws.getD i 0 = x at *
          generalize ws'.getD i 0 = y at *
          by_cases hxy : x = y
          ·
            have ts2 := ts hxy
            subst hxy
            clear hne
            repeat' (first | (simp only [go_sem, seval, IntKind.bits.eq_def, ti, tin, u32s_length, e1, hn, hn', ra, rb]) | (simp (disch := omega) only [wA]) | refine aL ti_ok ?_ | refine dL ti_ok ?_ | refine dG ?_ | ((first | refine cC ?_ ?_ | refine gS ?_ ?_ | refine dS ?_ ?_) <;> intro hc <;> first | (exfalso; simp only [dcA] at hc; omega) | (simp only [hc]; try simp only [dcA] at hc)) | refine aO ?_ | refine dO ?_)
            refine roundEnd_of (α := Nat) (i + 1) ⟨by omega, ts2⟩ (by omega) ?_
            exact byWeak
          ·
            rw [hne hxy] at hz
            subst hz
            have hxy' : ¬ (x : Int) = (y : Int) := by omega
            clear hne ts
            repeat' (first | (simp only [go_sem, seval, IntKind.bits.eq_def, ti, tin, u32s_length, e1, hn, hn', ra, rb]) | (simp (disch := omega) only [wA]) | refine aL ti_ok ?_ | refine dL ti_ok ?_ | refine dG ?_ | ((first | refine cC ?_ ?_ | refine gS ?_ ?_ | refine dS ?_ ?_) <;> intro hc <;> first | (exfalso; simp only [dcA] at hc; omega) | (simp only [hc]; try simp only [dcA] at hc)) | refine aO ?_ | refine dO ?_)
            exact fin_same trivial rfl
        ·
          have hi2 : i = n := by omega
          have hww : ws = ws' := by
            rw [List.take_of_length_le (by omega), List.take_of_length_le (by omega)] at ht
            exact ht
          rw [decide_eq_true (show s = s ∧ ws = ws' ∧ d = d from ⟨rfl, hww, rfl⟩)] at hz
          subst hz
          clear hww ht
          repeat' (first | (simp only [go_sem, seval, IntKind.bits.eq_def, ti, tin, u32s_length, e1, hn, hn']) | (simp (disch := omega) only [wA]) | refine aL ti_ok ?_ | refine dL ti_ok ?_ | refine dG ?_ | ((first | refine cC ?_ ?_ | refine gS ?_ ?_ | refine dS ?_ ?_) <;> intro hc <;> first | (exfalso; simp only [dcA] at hc; omega) | (simp only [hc]; try simp only [dcA] at hc)) | refine aO ?_ | refine dO ?_)
          exact fin_same trivial rfl
      · rw [decide_eq_false (fun hh => hw (by rw [hh.2.1]))] at hz
        subst hz
        have hw' : ¬ (ws.length : Int) = (ws'.length : Int) := by omega
        repeat' (first | (simp only [go_sem, seval, IntKind.bits.eq_def, ti, tin, u32s_length, e1]) | (simp (disch := omega) only [wA]) | refine aL ti_ok ?_ | refine dL ti_ok ?_ | refine dG ?_ | ((first | refine cC ?_ ?_ | refine gS ?_ ?_ | refine dS ?_ ?_) <;> intro hc <;> first | (exfalso; simp only [dcA] at hc; omega) | (simp only [hc]; try simp only [dcA] at hc)) | refine aO ?_ | refine dO ?_)
        all_goals exact fin_same trivial rfl
    · rw [decide_eq_false (fun hh => hd hh.2.2)] at hz
      subst hz
      repeat' (first | (simp only [go_sem, seval, IntKind.bits.eq_def, ti, tin, u32s_length, e1]) | (simp (disch := omega) only [wA]) | refine aL ti_ok ?_ | refine dL ti_ok ?_ | refine dG ?_ | ((first | refine cC ?_ ?_ | refine gS ?_ ?_ | refine dS ?_ ?_) <;> intro hc <;> first | (exfalso; simp only [dcA] at hc; omega) | (simp only [hc]; try simp only [dcA] at hc)) | refine aO ?_ | refine dO ?_)
      all_goals exact fin_same trivial rfl
  · rw [decide_eq_false (fun hh => hs hh.1)] at hz
    subst hz
    have e1 : decide (s = s') = false := decide_eq_false hs
    repeat' (first | (simp only [go_sem, seval, IntKind.bits.eq_def, ti, tin, u32s_length, e1]) | (simp (disch := omega) only [wA]) | refine aL ti_ok ?_ | refine dL ti_ok ?_ | refine dG ?_ | ((first | refine cC ?_ ?_ | refine gS ?_ ?_ | refine dS ?_ ?_) <;> intro hc <;> first | (exfalso; simp only [dcA] at hc; omega) | (simp only [hc]; try simp only [dcA] at hc)) | refine aO ?_ | refine dO ?_)
    all_goals exact fin_same trivial rfl
theorem Dy.same {x y : Dy} : (sg x = sg y ∧ ms x = ms y ∧ dn x = dn y) ↔ x = y := by
  refine ⟨fun ⟨h1, h2, h3⟩ => ?_, fun h => by subst h; exact ⟨rfl, rfl, rfl⟩⟩
  have a := res_self x
  have b := res_self y
  rw [h1, h2, h3] at a
  exact a.symm.trans b
instance : DecidableEq Dy := fun _ _ => decidable_of_iff _ Dy.same
theorem ref_Same (x y : Dy) (hl : (ms x).length ≤ 4611686018427387904) (hl' : (ms y).length ≤ 4611686018427387904) : CallOK Tryz.prog gl 53 [.agg [.v (.bool (sg x)), .sl 1 (u32s (ms x)), .v (.int .i64 (dn x))], .agg [.v (.bool (sg y)), .sl 1 (u32s (ms y)), .v (.int .i64 (dn y))]] (.v (.bool (decide (x = y)))) := by
  have h := ref_Same_raw (sg x) (ms x) (dn x) (sg y) (ms y) (dn y) hl hl'
  rw [show decide (sg x = sg y ∧ ms x = ms y ∧ dn x = dn y) = decide (x = y) from decide_eq_decide.2 Dy.same] at h
  exact h
end Go.Proofs.YtpggiabnhodjpaaGreatDoor
/- Layer 4 (matrix) and its reference: Check; equal vectors and matrices. -/
set_option linter.unusedSimpArgs false
set_option linter.unusedVariables false
set_option linter.deprecated false
namespace Go.Proofs.YtpggiabnhodjpaaGreatDoor
open Go Go.Ax
set_option maxRecDepth 100000
set_option maxHeartbeats 4000000
def eV (e : Int) : Value := if e = 0 then .nilIface else .iface 117 (.int .i64 e)
theorem eV_zero : eV 0 = .nilIface := (rfl)
theorem eV_ne {e : Int} (h : ¬ e = 0) : eV e = .iface 117 (.int .i64 e) := if_neg h
def ckM {α : Type} (a : List (List α)) : Int :=
  if a.length = 0 then 11 else if (a.getD 0 []).length = 0 then 11 else if 8 < a.length then 4 else if 8 < (a.getD 0 []).length then 4 else if ∀ i, i < a.length → (a.getD i []).length = (a.getD 0 []).length then 0 else 11
theorem mat_Check (a : List (List RD)) (hl : a.length ≤ 4611686018427387904) : CallOK Tryz.prog gl 83 [.sl 1 (mrows (a))] (.v (eV (ckM a))) := by
  refine call_ok (C := ⟨Tryz.prog, gl, ti, 44, false⟩) ti_ok mixed 3000 Tryz.call83 Tryz.func83 rfl Tryz.ntmps83 (by simp) byClL byCl ?_
  rw [Tryz.results83]
  obtain ⟨z, hz⟩ : ∃ z, ckM a = z := ⟨_, rfl⟩
  rw [hz]
  unfold ckM at hz
  by_cases h0 : a.length = 0
  · rw [if_pos h0] at hz
    subst hz
    repeat' (first | (simp only [go_sem, seval, IntKind.bits.eq_def, ti, tin, mrows_length, h0]) | (simp (disch := omega) only [wA]) | refine aL ti_ok ?_ | refine dL ti_ok ?_ | refine dG ?_ | ((first | refine cC ?_ ?_ | refine gS ?_ ?_ | refine dS ?_ ?_) <;> intro hc <;> first | (exfalso; simp only [dcA] at hc; omega) | (simp only [hc]; try simp only [dcA] at hc)) | refine aO ?_ | refine dO ?_)
    all_goals exact fin_same trivial rfl
  rw [if_neg h0] at hz
  have r0 := mrows_getD (a := a) (i := 0) (by omega)
  obtain ⟨m, hm⟩ : ∃ m, (a.getD 0 []).length = m := ⟨_, rfl⟩
  have vm : (vrows (a.getD 0 [])).length = m := by rw [vrows_length, hm]
  rw [hm] at hz
  generalize hx : a.getD 0 [] = x at *
  obtain ⟨n, hn⟩ : ∃ n, a.length = n := ⟨_, rfl⟩
  rw [hn] at hz h0 hl
  by_cases h1 : m = 0
  · rw [if_pos h1] at hz
    subst hz
    repeat' (first | (simp only [go_sem, seval, IntKind.bits.eq_def, ti, tin, mrows_length, hn, r0, vm, h1]) | (simp (disch := omega) only [wA]) | refine aL ti_ok ?_ | refine dL ti_ok ?_ | refine dG ?_ | ((first | refine cC ?_ ?_ | refine gS ?_ ?_ | refine dS ?_ ?_) <;> intro hc <;> first | (exfalso; simp only [dcA] at hc; omega) | (simp only [hc]; try simp only [dcA] at hc)) | refine aO ?_ | refine dO ?_)
    all_goals exact fin_same trivial rfl
  rw [if_neg h1] at hz
  by_cases h2 : 8 < n
  · rw [if_pos h2] at hz
    subst hz
    repeat' (first | (simp only [go_sem, seval, IntKind.bits.eq_def, ti, tin, mrows_length, hn, r0, vm]) | (simp (disch := omega) only [wA]) | refine aL ti_ok ?_ | refine dL ti_ok ?_ | refine dG ?_ | ((first | refine cC ?_ ?_ | refine gS ?_ ?_ | refine dS ?_ ?_) <;> intro hc <;> first | (exfalso; simp only [dcA] at hc; omega) | (simp only [hc]; try simp only [dcA] at hc)) | refine aO ?_ | refine dO ?_)
    all_goals exact fin_same trivial rfl
  rw [if_neg h2] at hz
  by_cases h3 : 8 < m
  · rw [if_pos h3] at hz
    subst hz
    repeat' (first | (simp only [go_sem, seval, IntKind.bits.eq_def, ti, tin, mrows_length, hn, r0, vm]) | (simp (disch := omega) only [wA]) | refine aL ti_ok ?_ | refine dL ti_ok ?_ | refine dG ?_ | ((first | refine cC ?_ ?_ | refine gS ?_ ?_ | refine dS ?_ ?_) <;> intro hc <;> first | (exfalso; simp only [dcA] at hc; omega) | (simp only [hc]; try simp only [dcA] at hc)) | refine aO ?_ | refine dO ?_)
    all_goals exact fin_same trivial rfl
  rw [if_neg h3] at hz
  repeat' (first | (simp only [go_sem, seval, IntKind.bits.eq_def, ti, tin, mrows_length, hn, r0, vm]) | (simp (disch := omega) only [wA]) | refine aL ti_ok ?_ | refine dL ti_ok ?_ | refine dG ?_ | ((first | refine cC ?_ ?_ | refine gS ?_ ?_ | refine dS ?_ ?_) <;> intro hc <;> first | (exfalso; simp only [dcA] at hc; omega) | (simp only [hc]; try simp only [dcA] at hc)) | refine aO ?_ | refine dO ?_)
  refine l_loop (α := Nat) (fun k => ⟨[(0, .sl 1 (mrows (a))), (29, .sl 1 (mrows (a))), (30, .v (.int .i64 n)), (31, .v (.int .i64 k))], [], 0⟩) (fun k => k ≤ n ∧ ∀ i, i < k → (a.getD i []).length = m) (fun k => n - k) (0) _ byFresh (fun _ h => by first | (cases h; done) | exact Nat.le_of_ble_eq_true rfl) ?_ ?_ ?_
  · exact ⟨Nat.zero_le _, fun i hi => by omega⟩
  · exact byWeak
  rintro k ⟨hk, hi⟩
  by_cases hkn : k < n
  ·
    have rk := mrows_getD (a := a) (i := k) (by omega)
    obtain ⟨y, hy⟩ : ∃ y, a.getD k [] = y := ⟨_, rfl⟩
    rw [hy] at rk
    by_cases hyl : y.length = m
    ·
      have vy : (vrows y).length = m := by rw [vrows_length, hyl]
      repeat' (first | (simp only [go_sem, seval, IntKind.bits.eq_def, ti, tin, mrows_length, hn, r0, rk, vm, vy]) | (simp (disch := omega) only [wA]) | refine aL ti_ok ?_ | refine dL ti_ok ?_ | refine dG ?_ | ((first | refine cC ?_ ?_ | refine gS ?_ ?_ | refine dS ?_ ?_) <;> intro hc <;> first | (exfalso; simp only [dcA] at hc; omega) | (simp only [hc]; try simp only [dcA] at hc)) | refine aO ?_ | refine dO ?_)
      refine roundEnd_of (α := Nat) (k + 1) ⟨by omega, fun i h => ?_⟩ (by omega) ?_
      · by_cases h4 : i = k
        · rw [h4, hy, hyl]
        · exact hi i (by omega)
      · exact byWeak
    ·
      rw [if_neg (fun h => hyl (by rw [← hy]; exact h k hkn))] at hz
      subst hz
      have vy : ¬ ((vrows y).length : Int) = (m : Int) := by rw [vrows_length]; omega
      repeat' (first | (simp only [go_sem, seval, IntKind.bits.eq_def, ti, tin, mrows_length, hn, r0, rk, vm, vy]) | (simp (disch := omega) only [wA]) | refine aL ti_ok ?_ | refine dL ti_ok ?_ | refine dG ?_ | ((first | refine cC ?_ ?_ | refine gS ?_ ?_ | refine dS ?_ ?_) <;> intro hc <;> first | (exfalso; simp only [dcA] at hc; omega) | (simp only [hc]; try simp only [dcA] at hc)) | refine aO ?_ | refine dO ?_)
      all_goals exact fin_same trivial rfl
  ·
    rw [if_pos (fun i h => hi i (by omega))] at hz
    subst hz
    repeat' (first | (simp only [go_sem, seval, IntKind.bits.eq_def, ti, tin, mrows_length, hn, r0, vm]) | (simp (disch := omega) only [wA]) | refine aL ti_ok ?_ | refine dL ti_ok ?_ | refine dG ?_ | ((first | refine cC ?_ ?_ | refine gS ?_ ?_ | refine dS ?_ ?_) <;> intro hc <;> first | (exfalso; simp only [dcA] at hc; omega) | (simp only [hc]; try simp only [dcA] at hc)) | refine aO ?_ | refine dO ?_)
    exact fin_same trivial rfl
end Go.Proofs.YtpggiabnhodjpaaGreatDoor
