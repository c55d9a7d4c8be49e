/- Layer 38 (servo): the model of the tracking error, and its reference. -/
import Derived.Test.YtfoadddlmehpnaaDoorObsTr
import Derived.Test.YtfoadddlmehpnaaDoorServo
import Derived.Test.YtfoadddlmehpnaaDoorRefB
import Derived.Test.YtfoadddlmehpnaaDoorRefA
import Derived.Test.YtfoadddlmehpnaaDoorU3
set_option linter.unusedSimpArgs false
set_option linter.unusedVariables false
set_option linter.deprecated false
namespace Go.Proofs.YtfoadddlmehpnaaDoor
open Go Go.Ax
set_option maxRecDepth 100000
set_option maxHeartbeats 4000000

def tms (l : List Dy) : Dy := l.foldl Dy.mul (Dy.int 1)
theorem fold_mg : ∀ (l : List Dy) (a : Dy) (j : Nat), Mg j a → (∀ x ∈ l, Mg 128 x) → Mg (j + 128 * l.length) (l.foldl Dy.mul a)
  | [], a, j, h, _ => h
  | x :: l, a, j, h, hl => by
    have := fold_mg l (a.mul x) (j + 128) (h.mul (hl x (List.mem_cons_self ..))) (fun y hy => hl y (List.mem_cons_of_mem _ hy))
    rw [List.foldl_cons, List.length_cons, show j + 128 * (l.length + 1) = j + 128 + 128 * l.length by omega]
    exact this
theorem tms_mg {l : List Dy} (h : ∀ x ∈ l, Mg 128 x) : Mg (64 + 128 * l.length) (tms l) := fold_mg l _ 64 (Mg.int (by decide)) h
theorem tms_step {l : List Dy} {k : Nat} (h : k < l.length) : tms (l.take (k + 1)) = (tms (l.take k)).mul (l.getD k Dy.zero) := by
  unfold tms
  rw [List.take_add_one, List.foldl_append, List.getElem?_eq_getElem h]
  simp [List.getD, h]
theorem tms_take {l : List Dy} (h : ∀ x ∈ l, Mg 128 x) (hl : l.length ≤ 4) (k : Nat) : Mg 1024 (tms (l.take k)) :=
  (tms_mg (l := l.take k) (fun x hx => h x (List.mem_of_mem_take hx))).mono (by rw [List.length_take]; omega)
theorem tms_of {l : List Dy} (h : ∀ x ∈ l, Mg 128 x) (hl : l.length ≤ 4 := by decide) : Mg 1024 (tms l) := (tms_mg h).mono (by omega)
theorem one_mul (x : Dy) : (Dy.int 1).mul x = x := by
  unfold Dy.mul Dy.int
  simp only [Int.one_mul, Nat.zero_add]
  exact nrm_self x
theorem tms1 (x : Dy) : tms [x] = x := one_mul x

theorem sv_times (l : List Dy) (hl : l.length ≤ 4) (hk : ∀ x ∈ l, Mg 128 x) : CallOK Tryd.prog gl 67 [.sl 3 (vrows (l.map can))] (.agg [.v (.bool (sg (tms l))), .sl 1 (u32s (ms (tms l))), .v (.int .i64 (dn (tms l)))]) := by
  refine call_ok (C := ⟨Tryd.prog, gl, ti, 18, false⟩) ti_ok mixed 3000 Tryd.call67 Tryd.func67 rfl Tryd.ntmps67 (by simp) byClL byCl ?_
  rw [Tryd.results67]
  obtain ⟨n, hn⟩ : ∃ n : Nat, l.length = n := ⟨_, rfl⟩
  have o1 := Of_ok 1 (by omega)
  repeat' (first
    | (simp only [go_sem, Int.reduceAdd, Int.reduceEq, Int.reduceLE, Int.reduceLT, Int.reduceMul, Int.reduceNeg, Int.reducePow, Int.reduceSub, Int.reduceToNat, Nat.reduceAdd, Nat.reduceBEq, Nat.reduceEqDiff, Nat.reduceLT, Nat.reduceLeDiff, Nat.reduceMul, Nat.reducePow, Nat.reduceSub, reduceCtorEq, reduceIte, IntKind.bits.eq_def, ti, tin, crows_length, hn])
    | (simp (disch := omega) only [w64, wu64, wu32, Nat.min_eq_left])
    | (with_reducible refine callF_of (o1) ?_)
    | (with_reducible refine drawF_of (o1) ?_)
    | (refine after_lit ti_ok ?_)
    | (refine drawAfter_lit ti_ok ?_)
    | (refine drawEnd_of (by kernel_rfl) ?_)
    | ((first | refine cond_cases (fun hc => ?_) (fun hc => ?_) | refine guard_split (fun hc => ?_) (fun hc => ?_) | refine drawGuard_split (fun hc => ?_) (fun hc => ?_)) <;> first | (exfalso; simp only [decide_eq_true_eq, decide_eq_false_iff_not, Bool.not_eq_true, Bool.not_eq_false, Bool.not_eq_true', Bool.not_eq_false'] at hc; omega) | (simp only [hc]; try simp only [decide_eq_true_eq, decide_eq_false_iff_not, Bool.not_eq_true, Bool.not_eq_false, Bool.not_eq_true', Bool.not_eq_false'] at hc))
    | (refine after_need (by omega) ?_)
    | (refine drawAfter_need (by omega) ?_))
  refine l_loop (α := Nat) (fun k => ⟨[(2, .p 0 3 0 0), (3, .p 1 3 0 0), (7, .sl 3 (vrows (l.map can))), (8, .v (.int .i64 n)), (9, .v (.int .i64 k))], [(0, ⟨3, [[.v (.bool (false)), .v (.slice none 0 0), .v (.int .i64 0)]]⟩), (1, ⟨3, [[.v (.bool (sg (tms (l.take k)))), .sl 1 (u32s (ms (tms (l.take k)))), .v (.int .i64 (dn (tms (l.take k))))]]⟩)], 2⟩) (fun k => k ≤ n) (fun k => n - k) (0) _ byFresh (fun _ h => by first | (cases h; done) | exact Nat.le_of_ble_eq_true rfl) ?_ ?_ ?_
  · exact Nat.zero_le _
  · exact byWeak
  rintro k hkn
  by_cases hk2 : k < n
  ·
    have rk := crows_getD (l := l) (i := k) (by omega)
    have mk : Mg 128 (l.getD k Dy.zero) := hk _ (mem_getD (by omega))
    have st := tms_step (l := l) (k := k) (by omega)
    have mt := tms_take hk hl k
    have ml := Mul_ok _ _ _ _ _ _ _ _ (mt.arg (by omega)) (mk.arg (by omega))
    rw [← st] at ml
    unfold crow at rk
    clear mt mk st hk
    generalize l.getD k Dy.zero = x at *
    generalize tms (l.take k) = y at *
    obtain ⟨z, hz⟩ : ∃ z, tms (l.take (k + 1)) = z := ⟨_, rfl⟩
    rw [hz] at ml
    repeat' (first
      | (simp only [go_sem, Int.reduceAdd, Int.reduceEq, Int.reduceLE, Int.reduceLT, Int.reduceMul, Int.reduceNeg, Int.reducePow, Int.reduceSub, Int.reduceToNat, Nat.reduceAdd, Nat.reduceBEq, Nat.reduceEqDiff, Nat.reduceLT, Nat.reduceLeDiff, Nat.reduceMul, Nat.reducePow, Nat.reduceSub, reduceCtorEq, reduceIte, IntKind.bits.eq_def, ti, tin, crows_length, hn, rk])
      | (simp (disch := omega) only [w64, wu64, wu32, Nat.min_eq_left])
      | (with_reducible refine callF_of (ml) ?_)
      | (with_reducible refine drawF_of (ml) ?_)
      | (refine after_lit ti_ok ?_)
      | (refine drawAfter_lit ti_ok ?_)
      | (refine drawEnd_of (by kernel_rfl) ?_)
      | ((first | refine cond_cases (fun hc => ?_) (fun hc => ?_) | refine guard_split (fun hc => ?_) (fun hc => ?_) | refine drawGuard_split (fun hc => ?_) (fun hc => ?_)) <;> first | (exfalso; simp only [decide_eq_true_eq, decide_eq_false_iff_not, Bool.not_eq_true, Bool.not_eq_false, Bool.not_eq_true', Bool.not_eq_false'] at hc; omega) | (simp only [hc]; try simp only [decide_eq_true_eq, decide_eq_false_iff_not, Bool.not_eq_true, Bool.not_eq_false, Bool.not_eq_true', Bool.not_eq_false'] at hc))
      | (refine after_need (by omega) ?_)
      | (refine drawAfter_need (by omega) ?_))
    rw [← hz]
    refine roundEnd_of (α := Nat) (k + 1) (show k + 1 ≤ n by omega) (by omega) ?_
    exact byWeak
  ·
    have hk3 : l.take k = l := List.take_of_length_le (by omega)
    rw [hk3]
    repeat' (first
      | (simp only [go_sem, Int.reduceAdd, Int.reduceEq, Int.reduceLE, Int.reduceLT, Int.reduceMul, Int.reduceNeg, Int.reducePow, Int.reduceSub, Int.reduceToNat, Nat.reduceAdd, Nat.reduceBEq, Nat.reduceEqDiff, Nat.reduceLT, Nat.reduceLeDiff, Nat.reduceMul, Nat.reducePow, Nat.reduceSub, reduceCtorEq, reduceIte, IntKind.bits.eq_def, ti, tin, crows_length, hn])
      | (simp (disch := omega) only [w64, wu64, wu32, Nat.min_eq_left])
      | (refine after_lit ti_ok ?_)
      | (refine drawAfter_lit ti_ok ?_)
      | (refine drawEnd_of (by kernel_rfl) ?_)
      | ((first | refine cond_cases (fun hc => ?_) (fun hc => ?_) | refine guard_split (fun hc => ?_) (fun hc => ?_) | refine drawGuard_split (fun hc => ?_) (fun hc => ?_)) <;> first | (exfalso; simp only [decide_eq_true_eq, decide_eq_false_iff_not, Bool.not_eq_true, Bool.not_eq_false, Bool.not_eq_true', Bool.not_eq_false'] at hc; omega) | (simp only [hc]; try simp only [decide_eq_true_eq, decide_eq_false_iff_not, Bool.not_eq_true, Bool.not_eq_false, Bool.not_eq_true', Bool.not_eq_false'] at hc))
      | (refine after_need (by omega) ?_)
      | (refine drawAfter_need (by omega) ?_))
    exact fin_same trivial rfl
theorem ref38_times (l : List Dy) (hl : l.length ≤ 4) (hk : ∀ x ∈ l, Mg 128 x) : CallOK Tryd.prog gl 72 [.sl 3 (vrows (l.map can))] (.agg [.v (.bool (sg (tms l))), .sl 1 (u32s (ms (tms l))), .v (.int .i64 (dn (tms l)))]) := by
  refine call_ok (C := ⟨Tryd.prog, gl, ti, 18, false⟩) ti_ok mixed 3000 Tryd.call72 Tryd.func72 rfl Tryd.ntmps72 (by simp) byClL byCl ?_
  rw [Tryd.results72]
  obtain ⟨n, hn⟩ : ∃ n : Nat, l.length = n := ⟨_, rfl⟩
  have o1 := ref_Of 1 (by omega)
  repeat' (first
    | (simp only [go_sem, Int.reduceAdd, Int.reduceEq, Int.reduceLE, Int.reduceLT, Int.reduceMul, Int.reduceNeg, Int.reducePow, Int.reduceSub, Int.reduceToNat, Nat.reduceAdd, Nat.reduceBEq, Nat.reduceEqDiff, Nat.reduceLT, Nat.reduceLeDiff, Nat.reduceMul, Nat.reducePow, Nat.reduceSub, reduceCtorEq, reduceIte, IntKind.bits.eq_def, ti, tin, crows_length, hn])
    | (simp (disch := omega) only [w64, wu64, wu32, Nat.min_eq_left])
    | (with_reducible refine callF_of (o1) ?_)
    | (with_reducible refine drawF_of (o1) ?_)
    | (refine after_lit ti_ok ?_)
    | (refine drawAfter_lit ti_ok ?_)
    | (refine drawEnd_of (by kernel_rfl) ?_)
    | ((first | refine cond_cases (fun hc => ?_) (fun hc => ?_) | refine guard_split (fun hc => ?_) (fun hc => ?_) | refine drawGuard_split (fun hc => ?_) (fun hc => ?_)) <;> first | (exfalso; simp only [decide_eq_true_eq, decide_eq_false_iff_not, Bool.not_eq_true, Bool.not_eq_false, Bool.not_eq_true', Bool.not_eq_false'] at hc; omega) | (simp only [hc]; try simp only [decide_eq_true_eq, decide_eq_false_iff_not, Bool.not_eq_true, Bool.not_eq_false, Bool.not_eq_true', Bool.not_eq_false'] at hc))
    | (refine after_need (by omega) ?_)
    | (refine drawAfter_need (by omega) ?_))
  refine l_loop (α := Nat) (fun k => ⟨[(2, .p 0 3 0 0), (3, .p 1 3 0 0), (7, .sl 3 (vrows (l.map can))), (8, .v (.int .i64 n)), (9, .v (.int .i64 k))], [(0, ⟨3, [[.v (.bool (false)), .v (.slice none 0 0), .v (.int .i64 0)]]⟩), (1, ⟨3, [[.v (.bool (sg (tms (l.take k)))), .sl 1 (u32s (ms (tms (l.take k)))), .v (.int .i64 (dn (tms (l.take k))))]]⟩)], 2⟩) (fun k => k ≤ n) (fun k => n - k) (0) _ byFresh (fun _ h => by first | (cases h; done) | exact Nat.le_of_ble_eq_true rfl) ?_ ?_ ?_
  · exact Nat.zero_le _
  · exact byWeak
  rintro k hkn
  by_cases hk2 : k < n
  ·
    have rk := crows_getD (l := l) (i := k) (by omega)
    have mk : Mg 128 (l.getD k Dy.zero) := hk _ (mem_getD (by omega))
    have st := tms_step (l := l) (k := k) (by omega)
    have mt := tms_take hk hl k
    have ml := ref_Mul _ _ _ _ _ _ _ _ (mt.arg (by omega)) (mk.arg (by omega))
    rw [← st] at ml
    unfold crow at rk
    clear mt mk st hk
    generalize l.getD k Dy.zero = x at *
    generalize tms (l.take k) = y at *
    obtain ⟨z, hz⟩ : ∃ z, tms (l.take (k + 1)) = z := ⟨_, rfl⟩
    rw [hz] at ml
    repeat' (first
      | (simp only [go_sem, Int.reduceAdd, Int.reduceEq, Int.reduceLE, Int.reduceLT, Int.reduceMul, Int.reduceNeg, Int.reducePow, Int.reduceSub, Int.reduceToNat, Nat.reduceAdd, Nat.reduceBEq, Nat.reduceEqDiff, Nat.reduceLT, Nat.reduceLeDiff, Nat.reduceMul, Nat.reducePow, Nat.reduceSub, reduceCtorEq, reduceIte, IntKind.bits.eq_def, ti, tin, crows_length, hn, rk])
      | (simp (disch := omega) only [w64, wu64, wu32, Nat.min_eq_left])
      | (with_reducible refine callF_of (ml) ?_)
      | (with_reducible refine drawF_of (ml) ?_)
      | (refine after_lit ti_ok ?_)
      | (refine drawAfter_lit ti_ok ?_)
      | (refine drawEnd_of (by kernel_rfl) ?_)
      | ((first | refine cond_cases (fun hc => ?_) (fun hc => ?_) | refine guard_split (fun hc => ?_) (fun hc => ?_) | refine drawGuard_split (fun hc => ?_) (fun hc => ?_)) <;> first | (exfalso; simp only [decide_eq_true_eq, decide_eq_false_iff_not, Bool.not_eq_true, Bool.not_eq_false, Bool.not_eq_true', Bool.not_eq_false'] at hc; omega) | (simp only [hc]; try simp only [decide_eq_true_eq, decide_eq_false_iff_not, Bool.not_eq_true, Bool.not_eq_false, Bool.not_eq_true', Bool.not_eq_false'] at hc))
      | (refine after_need (by omega) ?_)
      | (refine drawAfter_need (by omega) ?_))
    rw [← hz]
    refine roundEnd_of (α := Nat) (k + 1) (show k + 1 ≤ n by omega) (by omega) ?_
    exact byWeak
  ·
    have hk3 : l.take k = l := List.take_of_length_le (by omega)
    rw [hk3]
    repeat' (first
      | (simp only [go_sem, Int.reduceAdd, Int.reduceEq, Int.reduceLE, Int.reduceLT, Int.reduceMul, Int.reduceNeg, Int.reducePow, Int.reduceSub, Int.reduceToNat, Nat.reduceAdd, Nat.reduceBEq, Nat.reduceEqDiff, Nat.reduceLT, Nat.reduceLeDiff, Nat.reduceMul, Nat.reducePow, Nat.reduceSub, reduceCtorEq, reduceIte, IntKind.bits.eq_def, ti, tin, crows_length, hn])
      | (simp (disch := omega) only [w64, wu64, wu32, Nat.min_eq_left])
      | (refine after_lit ti_ok ?_)
      | (refine drawAfter_lit ti_ok ?_)
      | (refine drawEnd_of (by kernel_rfl) ?_)
      | ((first | refine cond_cases (fun hc => ?_) (fun hc => ?_) | refine guard_split (fun hc => ?_) (fun hc => ?_) | refine drawGuard_split (fun hc => ?_) (fun hc => ?_)) <;> first | (exfalso; simp only [decide_eq_true_eq, decide_eq_false_iff_not, Bool.not_eq_true, Bool.not_eq_false, Bool.not_eq_true', Bool.not_eq_false'] at hc; omega) | (simp only [hc]; try simp only [decide_eq_true_eq, decide_eq_false_iff_not, Bool.not_eq_true, Bool.not_eq_false, Bool.not_eq_true', Bool.not_eq_false'] at hc))
      | (refine after_need (by omega) ?_)
      | (refine drawAfter_need (by omega) ?_))
    exact fin_same trivial rfl
theorem sv_part (n : Int) (den : Nat) (hn : -9223372036854775808 ≤ n ∧ n ≤ 9223372036854775807) (hd : den ≤ 65536) : CallOK Tryd.prog gl 64 [.v (.int .i64 n), .v (.int .i64 den)] (.agg [.v (.bool (sg (nrm n den))), .sl 1 (u32s (ms (nrm n den))), .v (.int .i64 (dn (nrm n den)))]) := by
  refine call_ok (C := ⟨Tryd.prog, gl, ti, 14, false⟩) ti_ok mixed 3000 Tryd.call64 Tryd.func64 rfl Tryd.ntmps64 (by simp) byClL byCl ?_
  rw [Tryd.results64]
  repeat' (first
    | (simp only [go_sem, Int.reduceAdd, Int.reduceEq, Int.reduceLE, Int.reduceLT, Int.reduceMul, Int.reduceNeg, Int.reducePow, Int.reduceSub, Int.reduceToNat, Nat.reduceAdd, Nat.reduceBEq, Nat.reduceEqDiff, Nat.reduceLT, Nat.reduceLeDiff, Nat.reduceMul, Nat.reducePow, Nat.reduceSub, reduceCtorEq, reduceIte, IntKind.bits.eq_def, ti, tin])
    | (simp (disch := omega) only [w64, wu64, wu32, Nat.min_eq_left])
    | (with_reducible refine callF_of (Make_ok n den hn hd) ?_)
    | (with_reducible refine drawF_of (Make_ok n den hn hd) ?_)
    | (refine after_lit ti_ok ?_)
    | (refine drawAfter_lit ti_ok ?_)
    | (refine drawEnd_of (by kernel_rfl) ?_)
    | ((first | refine cond_cases (fun hc => ?_) (fun hc => ?_) | refine guard_split (fun hc => ?_) (fun hc => ?_) | refine drawGuard_split (fun hc => ?_) (fun hc => ?_)) <;> first | (exfalso; simp only [decide_eq_true_eq, decide_eq_false_iff_not, Bool.not_eq_true, Bool.not_eq_false, Bool.not_eq_true', Bool.not_eq_false'] at hc; omega) | (simp only [hc]; try simp only [decide_eq_true_eq, decide_eq_false_iff_not, Bool.not_eq_true, Bool.not_eq_false, Bool.not_eq_true', Bool.not_eq_false'] at hc))
    | (refine after_need (by omega) ?_)
    | (refine drawAfter_need (by omega) ?_))
  exact fin_same trivial rfl
theorem ref38_scaled (n : Int) (den : Nat) (hn : -9223372036854775808 ≤ n ∧ n ≤ 9223372036854775807) (hd : den ≤ 65536) : CallOK Tryd.prog gl 70 [.v (.int .i64 n), .v (.int .i64 den)] (.agg [.v (.bool (sg (nrm n den))), .sl 1 (u32s (ms (nrm n den))), .v (.int .i64 (dn (nrm n den)))]) := by
  refine call_ok (C := ⟨Tryd.prog, gl, ti, 14, false⟩) ti_ok mixed 3000 Tryd.call70 Tryd.func70 rfl Tryd.ntmps70 (by simp) byClL byCl ?_
  rw [Tryd.results70]
  repeat' (first
    | (simp only [go_sem, Int.reduceAdd, Int.reduceEq, Int.reduceLE, Int.reduceLT, Int.reduceMul, Int.reduceNeg, Int.reducePow, Int.reduceSub, Int.reduceToNat, Nat.reduceAdd, Nat.reduceBEq, Nat.reduceEqDiff, Nat.reduceLT, Nat.reduceLeDiff, Nat.reduceMul, Nat.reducePow, Nat.reduceSub, reduceCtorEq, reduceIte, IntKind.bits.eq_def, ti, tin])
    | (simp (disch := omega) only [w64, wu64, wu32, Nat.min_eq_left])
    | (with_reducible refine callF_of (ref_Make n den hn hd) ?_)
    | (with_reducible refine drawF_of (ref_Make n den hn hd) ?_)
    | (refine after_lit ti_ok ?_)
    | (refine drawAfter_lit ti_ok ?_)
    | (refine drawEnd_of (by kernel_rfl) ?_)
    | ((first | refine cond_cases (fun hc => ?_) (fun hc => ?_) | refine guard_split (fun hc => ?_) (fun hc => ?_) | refine drawGuard_split (fun hc => ?_) (fun hc => ?_)) <;> first | (exfalso; simp only [decide_eq_true_eq, decide_eq_false_iff_not, Bool.not_eq_true, Bool.not_eq_false, Bool.not_eq_true', Bool.not_eq_false'] at hc; omega) | (simp only [hc]; try simp only [decide_eq_true_eq, decide_eq_false_iff_not, Bool.not_eq_true, Bool.not_eq_false, Bool.not_eq_true', Bool.not_eq_false'] at hc))
    | (refine after_need (by omega) ?_)
    | (refine drawAfter_need (by omega) ?_))
  exact fin_same trivial rfl
theorem sv_less (x o : Dy) (hx : Mg 1024 x) (ho : Mg 64 o) : CallOK Tryd.prog gl 65 [.agg [.v (.bool (sg (x))), .sl 1 (u32s (ms (x))), .v (.int .i64 (dn (x)))], .rp [.v (.bool (sg o)), .sl 1 (u32s (ms o)), .v (.int .i64 (dn o))]] (.agg [.v (.bool (sg (o.sub x))), .sl 1 (u32s (ms (o.sub x))), .v (.int .i64 (dn (o.sub x)))]) := by
  refine call_ok (C := ⟨Tryd.prog, gl, ti, 7, false⟩) ti_ok mixed 3000 Tryd.call65 Tryd.func65 rfl Tryd.ntmps65 (by simp) byClL byCl ?_
  rw [Tryd.results65]
  have s1 := Sub_ok _ _ _ _ _ _ _ _ ho.arg hx.arg
  repeat' (first
    | (simp only [go_sem, Int.reduceAdd, Int.reduceEq, Int.reduceLE, Int.reduceLT, Int.reduceMul, Int.reduceNeg, Int.reducePow, Int.reduceSub, Int.reduceToNat, Nat.reduceAdd, Nat.reduceBEq, Nat.reduceEqDiff, Nat.reduceLT, Nat.reduceLeDiff, Nat.reduceMul, Nat.reducePow, Nat.reduceSub, reduceCtorEq, reduceIte, IntKind.bits.eq_def, ti, tin])
    | (simp (disch := omega) only [w64, wu64, wu32, Nat.min_eq_left])
    | (with_reducible refine callF_of (s1) ?_)
    | (with_reducible refine drawF_of (s1) ?_)
    | (refine after_lit ti_ok ?_)
    | (refine drawAfter_lit ti_ok ?_)
    | (refine drawEnd_of (by kernel_rfl) ?_)
    | ((first | refine cond_cases (fun hc => ?_) (fun hc => ?_) | refine guard_split (fun hc => ?_) (fun hc => ?_) | refine drawGuard_split (fun hc => ?_) (fun hc => ?_)) <;> first | (exfalso; simp only [decide_eq_true_eq, decide_eq_false_iff_not, Bool.not_eq_true, Bool.not_eq_false, Bool.not_eq_true', Bool.not_eq_false'] at hc; omega) | (simp only [hc]; try simp only [decide_eq_true_eq, decide_eq_false_iff_not, Bool.not_eq_true, Bool.not_eq_false, Bool.not_eq_true', Bool.not_eq_false'] at hc))
    | (refine after_need (by omega) ?_)
    | (refine drawAfter_need (by omega) ?_))
  exact fin_same trivial rfl
theorem sv_loose (h a k : Dy) (gh : Mg 128 h) (ga : Mg 128 a) (gk : Mg 128 k) : CallOK Tryd.prog gl 66 [.rp [.v (.bool (sg h)), .sl 1 (u32s (ms h)), .v (.int .i64 (dn h))], .rp [.v (.bool (sg a)), .sl 1 (u32s (ms a)), .v (.int .i64 (dn a))], .rp [.v (.bool (sg k)), .sl 1 (u32s (ms k)), .v (.int .i64 (dn k))]] (.sl 3 (vrows ([tms [h, a, k], tms [h, a], tms [h]].map can))) := by
  refine call_ok (C := ⟨Tryd.prog, gl, ti, 17, false⟩) ti_ok mixed 3000 Tryd.call66 Tryd.func66 rfl Tryd.ntmps66 (by simp) byClL byCl ?_
  rw [Tryd.results66]
  have t1 := sv_times [h, a, k] (by simp) (by simp only [List.mem_cons, List.not_mem_nil, or_false]; rintro x (rfl | rfl | rfl) <;> assumption)
  have t2 := sv_times [h, a] (by simp) (by simp only [List.mem_cons, List.not_mem_nil, or_false]; rintro x (rfl | rfl) <;> assumption)
  have t3 := sv_times [h] (by simp) (by simp only [List.mem_cons, List.not_mem_nil, or_false]; rintro x rfl; assumption)
  simp only [vrows, List.map_cons, List.map_nil, vrow_can, crow] at t1 t2 t3
  generalize tms [h, a, k] = x1 at *
  generalize tms [h, a] = x2 at *
  generalize tms [h] = x3 at *
  repeat' (first
    | (simp only [go_sem, Int.reduceAdd, Int.reduceEq, Int.reduceLE, Int.reduceLT, Int.reduceMul, Int.reduceNeg, Int.reducePow, Int.reduceSub, Int.reduceToNat, Nat.reduceAdd, Nat.reduceBEq, Nat.reduceEqDiff, Nat.reduceLT, Nat.reduceLeDiff, Nat.reduceMul, Nat.reducePow, Nat.reduceSub, reduceCtorEq, reduceIte, IntKind.bits.eq_def, ti, tin])
    | (simp (disch := omega) only [w64, wu64, wu32, Nat.min_eq_left])
    | (with_reducible refine callF_of (t1) ?_)
    | (with_reducible refine drawF_of (t1) ?_)
    | (with_reducible refine callF_of (t2) ?_)
    | (with_reducible refine drawF_of (t2) ?_)
    | (with_reducible refine callF_of (t3) ?_)
    | (with_reducible refine drawF_of (t3) ?_)
    | (refine after_lit ti_ok ?_)
    | (refine drawAfter_lit ti_ok ?_)
    | (refine drawEnd_of (by kernel_rfl) ?_)
    | ((first | refine cond_cases (fun hc => ?_) (fun hc => ?_) | refine guard_split (fun hc => ?_) (fun hc => ?_) | refine drawGuard_split (fun hc => ?_) (fun hc => ?_)) <;> first | (exfalso; simp only [decide_eq_true_eq, decide_eq_false_iff_not, Bool.not_eq_true, Bool.not_eq_false, Bool.not_eq_true', Bool.not_eq_false'] at hc; omega) | (simp only [hc]; try simp only [decide_eq_true_eq, decide_eq_false_iff_not, Bool.not_eq_true, Bool.not_eq_false, Bool.not_eq_true', Bool.not_eq_false'] at hc))
    | (refine after_need (by omega) ?_)
    | (refine drawAfter_need (by omega) ?_))
  exact fin_same trivial rfl
end Go.Proofs.YtfoadddlmehpnaaDoor
