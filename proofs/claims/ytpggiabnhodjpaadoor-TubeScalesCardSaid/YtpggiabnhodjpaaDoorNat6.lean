/- Layer 2 (dyadic.go), part 5: Make, Floor, Ceil, Int. -/
import Derived.Test.YtpggiabnhodjpaaDoorDy4
import Derived.Test.YtpggiabnhodjpaaDoorU2
import Derived.Test.YtpggiabnhodjpaaDoorNat5
set_option linter.unusedSimpArgs false
set_option linter.unusedVariables false
set_option linter.deprecated false
namespace Go.Proofs.YtpggiabnhodjpaaDoor
open Go Go.Ax
set_option maxRecDepth 100000
set_option maxHeartbeats 4000000

end Go.Proofs.YtpggiabnhodjpaaDoor
/- Natural numbers as words (nat.go of layer 2), part 6: division by a word, a digit of a quotient. -/
set_option linter.unusedSimpArgs false
set_option linter.unusedVariables false
set_option linter.deprecated false
namespace Go.Proofs.YtpggiabnhodjpaaDoor
open Go Go.Ax
set_option maxRecDepth 100000
set_option maxHeartbeats 4000000

theorem bits_Div32 (hi lo y : Nat) (h : hi < y) (hlo : lo < 4294967296) (hy : y < 4294967296) : CallOK Tryd.prog gl 99 [.v (.int .u32 (hi)), .v (.int .u32 (lo)), .v (.int .u32 (y))] (.tup [.v (.int .u32 (((hi * 4294967296 + lo) / y : Nat))), .v (.int .u32 (((hi * 4294967296 + lo) % y : Nat)))]) := by
  refine call_ok (C := ⟨Tryd.prog, gl, ti, 33, false⟩) ti_ok mixed 3000 Tryd.call99 Tryd.func99 rfl Tryd.ntmps99 (by simp) byClL byCl ?_
  rw [Tryd.results99]
  have f0 : (hi : Int) * 4294967296 = ((hi * 4294967296 : Nat) : Int) := by omega
  have f1 := or_word (a := hi) (b := lo) (by omega) hlo
  have hq : (hi * 4294967296 + lo) / y < 4294967296 := by
    rw [Nat.div_lt_iff_lt_mul (by omega)]
    have := Nat.mul_le_mul_left 4294967296 (show hi + 1 ≤ y by omega)
    omega
  have hr : (hi * 4294967296 + lo) % y < y := Nat.mod_lt _ (by omega)
  have ht : hi * 4294967296 + lo < 18446744073709551616 := by omega
  have f2 : ((hi * 4294967296 + lo : Nat) : Int).tdiv (y : Int) = (((hi * 4294967296 + lo) / y : Nat) : Int) := rfl
  have f3 : ((hi * 4294967296 + lo : Nat) : Int).tmod (y : Int) = (((hi * 4294967296 + lo) % y : Nat) : Int) := rfl
  generalize (hi * 4294967296 + lo) / y = q at *
  generalize (hi * 4294967296 + lo) % y = r at *
  repeat' (first | (simp only [go_sem, Int.reduceAdd, Int.reduceEq, Int.reduceLE, Int.reduceLT, Int.reduceMul, Int.reduceNeg, Int.reducePow, Int.reduceSub, Int.reduceToNat, Nat.reduceAdd, Nat.reduceBEq, Nat.reduceEqDiff, Nat.reduceLT, Nat.reduceLeDiff, Nat.reduceMul, Nat.reducePow, Nat.reduceSub, reduceCtorEq, reduceIte, IntKind.bits.eq_def, ti, tin, f0, f1, f2, f3]) | (simp (disch := omega) only [w64, wu64, wu32, Nat.min_eq_left]) | (refine aL ti_ok ?_) | (refine dL ti_ok ?_) | (refine dE (by kernel_rfl) ?_) | ((first | refine cC ?_ ?_ | refine gS ?_ ?_ | refine dS ?_ ?_) <;> intro hc <;> first | (exfalso; simp only [dcT, dcF, bnT, bnF, bnU, bnV] at hc; omega) | (simp only [hc]; try simp only [dcT, dcF, bnT, bnF, bnU, bnV] at hc)) | (refine aN (by omega) ?_) | (refine dN (by omega) ?_))
  exact fin_same trivial rfl

theorem div_step {a d B : Nat} (hd : 0 < d) (hB : 0 < B) (k : Nat) : a / B ^ k / d = (a / B ^ (k + 1) % d * B + a / B ^ k % B) / d + B * (a / B ^ (k + 1) / d) ∧ a / B ^ k % d = (a / B ^ (k + 1) % d * B + a / B ^ k % B) % d := by
  rw [Nat.pow_succ, ← Nat.div_div_eq_div_mul]
  generalize a / B ^ k = x
  have h1 := Nat.div_add_mod x B
  have h2 := Nat.div_add_mod (x / B) d
  have e : x = d * (B * (x / B / d)) + (x / B % d * B + x % B) := by
    conv => lhs; rw [← h1, ← h2]
    rw [Nat.mul_add, ← Nat.mul_assoc, Nat.mul_comm B d, Nat.mul_assoc, Nat.mul_comm B (x / B % d), Nat.add_assoc]
  constructor
  · conv => lhs; rw [e]
    rw [Nat.mul_add_div hd, Nat.add_comm]
  · conv => lhs; rw [e]
    rw [Nat.mul_add_mod]
theorem val_drop_set {ws : List Nat} {m : Nat} (h : m < ws.length) (q : Nat) : val ((ws.set m q).drop m) = q + 4294967296 * val (ws.drop (m + 1)) := by
  rw [drop_getD (by rw [List.length_set]; exact h), getD_set_eq h, List.drop_set_of_lt (by omega)]
  rfl
theorem nat_divWord (a d : Nat) (hd : 0 < d) (hd2 : d < 4294967296) (ha : (words a).length ≤ 1099511627776) : CallOK Tryd.prog gl 96 [.sl 1 (u32s (words a)), .v (.int .u32 (d))] (.tup [.sl 1 (u32s (words (a / d))), .v (.int .u32 ((a % d : Nat)))]) := by
  refine call_ok (C := ⟨Tryd.prog, gl, ti, 35, false⟩) ti_ok mixed 3000 Tryd.call96 Tryd.func96 rfl Tryd.ntmps96 (by simp) byClL byCl ?_
  rw [Tryd.results96]
  obtain ⟨la, hla⟩ : ∃ la : Nat, la = (words a).length := ⟨_, rfl⟩
  have el : (words a).length = la := hla.symm
  have hlt := lt_words a
  rw [el] at hlt
  repeat' (first | (simp only [go_sem, Int.reduceAdd, Int.reduceEq, Int.reduceLE, Int.reduceLT, Int.reduceMul, Int.reduceNeg, Int.reducePow, Int.reduceSub, Int.reduceToNat, Nat.reduceAdd, Nat.reduceBEq, Nat.reduceEqDiff, Nat.reduceLT, Nat.reduceLeDiff, Nat.reduceMul, Nat.reducePow, Nat.reduceSub, reduceCtorEq, reduceIte, IntKind.bits.eq_def, ti, tin, u32s_length, el, u32s_zeros]) | (simp (disch := omega) only [w64, wu64, wu32, Nat.min_eq_left]) | (refine aL ti_ok ?_) | (refine dL ti_ok ?_) | (refine dE (by kernel_rfl) ?_) | ((first | refine cC ?_ ?_ | refine gS ?_ ?_ | refine dS ?_ ?_) <;> intro hc <;> first | (exfalso; simp only [dcT, dcF, bnT, bnF, bnU, bnV] at hc; omega) | (simp only [hc]; try simp only [dcT, dcF, bnT, bnF, bnU, bnV] at hc)) | (refine aN (by omega) ?_) | (refine dN (by omega) ?_))
  refine l_loop (α := Nat × List Nat × Nat) (fun x => ⟨[(0, .sl 1 (u32s (words a))), (1, .v (.int .u32 (d))), (6, .ps 0 1 0 la), (7, .v (.int .u32 (x.2.2))), (8, .v (.int .i64 (((x.1 : Int) - 1)))), (4, .v (.slice none 0 0)), (5, .v (.int .u32 (0)))], [(0, ⟨1, u32s x.2.1⟩)], 1⟩) (fun x => x.1 ≤ la ∧ x.2.1.length = la ∧ Wd x.2.1 ∧ x.2.2 = a / 4294967296 ^ x.1 % d ∧ val (x.2.1.drop x.1) = a / 4294967296 ^ x.1 / d) (fun x => x.1) ((la, List.replicate la 0, 0)) _ byFresh (fun _ h => by first | (cases h; done) | exact Nat.le_of_ble_eq_true rfl) ?_ ?_ ?_
  · exact ⟨Nat.le_refl _, by simp, Wd.zeros la, by rw [Nat.div_eq_of_lt hlt]; simp, by rw [List.drop_eq_nil_of_le (by simp), Nat.div_eq_of_lt hlt]; simp [val]⟩
  · exact byWeak
  rintro ⟨k, ws, r⟩ ⟨hk, hw, hW, hr, hv⟩
  simp only at hk hw hW hr hv
  cases k with
  | zero =>
    rw [Nat.pow_zero, Nat.div_one] at hr hv
    rw [List.drop_zero] at hv
    repeat' (first | (simp only [go_sem, Int.reduceAdd, Int.reduceEq, Int.reduceLE, Int.reduceLT, Int.reduceMul, Int.reduceNeg, Int.reducePow, Int.reduceSub, Int.reduceToNat, Nat.reduceAdd, Nat.reduceBEq, Nat.reduceEqDiff, Nat.reduceLT, Nat.reduceLeDiff, Nat.reduceMul, Nat.reducePow, Nat.reduceSub, reduceCtorEq, reduceIte, IntKind.bits.eq_def, ti, tin, u32s_length]) | (simp (disch := omega) only [w64, wu64, wu32, Nat.min_eq_left]) | (refine aL ti_ok ?_) | (refine dL ti_ok ?_) | (refine dE (by kernel_rfl) ?_) | ((first | refine cC ?_ ?_ | refine gS ?_ ?_ | refine dS ?_ ?_) <;> intro hc <;> first | (exfalso; simp only [dcT, dcF, bnT, bnF, bnU, bnV] at hc; omega) | (simp only [hc]; try simp only [dcT, dcF, bnT, bnF, bnU, bnV] at hc)) | (refine aN (by omega) ?_) | (refine dN (by omega) ?_))
    refine callF_frz 0 rfl (.cons (frz_ps rfl (by show 0 + la ≤ (u32s ws).length; rw [u32s_length]; omega)) .nil) ?_ (nat_trim ws hW (by omega)) ?_
    · simp only [List.drop_zero, u32s_take]
      rw [List.take_of_length_le (by omega)]
      exact LeL.refl _
    · rw [hv, ← hr]
      repeat' (first | (simp only [go_sem, Int.reduceAdd, Int.reduceEq, Int.reduceLE, Int.reduceLT, Int.reduceMul, Int.reduceNeg, Int.reducePow, Int.reduceSub, Int.reduceToNat, Nat.reduceAdd, Nat.reduceBEq, Nat.reduceEqDiff, Nat.reduceLT, Nat.reduceLeDiff, Nat.reduceMul, Nat.reducePow, Nat.reduceSub, reduceCtorEq, reduceIte, IntKind.bits.eq_def, ti, tin]) | (simp (disch := omega) only [w64, wu64, wu32, Nat.min_eq_left]) | (refine aL ti_ok ?_) | (refine dL ti_ok ?_) | (refine dE (by kernel_rfl) ?_) | ((first | refine cC ?_ ?_ | refine gS ?_ ?_ | refine dS ?_ ?_) <;> intro hc <;> first | (exfalso; simp only [dcT, dcF, bnT, bnF, bnU, bnV] at hc; omega) | (simp only [hc]; try simp only [dcT, dcF, bnT, bnF, bnU, bnV] at hc)) | (refine aN (by omega) ?_) | (refine dN (by omega) ?_))
      exact fin_same trivial rfl
  | succ m =>
    have e1 : ((m + 1 : Nat) : Int) - 1 = (m : Int) := by omega
    have ra := u32s_getD (ws := words a) (i := m) (by omega)
    have hx := (Wd.words a).get m
    have hxv := getD_val (Wd.words a) m
    rw [val_words] at hxv
    obtain ⟨s1, s2⟩ := div_step (a := a) hd (by omega : 0 < 4294967296) m
    rw [← hxv, ← hr, ← hv] at s1
    rw [← hxv, ← hr] at s2
    generalize (words a).getD m 0 = x at *
    have hrd : r < d := by rw [hr]; exact Nat.mod_lt _ hd
    have dv := bits_Div32 r x d hrd hx hd2
    have hq : (r * 4294967296 + x) / d < 4294967296 := by
      rw [Nat.div_lt_iff_lt_mul hd]
      have := Nat.mul_le_mul_left 4294967296 (show r + 1 ≤ d by omega)
      omega
    generalize (r * 4294967296 + x) / d = q at *
    generalize (r * 4294967296 + x) % d = r2 at *
    have ro := u32s_getD (ws := ws) (i := m) (by omega)
    repeat' (first | (simp only [go_sem, Int.reduceAdd, Int.reduceEq, Int.reduceLE, Int.reduceLT, Int.reduceMul, Int.reduceNeg, Int.reducePow, Int.reduceSub, Int.reduceToNat, Nat.reduceAdd, Nat.reduceBEq, Nat.reduceEqDiff, Nat.reduceLT, Nat.reduceLeDiff, Nat.reduceMul, Nat.reducePow, Nat.reduceSub, reduceCtorEq, reduceIte, IntKind.bits.eq_def, ti, tin, u32s_length, el, e1, ra, ro, u32s_set]) | (simp (disch := omega) only [w64, wu64, wu32, Nat.min_eq_left]) | (with_reducible first | refine cF (dv) ?_ | refine dF (dv) ?_) | (refine aL ti_ok ?_) | (refine dL ti_ok ?_) | (refine dE (by kernel_rfl) ?_) | ((first | refine cC ?_ ?_ | refine gS ?_ ?_ | refine dS ?_ ?_) <;> intro hc <;> first | (exfalso; simp only [dcT, dcF, bnT, bnF, bnU, bnV] at hc; omega) | (simp only [hc]; try simp only [dcT, dcF, bnT, bnF, bnU, bnV] at hc)) | (refine aN (by omega) ?_) | (refine dN (by omega) ?_))
    refine roundEnd_of (α := Nat × List Nat × Nat) (m, ws.set m q, r2) ?_ ?_ ?_
    · refine ⟨by omega, by simp [hw], hW.set m hq, s2.symm, ?_⟩
      show val ((ws.set m q).drop m) = _
      rw [val_drop_set (by omega), s1]
    · show m < m + 1
      omega
    · exact byWeak
end Go.Proofs.YtpggiabnhodjpaaDoor
