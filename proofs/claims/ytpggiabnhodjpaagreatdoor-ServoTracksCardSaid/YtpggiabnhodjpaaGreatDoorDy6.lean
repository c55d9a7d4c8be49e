/- Layer 2 (dyadic.go), part 5: Make, Floor, Ceil, Int. -/
import Derived.Test.YtpggiabnhodjpaaGreatDoorDy4
import Derived.Test.YtpggiabnhodjpaaGreatDoorU2
import Derived.Test.YtpggiabnhodjpaaGreatDoorNat5
import Derived.Test.YtpggiabnhodjpaaGreatDoorU3
set_option linter.unusedSimpArgs false
set_option linter.unusedVariables false
set_option linter.deprecated false
namespace Go.Proofs.YtpggiabnhodjpaaGreatDoor
open Go Go.Ax
set_option maxRecDepth 100000
set_option maxHeartbeats 4000000
theorem Make_ok (n : Int) (den : Nat) (hn : -9223372036854775808 ≤ n ∧ n ≤ 9223372036854775807) (hd : den ≤ 65536) : CallOK Tryz.prog gl 116 [.v (.int .i64 n), .v (.int .i64 den)] (.tup [.agg [.v (.bool (sg (nrm n den))), .sl 1 (u32s (ms (nrm n den))), .v (.int .i64 (dn (nrm n den)))], .v .nilIface]) := by
  refine call_ok (C := ⟨Tryz.prog, gl, ti, 23, false⟩) ti_ok mixed 3000 Tryz.call116 Tryz.func116 rfl Tryz.ntmps116 (by simp) byClL byCl ?_
  rw [Tryz.results116]
  have oo := Of_ok n hn
  have hl : (ms (Dy.int n)).length ≤ 2 := words_length_le (by show n.natAbs < _; omega)
  have rs := result_ok (sg (Dy.int n)) (ms (Dy.int n)) den (ms_wd _) (by omega) (by omega) (by omega)
  rw [Int.toNat_natCast, res_make] at rs
  repeat' (first | (simp only [go_sem, seval, IntKind.bits.eq_def, ti, tin]) | (simp (disch := omega) only [wA]) | (with_reducible first | refine cF oo ?_ | refine dF oo ?_ | refine cF rs ?_ | refine dF rs ?_) | refine aL ti_ok ?_ | refine dL ti_ok ?_ | refine dG ?_ | ((first | refine cC ?_ ?_ | refine gS ?_ ?_ | refine dS ?_ ?_) <;> intro hc <;> first | (exfalso; simp only [dcA] at hc; omega) | (simp only [hc]; try simp only [dcA] at hc)) | refine aO ?_ | refine dO ?_)
  exact fin_same trivial rfl
end Go.Proofs.YtpggiabnhodjpaaGreatDoor
/- Natural numbers as words (nat.go of layer 2), part 6: division by a word, a digit of a quotient. -/
set_option linter.unusedSimpArgs false
set_option linter.unusedVariables false
set_option linter.deprecated false
namespace Go.Proofs.YtpggiabnhodjpaaGreatDoor
open Go Go.Ax
set_option maxRecDepth 100000
set_option maxHeartbeats 4000000
end Go.Proofs.YtpggiabnhodjpaaGreatDoor
/- Natural numbers as words (nat.go of layer 2), part 7: a digit of a quotient (Knuth's D). -/
set_option linter.unusedSimpArgs false
set_option linter.unusedVariables false
set_option linter.deprecated false
namespace Go.Proofs.YtpggiabnhodjpaaGreatDoor
open Go Go.Ax
set_option maxRecDepth 100000
set_option maxHeartbeats 4000000
theorem val_window (ws : List Nat) {i n : Nat} (h : i + n ≤ ws.length) : val ws = val (ws.take i) + 4294967296 ^ i * (val ((ws.drop i).take n) + 4294967296 ^ n * val (ws.drop (i + n))) := by
  rw [val_take_drop ws (k := i) (by omega), val_take_drop (ws.drop i) (k := n) (by simp; omega), List.drop_drop]
def Same (i n : Nat) (rs ws : List Nat) : Prop := ws.length = rs.length ∧ Wd ws ∧ ws.take i = rs.take i ∧ ws.drop (i + n) = rs.drop (i + n)
theorem Same.set {i n : Nat} {rs ws : List Nat} (h : Same i n rs ws) {p x : Nat} (h1 : i ≤ p) (h2 : p < i + n) (hx : x < 4294967296) : Same i n rs (ws.set p x) := by
  obtain ⟨a, b, c, d⟩ := h
  exact ⟨by simp [a], b.set p hx, by rw [List.take_set_of_le h1]; exact c, by rw [List.drop_set_of_lt h2]; exact d⟩
theorem Same.eq {i n : Nat} {rs ws : List Nat} (h : Same i n rs ws) (hl : i + n ≤ rs.length) {Z bo : Nat} (hv : val ws + 4294967296 ^ i * Z = val rs + 4294967296 ^ (i + n) * bo) :
    val ((ws.drop i).take n) + Z = val ((rs.drop i).take n) + 4294967296 ^ n * bo := by
  obtain ⟨a, b, c, d⟩ := h
  rw [val_window ws (i := i) (n := n) (by omega), val_window rs hl, c, d, Nat.pow_add] at hv
  have hp : 0 < 4294967296 ^ i := Nat.pow_pos (by omega)
  apply Nat.eq_of_mul_eq_mul_left hp
  generalize 4294967296 ^ i = P at *
  generalize 4294967296 ^ n * val (rs.drop (i + n)) = T at *
  rw [Nat.mul_assoc] at hv
  simp only [Nat.mul_add] at hv ⊢
  omega
end Go.Proofs.YtpggiabnhodjpaaGreatDoor
/- Natural numbers as words (nat.go of layer 2), part 9: a digit of a quotient, the second case. -/
set_option linter.unusedSimpArgs false
set_option linter.unusedVariables false
set_option linter.deprecated false
namespace Go.Proofs.YtpggiabnhodjpaaGreatDoor
open Go Go.Ax
set_option maxRecDepth 100000
set_option maxHeartbeats 4000000
end Go.Proofs.YtpggiabnhodjpaaGreatDoor
/- Natural numbers as words (nat.go of layer 2), part 10: the length of a word. -/
set_option linter.unusedSimpArgs false
set_option linter.unusedVariables false
set_option linter.deprecated false
namespace Go.Proofs.YtpggiabnhodjpaaGreatDoor
open Go Go.Ax
set_option maxRecDepth 100000
set_option maxHeartbeats 4000000
end Go.Proofs.YtpggiabnhodjpaaGreatDoor
/- Natural numbers as words (nat.go of layer 2), part 8: a digit of a quotient, the first case. -/
set_option linter.unusedSimpArgs false
set_option linter.unusedVariables false
set_option linter.deprecated false
namespace Go.Proofs.YtpggiabnhodjpaaGreatDoor
open Go Go.Ax
set_option maxRecDepth 100000
set_option maxHeartbeats 4000000
end Go.Proofs.YtpggiabnhodjpaaGreatDoor
/- Natural numbers as words (nat.go of layer 2), part 11: what a round of the long division does. -/
set_option linter.unusedSimpArgs false
set_option linter.unusedVariables false
set_option linter.deprecated false
namespace Go.Proofs.YtpggiabnhodjpaaGreatDoor
open Go Go.Ax
set_option maxRecDepth 100000
set_option maxHeartbeats 4000000
theorem words_len_mono {a b : Nat} (h : a ≤ b) : (words a).length ≤ (words b).length := words_length_le (Nat.lt_of_le_of_lt h (lt_words b))
end Go.Proofs.YtpggiabnhodjpaaGreatDoor
/- Natural numbers as words (nat.go of layer 2), part 12: divide. -/
set_option linter.unusedSimpArgs false
set_option linter.unusedVariables false
set_option linter.deprecated false
namespace Go.Proofs.YtpggiabnhodjpaaGreatDoor
open Go Go.Ax
set_option maxRecDepth 100000
set_option maxHeartbeats 4000000
def fz {α : Type} (k : Nat) (a b : α) : α := match k with
  | 0 => a
  | _ + 1 => b
theorem fz_zero {α : Type} {a b : α} : fz 0 a b = a := (rfl)
theorem fz_succ {α : Type} {k : Nat} {a b : α} : fz (k + 1) a b = b := (rfl)
theorem Le.take {sz k : Nat} {rows : List (List AV)} (h : rows.length ≤ k) : Le (.sl sz ((rows.drop 0).take k)) (.sl sz rows) := by
  rw [List.drop_zero, List.take_of_length_le h]; exact Le.refl _
end Go.Proofs.YtpggiabnhodjpaaGreatDoor
/- Dyadic numbers (layer 2), part 6: Quo, Bits. -/
set_option linter.unusedSimpArgs false
set_option linter.unusedVariables false
set_option linter.deprecated false
namespace Go.Proofs.YtpggiabnhodjpaaGreatDoor
open Go Go.Ax
set_option maxRecDepth 100000
set_option maxHeartbeats 4000000
theorem words_shl2 {a n : Nat} : (words (a * 2 ^ n)).length ≤ (words a).length + (n / 32 + 1) := by
  refine words_length_le ?_
  have h1 := lt_words a
  have h2 : 2 ^ n ≤ 4294967296 ^ (n / 32 + 1) := by
    rw [two_pow_32]
    exact Nat.pow_le_pow_right (by omega) (by omega)
  rw [Nat.pow_add 4294967296 (words a).length]
  exact Nat.lt_of_lt_of_le (Nat.mul_lt_mul_of_pos_right h1 (Nat.pow_pos (by omega))) (Nat.mul_le_mul_left _ h2)
end Go.Proofs.YtpggiabnhodjpaaGreatDoor
