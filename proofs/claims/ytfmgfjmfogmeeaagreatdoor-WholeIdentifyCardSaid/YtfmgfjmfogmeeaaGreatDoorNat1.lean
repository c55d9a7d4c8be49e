/- Natural numbers as words (nat.go of layer 2), part 1: words, trimming, comparing. -/
import Derived.Test.YtfmgfjmfogmeeaaGreatDoorTy
import Derived.Test.YtfmgfjmfogmeeaaGreatDoorU2
set_option linter.unusedSimpArgs false
set_option linter.unusedVariables false
set_option linter.deprecated false
namespace Go.Proofs.YtfmgfjmfogmeeaaGreatDoor
open Go Go.Ax
set_option maxRecDepth 100000
set_option maxHeartbeats 4000000
theorem bits_Add32 (x y c : Nat) (hx : x < 4294967296) (hy : y < 4294967296) (hc0 : c ≤ 1) : CallOK Tryz.prog gl 107 [.v (.int .u32 (x)), .v (.int .u32 (y)), .v (.int .u32 (c))] (.tup [.v (.int .u32 (((x + y + c) % 4294967296 : Nat))), .v (.int .u32 (((x + y + c) / 4294967296 : Nat)))]) := by
  refine call_ok (C := ⟨Tryz.prog, gl, ti, 22, false⟩) ti_ok mixed 3000 Tryz.call107 Tryz.func107 rfl Tryz.ntmps107 (by simp) byClL byCl ?_
  rw [Tryz.results107]
  have e0 : (x : Int) + (y : Int) + (c : Int) = ((x + y + c : Nat) : Int) := by omega
  have e1 := wrap_u32 (x + y + c)
  have e2 : ((x + y + c : Nat) : Int) / 4294967296 = ((x + y + c) / 4294967296 : Nat) := rfl
  repeat' (first | (simp only [go_sem, Int.reduceAdd, Int.reduceEq, Int.reduceLE, Int.reduceLT, Int.reduceMul, Int.reduceNeg, Int.reducePow, Int.reduceSub, Int.reduceToNat, Nat.reduceAdd, Nat.reduceBEq, Nat.reduceEqDiff, Nat.reduceLT, Nat.reduceLeDiff, Nat.reduceMul, Nat.reducePow, Nat.reduceSub, reduceCtorEq, reduceIte, IntKind.bits.eq_def, ti, tin, e0, e1, e2]) | (simp (disch := omega) only [wA]) | refine aL ti_ok ?_ | refine dL ti_ok ?_ | refine dG ?_ | ((first | refine cC ?_ ?_ | refine gS ?_ ?_ | refine dS ?_ ?_) <;> intro hc <;> first | (exfalso; simp only [dcA] at hc; omega) | (simp only [hc]; try simp only [dcA] at hc)) | refine aO ?_ | refine dO ?_)
  exact fin_same trivial rfl
theorem bits_Sub32 (x y c : Nat) (hx : x < 4294967296) (hy : y < 4294967296) (hc0 : c ≤ 1) : CallOK Tryz.prog gl 154 [.v (.int .u32 (x)), .v (.int .u32 (y)), .v (.int .u32 (c))] (.tup [.v (.int .u32 (((x + 8589934592 - y - c) % 4294967296 : Nat))), .v (.int .u32 (((if x < y + c then 1 else 0 : Nat) : Nat)))]) := by
  refine call_ok (C := ⟨Tryz.prog, gl, ti, 25, false⟩) ti_ok mixed 3000 Tryz.call154 Tryz.func154 rfl Tryz.ntmps154 (by simp) byClL byCl ?_
  rw [Tryz.results154]
  have hb := borrow_eq (d := (x + 8589934592 - y - c) % 4294967296) hx hy hc0 rfl
  have hxy : x ^^^ y < 4294967296 := Nat.xor_lt_two_pow (n := 32) hx hy
  have e0 : IntKind.u32.wrap (IntKind.u32.wrap ((x : Int) - (y : Int)) - (c : Int)) = (((x + 8589934592 - y - c) % 4294967296 : Nat) : Int) := by
    simp only [IntKind.wrap, IntKind.bits, IntKind.signed]; simp; omega
  have e1 : (4294967295 : Int) - (x : Int) = ((4294967295 - x : Nat) : Int) := by omega
  have e2 := xor32 hx hy
  have e3 : (4294967295 : Int) - ((x ^^^ y : Nat) : Int) = ((4294967295 - (x ^^^ y) : Nat) : Int) := by omega
  have hd : (x + 8589934592 - y - c) % 4294967296 < 4294967296 := Nat.mod_lt _ (by omega)
  generalize (x + 8589934592 - y - c) % 4294967296 = d at *
  have e4 := and32 (a := 4294967295 - x) (b := y) (by omega) hy
  have e5 := and32 (a := 4294967295 - (x ^^^ y)) (b := d) (by omega) hd
  have h2 : (4294967295 - x) &&& y < 4294967296 := Nat.lt_of_le_of_lt Nat.and_le_right hy
  have h3 : (4294967295 - (x ^^^ y)) &&& d < 4294967296 := Nat.lt_of_le_of_lt Nat.and_le_right hd
  have e6 := or32 h2 h3
  have h4 : (((4294967295 - x) &&& y) ||| ((4294967295 - (x ^^^ y)) &&& d)) < 4294967296 := Nat.or_lt_two_pow (n := 32) h2 h3
  have e7 : (((((4294967295 - x) &&& y) ||| ((4294967295 - (x ^^^ y)) &&& d)) : Nat) : Int) / 2147483648 = ((((((4294967295 - x) &&& y) ||| ((4294967295 - (x ^^^ y)) &&& d))) / 2147483648 : Nat) : Int) := rfl
  rw [hb] at e7
  repeat' (first | (simp only [go_sem, Int.reduceAdd, Int.reduceEq, Int.reduceLE, Int.reduceLT, Int.reduceMul, Int.reduceNeg, Int.reducePow, Int.reduceSub, Int.reduceToNat, Nat.reduceAdd, Nat.reduceBEq, Nat.reduceEqDiff, Nat.reduceLT, Nat.reduceLeDiff, Nat.reduceMul, Nat.reducePow, Nat.reduceSub, reduceCtorEq, reduceIte, IntKind.bits.eq_def, ti, tin, e0, e1, e2, e3, e4, e5, e6, e7]) | (simp (disch := omega) only [wA]) | refine aL ti_ok ?_ | refine dL ti_ok ?_ | refine dG ?_ | ((first | refine cC ?_ ?_ | refine gS ?_ ?_ | refine dS ?_ ?_) <;> intro hc <;> first | (exfalso; simp only [dcA] at hc; omega) | (simp only [hc]; try simp only [dcA] at hc)) | refine aO ?_ | refine dO ?_)
  exact fin_same trivial rfl
theorem bits_Tz32 (w k q : Nat) (hw : w = 2 ^ k * (2 * q + 1)) (h : w < 4294967296) : CallOK Tryz.prog gl 131 [.v (.int .u32 (w))] (.v (.int .i64 k)) := by
  refine call_ok (C := ⟨Tryz.prog, gl, ti, 14, false⟩) ti_ok mixed 3000 Tryz.call131 Tryz.func131 rfl Tryz.ntmps131 (by simp) byClL byCl ?_
  rw [Tryz.results131]
  obtain ⟨hl, hk⟩ := low_bit hw h
  have h0 : 0 < w := by rw [hw]; exact Nat.mul_pos (Nat.pow_pos (by omega)) (by omega)
  have hT := dbT_ok k hk
  have hp : 2 ^ k < 4294967296 := by
    have hp32 : (2 : Nat) ^ 32 = 4294967296 := by decide
    rw [← hp32]; exact Nat.pow_lt_pow_right (by omega) hk
  have e0 : IntKind.u32.wrap (0 - (w : Int)) = ((4294967296 - w : Nat) : Int) := by
    simp only [IntKind.wrap, IntKind.bits, IntKind.signed]; simp; omega
  have e1 := and32 (a := w) (b := 4294967296 - w) h (by omega)
  rw [hl] at e1
  have e2 : ((2 ^ k : Nat) : Int) * 125613361 = ((2 ^ k * 125613361 : Nat) : Int) := by simp
  have e3 := wrap_u32 (2 ^ k * 125613361)
  have hm : 2 ^ k * 125613361 % 4294967296 < 4294967296 := Nat.mod_lt _ (by omega)
  generalize 2 ^ k * 125613361 % 4294967296 = m at *
  have e4 : (m : Int) / 134217728 = ((m / 134217728 : Nat) : Int) := rfl
  have hj : m / 134217728 < 32 := by omega
  generalize m / 134217728 = j at *
  have e5 : (dbT.map fun (k : Nat) => Value.int .u8 k).getD j undef = .int .u8 k := by
    have hlen2 : j < dbT.length := hj
    have hlen : j < (dbT.map fun (k : Nat) => Value.int .u8 k).length := by rw [List.length_map]; exact hlen2
    rw [getD_in hlen, List.getElem_map]
    rw [getD_in hlen2] at hT
    rw [hT]
  clear hT hw hl
  generalize 2 ^ k = p at *
  repeat' (first | (simp only [go_sem, Int.reduceAdd, Int.reduceEq, Int.reduceLE, Int.reduceLT, Int.reduceMul, Int.reduceNeg, Int.reducePow, Int.reduceSub, Int.reduceToNat, Nat.reduceAdd, Nat.reduceBEq, Nat.reduceEqDiff, Nat.reduceLT, Nat.reduceLeDiff, Nat.reduceMul, Nat.reducePow, Nat.reduceSub, reduceCtorEq, reduceIte, IntKind.bits.eq_def, ti, tin, e0, e1, e2, e3, e4, e5]) | (simp (disch := omega) only [wA]) | (refine after_glob ti_ok (dbT.map fun (k : Nat) => Value.int .u8 k) rfl rfl (by simp [gl]) rfl (by omega) rfl rfl (by rw [Int.toNat_natCast, e5]) ?_) | refine aL ti_ok ?_ | refine dL ti_ok ?_ | refine dG ?_ | ((first | refine cC ?_ ?_ | refine gS ?_ ?_ | refine dS ?_ ?_) <;> intro hc <;> first | (exfalso; simp only [dcA] at hc; omega) | (simp only [hc]; try simp only [dcA] at hc)) | refine aO ?_ | refine dO ?_)
  exact fin_same trivial rfl
theorem nat_at (ws : List Nat) (i : Nat) : CallOK Tryz.prog gl 106 [.sl 1 (u32s (ws)), .v (.int .i64 i)] (.v (.int .u32 ((ws.getD i 0 : Nat)))) := by
  refine call_ok (C := ⟨Tryz.prog, gl, ti, 13, false⟩) ti_ok mixed 3000 Tryz.call106 Tryz.func106 rfl Tryz.ntmps106 (by simp) byClL byCl ?_
  rw [Tryz.results106]
  by_cases h : i < ws.length
  ·
    have r := u32s_getD h
    repeat' (first | (simp only [go_sem, Int.reduceAdd, Int.reduceEq, Int.reduceLE, Int.reduceLT, Int.reduceMul, Int.reduceNeg, Int.reducePow, Int.reduceSub, Int.reduceToNat, Nat.reduceAdd, Nat.reduceBEq, Nat.reduceEqDiff, Nat.reduceLT, Nat.reduceLeDiff, Nat.reduceMul, Nat.reducePow, Nat.reduceSub, reduceCtorEq, reduceIte, IntKind.bits.eq_def, ti, tin, r, u32s_length]) | (simp (disch := omega) only [wA]) | refine aL ti_ok ?_ | refine dL ti_ok ?_ | refine dG ?_ | ((first | refine cC ?_ ?_ | refine gS ?_ ?_ | refine dS ?_ ?_) <;> intro hc <;> first | (exfalso; simp only [dcA] at hc; omega) | (simp only [hc]; try simp only [dcA] at hc)) | refine aO ?_ | refine dO ?_)
    exact fin_same trivial rfl
  ·
    have r : ws.getD i 0 = 0 := getD_out (by omega)
    repeat' (first | (simp only [go_sem, Int.reduceAdd, Int.reduceEq, Int.reduceLE, Int.reduceLT, Int.reduceMul, Int.reduceNeg, Int.reducePow, Int.reduceSub, Int.reduceToNat, Nat.reduceAdd, Nat.reduceBEq, Nat.reduceEqDiff, Nat.reduceLT, Nat.reduceLeDiff, Nat.reduceMul, Nat.reducePow, Nat.reduceSub, reduceCtorEq, reduceIte, IntKind.bits.eq_def, ti, tin, u32s_length]) | (simp (disch := omega) only [wA]) | refine aL ti_ok ?_ | refine dL ti_ok ?_ | refine dG ?_ | ((first | refine cC ?_ ?_ | refine gS ?_ ?_ | refine dS ?_ ?_) <;> intro hc <;> first | (exfalso; simp only [dcA] at hc; omega) | (simp only [hc]; try simp only [dcA] at hc)) | refine aO ?_ | refine dO ?_)
    rw [r]
    exact fin_same trivial rfl
theorem trim_end {ws : List Nat} (h : Wd ws) {k : Nat} (hk : k ≤ ws.length) (hv : val (ws.take k) = val ws) (ht : k = 0 ∨ ws.getD (k - 1) 0 ≠ 0) : ws.take k = words (val ws) := by
  rw [← hv]
  refine (words_val (h.take k) ?_).symm
  rcases ht with rfl | ht
  · left; simp
  · by_cases h0 : k = 0
    · left; rw [h0]; simp
    · right
      have hlen : (ws.take k).length = k := by rw [List.length_take]; omega
      rw [hlen]
      have : (ws.take k).getD (k - 1) 0 = ws.getD (k - 1) 0 := by simp [List.getD, List.getElem?_take, show k - 1 < k by omega]
      rw [this]; exact ht
theorem nat_trim (ws : List Nat) (h : Wd ws) (hl : ws.length ≤ 4611686018427387904) : CallOK Tryz.prog gl 79 [.sl 1 (u32s (ws))] (.sl 1 (u32s (words (val ws)))) := by
  refine call_ok (C := ⟨Tryz.prog, gl, ti, 21, false⟩) ti_ok mixed 3000 Tryz.call79 Tryz.func79 rfl Tryz.ntmps79 (by simp) byClL byCl ?_
  rw [Tryz.results79]
  repeat' (first | (simp only [go_sem, Int.reduceAdd, Int.reduceEq, Int.reduceLE, Int.reduceLT, Int.reduceMul, Int.reduceNeg, Int.reducePow, Int.reduceSub, Int.reduceToNat, Nat.reduceAdd, Nat.reduceBEq, Nat.reduceEqDiff, Nat.reduceLT, Nat.reduceLeDiff, Nat.reduceMul, Nat.reducePow, Nat.reduceSub, reduceCtorEq, reduceIte, IntKind.bits.eq_def, ti, tin, u32s_length]) | (simp (disch := omega) only [wA]) | refine aL ti_ok ?_ | refine dL ti_ok ?_ | refine dG ?_ | ((first | refine cC ?_ ?_ | refine gS ?_ ?_ | refine dS ?_ ?_) <;> intro hc <;> first | (exfalso; simp only [dcA] at hc; omega) | (simp only [hc]; try simp only [dcA] at hc)) | refine aO ?_ | refine dO ?_)
  refine l_loop (α := Nat) (fun k => ⟨[(0, .sl 1 (u32s (ws))), (3, .v (.int .i64 k)), (2, .v (.slice none 0 0))], [], 0⟩) (fun k => k ≤ ws.length ∧ val (ws.take k) = val ws) (fun k => k) (ws.length) _ byFresh (fun _ h => by first | (cases h; done) | exact Nat.le_of_ble_eq_true rfl) ?_ ?_ ?_
  · exact ⟨Nat.le_refl _, by simp⟩
  · exact byWeak
  rintro k ⟨hk, hv⟩
  have fin : (k = 0 ∨ ws.getD (k - 1) 0 ≠ 0) → ((u32s ws).drop 0).take (k - 0) = u32s (words (val ws)) := fun ht => by
    rw [List.drop_zero, Nat.sub_zero, u32s_take, trim_end h hk hv ht]
  cases k with
  | zero =>
    repeat' (first | (simp only [go_sem, Int.reduceAdd, Int.reduceEq, Int.reduceLE, Int.reduceLT, Int.reduceMul, Int.reduceNeg, Int.reducePow, Int.reduceSub, Int.reduceToNat, Nat.reduceAdd, Nat.reduceBEq, Nat.reduceEqDiff, Nat.reduceLT, Nat.reduceLeDiff, Nat.reduceMul, Nat.reducePow, Nat.reduceSub, reduceCtorEq, reduceIte, IntKind.bits.eq_def, ti, tin, u32s_length]) | (simp (disch := omega) only [wA]) | refine aL ti_ok ?_ | refine dL ti_ok ?_ | refine dG ?_ | ((first | refine cC ?_ ?_ | refine gS ?_ ?_ | refine dS ?_ ?_) <;> intro hc <;> first | (exfalso; simp only [dcA] at hc; omega) | (simp only [hc]; try simp only [dcA] at hc)) | refine aO ?_ | refine dO ?_)
    have fin := fin (.inl rfl)
    simp only [List.drop_zero, Nat.sub_zero] at fin
    refine fin_same trivial ?_
    simp [one, ← fin]
  | succ m =>
    have e1 : ((m + 1 : Nat) : Int) - 1 = (m : Int) := by omega
    have r := u32s_getD (ws := ws) (i := m) (by omega)
    by_cases h0 : ws.getD m 0 = 0
    ·
      rw [h0] at r
      repeat' (first | (simp only [go_sem, Int.reduceAdd, Int.reduceEq, Int.reduceLE, Int.reduceLT, Int.reduceMul, Int.reduceNeg, Int.reducePow, Int.reduceSub, Int.reduceToNat, Nat.reduceAdd, Nat.reduceBEq, Nat.reduceEqDiff, Nat.reduceLT, Nat.reduceLeDiff, Nat.reduceMul, Nat.reducePow, Nat.reduceSub, reduceCtorEq, reduceIte, IntKind.bits.eq_def, ti, tin, u32s_length, e1, r]) | (simp (disch := omega) only [wA]) | refine aL ti_ok ?_ | refine dL ti_ok ?_ | refine dG ?_ | ((first | refine cC ?_ ?_ | refine gS ?_ ?_ | refine dS ?_ ?_) <;> intro hc <;> first | (exfalso; simp only [dcA] at hc; omega) | (simp only [hc]; try simp only [dcA] at hc)) | refine aO ?_ | refine dO ?_)
      refine roundEnd_of (α := Nat) m ⟨by omega, ?_⟩ (by omega) ?_
      · rw [← hv, val_take_succ (by omega), h0, Nat.mul_zero, Nat.add_zero]
      · exact byWeak
    ·
      have fin := fin (.inr h0)
      have h1 : ¬ ((ws.getD m 0 : Nat) : Int) = 0 := by omega
      generalize ws.getD m 0 = x at *
      repeat' (first | (simp only [go_sem, Int.reduceAdd, Int.reduceEq, Int.reduceLE, Int.reduceLT, Int.reduceMul, Int.reduceNeg, Int.reducePow, Int.reduceSub, Int.reduceToNat, Nat.reduceAdd, Nat.reduceBEq, Nat.reduceEqDiff, Nat.reduceLT, Nat.reduceLeDiff, Nat.reduceMul, Nat.reducePow, Nat.reduceSub, reduceCtorEq, reduceIte, IntKind.bits.eq_def, ti, tin, u32s_length, e1, r]) | (simp (disch := omega) only [wA]) | refine aL ti_ok ?_ | refine dL ti_ok ?_ | refine dG ?_ | ((first | refine cC ?_ ?_ | refine gS ?_ ?_ | refine dS ?_ ?_) <;> intro hc <;> first | (exfalso; simp only [dcA] at hc; omega) | (simp only [hc]; try simp only [dcA] at hc)) | refine aO ?_ | refine dO ?_)
      refine fin_same trivial ?_
      simp only [List.drop_zero] at fin
      simp only [one, Int.toNat_natCast, fin]
end Go.Proofs.YtfmgfjmfogmeeaaGreatDoor
