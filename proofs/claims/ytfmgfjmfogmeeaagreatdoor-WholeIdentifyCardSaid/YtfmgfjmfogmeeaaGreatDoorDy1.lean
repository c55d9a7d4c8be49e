/- Natural numbers as words (nat.go of layer 2), part 5: shifts to the right; small numbers. -/
import Derived.Test.YtfmgfjmfogmeeaaGreatDoorNat4
import Derived.Test.YtfmgfjmfogmeeaaGreatDoorU2
set_option linter.unusedSimpArgs false
set_option linter.unusedVariables false
set_option linter.deprecated false
namespace Go.Proofs.YtfmgfjmfogmeeaaGreatDoor
open Go Go.Ax
set_option maxRecDepth 100000
set_option maxHeartbeats 4000000
theorem nat_zeros0  : CallOK Tryz.prog gl 80 [.sl 1 (u32s (words 0))] (.v (.int .i64 1099511627776)) := by
  refine call_ok (C := ⟨Tryz.prog, gl, ti, 20, false⟩) ti_ok mixed 3000 Tryz.call80 Tryz.func80 rfl Tryz.ntmps80 (by simp) byClL byCl ?_
  rw [Tryz.results80]
  rw [words_zero]
  repeat' (first | (simp only [go_sem, seval, IntKind.bits.eq_def, ti, tin, u32s_nil]) | (simp (disch := omega) only [wA]) | (refine l_unroll 1 _ rfl ?_) | refine aL ti_ok ?_ | refine dL ti_ok ?_ | refine dG ?_ | ((first | refine cC ?_ ?_ | refine gS ?_ ?_ | refine dS ?_ ?_) <;> intro hc <;> first | (exfalso; simp only [dcA] at hc; omega) | (simp only [hc]; try simp only [dcA] at hc)) | refine aO ?_ | refine dO ?_)
  exact fin_same trivial rfl
theorem shr_word {y P Q : Nat} (hP : 0 < P) (h : P * Q = 4294967296) : (y % (4294967296 * 4294967296)) / P % 4294967296 = y / P % 4294967296 := by
  have h1 := Nat.div_add_mod y (4294967296 * 4294967296)
  generalize y % (4294967296 * 4294967296) = t at *
  generalize y / (4294967296 * 4294967296) = q at *
  have e : y = P * (Q * 4294967296 * q) + t := by rw [← h1, ← Nat.mul_assoc, ← Nat.mul_assoc, h]
  rw [e, Nat.mul_add_div hP, Nat.mul_comm Q, Nat.mul_assoc, Nat.mul_add_mod]
theorem two_words (ws : List Nat) (h : Wd ws) (p : Nat) : ws.getD (p + 1) 0 * 4294967296 + ws.getD p 0 = val ws / 4294967296 ^ p % (4294967296 * 4294967296) := by
  rw [getD_val h, getD_val h, Nat.pow_succ, ← Nat.div_div_eq_div_mul]
  omega
theorem nat_right (a n : Nat) (ha : (words a).length ≤ 1099511627776) (hn : n ≤ 1099511627776) : CallOK Tryz.prog gl 63 [.sl 1 (u32s (words a)), .v (.int .i64 n)] (.sl 1 (u32s (words (a / 2 ^ n)))) := by
  refine call_ok (C := ⟨Tryz.prog, gl, ti, 55, false⟩) ti_ok mixed 3000 Tryz.call63 Tryz.func63 rfl Tryz.ntmps63 (by simp) byClL byCl ?_
  rw [Tryz.results63]
  have d1 : (n : Int).tdiv 32 = ((n / 32 : Nat) : Int) := rfl
  have d2 : (n : Int).tmod 32 = ((n % 32 : Nat) : Int) := rfl
  have hp := two_pow_split n
  have hk : n % 32 < 32 := Nat.mod_lt _ (by omega)
  have hwd : n / 32 ≤ n := Nat.div_le_self _ _
  have lt := lt_words a
  generalize n / 32 = wd at *
  generalize n % 32 = k at *
  obtain ⟨la, hla⟩ : ∃ la : Nat, la = (words a).length := ⟨_, rfl⟩
  have el : (words a).length = la := hla.symm
  rw [el] at lt
  by_cases h0 : la ≤ wd
  ·
    have e : words (a / 2 ^ n) = [] := by
      rw [words_nil, Nat.div_eq_of_lt]
      rw [hp]
      have h1 := pow_le h0
      have h2 : 0 < 2 ^ k := Nat.pow_pos (by omega)
      have h3 := Nat.mul_le_mul_left (4294967296 ^ wd) h2
      rw [Nat.mul_one] at h3
      omega
    rw [e]
    clear hp
    repeat' (first | (simp only [go_sem, seval, IntKind.bits.eq_def, ti, tin, u32s_length, el, d1, d2]) | (simp (disch := omega) only [wA]) | refine aL ti_ok ?_ | refine dL ti_ok ?_ | refine dG ?_ | ((first | refine cC ?_ ?_ | refine gS ?_ ?_ | refine dS ?_ ?_) <;> intro hc <;> first | (exfalso; simp only [dcA] at hc; omega) | (simp only [hc]; try simp only [dcA] at hc)) | refine aO ?_ | refine dO ?_)
    exact fin_le trivial (Le.nil _)
  ·
    obtain ⟨N, hN⟩ : ∃ N : Nat, la = N + wd := ⟨la - wd, by omega⟩
    have eN : (la : Int) - (wd : Int) = (N : Int) := by omega
    repeat' (first | (simp only [go_sem, seval, IntKind.bits.eq_def, ti, tin, u32s_length, el, d1, d2, eN, u32s_zeros]) | (simp (disch := omega) only [wA]) | refine aL ti_ok ?_ | refine dL ti_ok ?_ | refine dG ?_ | ((first | refine cC ?_ ?_ | refine gS ?_ ?_ | refine dS ?_ ?_) <;> intro hc <;> first | (exfalso; simp only [dcA] at hc; omega) | (simp only [hc]; try simp only [dcA] at hc)) | refine aO ?_ | refine dO ?_)
    refine l_loop (α := Nat × List Nat) (fun x => ⟨[(0, .sl 1 (u32s (words a))), (26, .v (.int .i64 x.1)), (25, .v (.int .i64 N)), (7, .ps 0 1 0 N), (6, .v (.int .u64 (k))), (5, .v (.int .i64 wd)), (4, .v (.slice none 0 0))], [(0, ⟨1, u32s x.2⟩)], 1⟩) (fun x => x.1 ≤ N ∧ x.2.length = N ∧ Wd x.2 ∧ val (x.2.take x.1) = a / 2 ^ n % 4294967296 ^ x.1) (fun x => N - x.1) ((0, List.replicate N 0)) _ byFresh (fun _ h => by first | (cases h; done) | exact Nat.le_of_ble_eq_true rfl) ?_ ?_ ?_
    · exact ⟨Nat.zero_le _, by simp, Wd.zeros N, by simp [val, Nat.mod_one]⟩
    · exact byWeak
    rintro ⟨i, ws⟩ ⟨hi, hw, hW, hv⟩
    simp only at hi hw hW hv
    by_cases hin : i < N
    ·
      have hx := (Wd.words a).get (i + wd + 1)
      have hy := (Wd.words a).get (i + wd)
      have ra := u32s_getD (ws := words a) (i := i + wd) (by omega)
      have ca := nat_at (words a) (i + wd + 1)
      have f5 : (i : Int) + (wd : Int) = ((i + wd : Nat) : Int) := by omega
      have f6 : ((i + wd : Nat) : Int) + 1 = ((i + wd + 1 : Nat) : Int) := by omega
      have h2w := two_words (words a) (Wd.words a) (i + wd)
      rw [val_words] at h2w
      have hP : 0 < 2 ^ k := Nat.pow_pos (by omega)
      have hword : (((words a).getD (i + wd + 1) 0 * 4294967296 + (words a).getD (i + wd) 0) / 2 ^ k) % 4294967296 = a / 2 ^ n / 4294967296 ^ i % 4294967296 := by
        rw [h2w, shr_word hP (Q := 2 ^ (32 - k)) (by rw [← Nat.pow_add, Nat.add_sub_cancel' (Nat.le_of_lt hk)]), Nat.div_div_eq_div_mul, Nat.div_div_eq_div_mul, hp, Nat.pow_add]
        congr 2
        ac_rfl
      generalize (words a).getD (i + wd + 1) 0 = x at *
      generalize (words a).getD (i + wd) 0 = y at *
      have f0 : (x : Int) * 4294967296 = ((x * 4294967296 : Nat) : Int) := by omega
      have f1 := or_word hx hy
      have f2 : ((x * 4294967296 + y : Nat) : Int) / 2 ^ k = (((x * 4294967296 + y) / 2 ^ k : Nat) : Int) := by simp
      have hz : (x * 4294967296 + y) / 2 ^ k ≤ x * 4294967296 + y := Nat.div_le_self _ _
      have hms := Nat.mod_pow_succ (x := a / 2 ^ n) (b := 4294967296) (k := i)
      rw [← hword] at hms
      generalize (x * 4294967296 + y) / 2 ^ k = z at *
      have f3 := wrap_u32 z
      have hr : z % 4294967296 < 4294967296 := Nat.mod_lt _ (by omega)
      generalize z % 4294967296 = r at *
      have hlt : x * 4294967296 + y < 18446744073709551616 := by omega
      generalize hi1 : i + wd = p at *
      clear h2w hword hp
      have r0 := u32s_getD (ws := ws) (i := i) (by omega)
      repeat' (first | (simp only [go_sem, seval, IntKind.bits.eq_def, ti, tin, u32s_length, el, ra, r0, f0, f1, f2, f3, f5, f6, u32s_set]) | (simp (disch := omega) only [wA]) | (with_reducible first | refine cF ca ?_ | refine dF ca ?_) | refine aL ti_ok ?_ | refine dL ti_ok ?_ | refine dG ?_ | ((first | refine cC ?_ ?_ | refine gS ?_ ?_ | refine dS ?_ ?_) <;> intro hc <;> first | (exfalso; simp only [dcA] at hc; omega) | (simp only [hc]; try simp only [dcA] at hc)) | refine aO ?_ | refine dO ?_)
      refine roundEnd_of (α := Nat × List Nat) (i + 1, ws.set i r) ?_ ?_ ?_
      · refine ⟨by omega, by simp [hw], hW.set i hr, ?_⟩
        show val ((ws.set i r).take (i + 1)) = _
        rw [val_take_set (by omega), hv, hms]
      · show N - (i + 1) < N - i
        omega
      · exact byWeak
    ·
      have hi1 : i = N := by omega
      subst hi1
      have hval : val ws = a / 2 ^ n := by
        rw [List.take_of_length_le (by omega)] at hv
        rw [hv, Nat.mod_eq_of_lt]
        rw [hp, ← Nat.div_div_eq_div_mul]
        refine Nat.lt_of_le_of_lt (Nat.div_le_self _ _) ?_
        rw [Nat.div_lt_iff_lt_mul (Nat.pow_pos (by omega)), ← Nat.pow_add, ← hN]
        exact lt
      clear hp
      repeat' (first | (simp only [go_sem, seval, IntKind.bits.eq_def, ti, tin, u32s_length]) | (simp (disch := omega) only [wA]) | refine aL ti_ok ?_ | refine dL ti_ok ?_ | refine dG ?_ | ((first | refine cC ?_ ?_ | refine gS ?_ ?_ | refine dS ?_ ?_) <;> intro hc <;> first | (exfalso; simp only [dcA] at hc; omega) | (simp only [hc]; try simp only [dcA] at hc)) | refine aO ?_ | refine dO ?_)
      refine callF_frz 0 rfl (.cons (frz_ps rfl (by show 0 + i ≤ (u32s ws).length; rw [u32s_length]; omega)) .nil) ?_ (nat_trim ws hW (by omega)) ?_
      · simp only [List.drop_zero, u32s_take]
        rw [List.take_of_length_le (by omega)]
        exact LeL.refl _
      · rw [hval]
        repeat' (first | (simp only [go_sem, seval, IntKind.bits.eq_def, ti, tin]) | (simp (disch := omega) only [wA]) | refine aL ti_ok ?_ | refine dL ti_ok ?_ | refine dG ?_ | ((first | refine cC ?_ ?_ | refine gS ?_ ?_ | refine dS ?_ ?_) <;> intro hc <;> first | (exfalso; simp only [dcA] at hc; omega) | (simp only [hc]; try simp only [dcA] at hc)) | refine aO ?_ | refine dO ?_)
        exact fin_same trivial rfl
theorem ofUint_ok (u : Nat) (hu : u < 18446744073709551616) : CallOK Tryz.prog gl 58 [.v (.int .u64 (u))] (.sl 1 (u32s (words u))) := by
  refine call_ok (C := ⟨Tryz.prog, gl, ti, 10, false⟩) ti_ok mixed 3000 Tryz.call58 Tryz.func58 rfl Tryz.ntmps58 (by simp) byClL byCl ?_
  rw [Tryz.results58]
  have f1 := wrap_u32 u
  have f2 : (u : Int) / 4294967296 = ((u / 4294967296 : Nat) : Int) := rfl
  have hq : u / 4294967296 < 4294967296 := by omega
  have hr : u % 4294967296 < 4294967296 := Nat.mod_lt _ (by omega)
  have hv : val [u % 4294967296, u / 4294967296] = u := by simp only [val]; omega
  have f3 := wrap_u32 (u / 4294967296)
  rw [Nat.mod_eq_of_lt hq] at f3
  have hW : Wd [u % 4294967296, u / 4294967296] := Wd.cons hr (Wd.cons hq Wd.nil)
  generalize u % 4294967296 = r at *
  generalize u / 4294967296 = q at *
  have tr := nat_trim [r, q] hW (by simp)
  rw [hv] at tr
  simp only [u32s, u32, List.map_cons, List.map_nil] at tr
  repeat' (first | (simp only [go_sem, seval, IntKind.bits.eq_def, ti, tin, f1, f2, f3]) | (simp (disch := omega) only [wA]) | (with_reducible first | refine cF tr ?_ | refine dF tr ?_) | refine aL ti_ok ?_ | refine dL ti_ok ?_ | refine dG ?_ | ((first | refine cC ?_ ?_ | refine gS ?_ ?_ | refine dS ?_ ?_) <;> intro hc <;> first | (exfalso; simp only [dcA] at hc; omega) | (simp only [hc]; try simp only [dcA] at hc)) | refine aO ?_ | refine dO ?_)
  exact fin_same trivial rfl
end Go.Proofs.YtfmgfjmfogmeeaaGreatDoor
/- Layer 2 (dyadic.go), part 1: validity, parts, results. -/
set_option linter.unusedSimpArgs false
set_option linter.unusedVariables false
set_option linter.deprecated false
namespace Go.Proofs.YtfmgfjmfogmeeaaGreatDoor
open Go Go.Ax
set_option maxRecDepth 100000
set_option maxHeartbeats 4000000
theorem Valid_ok (s : Bool) (ws : List Nat) (d : Int) (hl : ws.length ≤ 4611686018427387904) : CallOK Tryz.prog gl 67 [.agg [.v (.bool s), .sl 1 (u32s ws), .v (.int .i64 d)]] (.v (.bool (validR s ws d))) := by
  refine call_ok (C := ⟨Tryz.prog, gl, ti, 47, false⟩) ti_ok mixed 3000 Tryz.call67 Tryz.func67 rfl Tryz.ntmps67 (by simp) byClL byCl ?_
  rw [Tryz.results67]
  by_cases h1 : d < 0 ∨ 65536 < d
  · have e : validR s ws d = false := by unfold validR; rw [if_pos h1]
    rw [e]
    repeat' (first | (simp only [go_sem, seval, IntKind.bits.eq_def, ti, tin, u32s_length]) | (simp (disch := omega) only [wA]) | refine aL ti_ok ?_ | refine dL ti_ok ?_ | refine dG ?_ | ((first | refine cC ?_ ?_ | refine gS ?_ ?_ | refine dS ?_ ?_) <;> intro hc <;> first | (exfalso; simp only [dcA] at hc; omega) | (simp only [hc]; try simp only [dcA] at hc)) | refine aO ?_ | refine dO ?_)
    all_goals first | exact fin_same trivial rfl | (exfalso; simp at *; omega)
  · by_cases h2 : ws.length = 0
    · have : ws = [] := List.length_eq_zero_iff.1 h2
      subst this
      have e : validR s [] d = (!s && decide (d = 0)) := by unfold validR; rw [if_neg h1, if_pos h2]
      rw [e]
      cases s
      ·
        repeat' (first | (simp only [go_sem, seval, IntKind.bits.eq_def, ti, tin, u32s_nil]) | (simp (disch := omega) only [wA]) | refine aL ti_ok ?_ | refine dL ti_ok ?_ | refine dG ?_ | ((first | refine cC ?_ ?_ | refine gS ?_ ?_ | refine dS ?_ ?_) <;> intro hc <;> first | (exfalso; simp only [dcA] at hc; omega) | (simp only [hc]; try simp only [dcA] at hc)) | refine aO ?_ | refine dO ?_)
        all_goals (refine fin_same trivial ?_; simp [one])
      ·
        repeat' (first | (simp only [go_sem, seval, IntKind.bits.eq_def, ti, tin, u32s_nil]) | (simp (disch := omega) only [wA]) | refine aL ti_ok ?_ | refine dL ti_ok ?_ | refine dG ?_ | ((first | refine cC ?_ ?_ | refine gS ?_ ?_ | refine dS ?_ ?_) <;> intro hc <;> first | (exfalso; simp only [dcA] at hc; omega) | (simp only [hc]; try simp only [dcA] at hc)) | refine aO ?_ | refine dO ?_)
        all_goals (refine fin_same trivial ?_; simp [one])
    · have e : validR s ws d = (decide (ws.getD (ws.length - 1) 0 ≠ 0) && (decide (d = 0) || decide (ws.getD 0 0 % 2 = 1))) := by unfold validR; rw [if_neg h1, if_neg h2]
      have r0 := u32s_getD (ws := ws) (i := 0) (by omega)
      obtain ⟨n, hn⟩ : ∃ n, ws.length = n + 1 := ⟨ws.length - 1, by omega⟩
      have r1 := u32s_getD (ws := ws) (i := n) (by omega)
      have e1 : ((n + 1 : Nat) : Int) - 1 = (n : Int) := by omega
      rw [e]
      rw [show ws.length - 1 = n by omega]
      have hx : (ws.getD 0 0 : Int).tmod 2 = ((ws.getD 0 0 % 2 : Nat) : Int) := rfl
      generalize ws.getD n 0 = a at *
      generalize ws.getD 0 0 = b at *
      by_cases ha : a = 0
      · subst ha
        repeat' (first | (simp only [go_sem, seval, IntKind.bits.eq_def, ti, tin, u32s_length, hn, e1, r0, r1, hx]) | (simp (disch := omega) only [wA]) | refine aL ti_ok ?_ | refine dL ti_ok ?_ | refine dG ?_ | ((first | refine cC ?_ ?_ | refine gS ?_ ?_ | refine dS ?_ ?_) <;> intro hc <;> first | (exfalso; simp only [dcA] at hc; omega) | (simp only [hc]; try simp only [dcA] at hc)) | refine aO ?_ | refine dO ?_)
        all_goals (refine fin_same trivial ?_; simp [one])
      · have ha' : ¬ (a : Int) = 0 := by omega
        by_cases hd : d = 0
        · subst hd
          repeat' (first | (simp only [go_sem, seval, IntKind.bits.eq_def, ti, tin, u32s_length, hn, e1, r0, r1, hx]) | (simp (disch := omega) only [wA]) | refine aL ti_ok ?_ | refine dL ti_ok ?_ | refine dG ?_ | ((first | refine cC ?_ ?_ | refine gS ?_ ?_ | refine dS ?_ ?_) <;> intro hc <;> first | (exfalso; simp only [dcA] at hc; omega) | (simp only [hc]; try simp only [dcA] at hc)) | refine aO ?_ | refine dO ?_)
          all_goals (refine fin_same trivial ?_; simp [one, ha])
        ·
          repeat' (first | (simp only [go_sem, seval, IntKind.bits.eq_def, ti, tin, u32s_length, hn, e1, r0, r1, hx]) | (simp (disch := omega) only [wA]) | refine aL ti_ok ?_ | refine dL ti_ok ?_ | refine dG ?_ | ((first | refine cC ?_ ?_ | refine gS ?_ ?_ | refine dS ?_ ?_) <;> intro hc <;> first | (exfalso; simp only [dcA] at hc; omega) | (simp only [hc]; try simp only [dcA] at hc)) | refine aO ?_ | refine dO ?_)
          all_goals (refine fin_same trivial ?_; simp [one, ha, hd]; try omega)
theorem parts_ok (s : Bool) (ws : List Nat) (d : Int) (x : Dy) (h : Arg s ws d x) : CallOK Tryz.prog gl 32 [.agg [.v (.bool s), .sl 1 (u32s ws), .v (.int .i64 d)]] (.tup [.v (.bool (sg x)), .sl 1 (u32s (ms x)), .v (.int .i64 (dn x))]) := by
  refine call_ok (C := ⟨Tryz.prog, gl, ti, 14, false⟩) ti_ok mixed 3000 Tryz.call32 Tryz.func32 rfl Tryz.ntmps32 (by simp) byClL byCl ?_
  rw [Tryz.results32]
  have va := Valid_ok s ws d (by have := h.len; omega)
  rcases h.is with ⟨hv, rfl, h2, rfl⟩ | ⟨hv, rfl⟩
  · subst h2
    rw [hv] at va
    repeat' (first | (simp only [go_sem, seval, IntKind.bits.eq_def, ti, tin]) | (simp (disch := omega) only [wA]) | (with_reducible first | refine cF va ?_ | refine dF va ?_) | refine aL ti_ok ?_ | refine dL ti_ok ?_ | refine dG ?_ | ((first | refine cC ?_ ?_ | refine gS ?_ ?_ | refine dS ?_ ?_) <;> intro hc <;> first | (exfalso; simp only [dcA] at hc; omega) | (simp only [hc]; try simp only [dcA] at hc)) | refine aO ?_ | refine dO ?_)
    exact fin_same trivial rfl
  · rw [hv] at va
    rw [ms_zero]
    repeat' (first | (simp only [go_sem, seval, IntKind.bits.eq_def, ti, tin]) | (simp (disch := omega) only [wA]) | (with_reducible first | refine cF va ?_ | refine dF va ?_) | refine aL ti_ok ?_ | refine dL ti_ok ?_ | refine dG ?_ | ((first | refine cC ?_ ?_ | refine gS ?_ ?_ | refine dS ?_ ?_) <;> intro hc <;> first | (exfalso; simp only [dcA] at hc; omega) | (simp only [hc]; try simp only [dcA] at hc)) | refine aO ?_ | refine dO ?_)
    exact fin_le trivial (Le.tup (.cons (.refl _) (.cons (Le.nil _) (.cons (.refl _) .nil))))
end Go.Proofs.YtfmgfjmfogmeeaaGreatDoor
