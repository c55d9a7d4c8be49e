/- The decimal text of the reference (ref02.decimal). -/
import Derived.Test.YtfmgfjmfogmeeaaGreatDoorQuo3
import Derived.Test.YtfmgfjmfogmeeaaGreatDoorU4
set_option linter.unusedSimpArgs false
set_option linter.unusedVariables false
set_option linter.deprecated false
namespace Go.Proofs.YtfmgfjmfogmeeaaGreatDoor
open Go Go.Ax
set_option maxRecDepth 100000
set_option maxHeartbeats 4000000
theorem rd_step {a d B : Nat} (hd : 0 < d) (hB : 0 < B) (k : Nat) : a / B ^ k / d = (a / B ^ (k + 1) % d * B + a / B ^ k % B) / d + B * (a / B ^ (k + 1) / d) ∧ a / B ^ k % d = (a / B ^ (k + 1) % d * B + a / B ^ k % B) % d := by
  rw [Nat.pow_succ, ← Nat.div_div_eq_div_mul]
  generalize a / B ^ k = x
  have h1 := Nat.div_add_mod x B
  have h2 := Nat.div_add_mod (x / B) d
  have e : x = d * (B * (x / B / d)) + (x / B % d * B + x % B) := by
    conv => lhs; rw [← h1, ← h2]
    rw [Nat.mul_add, ← Nat.mul_assoc, Nat.mul_comm B d, Nat.mul_assoc, Nat.mul_comm B (x / B % d), Nat.add_assoc]
  constructor
  · conv => lhs; rw [e]
    rw [Nat.mul_add_div hd, Nat.add_comm]
  · conv => lhs; rw [e]
    rw [Nat.mul_add_mod]
theorem rd_drop_set {ws : List Nat} {m : Nat} (h : m < ws.length) (q : Nat) : val ((ws.set m q).drop m) = q + 4294967296 * val (ws.drop (m + 1)) := by
  rw [drop_getD (by rw [List.length_set]; exact h), getD_set_eq h, List.drop_set_of_lt (by omega)]
  rfl
theorem rd_get {ws vs : List Nat} {j : Nat} (h : ws.take (j + 1) = vs.take (j + 1)) : ws.getD j 0 = vs.getD j 0 := by
  have := congrArg (fun l => l[j]?) h
  simp only [List.getElem?_take, if_pos (Nat.lt_succ_self j)] at this
  rw [List.getD, List.getD, this]
theorem rd_take {ws vs : List Nat} {j q : Nat} (h : ws.take (j + 1) = vs.take (j + 1)) : (ws.set j q).take j = vs.take j := by
  have := congrArg (fun l => l.take j) h
  simp only [List.take_take, Nat.min_eq_left (Nat.le_succ j)] at this
  rw [← this]
  apply List.ext_getElem?
  intro i
  rw [List.getElem?_take, List.getElem?_take]
  split
  · rw [List.getElem?_set_ne (by omega)]
  · rfl
theorem digs_length (bs : List Int) : (digs bs).length = bs.length := by simp [digs]
theorem rowsOK_brows {b : Nat} {l : List Int} : RowsOK b 1 (rws brow l) := rowsOK_rws clrow_b (fun x => ⟨rfl, fun a ha => by
  simp only [brow, List.mem_cons, List.not_mem_nil, or_false] at ha
  rcases ha with rfl; rfl⟩)
theorem ref_dec (n : Nat) (h0 : 0 < n) (hl : (words n).length ≤ 1099511627776) : CallOK Tryz.prog gl 40 [.sl 1 (u32s (words n))] (.v (.string ⟨(Lib.decDigits n).toArray⟩)) := by
  refine call_ok (C := ⟨Tryz.prog, gl, ti, 50, false⟩) ti_ok mixed 3000 Tryz.call40 Tryz.func40 rfl Tryz.ntmps40 (by simp) byClL byCl ?_
  rw [Tryz.results40]
  have hb1 := clrow_b
  have hdl := decDigits_len (32 * (words n).length) n (Nat.lt_of_lt_of_le (lt_words n) (by rw [two_pow_32]; exact Nat.le_trans (Nat.pow_le_pow_left (by omega) _) (Nat.pow_le_pow_right (by omega) (by omega))))
  obtain ⟨L, hL⟩ : ∃ L, (words n).length = L := ⟨_, rfl⟩
  rw [hL] at hl hdl
  repeat' (first | (simp only [go_sem, seval, IntKind.bits.eq_def, ti, tin, u32s_length, hL]) | (simp (disch := omega) only [wA]) | (refine after_lit0 ti_ok rfl rfl ?_) | (refine after_append_nil ti_ok rfl rfl rfl rfl ⟨rfl, by decide⟩ rfl ⟨trivial, by (try simp only [List.length_cons, List.length_nil, List.length_append, u32s_length, List.length_map]); omega, by (try simp only [List.length_cons, List.length_nil, List.length_append, u32s_length, List.length_map]); omega⟩ (fun _ => byRows) ?_) | (refine after_append_own ti_ok rfl rfl rfl rfl rfl ⟨rfl, rfl, by decide, Nat.le_of_ble_eq_true rfl⟩ (fun h => by first | (cases h; done) | decide) rfl ⟨trivial, by (try simp only [List.length_cons, List.length_nil, List.length_append, u32s_length, List.length_map]); omega, by (try simp only [List.length_cons, List.length_nil, List.length_append, u32s_length, List.length_map]); omega, by (try simp only [List.length_cons, List.length_nil, List.length_append, u32s_length, List.length_map]); omega⟩ byRows byNoE byNoM ?_) | refine aL ti_ok ?_ | refine dL ti_ok ?_ | refine dG ?_ | ((first | refine cC ?_ ?_ | refine gS ?_ ?_ | refine dS ?_ ?_) <;> intro hc <;> first | (exfalso; simp only [dcA] at hc; omega) | (simp only [hc]; try simp only [dcA] at hc)) | refine aO ?_ | refine dO ?_)
  refine l_loop (α := Nat × List Int) (fun x => ⟨[(0, .ps 0 1 0 (words x.1).length), (3, .ps 1 1 0 x.2.length)], [(0, ⟨1, u32s (words x.1)⟩), (1, ⟨1, rws brow x.2⟩)], 2⟩) (fun x => (words x.1).length ≤ L ∧ ((0 < x.1 ∧ Lib.decDigits x.1 ++ digs x.2 = Lib.decDigits n) ∨ (x.1 = 0 ∧ 0 < x.2.length ∧ digs x.2 = Lib.decDigits n))) (fun x => x.1) ((n, [])) _ byFresh (fun _ h => by first | (cases h; done) | exact Nat.le_of_ble_eq_true rfl) ?_ ?_ ?_
  · exact ⟨by show (words n).length ≤ L; omega, .inl ⟨h0, by simp [digs]⟩⟩
  · rw [hL]; exact Weak.trans (Weak.newnil 1 1 (Nat.le_of_ble_eq_true rfl)) (Nat.le_of_ble_eq_true rfl) (by exact byWeak)
  rintro ⟨m, bs⟩ ⟨hm, hd⟩
  simp only at hm hd
  have hbl : bs.length ≤ 32 * L + 1 := by
    have h1 : (digs bs).length ≤ (Lib.decDigits n).length := by
      rcases hd with ⟨_, hd⟩ | ⟨_, _, hd⟩
      · rw [← hd, List.length_append]; omega
      · rw [hd]; exact Nat.le_refl _
    rw [digs_length] at h1; omega
  rcases hd with ⟨hm0, hd⟩ | ⟨hm0, hb0, hd⟩
  ·
    have hkp : 0 < (words m).length := words_length_pos.2 (by omega)
    have hlt := lt_words m
    obtain ⟨k, hk⟩ : ∃ k, (words m).length = k := ⟨_, rfl⟩
    rw [hk] at hm hkp hlt ⊢
    repeat' (first | (simp only [go_sem, seval, IntKind.bits.eq_def, ti, tin, u32s_length, hk, rws_length]) | (simp (disch := omega) only [wA]) | refine aL ti_ok ?_ | refine dL ti_ok ?_ | refine dG ?_ | ((first | refine cC ?_ ?_ | refine gS ?_ ?_ | refine dS ?_ ?_) <;> intro hc <;> first | (exfalso; simp only [dcA] at hc; omega) | (simp only [hc]; try simp only [dcA] at hc)) | refine aO ?_ | refine dO ?_)
    refine l_loop (α := Nat × List Nat × Nat) (fun y => ⟨[(0, .ps 0 1 0 k), (3, .ps 1 1 0 bs.length), (4, .v (.int .u64 (y.2.2))), (5, .v (.int .i64 (((y.1 : Int) - 1))))], [(0, ⟨1, u32s y.2.1⟩), (1, ⟨1, rws brow bs⟩)], 2⟩) (fun y => y.1 ≤ k ∧ y.2.1.length = k ∧ Wd y.2.1 ∧ y.2.1.take y.1 = (words m).take y.1 ∧ y.2.2 = m / 4294967296 ^ y.1 % 10 ∧ val (y.2.1.drop y.1) = m / 4294967296 ^ y.1 / 10) (fun y => y.1) ((k, words m, 0)) _ byFresh (fun _ h => by first | (cases h; done) | exact Nat.le_of_ble_eq_true rfl) ?_ ?_ ?_
    · exact ⟨Nat.le_refl _, hk, Wd.words m, rfl, by rw [Nat.div_eq_of_lt hlt], by rw [List.drop_eq_nil_of_le (by simp [hk]), Nat.div_eq_of_lt hlt]; simp [val]⟩
    · exact byWeak
    rintro ⟨i, ws, r⟩ ⟨hi, hw, hW, ht, hr, hv⟩
    simp only at hi hw hW ht hr hv
    cases i with
    | zero =>
      rw [Nat.pow_zero, Nat.div_one] at hr hv
      rw [List.drop_zero] at hv
      have tv := ref_trimV ws k hW hw (by omega)
      rw [hv] at tv
      repeat' (first | (simp only [go_sem, seval, IntKind.bits.eq_def, ti, tin, u32s_length, hk, rws_length]) | (simp (disch := omega) only [wA]) | refine aL ti_ok ?_ | refine dL ti_ok ?_ | refine dG ?_ | ((first | refine cC ?_ ?_ | refine gS ?_ ?_ | refine dS ?_ ?_) <;> intro hc <;> first | (exfalso; simp only [dcA] at hc; omega) | (simp only [hc]; try simp only [dcA] at hc)) | refine aO ?_ | refine dO ?_)
      refine callF_part 0 rfl ⟨Nat.ne_of_beq_eq_false rfl, .inl rfl⟩ (by show 0 < (u32s ws).length; rw [u32s_length]; omega) u32s_clM u32s_clM rfl byRn (.ps0 _ _ _) byNoe (by (repeat' (first | exact trivial | exact .inl rfl | exact .inr (.inl rfl) | exact .inr (.inr noRows_u32s) | exact .inr (.inr (noRows_rws clrow_b)) | refine And.intro ?_ ?_))) tv ?_
      have hrd : r < 10 := by rw [hr]; exact Nat.mod_lt _ (by omega)
      have f4 : (48 : Int) + (r : Int) = ((48 + r : Nat) : Int) := by omega
      have f5 : IntKind.u8.wrap ((48 + r : Nat) : Int) = ((48 + r : Nat) : Int) := wu8 (by omega)
      have er : ((rws brow bs).drop 0).take bs.length = rws brow bs := by rw [List.drop_zero, List.take_of_length_le (by rw [rws_length]; omega)]
      repeat' (first | (simp only [go_sem, seval, IntKind.bits.eq_def, ti, tin, u32s_length, hk, rws_length, f4, f5]) | (simp (disch := omega) only [wA]) | (refine after_litP ti_ok rfl ?_) | refine aL ti_ok ?_ | refine dL ti_ok ?_ | refine dG ?_ | ((first | refine cC ?_ ?_ | refine gS ?_ ?_ | refine dS ?_ ?_) <;> intro hc <;> first | (exfalso; simp only [dcA] at hc; omega) | (simp only [hc]; try simp only [dcA] at hc)) | refine aO ?_ | refine dO ?_)
      refine after_append_own (k := 1) (b := 2) (m := ⟨1, [[.v (.int .u8 ((48 + r : Nat) : Int))]]⟩) ti_ok rfl rfl rfl rfl rfl ⟨rfl, rfl, by decide, Nat.le_of_ble_eq_true rfl⟩ (fun h => by cases h) rfl ⟨by show 0 + bs.length ≤ (rws brow bs).length; rw [rws_length]; omega, by show 1 ≤ 1; omega, by rw [er, rws_length]; show (1 + bs.length) * 1 ≤ _; omega, by rw [er, rws_length]; omega⟩ (by rw [er]; exact rowsOK_brows) byNoE (by repeat' (first | exact trivial | exact .inl rfl | exact noRows_u32s | exact noRows_rws clrow_b | exact byNoM | refine And.intro ?_ ?_)) ?_
      rw [er, rws_length]
      have e9 : ([AV.v (.int .u8 ((48 + r : Nat) : Int))] : List AV) :: rws brow bs = rws brow (((48 + r : Nat) : Int) :: bs) := rfl
      repeat' (first | (simp only [go_sem, seval, IntKind.bits.eq_def, ti, tin, u32s_length, hk, rws_length, f4, f5, e9]) | (simp (disch := omega) only [wA]) | refine aL ti_ok ?_ | refine dL ti_ok ?_ | refine dG ?_ | ((first | refine cC ?_ ?_ | refine gS ?_ ?_ | refine dS ?_ ?_) <;> intro hc <;> first | (exfalso; simp only [dcA] at hc; omega) | (simp only [hc]; try simp only [dcA] at hc)) | refine aO ?_ | refine dO ?_)
      have tw := take_words hW
      rw [hv, hw] at tw
      rw [Nat.add_comm 1 bs.length]
      subst hr
      refine roundEnd_of (α := Nat × List Int) (m / 10, ((48 + m % 10 : Nat) : Int) :: bs) ?_ ?_ ?_
      · refine ⟨by show (words (m / 10)).length ≤ L; omega, ?_⟩
        by_cases h10 : m < 10
        · exact .inr ⟨by show m / 10 = 0; omega, by show 0 < (_ :: bs).length; simp, by rw [← hd]; exact digs_last bs h10⟩
        · exact .inl ⟨by show 0 < m / 10; omega, by rw [← hd]; exact digs_cons bs h10⟩
      · show m / 10 < m
        omega
      · exact Weak.trans (Weak.cutR 0 (words (m / 10)).length rfl (by show (u32s ws).take _ = u32s (words (m / 10)); rw [u32s_take, tw.1])) (Nat.le_refl _) (Weak.ren2 2 1 3 (Nat.le_refl _) (by decide) (Nat.le_of_ble_eq_true rfl) byRenE byNoM byWeak)
    | succ j =>
      have e1 : ((j + 1 : Nat) : Int) - 1 = (j : Int) := by omega
      have gx := rd_get ht
      have tk : ∀ q, (ws.set j q).take j = (words m).take j := fun q => rd_take ht
      have ra := u32s_getD (ws := ws) (i := j) (by omega)
      rw [gx] at ra
      have hx := (Wd.words m).get j
      have hxv := getD_val (Wd.words m) j
      rw [val_words] at hxv
      obtain ⟨s1, s2⟩ := rd_step (a := m) (d := 10) (by omega) (by omega : 0 < 4294967296) j
      rw [← hxv, ← hr, ← hv] at s1
      rw [← hxv, ← hr] at s2
      generalize (words m).getD j 0 = x at *
      have hrd : r < 10 := by rw [hr]; exact Nat.mod_lt _ (by omega)
      have f0 : (r : Int) * 4294967296 = ((r * 4294967296 : Nat) : Int) := by omega
      have f1 := or_word (a := r) (b := x) (by omega) hx
      have f2 : ((r * 4294967296 + x : Nat) : Int).tdiv 10 = (((r * 4294967296 + x) / 10 : Nat) : Int) := rfl
      have f3 : ((r * 4294967296 + x : Nat) : Int).tmod 10 = (((r * 4294967296 + x) % 10 : Nat) : Int) := rfl
      have hq : (r * 4294967296 + x) / 10 < 4294967296 := by omega
      have hrr : (r * 4294967296 + x) % 10 < 10 := by omega
      have hbig : r * 4294967296 + x < 18446744073709551616 := by omega
      generalize (r * 4294967296 + x) / 10 = q at *
      generalize (r * 4294967296 + x) % 10 = r2 at *
      repeat' (first | (simp only [go_sem, seval, IntKind.bits.eq_def, ti, tin, u32s_length, hk, hw, e1, ra, f0, f1, f2, f3, u32s_set]) | (simp (disch := omega) only [wA]) | refine aL ti_ok ?_ | refine dL ti_ok ?_ | refine dG ?_ | ((first | refine cC ?_ ?_ | refine gS ?_ ?_ | refine dS ?_ ?_) <;> intro hc <;> first | (exfalso; simp only [dcA] at hc; omega) | (simp only [hc]; try simp only [dcA] at hc)) | refine aO ?_ | refine dO ?_)
      refine roundEnd_of (α := Nat × List Nat × Nat) (j, ws.set j q, r2) ?_ ?_ ?_
      · refine ⟨by show j ≤ k; omega, by simp [hw], hW.set j hq, tk q, s2.symm, ?_⟩
        show val ((ws.set j q).drop j) = _
        rw [rd_drop_set (by omega), s1]
      · show j < j + 1
        omega
      · exact byWeak
  ·
    subst hm0
    have w0 : (words 0).length = 0 := by rw [words_zero]; rfl
    repeat' (first | (simp only [go_sem, seval, IntKind.bits.eq_def, ti, tin, u32s_length, rws_length, w0]) | (simp (disch := omega) only [wA]) | refine aL ti_ok ?_ | refine dL ti_ok ?_ | refine dG ?_ | ((first | refine cC ?_ ?_ | refine gS ?_ ?_ | refine dS ?_ ?_) <;> intro hc <;> first | (exfalso; simp only [dcA] at hc; omega) | (simp only [hc]; try simp only [dcA] at hc)) | refine aO ?_ | refine dO ?_)
    apply after_bstr (bs := bs) (b := 1) (row := 0) (k := bs.length) (m := ⟨1, rws brow bs⟩) ti_ok
    case ht => exact rfl
    case he => exact rfl
    case hu => exact rfl
    case hx => exact rfl
    case hm => exact rfl
    case hsz => exact rfl
    case hb => show ((rws brow bs).drop 0).take bs.length = bs.map brow; rw [List.drop_zero, List.take_of_length_le (by rw [rws_length]; omega)]; rfl
    case hn => show 0 + bs.length ≤ (rws brow bs).length; rw [rws_length]; omega
    rw [strOfNums_digs, hd]
    generalize Lib.decDigits n = t at *
    repeat' (first | (simp only [go_sem, seval, IntKind.bits.eq_def, ti, tin]) | (simp (disch := omega) only [wA]) | refine aL ti_ok ?_ | refine dL ti_ok ?_ | refine dG ?_ | ((first | refine cC ?_ ?_ | refine gS ?_ ?_ | refine dS ?_ ?_) <;> intro hc <;> first | (exfalso; simp only [dcA] at hc; omega) | (simp only [hc]; try simp only [dcA] at hc)) | refine aO ?_ | refine dO ?_)
    exact fin_same trivial rfl
end Go.Proofs.YtfmgfjmfogmeeaaGreatDoor
