/- The reference's reader of numerals (ref02.digits). -/
import Derived.Test.YtfmgfjmfogmeeaaGreatDoorRef9
import Derived.Test.YtfmgfjmfogmeeaaGreatDoorU4
set_option linter.unusedSimpArgs false
set_option linter.unusedVariables false
set_option linter.deprecated false
namespace Go.Proofs.YtfmgfjmfogmeeaaGreatDoor
open Go Go.Ax Go.RowKit
set_option maxRecDepth 100000
set_option maxHeartbeats 4000000
theorem str_size (l : List UInt8) : (⟨l.toArray⟩ : ByteArray).size = l.length := (rfl)
theorem str_at (l : List UInt8) (k : Nat) : (⟨l.toArray⟩ : ByteArray).data.toList.getD k 0 = l.getD k 0 := (rfl)
theorem str_nil (l : List UInt8) : decide ((⟨l.toArray⟩ : ByteArray) = ⟨#[]⟩) = decide (l = []) := decide_eq_decide.2 (by rw [show (⟨#[]⟩ : ByteArray) = ⟨([] : List UInt8).toArray⟩ from rfl, bytes_eq])
theorem numeral_at {l : List UInt8} (h : numeral l) {k : Nat} (hk : k < l.length) : isD (l.getD k 0) := h.2.2 _ (by
  rw [getD_in hk]; exact List.getElem_mem hk)
theorem dig_words {l : List UInt8} (hl : l.length ≤ 65536) {k : Nat} (h : ∀ i, i < k → isD (l.getD i 0)) (hk : k ≤ l.length) : (words (dvl (l.take k) 0)).length ≤ 65537 := by
  have h1 := dvl_lt (l.take k) 0 0 (fun b hb => by
    obtain ⟨i, hi, rfl⟩ := List.mem_iff_getElem.1 hb
    rw [List.length_take] at hi
    have := h i (by omega)
    rw [getD_in (by omega)] at this
    rw [List.getElem_take]
    exact this) (by decide)
  exact words_pow h1 (by rw [List.length_take]; omega)
theorem ref_digits (l : List UInt8) (hl : l.length ≤ 65536) : CallOK Tryz.prog gl 42 [.v (.string ⟨l.toArray⟩)] (.tup [.sl 1 (u32s (words (if numeral l then dvl l 0 else 0))), .v (.bool ((decide (numeral l))))]) := by
  refine call_ok (C := ⟨Tryz.prog, gl, ti, 70, false⟩) ti_ok mixed 3000 Tryz.call42 Tryz.func42 rfl Tryz.ntmps42 (by simp) byClL byCl ?_
  rw [Tryz.results42]
  obtain ⟨n, hn⟩ : ∃ n, l.length = n := ⟨_, rfl⟩
  obtain ⟨z, hz⟩ : ∃ z, decide (numeral l) = z := ⟨_, rfl⟩
  obtain ⟨R, hR⟩ : ∃ R, words (if numeral l then dvl l 0 else 0) = R := ⟨_, rfl⟩
  have no : ¬ numeral l → z = false ∧ R = [] := fun h => ⟨by rw [← hz, decide_eq_false h], by rw [← hR, if_neg h, words_zero]⟩
  have ye : numeral l → z = true ∧ R = words (dvl l 0) := fun h => ⟨by rw [← hz, decide_eq_true h], by rw [← hR, if_pos h]⟩
  rw [hz, hR]
  clear hz hR
  have e0 := str_nil l
  by_cases h0 : l = []
  · obtain ⟨rfl, rfl⟩ := no (fun h => h.1 h0)
    rw [decide_eq_true h0] at e0
    clear no ye h0
    repeat' (first | (simp only [go_sem, seval, IntKind.bits.eq_def, ti, tin, e0]) | (simp (disch := omega) only [wA]) | refine aL ti_ok ?_ | refine dL ti_ok ?_ | refine dG ?_ | ((first | refine cC ?_ ?_ | refine gS ?_ ?_ | refine dS ?_ ?_) <;> intro hc <;> first | (exfalso; simp only [dcA] at hc; omega) | (simp only [hc]; try simp only [dcA] at hc)) | refine aO ?_ | refine dO ?_)
    exact fin_le trivial (Le.tup (.cons (Le.nil _) (.cons (.refl _) .nil)))
  rw [decide_eq_false h0] at e0
  have hn0 : 0 < n := by rw [← hn]; exact List.length_pos_iff.2 h0
  have es := str_size l
  rw [hn] at es
  have ea := str_at l
  by_cases hz : (l.getD 0 0).toNat = 48 ∧ 1 < n
  · obtain ⟨rfl, rfl⟩ := no (fun h => h.2.1 (by rw [hn]; exact hz))
    clear no ye
    obtain ⟨z1, z2⟩ := hz
    have a0 : ((l.getD 0 0).toNat : Int) = 48 := by omega
    have a1 : (n : Int) > 1 := by omega
    repeat' (first | (simp only [go_sem, seval, IntKind.bits.eq_def, ti, tin, e0, es, ea, a0]) | (simp (disch := omega) only [wA]) | refine aL ti_ok ?_ | refine dL ti_ok ?_ | refine dG ?_ | ((first | refine cC ?_ ?_ | refine gS ?_ ?_ | refine dS ?_ ?_) <;> intro hc <;> first | (exfalso; simp only [dcA] at hc; omega) | (simp only [hc]; try simp only [dcA] at hc)) | refine aO ?_ | refine dO ?_)
    all_goals exact fin_le trivial (Le.tup (.cons (Le.nil _) (.cons (.refl _) .nil)))
  have hzl : ¬ ((l.getD 0 0).toNat = 48 ∧ 1 < l.length) := by rw [hn]; exact hz
  have fin : (∀ i, i < n → isD (l.getD i 0)) → numeral l := fun h => ⟨h0, hzl, fun b hb => by
    obtain ⟨i, hi, rfl⟩ := List.mem_iff_getElem.1 hb
    have := h i (by omega)
    rwa [getD_in hi] at this⟩
  have bad : ∀ k, k < n → ¬ isD (l.getD k 0) → z = false ∧ R = [] := fun k hk h => no (fun h2 => h (numeral_at h2 (by omega)))
  have hbound : ∀ k, k ≤ n → (∀ i, i < k → isD (l.getD i 0)) → (words (dvl (l.take k) 0)).length ≤ 65537 := fun k hk h => dig_words hl h (by omega)
  have hstep : ∀ k, k < n → dvl (l.take (k + 1)) 0 = dvl (l.take k) 0 * 10 + ((l.getD k 0).toNat - 48) := fun k hk => dvl_take_succ (by omega)
  have hall : dvl (l.take n) 0 = dvl l 0 := by rw [List.take_of_length_le (by omega)]
  clear no hzl
  repeat' (first | (simp only [go_sem, seval, IntKind.bits.eq_def, ti, tin, e0, es, ea]) | (simp (disch := omega) only [wA]) | refine aL ti_ok ?_ | refine dL ti_ok ?_ | refine dG ?_ | ((first | refine cC ?_ ?_ | refine gS ?_ ?_ | refine dS ?_ ?_) <;> intro hc <;> first | (exfalso; simp only [dcA] at hc; omega) | (simp only [hc]; try simp only [dcA] at hc)) | refine aO ?_ | refine dO ?_)
  all_goals
    clear hz
    refine l_loop (α := Nat) (fun k => ⟨[(0, .v (.string ⟨l.toArray⟩)), (21, .v (.int .i64 n)), (22, .v (.int .i64 k)), (4, .ps 0 1 0 (words (dvl (l.take k) 0)).length)], [(0, ⟨1, u32s (words (dvl (l.take k) 0))⟩)], 1⟩) (fun k => k ≤ n ∧ ∀ i, i < k → isD (l.getD i 0)) (fun k => n - k) (0) _ byFresh (fun _ h => by first | (cases h; done) | exact Nat.le_of_ble_eq_true rfl) ?_ ?_ ?_
    · exact ⟨Nat.zero_le _, fun i hi => by omega⟩
    · rw [List.take_zero, show dvl [] 0 = 0 from rfl, words_zero]
      exact Weak.trans (Weak.newnil 0 1 (Nat.le_refl _)) (Nat.le_of_ble_eq_true rfl) (by exact byWeak)
    rintro k ⟨hk, hi⟩
    have hwl := hbound k hk hi
    obtain ⟨m, hm⟩ : ∃ m, (words (dvl (l.take k) 0)).length = m := ⟨_, rfl⟩
    rw [hm] at hwl ⊢
    by_cases hkn : k < n
    · have ck := ea k
      by_cases hd : isD (l.getD k 0)
      · have hd1 := hd
        unfold isD at hd1
        have hcw := mad_words (dvl (l.take k) 0) ((l.getD k 0).toNat - 48) (by omega)
        rw [← hstep k hkn] at hcw
        have hi2 : ∀ i, i < k + 1 → isD (l.getD i 0) := fun i h => by
          by_cases h2 : i = k
          · rw [h2]; exact hd
          · exact hi i (by omega)
        clear hd bad hbound hstep fin
        have hW := Wd.words (dvl (l.take k) 0)
        generalize words (dvl (l.take k) 0) = W at *
        obtain ⟨b, hb⟩ : ∃ b, (l.getD k 0).toNat = b := ⟨_, rfl⟩
        rw [hb] at hd1 hcw
        obtain ⟨c, hc0⟩ : ∃ c, b = 48 + c := ⟨b - 48, by omega⟩
        subst hc0
        rw [Nat.add_sub_cancel_left] at hcw
        have f1 : ((48 + c : Nat) : Int) - 48 = (c : Int) := by omega
        have f2 : IntKind.u8.wrap (c : Int) = (c : Int) := wu8 (by omega)
        have f3 : IntKind.u64.wrap (c : Int) = (c : Int) := wu64 (by omega)
        have g1 : ¬ ((48 + c : Nat) : Int) < 48 := by omega
        have g2 : ¬ ((48 + c : Nat) : Int) > 57 := by omega
        repeat' (first | (simp only [go_sem, seval, IntKind.bits.eq_def, ti, tin, e0, es, ea, hb, f1, f2, f3, g1, g2, u32s_length, hm]) | (simp (disch := omega) only [wA]) | refine aL ti_ok ?_ | refine dL ti_ok ?_ | refine dG ?_ | ((first | refine cC ?_ ?_ | refine gS ?_ ?_ | refine dS ?_ ?_) <;> intro hc <;> first | (exfalso; simp only [dcA] at hc; omega) | (simp only [hc]; try simp only [dcA] at hc)) | refine aO ?_ | refine dO ?_)
        have hc9 : c ≤ 9 := by omega
        have eK := fun j => madK_len (l := W) (c := c) (k := j)
        refine l_loop (α := Nat) (fun j => ⟨[(0, .v (.string ⟨l.toArray⟩)), (21, .v (.int .i64 n)), (22, .v (.int .i64 k)), (4, .ps 0 1 0 m), (41, .v (.int .i64 m)), (42, .v (.int .i64 j)), (6, .v (.int .u64 (madC (W.take j) c)))], [(0, ⟨1, u32s (madK W c j)⟩)], 1⟩) (fun j => j ≤ m) (fun j => m - j) (0) _ byFresh (fun _ h => by first | (cases h; done) | exact Nat.le_of_ble_eq_true rfl) ?_ ?_ ?_
        · exact Nat.zero_le _
        · exact byWeak
        rintro j hj
        have hcb := madC_le (W.take j) c (hW.take j) hc9
        by_cases hjm : j < m
        · have ra := u32s_getD (ws := madK W c j) (i := j) (by rw [eK]; omega)
          rw [madK_get (by omega)] at ra
          have hst := madK_set (l := W) (c := c) (k := j) (by omega)
          have hcs := madC_step (l := W) (c := c) (k := j) (by omega)
          have hx := hW.get j
          have eKj := eK j
          clear hcw
          generalize W.getD j 0 = x at *
          generalize madC (W.take j) c = y at *
          obtain ⟨t, ht⟩ : ∃ t, t = x * 10 + y := ⟨_, rfl⟩
          rw [← ht] at hst hcs
          have p2 : (y : Int) + (x : Int) * 10 = (t : Int) := by omega
          have p3 := wrap_u32 t
          have p4 : (t : Int) / 4294967296 = ((t / 4294967296 : Nat) : Int) := rfl
          repeat' (first | (simp only [go_sem, seval, IntKind.bits.eq_def, ti, tin, es, u32s_length, hm, ra, p2, p3, p4, eKj, u32s_set]) | (simp (disch := omega) only [wA]) | refine aL ti_ok ?_ | refine dL ti_ok ?_ | refine dG ?_ | ((first | refine cC ?_ ?_ | refine gS ?_ ?_ | refine dS ?_ ?_) <;> intro hc <;> first | (exfalso; simp only [dcA] at hc; omega) | (simp only [hc]; try simp only [dcA] at hc)) | refine aO ?_ | refine dO ?_)
          refine roundEnd_of (α := Nat) (j + 1) ?_ ?_ ?_
          · show j + 1 ≤ m; omega
          · show m - (j + 1) < m - j; omega
          · rw [hcs, ← hst]
            exact byWeak
        · obtain rfl : j = m := by omega
          have eA : madK W c j = madW W c := madK_all (by omega)
          rw [List.take_of_length_le (by omega)] at hcb ⊢
          rw [eA]
          have hl1 : (madW W c).length = j := by rw [madW_len, hm]
          generalize madW W c = W1 at *
          generalize madC W c = y at *
          clear eK eA
          by_cases hy : 0 < y
          · unfold tlW at hcw
            rw [if_pos hy] at hcw
            have q1 : ¬ (y : Int) = 0 := by omega
            have q2 : (y : Int) > 0 := by omega
            have q3 := wrap_u32 y
            rw [Nat.mod_eq_of_lt (by omega)] at q3
            have e9 := u32s_snoc (w := y) hl1
            repeat' (first | (simp only [go_sem, seval, IntKind.bits.eq_def, ti, tin, es, u32s_length, hl1, q2, q3, e9]) | (simp (disch := omega) only [wA]) | (refine after_append_nil ti_ok rfl rfl rfl rfl ⟨rfl, by decide⟩ rfl ⟨trivial, by (try simp only [List.length_cons, List.length_nil, List.length_append, u32s_length, List.length_map, hl1]); omega, by (try simp only [List.length_cons, List.length_nil, List.length_append, u32s_length, List.length_map, hl1]); omega⟩ (fun _ => byRows) ?_) | (refine after_append_own ti_ok rfl rfl rfl rfl rfl ⟨rfl, rfl, by decide, Nat.le_of_ble_eq_true rfl⟩ (fun h => by first | (cases h; done) | decide) rfl ⟨trivial, by (try simp only [List.length_cons, List.length_nil, List.length_append, u32s_length, List.length_map, hl1]); omega, by (try simp only [List.length_cons, List.length_nil, List.length_append, u32s_length, List.length_map, hl1]); omega, by (try simp only [List.length_cons, List.length_nil, List.length_append, u32s_length, List.length_map, hl1]); omega⟩ byRows byNoE byNoM ?_) | refine aL ti_ok ?_ | refine dL ti_ok ?_ | refine dG ?_ | ((first | refine cC ?_ ?_ | refine gS ?_ ?_ | refine dS ?_ ?_) <;> intro hc <;> first | (exfalso; simp only [dcA] at hc; omega) | (simp only [hc]; try simp only [dcA] at hc)) | refine aO ?_ | refine dO ?_)
            refine roundEnd_of (α := Nat) (k + 1) ⟨by omega, hi2⟩ (by omega) ?_
            rw [hcw, List.length_append, hl1]
            exact byWeak
          · unfold tlW at hcw
            rw [if_neg hy, List.append_nil] at hcw
            have q2 : ¬ (y : Int) > 0 := by omega
            repeat' (first | (simp only [go_sem, seval, IntKind.bits.eq_def, ti, tin, es, u32s_length, hl1, q2]) | (simp (disch := omega) only [wA]) | refine aL ti_ok ?_ | refine dL ti_ok ?_ | refine dG ?_ | ((first | refine cC ?_ ?_ | refine gS ?_ ?_ | refine dS ?_ ?_) <;> intro hc <;> first | (exfalso; simp only [dcA] at hc; omega) | (simp only [hc]; try simp only [dcA] at hc)) | refine aO ?_ | refine dO ?_)
            refine roundEnd_of (α := Nat) (k + 1) ⟨by omega, hi2⟩ (by omega) ?_
            rw [hcw, hl1]
            exact byWeak
      · obtain ⟨rfl, rfl⟩ := bad k hkn hd
        unfold isD at hd
        clear bad hbound hstep fin ye
        repeat' (first | (simp only [go_sem, seval, IntKind.bits.eq_def, ti, tin, e0, es, ea]) | (simp (disch := omega) only [wA]) | refine aL ti_ok ?_ | refine dL ti_ok ?_ | refine dG ?_ | ((first | refine cC ?_ ?_ | refine gS ?_ ?_ | refine dS ?_ ?_) <;> intro hc <;> first | (exfalso; simp only [dcA] at hc; omega) | (simp only [hc]; try simp only [dcA] at hc)) | refine aO ?_ | refine dO ?_)
        all_goals exact fin_le trivial (Le.tup (.cons (Le.nil _) (.cons (.refl _) .nil)))
    · obtain rfl : k = n := by omega
      obtain ⟨rfl, rfl⟩ := ye (fin hi)
      rw [hall] at hm ⊢
      clear bad hbound hstep fin ye
      repeat' (first | (simp only [go_sem, seval, IntKind.bits.eq_def, ti, tin, e0, es, ea]) | (simp (disch := omega) only [wA]) | refine aL ti_ok ?_ | refine dL ti_ok ?_ | refine dG ?_ | ((first | refine cC ?_ ?_ | refine gS ?_ ?_ | refine dS ?_ ?_) <;> intro hc <;> first | (exfalso; simp only [dcA] at hc; omega) | (simp only [hc]; try simp only [dcA] at hc)) | refine aO ?_ | refine dO ?_)
      refine fin_pub trivial (.tup (.cons (.one (.ps rfl rfl (by simp [u32s_length, hm]))) (.cons (.one .same) .nil))) ?_
      simp [u32s_length, hm, List.take_of_length_le]
      exact .refl _
end Go.Proofs.YtfmgfjmfogmeeaaGreatDoor
