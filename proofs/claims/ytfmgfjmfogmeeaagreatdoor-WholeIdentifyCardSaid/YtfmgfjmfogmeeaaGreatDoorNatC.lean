/- Natural numbers as words (nat.go of layer 2), part 12: divide. -/
import Derived.Test.YtfmgfjmfogmeeaaGreatDoorNatB
set_option linter.unusedSimpArgs false
set_option linter.unusedVariables false
set_option linter.deprecated false
namespace Go.Proofs.YtfmgfjmfogmeeaaGreatDoor
open Go Go.Ax
set_option maxRecDepth 100000
set_option maxHeartbeats 4000000
def fz {α : Type} (k : Nat) (a b : α) : α := match k with
  | 0 => a
  | _ + 1 => b
theorem fz_zero {α : Type} {a b : α} : fz 0 a b = a := (rfl)
theorem fz_succ {α : Type} {k : Nat} {a b : α} : fz (k + 1) a b = b := (rfl)
theorem Le.take {sz k : Nat} {rows : List (List AV)} (h : rows.length ≤ k) : Le (.sl sz ((rows.drop 0).take k)) (.sl sz rows) := by
  rw [List.drop_zero, List.take_of_length_le h]; exact Le.refl _
theorem div_of {r Y q X : Nat} (hY : 0 < Y) (h : r < Y) (e : r + Y * q = X) : q = X / Y ∧ r = X % Y := by
  subst e
  rw [Nat.add_mul_div_left _ _ hY, Nat.add_mul_mod_self_left, Nat.div_eq_of_lt h, Nat.mod_eq_of_lt h]
  exact ⟨(Nat.zero_add _).symm, rfl⟩
theorem div_go {v v' Y q Q Q' X : Nat} {j : Nat} (h : v' + 4294967296 ^ j * (Y * q) = v) (k : v + 4294967296 ^ (j + 1) * (Y * Q) = X) (e : Q' = q + 4294967296 * Q) : v' + 4294967296 ^ j * (Y * Q') = X := by
  subst h k e
  rw [Nat.pow_succ]
  grind
theorem nat_divide (a b : Nat) (hb : 0 < b) (ha : (words a).length ≤ 1099511627774) (hb2 : (words b).length ≤ 1099511627774) : CallOK Tryz.prog gl 66 [.sl 1 (u32s (words a)), .sl 1 (u32s (words b))] (.tup [.sl 1 (u32s (words (a / b))), .sl 1 (u32s (words (a % b)))]) := by
  refine call_ok (C := ⟨Tryz.prog, gl, ti, 94, false⟩) ti_ok mixed 3000 Tryz.call66 Tryz.func66 rfl Tryz.ntmps66 (by simp) byClL byCl ?_
  rw [Tryz.results66]
  have hc := nat_compare a b (by omega) (by omega)
  by_cases hlt : a < b
  ·
    rw [cmpI_lt hlt] at hc
    rw [Nat.div_eq_of_lt hlt, Nat.mod_eq_of_lt hlt, words_zero]
    clear hlt hb
    repeat' (first | (simp only [go_sem, seval, IntKind.bits.eq_def, ti, tin, u32s_length]) | (simp (disch := omega) only [wA]) | (with_reducible first | refine cF hc ?_ | refine dF hc ?_) | refine aL ti_ok ?_ | refine dL ti_ok ?_ | refine dG ?_ | ((first | refine cC ?_ ?_ | refine gS ?_ ?_ | refine dS ?_ ?_) <;> intro hc <;> first | (exfalso; simp only [dcA] at hc; omega) | (simp only [hc]; try simp only [dcA] at hc)) | refine aO ?_ | refine dO ?_)
    exact fin_le trivial (Le.tup (.cons (Le.nil _) (.cons (.refl _) .nil)))
  ·
    have hcI : ¬ cmpI a b < 0 := by
      by_cases h : a = b
      · rw [cmpI_eq h]; omega
      · rw [cmpI_gt (by omega)]; omega
    have hn0 : 0 < (words b).length := words_length_pos.2 (by omega)
    by_cases h1 : (words b).length = 1
    ·
      have hbl : b < 4294967296 := by have := lt_words b; rwa [h1, Nat.pow_one] at this
      have hw : words b = [b] := words_small (by omega) hbl
      have dw := nat_divWord a b hb hbl (by omega)
      have tr := nat_trim [a % b] (.cons (by have := Nat.mod_lt a hb; omega) .nil) (by simp)
      rw [hw] at hc ⊢
      rw [show val [a % b] = a % b by simp [val]] at tr
      have tr : CallOK _ _ _ [.sl 1 [[.v (.int .u32 (a % b : Nat))]]] _ := tr
      have rb : (u32s [b]).getD 0 [] = [.v (.int .u32 (b : Nat))] := rfl
      clear hlt hw h1 hn0
      repeat' (first | (simp only [go_sem, seval, IntKind.bits.eq_def, ti, tin, u32s_length, rb, hcI]) | (simp (disch := omega) only [wA]) | (with_reducible first | refine cF hc ?_ | refine dF hc ?_ | refine cF dw ?_ | refine dF dw ?_ | refine cF tr ?_ | refine dF tr ?_) | refine aL ti_ok ?_ | refine dL ti_ok ?_ | refine dG ?_ | ((first | refine cC ?_ ?_ | refine gS ?_ ?_ | refine dS ?_ ?_) <;> intro hc <;> first | (exfalso; simp only [dcA] at hc; omega) | (simp only [hc]; try simp only [dcA] at hc)) | refine aO ?_ | refine dO ?_)
      exact fin_same trivial rfl
    ·
      obtain ⟨n, hn⟩ : ∃ n, (words b).length = n + 1 := ⟨(words b).length - 1, by omega⟩
      have hn1 : 0 < n := by omega
      have hab := words_len_mono (Nat.le_of_not_lt hlt)
      have hw := (Wd.words b).get n
      have ln := bits_Len32 _ hw
      have hbl := blen_word hw
      have hY := norm_len hb hn
      have rt := u32s_getD (ws := words b) (i := n) (by omega)
      obtain ⟨la, hla⟩ : ∃ la : Nat, (words a).length = la := ⟨_, rfl⟩
      have hX1 := words_length_le (fix_lt (s := 32 - blen ((words b).getD n 0)) (lt_words a) (by omega))
      have hX2 := words_len_mono (Nat.le_mul_of_pos_right a (Nat.pow_pos (n := 32 - blen ((words b).getD n 0)) (by omega : 0 < 2)))
      have htop := round_top (s := 32 - blen ((words b).getD n 0)) hn hb (lt_words a) (by omega)
      generalize (words b).getD n 0 = w at *
      obtain ⟨sh, hsh⟩ : ∃ sh, sh = 32 - blen w := ⟨_, rfl⟩
      have esh : (32 : Int) - ((blen w : Nat) : Int) = ((sh : Nat) : Int) := by omega
      rw [← hsh] at hY hX1 hX2 htop
      rw [hla] at hX1 hX2 htop hab ha
      rw [hn] at hab
      have lb := nat_left b sh (by omega) (by omega)
      have lx := nat_left a sh (by omega) (by omega)
      have en : ((n + 1 : Nat) : Int) - 1 = (n : Int) := by omega
      have el : (la : Int) + 2 = ((la + 2 : Nat) : Int) := by omega
      clear hlt
      have hsl : sh ≤ 32 := by omega
      clear hsh
      have hn1' : ¬ ((n + 1 : Nat) : Int) = 1 := by omega
      have hX0 := val_words (a * 2 ^ sh)
      have hXW := Wd.words (a * 2 ^ sh)
      have hm1 : a * 2 ^ sh / (b * 2 ^ sh) = a / b := Nat.mul_div_mul_right _ _ (Nat.pow_pos (by omega))
      have hm2 : a * 2 ^ sh % (b * 2 ^ sh) = a % b * 2 ^ sh := Nat.mul_mod_mul_right ..
      have hm3 : a % b * 2 ^ sh / 2 ^ sh = a % b := Nat.mul_div_cancel _ (Nat.pow_pos (by omega))
      have hY0 : 0 < b * 2 ^ sh := Nat.mul_pos hb (Nat.pow_pos (by omega))
      generalize a * 2 ^ sh = X at *
      generalize hYd : b * 2 ^ sh = Y at *
      repeat' (first | (simp only [go_sem, seval, IntKind.bits.eq_def, ti, tin, u32s_length, hcI, hn, hn1', en, esh, rt, hla, el]) | (simp (disch := omega) only [wA]) | (with_reducible first | refine cF hc ?_ | refine dF hc ?_ | refine cF ln ?_ | refine dF ln ?_ | refine cF lb ?_ | refine dF lb ?_ | refine cF lx ?_ | refine dF lx ?_) | (refine drawAfter_app ti_ok rfl rfl rfl rfl rfl ⟨rfl, rfl, by decide⟩ rfl ⟨trivial, by (try simp only [List.length_cons, List.length_nil, List.length_append, u32s_length, List.length_map, u32s_length, hcI, hn, hn1', en, esh, rt, hla, el]); omega, by (try simp only [List.length_cons, List.length_nil, List.length_append, u32s_length, List.length_map, u32s_length, hcI, hn, hn1', en, esh, rt, hla, el]); omega, by (try simp only [List.length_cons, List.length_nil, List.length_append, u32s_length, List.length_map, u32s_length, hcI, hn, hn1', en, esh, rt, hla, el]); omega⟩ (by first | exact rowsOK_u32s | exact rowsOK_one (.v) | exact rowsOK_any) ?_) | refine aL ti_ok ?_ | refine dL ti_ok ?_ | refine dG ?_ | ((first | refine cC ?_ ?_ | refine gS ?_ ?_ | refine dS ?_ ?_) <;> intro hc <;> first | (exfalso; simp only [dcA] at hc; omega) | (simp only [hc]; try simp only [dcA] at hc)) | refine aO ?_ | refine dO ?_)
      refine l_loop (α := Nat × List Nat) (fun x => ⟨[(0, .sl 1 (u32s (words a))), (1, .sl 1 (u32s (words Y))), (8, .v (.int .i64 sh)), (9, .ps 7 1 0 x.1)], [(7, ⟨1, u32s x.2⟩)], 8⟩) (fun x => la ≤ x.1 ∧ x.1 ≤ la + 1 ∧ x.2.length = x.1 ∧ Wd x.2 ∧ val x.2 = X) (fun x => la + 1 - x.1) (((words X).length, words X)) _ byFresh (fun _ h => by first | (cases h; done) | exact Nat.le_of_ble_eq_true rfl) ?_ ?_ ?_
      · exact ⟨hX2, hX1, rfl, hXW, hX0⟩
      · exact byWeak
      rintro ⟨lx, xs⟩ ⟨x1, x2, hx, hxW, hxv⟩
      simp only at x1 x2 hx hxW hxv
      by_cases hxl : lx = la
      ·
        subst hxl
        have e9 : List.take lx (u32s xs) ++ [[AV.v (.int .u32 0)]] = u32s (xs ++ [0]) := by
          rw [u32s_take, List.take_of_length_le (by omega), ← u32s_append]; rfl
        repeat' (first | (simp only [go_sem, seval, IntKind.bits.eq_def, ti, tin, u32s_length, hla, hx, e9]) | (simp (disch := omega) only [wA]) | (refine after_append_nil ti_ok rfl rfl rfl rfl ⟨rfl, by decide⟩ rfl ⟨trivial, by (try simp only [List.length_cons, List.length_nil, List.length_append, u32s_length, List.length_map, hx]); omega, by (try simp only [List.length_cons, List.length_nil, List.length_append, u32s_length, List.length_map, hx]); omega⟩ (fun _ => byRows) ?_) | (refine after_append_own ti_ok rfl rfl rfl rfl rfl ⟨rfl, rfl, by decide, Nat.le_of_ble_eq_true rfl⟩ (fun h => by first | (cases h; done) | decide) rfl ⟨trivial, by (try simp only [List.length_cons, List.length_nil, List.length_append, u32s_length, List.length_map, hx]); omega, by (try simp only [List.length_cons, List.length_nil, List.length_append, u32s_length, List.length_map, hx]); omega, by (try simp only [List.length_cons, List.length_nil, List.length_append, u32s_length, List.length_map, hx]); omega⟩ byRows byNoE byNoM ?_) | refine aL ti_ok ?_ | refine dL ti_ok ?_ | refine dG ?_ | ((first | refine cC ?_ ?_ | refine gS ?_ ?_ | refine dS ?_ ?_) <;> intro hc <;> first | (exfalso; simp only [dcA] at hc; omega) | (simp only [hc]; try simp only [dcA] at hc)) | refine aO ?_ | refine dO ?_)
        refine roundEnd_of (α := Nat × List Nat) (lx + 1, xs ++ [0]) ?_ ?_ ?_
        · exact ⟨by omega, Nat.le_refl _, by simp [hx], hxW.append (Wd.zeros 1), by rw [val_append, hxv]; simp [val]⟩
        · show lx + 1 - (lx + 1) < lx + 1 - lx
          omega
        · exact byWeak
      ·
        have hxl : lx = la + 1 := by omega
        subst hxl
        have hxf : xs = fixw (la + 1) X := val_inj_len hxW (fixw_wd _ _) (by rw [fixw_len hX1]; exact hx) (by rw [fixw_val]; exact hxv)
        rw [← hxf] at htop
        obtain ⟨M, hM⟩ : ∃ M, la - n = M + 1 := ⟨la - n - 1, by omega⟩
        have eM : ((la + 1 : Nat) : Int) - ((n + 1 : Nat) : Int) = ((M + 1 : Nat) : Int) := by omega
        rw [hM] at htop
        clear hxf
        repeat' (first | (simp only [go_sem, seval, IntKind.bits.eq_def, ti, tin, u32s_length, hla, hx, hY, eM, u32s_zeros]) | (simp (disch := omega) only [wA]) | refine aL ti_ok ?_ | refine dL ti_ok ?_ | refine dG ?_ | ((first | refine cC ?_ ?_ | refine gS ?_ ?_ | refine dS ?_ ?_) <;> intro hc <;> first | (exfalso; simp only [dcA] at hc; omega) | (simp only [hc]; try simp only [dcA] at hc)) | refine aO ?_ | refine dO ?_)
        refine l_loop (α := Nat × List Nat × List Nat) (fun x => ⟨[(1, .sl 1 (u32s (words Y))), (8, .v (.int .i64 sh)), (9, fz x.1 (.sl 1 (u32s x.2.1)) (.ps 7 1 0 (la + 1))), (10, .v (.int .i64 ((n + 1 : Nat)))), (11, fz x.1 (.sl 1 (u32s x.2.2)) (.ps 8 1 0 (M + 1))), (12, .v (.int .i64 ((x.1 : Int) - 1)))], fz x.1 [] [(8, ⟨1, u32s x.2.2⟩), (7, ⟨1, u32s x.2.1⟩)], 9⟩) (fun x => x.1 ≤ M + 1 ∧ x.2.1.length = la + 1 ∧ Wd x.2.1 ∧ x.2.2.length = M + 1 ∧ Wd x.2.2 ∧ val (x.2.1.drop x.1) < Y ∧ val x.2.1 + 4294967296 ^ x.1 * (Y * val (x.2.2.drop x.1)) = X) (fun x => x.1) ((M + 1, xs, List.replicate (M + 1) 0)) _ byFresh (fun _ h => by first | (cases h; done) | exact Nat.le_of_ble_eq_true rfl) ?_ ?_ ?_
        · exact ⟨Nat.le_refl _, hx, hxW, by simp, Wd.zeros _, htop, by rw [List.drop_eq_nil_of_le (by simp)]; simp [val, hxv]⟩
        · exact byWeak
        rintro ⟨k, rest, qs⟩ ⟨k1, k2, k3, k4, k5, k6, k7⟩
        simp only at k1 k2 k3 k4 k5 k6 k7
        cases k with
        | zero =>
          simp only [fz_zero]
          rw [List.drop_zero] at k6 k7
          rw [Nat.pow_zero, Nat.one_mul] at k7
          obtain ⟨q1, q2⟩ := div_of (Nat.lt_of_le_of_lt (Nat.zero_le _) k6) k6 k7
          have tr1 := nat_trim qs k5 (by omega)
          have hYn : Y < 4294967296 ^ (n + 1) := by rw [← hY]; exact lt_words Y
          have tr2 := nat_trim (rest.take (n + 1)) (k3.take _) (by rw [List.length_take]; omega)
          rw [val_take k3, Nat.mod_eq_of_lt (Nat.lt_trans k6 hYn), q2, hm2] at tr2
          rw [q1, hm1] at tr1
          have rr := nat_right (a % b * 2 ^ sh) sh (by
            have h0 : a % b * 2 ^ sh < Y := by rw [← hm2, ← q2]; exact k6
            have h1 := words_len_mono (Nat.le_of_lt h0)
            omega) (by omega)
          rw [hm3] at rr
          clear k6 k7 q1 q2 hYn htop hYd hm1 hm2 hm3
          repeat' (first | (simp only [go_sem, seval, IntKind.bits.eq_def, ti, tin, u32s_length, u32s_take]) | (simp (disch := omega) only [wA]) | (with_reducible first | refine cF tr1 ?_ | refine dF tr1 ?_ | refine cF tr2 ?_ | refine dF tr2 ?_ | refine cF rr ?_ | refine dF rr ?_) | refine aL ti_ok ?_ | refine dL ti_ok ?_ | refine dG ?_ | ((first | refine cC ?_ ?_ | refine gS ?_ ?_ | refine dS ?_ ?_) <;> intro hc <;> first | (exfalso; simp only [dcA] at hc; omega) | (simp only [hc]; try simp only [dcA] at hc)) | refine aO ?_ | refine dO ?_)
          exact fin_same trivial rfl
        | succ j =>
          simp only [fz_succ]
          have ej : ((j + 1 : Nat) : Int) - 1 = (j : Int) := by omega
          have ro := u32s_getD (ws := qs) (i := j) (by omega)
          have eu : ((j : Int) + ((n + 1 : Nat) : Int) + 1).toNat - j = n + 2 := by omega
          have hYn : Y < 4294967296 ^ (n + 1) := by rw [← hY]; exact lt_words Y
          obtain ⟨w1, w2, w3⟩ := round_win (rest := rest) (j := j) (n := n + 1) (by omega) hYn k6 k3
          obtain ⟨r1, r2, r3, r4⟩ := round_div (R := val (rest.drop j)) (by omega) k3 w3 rfl hY0 hYn
          have dg := digit_ok rest j n Y k3 hY (by omega) (by omega) (by rw [w1]; exact w2)
          rw [w1] at dg
          have hql : val (rest.drop j) / Y < 4294967296 := Nat.div_lt_of_lt_mul w2
          have hqd := val_drop_set (ws := qs) (m := j) (by omega) (val (rest.drop j) / Y)
          have hk7 := div_go r4 k7 hqd
          generalize val (rest.drop j) / Y = q at *
          generalize rest.take j ++ fixw (n + 1 + 1) (val (rest.drop j) % Y) ++ rest.drop (j + (n + 1 + 1)) = rest' at *
          clear w1 w2 w3 k6 k7 r4 hqd hYn htop hYd hm1 hm2 hm3
          repeat' (first | (simp only [go_sem, seval, IntKind.bits.eq_def, ti, tin, u32s_length, ej, eu]) | (simp (disch := omega) only [wA]) | refine aL ti_ok ?_ | refine dL ti_ok ?_ | refine dG ?_ | ((first | refine cC ?_ ?_ | refine gS ?_ ?_ | refine dS ?_ ?_) <;> intro hc <;> first | (exfalso; simp only [dcA] at hc; omega) | (simp only [hc]; try simp only [dcA] at hc)) | refine aO ?_ | refine dO ?_)
          refine callF_own 7 rfl (by show 0 < (u32s rest).length; rw [u32s_length]; omega) (fun r hr a ha => by obtain ⟨w, _, rfl⟩ := u32s_mem hr; simp only [u32, List.mem_cons, List.not_mem_nil, or_false] at ha; subst ha; exact Cl.v _) (.cons (.ps ..) (.cons (.cl Cl.u32s) .nil)) dg ?_
          repeat' (first | (simp only [go_sem, seval, IntKind.bits.eq_def, ti, tin, u32s_length, ej, eu, u32s_set, k4, ro]) | (simp (disch := omega) only [wA]) | refine aL ti_ok ?_ | refine dL ti_ok ?_ | refine dG ?_ | ((first | refine cC ?_ ?_ | refine gS ?_ ?_ | refine dS ?_ ?_) <;> intro hc <;> first | (exfalso; simp only [dcA] at hc; omega) | (simp only [hc]; try simp only [dcA] at hc)) | refine aO ?_ | refine dO ?_)
          refine roundEnd_of (α := Nat × List Nat × List Nat) (j, rest', qs.set j q) ?_ ?_ ?_
          · exact ⟨Nat.le_of_succ_le k1, r1.trans k2, r2, by simp [k4], k5.set j hql, r3, hk7⟩
          · show j < j + 1
            omega
          · have l1 : (u32s (qs.set j q)).length = M + 1 := by rw [u32s_length, List.length_set]; exact k4
            have l2 : (u32s rest').length = la + 1 := by rw [u32s_length]; omega
            cases j with
            | zero =>
              refine Weak.trans (Weak.thaw 8 rfl (by (repeat' (first | exact trivial | exact fun _ => ⟨rfl, by simp only [l1]; omega⟩ | exact fun h => absurd h (by decide) | refine And.intro ?_ ?_)))) (Nat.le_refl _) ?_
              refine Weak.trans (Weak.thaw 7 rfl (by (repeat' (first | exact trivial | exact fun _ => ⟨rfl, by simp only [l2]; omega⟩ | exact fun h => absurd h (by decide) | refine And.intro ?_ ?_)))) (Nat.le_refl _) ?_
              (first | exact Weak.of (by (repeat' (first | exact trivial | exact ⟨_, rfl, .refl _⟩ | exact ⟨_, rfl, Le.nil _⟩ | exact ⟨_, rfl, Le.ps0 _ _ _⟩ | exact ⟨_, rfl, Le.top _⟩ | exact ⟨_, rfl, Le.take (Nat.le_of_eq l1)⟩ | exact ⟨_, rfl, Le.take (Nat.le_of_eq l2)⟩ | refine And.intro ?_ ?_))) (by (repeat' (first | exact trivial | exact rfl | exact ⟨_, rfl, Le.take (Nat.le_of_eq l1)⟩ | exact ⟨_, rfl, Le.take (Nat.le_of_eq l2)⟩ | refine And.intro ?_ ?_))) (by first | exact Nat.le_refl _ | exact Nat.le_of_ble_eq_true rfl) | exact Weak.cut (by (repeat' (first | exact trivial | exact ⟨_, rfl, .refl _⟩ | exact ⟨_, rfl, Le.nil _⟩ | exact ⟨_, rfl, Le.ps0 _ _ _⟩ | exact ⟨_, rfl, Le.top _⟩ | exact ⟨_, rfl, Le.take (Nat.le_of_eq l1)⟩ | exact ⟨_, rfl, Le.take (Nat.le_of_eq l2)⟩ | refine And.intro ?_ ?_))) (by (repeat' (first | exact trivial | exact rfl | exact ⟨_, rfl, Le.take (Nat.le_of_eq l1)⟩ | exact ⟨_, rfl, Le.take (Nat.le_of_eq l2)⟩ | refine And.intro ?_ ?_))) (by (repeat' (first | exact trivial | exact .v | exact .top | exact .p (Nat.le_of_ble_eq_true rfl) | exact .ps (Nat.le_of_ble_eq_true rfl) | exact nbRows_u32s | exact nbRows_strs | exact nbRows_vrows | exact nbRows_mrows | exact .cl (by (first | exact Cl.v _ | exact Cl.u32s | exact Cl.vec | exact Cl.mat | exact Cl.strs | exact Cl.i64s | exact Cl.sl (by assumption) | assumption | ((first | refine Cl.agg ?_ | refine Cl.rp ?_ | refine Cl.sl ?_ | refine Cl.tup ?_); simp only [List.mem_cons, List.not_mem_nil, or_false, forall_eq_or_imp, forall_eq]; (repeat' (first | exact Cl.v _ | exact Cl.u32s | exact Cl.vec | exact Cl.mat | exact Cl.strs | exact Cl.sl (by assumption) | assumption | refine And.intro ?_ ?_))))) | exact ⟨_, rfl, Le.take (Nat.le_of_eq l1)⟩ | exact ⟨_, rfl, Le.take (Nat.le_of_eq l2)⟩ | refine And.intro ?_ ?_))) (by (repeat' (first | exact trivial | exact Nat.le_of_ble_eq_true rfl | exact .v | exact .top | exact .p (Nat.le_of_ble_eq_true rfl) | exact .ps (Nat.le_of_ble_eq_true rfl) | exact nbRows_u32s | exact nbRows_strs | exact nbRows_vrows | exact nbRows_mrows | exact .cl (by (first | exact Cl.v _ | exact Cl.u32s | exact Cl.vec | exact Cl.mat | exact Cl.strs | exact Cl.i64s | exact Cl.sl (by assumption) | assumption | ((first | refine Cl.agg ?_ | refine Cl.rp ?_ | refine Cl.sl ?_ | refine Cl.tup ?_); simp only [List.mem_cons, List.not_mem_nil, or_false, forall_eq_or_imp, forall_eq]; (repeat' (first | exact Cl.v _ | exact Cl.u32s | exact Cl.vec | exact Cl.mat | exact Cl.strs | exact Cl.sl (by assumption) | assumption | refine And.intro ?_ ?_))))) | exact ⟨_, rfl, Le.take (Nat.le_of_eq l1)⟩ | exact ⟨_, rfl, Le.take (Nat.le_of_eq l2)⟩ | refine And.intro ?_ ?_))))
            | succ j => exact byWeak
end Go.Proofs.YtfmgfjmfogmeeaaGreatDoor
