/- The reference's Parse. -/
import Derived.Test.YtfmgfjmfogmeeaaGreatDoorRefP
import Derived.Test.YtfmgfjmfogmeeaaGreatDoorL02Texts
import Derived.Test.YtfmgfjmfogmeeaaGreatDoorU4
set_option linter.unusedSimpArgs false
set_option linter.unusedVariables false
set_option linter.deprecated false
namespace Go.Proofs.YtfmgfjmfogmeeaaGreatDoor
open Go Go.Ax Go.RowKit
set_option maxRecDepth 100000
set_option maxHeartbeats 4000000
theorem str_eqR (a b : List UInt8) : decide ((⟨a.toArray⟩ : ByteArray) = ⟨b.toArray⟩) = decide (a = b) := decide_eq_decide.2 (by rw [bytes_eq])
theorem body_lenR (l : List UInt8) : (bodyOf l).length ≤ l.length := by unfold bodyOf; split; simp; exact Nat.le_refl _
theorem all_wordsR {l : List UInt8} (h : numeral l) (hl : l.length ≤ 65536) : (words (dvl l 0)).length ≤ 65537 := by
  have := dig_words hl (k := l.length) (fun i hi => numeral_at h hi) (Nat.le_refl _)
  rwa [List.take_length] at this
theorem head_at {s : List UInt8} (h : s ≠ []) : (s.head? = some 45) ↔ (s.getD 0 0).toNat = 45 := by
  cases s with
  | nil => exact absurd rfl h
  | cons b l =>
    simp only [List.head?_cons, Option.some.injEq, List.getD_cons_zero]
    exact ⟨fun h => by rw [h]; rfl, fun h => UInt8.toNat_inj.1 h⟩
theorem tail_cases {s l : List UInt8} {neg : Bool} {den : Nat} (ht : Tail s neg l den) (hl : l.length ≤ 65536) :
    (¬ numeral l ∧ pz s = Dy.zero ∧ pc s = 2) ∨ (numeral l ∧ validR neg (words (dvl l 0)) den = false ∧ pz s = Dy.zero ∧ pc s = 2) ∨
    (numeral l ∧ validR neg (words (dvl l 0)) den = true ∧ ∃ t : List UInt8, CallOK Tryz.prog gl 10 [.agg [.v (.bool neg), .sl 1 (u32s (words (dvl l 0))), .v (.int .i64 den)]] (.v (.string ⟨t.toArray⟩)) ∧
      ((t = s ∧ sg (pz s) = neg ∧ ms (pz s) = words (dvl l 0) ∧ dn (pz s) = (den : Int) ∧ pc s = 0) ∨ (t ≠ s ∧ pz s = Dy.zero ∧ pc s = 2))) := by
  by_cases h1 : numeral l
  · right
    cases hv : validR neg (words (dvl l 0)) den with
    | false => exact .inl ⟨h1, rfl, pz_none (ht.h2 hv)⟩
    | true =>
      refine .inr ⟨h1, rfl, ?_⟩
      obtain ⟨x, e1, e2, e3⟩ := of_valid (Wd.words _) hv
      have ha : Arg neg (words (dvl l 0)) den x := ⟨Wd.words _, by have := all_wordsR h1 hl; omega, .inl ⟨hv, e1, e2, e3⟩⟩
      refine ⟨dyText x, ref_Text _ _ _ _ ha, ?_⟩
      by_cases h2 : dyTxt x = s
      · obtain ⟨q1, q2⟩ := pz_some (parseD_iff.2 h2)
        rw [q1, q2]
        exact .inl ⟨h2, e1, e2, e3, rfl⟩
      · exact .inr ⟨h2, pz_none (ht.h3 x e1 e2 e3 h2)⟩
  · exact .inl ⟨h1, pz_none (ht.h1 h1)⟩
theorem ref_Parse (s : List UInt8) (hs : s.length ≤ 65536) : CallOK Tryz.prog gl 13 [.v (.string ⟨s.toArray⟩)] (.tup [.agg [.v (.bool (sg (pz s))), .sl 1 (u32s (ms (pz s))), .v (.int .i64 (dn (pz s)))], .v (.int .i64 (pc s))]) := by
  refine call_ok (C := ⟨Tryz.prog, gl, ti, 93, false⟩) ti_ok mixed 3000 Tryz.call13 Tryz.func13 rfl Tryz.ntmps13 (by simp) byClL byCl ?_
  rw [Tryz.results13]
  have es := str_size s
  have ea := str_at s 0
  have e0 := str_nil s
  have lb := body_lenR s
  by_cases h0 : s = []
  · have dg := ref_digits [] (by simp)
    rw [decide_eq_false (show ¬ numeral [] from fun h => h.1 rfl), if_neg (show ¬ numeral [] from fun h => h.1 rfl), words_zero] at dg
    have tl := tail_none (s := s) (fun j => by
      cases ho : Lib.occAt (bodyOf s) bar j with
      | false => rfl
      | true => have := occ_len ho; rw [h0] at this; simp [bodyOf] at this)
    obtain ⟨q1, q2⟩ := pz_none (tl.h1 (by rw [h0]; exact fun h => h.1 rfl))
    rw [q1, q2]
    rw [decide_eq_true h0] at e0
    clear tl q1 q2
    subst h0
    have es : (⟨#[]⟩ : ByteArray).size = 0 := rfl
    repeat' (first | (simp only [go_sem, seval, IntKind.bits.eq_def, ti, tin, e0, es]) | (simp (disch := omega) only [wA]) | (refine l_unroll 1 _ rfl ?_) | (with_reducible first | refine cF dg ?_ | refine dF dg ?_) | refine aL ti_ok ?_ | refine dL ti_ok ?_ | refine dG ?_ | ((first | refine cC ?_ ?_ | refine gS ?_ ?_ | refine dS ?_ ?_) <;> intro hc <;> first | (exfalso; simp only [dcA] at hc; omega) | (simp only [hc]; try simp only [dcA] at hc)) | refine aO ?_ | refine dO ?_)
    exact fin_le trivial (Le.tup (.cons Le.dy0 (.cons (.refl _) .nil)))
  · rw [decide_eq_false h0] at e0
    have hs0 : 0 < s.length := List.length_pos_iff.2 h0
    have hca : (((s.getD 0 0).toNat : Int) = 45 ∧ (AV.v (.string ⟨(bodyOf s).toArray⟩) = AV.v (.string ⟨(bodyOf s).toArray⟩)) ∧ AV.v (.bool true) = AV.v (.bool (decide (s.head? = some 45))) ∧ (ByteArray.mk s.toArray).extract 1 s.length = ⟨(bodyOf s).toArray⟩) ∨
        (¬ ((s.getD 0 0).toNat : Int) = 45 ∧ (AV.v (.string ⟨s.toArray⟩) = AV.v (.string ⟨(bodyOf s).toArray⟩)) ∧ AV.v (.bool false) = AV.v (.bool (decide (s.head? = some 45))) ∧ (0 : Nat) = 0) := by
      by_cases hh : s.head? = some 45
      · refine .inl ⟨by have := (head_at h0).1 hh; omega, rfl, by rw [decide_eq_true hh], ?_⟩
        rw [ext_mk]
        unfold bodyOf
        rw [if_pos hh, List.take_of_length_le (by rw [List.length_drop]; omega)]
        simp
      · refine .inr ⟨fun h => hh ((head_at h0).2 (by omega)), ?_, by rw [decide_eq_false hh], rfl⟩
        unfold bodyOf
        rw [if_neg hh]
    have tn : noBar (bodyOf s) (bodyOf s).length → Tail s (decide (s.head? = some 45)) (bodyOf s) 0 := fun h => tail_none (noBar_all h (by omega))
    have tn : ∀ k, noBar (bodyOf s) k → (bodyOf s).length < k + 3 → Tail s (decide (s.head? = some 45)) (bodyOf s) 0 := fun k h hk => tail_none (noBar_all h hk)
    have ts := fun i => tail_some (s := s) (i := i)
    have tb := fun i => behind_bad (s := s) (i := i)
    obtain ⟨n, hn⟩ : ∃ n, s.length = n := ⟨_, rfl⟩
    rw [hn] at es hs0 hs lb hca
    rcases hca with ⟨a1, hL, hN, eB⟩ | ⟨a1, hL, hN, eB⟩
    all_goals
      repeat' (first | (simp only [go_sem, seval, IntKind.bits.eq_def, ti, tin, e0, es, ea, a1, eB]) | (simp (disch := omega) only [wA]) | refine aL ti_ok ?_ | refine dL ti_ok ?_ | refine dG ?_ | ((first | refine cC ?_ ?_ | refine gS ?_ ?_ | refine dS ?_ ?_) <;> intro hc <;> first | (exfalso; simp only [dcA] at hc; omega) | (simp only [hc]; try simp only [dcA] at hc)) | refine aO ?_ | refine dO ?_)
      refine l_loop (α := Nat) (fun k => ⟨[(0, .v (.string ⟨s.toArray⟩)), (4, .v (.string ⟨(bodyOf s).toArray⟩)), (5, .v (.bool (decide (s.head? = some 45)))), (6, .v (.int .i64 0)), (7, .v (.int .i64 k)), (2, .p 0 3 0 0)], [(0, ⟨3, [[.v (.bool (false)), .v (.slice none 0 0), .v (.int .i64 0)]]⟩)], 1⟩) (fun k => k ≤ (bodyOf s).length ∧ noBar (bodyOf s) k) (fun k => (bodyOf s).length - k) (0) _ byFresh (fun _ h => by first | (cases h; done) | exact Nat.le_of_ble_eq_true rfl) ?_ ?_ ?_
      · exact ⟨Nat.zero_le _, fun j hj => by omega⟩
      · (first | exact Weak.of (by (repeat' (first | exact trivial | exact ⟨_, rfl, .refl _⟩ | exact ⟨_, rfl, Le.nil _⟩ | exact ⟨_, rfl, Le.ps0 _ _ _⟩ | exact ⟨_, rfl, Le.top _⟩ | exact ⟨_, rfl, Le.of_eq hL⟩ | exact ⟨_, rfl, Le.of_eq hN⟩ | refine And.intro ?_ ?_))) (by (repeat' (first | exact trivial | exact rfl | exact ⟨_, rfl, Le.of_eq hL⟩ | exact ⟨_, rfl, Le.of_eq hN⟩ | refine And.intro ?_ ?_))) (by first | exact Nat.le_refl _ | exact Nat.le_of_ble_eq_true rfl) | exact Weak.cut (by (repeat' (first | exact trivial | exact ⟨_, rfl, .refl _⟩ | exact ⟨_, rfl, Le.nil _⟩ | exact ⟨_, rfl, Le.ps0 _ _ _⟩ | exact ⟨_, rfl, Le.top _⟩ | exact ⟨_, rfl, Le.of_eq hL⟩ | exact ⟨_, rfl, Le.of_eq hN⟩ | refine And.intro ?_ ?_))) (by (repeat' (first | exact trivial | exact rfl | exact ⟨_, rfl, Le.of_eq hL⟩ | exact ⟨_, rfl, Le.of_eq hN⟩ | refine And.intro ?_ ?_))) (by (repeat' (first | exact trivial | exact .v | exact .top | exact .p (Nat.le_of_ble_eq_true rfl) | exact .ps (Nat.le_of_ble_eq_true rfl) | exact nbRows_u32s | exact nbRows_strs | exact nbRows_vrows | exact nbRows_mrows | exact .cl (by (first | exact Cl.v _ | exact Cl.u32s | exact Cl.vec | exact Cl.mat | exact Cl.strs | exact Cl.i64s | exact Cl.sl (by assumption) | assumption | ((first | refine Cl.agg ?_ | refine Cl.rp ?_ | refine Cl.sl ?_ | refine Cl.tup ?_); simp only [List.mem_cons, List.not_mem_nil, or_false, forall_eq_or_imp, forall_eq]; (repeat' (first | exact Cl.v _ | exact Cl.u32s | exact Cl.vec | exact Cl.mat | exact Cl.strs | exact Cl.sl (by assumption) | assumption | refine And.intro ?_ ?_))))) | exact ⟨_, rfl, Le.of_eq hL⟩ | exact ⟨_, rfl, Le.of_eq hN⟩ | refine And.intro ?_ ?_))) (by (repeat' (first | exact trivial | exact Nat.le_of_ble_eq_true rfl | exact .v | exact .top | exact .p (Nat.le_of_ble_eq_true rfl) | exact .ps (Nat.le_of_ble_eq_true rfl) | exact nbRows_u32s | exact nbRows_strs | exact nbRows_vrows | exact nbRows_mrows | exact .cl (by (first | exact Cl.v _ | exact Cl.u32s | exact Cl.vec | exact Cl.mat | exact Cl.strs | exact Cl.i64s | exact Cl.sl (by assumption) | assumption | ((first | refine Cl.agg ?_ | refine Cl.rp ?_ | refine Cl.sl ?_ | refine Cl.tup ?_); simp only [List.mem_cons, List.not_mem_nil, or_false, forall_eq_or_imp, forall_eq]; (repeat' (first | exact Cl.v _ | exact Cl.u32s | exact Cl.vec | exact Cl.mat | exact Cl.strs | exact Cl.sl (by assumption) | assumption | refine And.intro ?_ ?_))))) | exact ⟨_, rfl, Le.of_eq hL⟩ | exact ⟨_, rfl, Le.of_eq hN⟩ | refine And.intro ?_ ?_))))
      rintro k ⟨hkl, hk⟩
      clear hL hN eB a1
      have eL := str_size (bodyOf s)
      have eX := ext_mk (bodyOf s)
      generalize decide (s.head? = some 45) = neg at *
      generalize bodyOf s = L at *
      obtain ⟨m, hm⟩ : ∃ m, L.length = m := ⟨_, rfl⟩
      rw [hm] at eL lb hkl
      by_cases hkm : k + 2 < m
      · have oc := occ_ext L k
        have u1 : ((k : Int) + 3).toNat = k + 3 := by omega
        have u2 : k + 3 - k = 3 := by omega
        cases ho : Lib.occAt L bar k with
        | false =>
          rw [ho] at oc
          have hk' := noBar_succ hk ho
          repeat' (first | (simp only [go_sem, seval, IntKind.bits.eq_def, ti, tin, es, eL, u1, u2, Int.toNat_natCast, eX, oc]) | (simp (disch := omega) only [wA]) | refine aL ti_ok ?_ | refine dL ti_ok ?_ | refine dG ?_ | ((first | refine cC ?_ ?_ | refine gS ?_ ?_ | refine dS ?_ ?_) <;> intro hc <;> first | (exfalso; simp only [dcA] at hc; omega) | (simp only [hc]; try simp only [dcA] at hc)) | refine aO ?_ | refine dO ?_)
          refine roundEnd_of (α := Nat) (k + 1) ⟨by omega, hk'⟩ (by omega) ?_
          exact byWeak
        | true =>
          rw [ho] at oc
          have tl := ts k hk ho
          have tb := tb k hk ho
          have e3 : (ByteArray.mk L.toArray).extract (k + 3) m = ⟨(L.drop (k + 3)).toArray⟩ := by rw [eX, List.take_of_length_le (by rw [List.length_drop, hm]; omega)]
          have e1 : (ByteArray.mk L.toArray).extract k (k + 3) = ⟨((L.drop k).take 3).toArray⟩ := by rw [eX, u2]
          have e2 : (ByteArray.mk L.toArray).extract 0 k = ⟨(L.take k).toArray⟩ := by rw [eX]; rfl
          have lq : (L.drop (k + 3)).length ≤ 65536 := by rw [List.length_drop]; omega
          have lt : (L.take k).length ≤ 65536 := by rw [List.length_take]; omega
          have dq := ref_digits _ lq
          clear ts tn eX
          generalize L.drop (k + 3) = q at *
          by_cases hq : numeral q
          · rw [decide_eq_true hq, if_pos hq] at dq
            by_cases hl1 : (words (dvl q 0)).length = 1
            · have hD1 := lt_words (dvl q 0)
              rw [hl1, Nat.pow_one] at hD1
              have hD0 : dvl q 0 ≠ 0 := fun h => by rw [h, words_zero] at hl1; simp at hl1
              have hws := words_small hD0 hD1
              have hx : (u32s [dvl q 0]).getD 0 [] = [.v (.int .u32 (dvl q 0 : Nat))] := rfl
              rw [hws] at dq hl1
              by_cases hDb : dvl q 0 ≤ 65536
              · clear tb
                generalize dvl q 0 = D at *
                have tcs := tail_cases tl lt
                have dg := ref_digits (L.take k) lt
                have rv := ref_Valid neg (words (dvl (L.take k) 0)) (D : Nat)
                rcases tcs with ⟨h1, q1, q2⟩ | ⟨h1, hv, q1, q2⟩ | ⟨h1, hv, t, tx, tq⟩
                · rw [q1, q2]
                  rw [decide_eq_false h1, if_neg h1, words_zero] at dg
                  clear tl rv
                  repeat' (first | (simp only [go_sem, seval, IntKind.bits.eq_def, ti, tin, es, eL, u1, Int.toNat_natCast, Int.toNat_zero, e1, e2, e3, oc, u32s_length, hx, hl1]) | (simp (disch := omega) only [wA]) | (with_reducible first | refine cF dg ?_ | refine dF dg ?_ | refine cF dq ?_ | refine dF dq ?_) | refine aL ti_ok ?_ | refine dL ti_ok ?_ | refine dG ?_ | ((first | refine cC ?_ ?_ | refine gS ?_ ?_ | refine dS ?_ ?_) <;> intro hc <;> first | (exfalso; simp only [dcA] at hc; omega) | (simp only [hc]; try simp only [dcA] at hc)) | refine aO ?_ | refine dO ?_)
                  all_goals exact fin_le trivial (Le.tup (.cons Le.dy0 (.cons (.refl _) .nil)))
                · rw [q1, q2]
                  rw [decide_eq_true h1, if_pos h1] at dg
                  have hw := all_wordsR h1 lt
                  have rv := rv (by omega)
                  rw [hv] at rv
                  clear tl hv
                  generalize words (dvl (L.take k) 0) = W at *
                  repeat' (first | (simp only [go_sem, seval, IntKind.bits.eq_def, ti, tin, es, eL, u1, Int.toNat_natCast, Int.toNat_zero, e1, e2, e3, oc, u32s_length, hx, hl1]) | (simp (disch := omega) only [wA]) | (with_reducible first | refine cF dg ?_ | refine dF dg ?_ | refine cF rv ?_ | refine dF rv ?_ | refine cF dq ?_ | refine dF dq ?_) | refine aL ti_ok ?_ | refine dL ti_ok ?_ | refine dG ?_ | ((first | refine cC ?_ ?_ | refine gS ?_ ?_ | refine dS ?_ ?_) <;> intro hc <;> first | (exfalso; simp only [dcA] at hc; omega) | (simp only [hc]; try simp only [dcA] at hc)) | refine aO ?_ | refine dO ?_)
                  all_goals exact fin_le trivial (Le.tup (.cons Le.dy0 (.cons (.refl _) .nil)))
                · rw [decide_eq_true h1, if_pos h1] at dg
                  have hw := all_wordsR h1 lt
                  have rv := rv (by omega)
                  rw [hv] at rv
                  have st := str_eqR t s
                  clear tl hv
                  rcases tq with ⟨te, q1, q2, q3, q4⟩ | ⟨te, q1, q2⟩
                  · rw [q1, q2, q3, q4]
                    have st := st.trans (decide_eq_true te)
                    clear q1 q2 q3 q4
                    generalize words (dvl (L.take k) 0) = W at *
                    repeat' (first | (simp only [go_sem, seval, IntKind.bits.eq_def, ti, tin, es, eL, u1, Int.toNat_natCast, Int.toNat_zero, e1, e2, e3, oc, u32s_length, hx, hl1, st]) | (simp (disch := omega) only [wA]) | (with_reducible first | refine cF dg ?_ | refine dF dg ?_ | refine cF rv ?_ | refine dF rv ?_ | refine cF tx ?_ | refine dF tx ?_ | refine cF dq ?_ | refine dF dq ?_) | refine aL ti_ok ?_ | refine dL ti_ok ?_ | refine dG ?_ | ((first | refine cC ?_ ?_ | refine gS ?_ ?_ | refine dS ?_ ?_) <;> intro hc <;> first | (exfalso; simp only [dcA] at hc; omega) | (simp only [hc]; try simp only [dcA] at hc)) | refine aO ?_ | refine dO ?_)
                    all_goals exact fin_same trivial rfl
                  · rw [q1, q2]
                    have st := st.trans (decide_eq_false te)
                    clear q1 q2
                    generalize words (dvl (L.take k) 0) = W at *
                    repeat' (first | (simp only [go_sem, seval, IntKind.bits.eq_def, ti, tin, es, eL, u1, Int.toNat_natCast, Int.toNat_zero, e1, e2, e3, oc, u32s_length, hx, hl1, st]) | (simp (disch := omega) only [wA]) | (with_reducible first | refine cF dg ?_ | refine dF dg ?_ | refine cF rv ?_ | refine dF rv ?_ | refine cF tx ?_ | refine dF tx ?_ | refine cF dq ?_ | refine dF dq ?_) | refine aL ti_ok ?_ | refine dL ti_ok ?_ | refine dG ?_ | ((first | refine cC ?_ ?_ | refine gS ?_ ?_ | refine dS ?_ ?_) <;> intro hc <;> first | (exfalso; simp only [dcA] at hc; omega) | (simp only [hc]; try simp only [dcA] at hc)) | refine aO ?_ | refine dO ?_)
                    all_goals exact fin_le trivial (Le.tup (.cons Le.dy0 (.cons (.refl _) .nil)))
              · obtain ⟨q1, q2⟩ := pz_none (tb (.inr (.inr (by omega))))
                rw [q1, q2]
                clear tb tl
                generalize dvl q 0 = D at *
                repeat' (first | (simp only [go_sem, seval, IntKind.bits.eq_def, ti, tin, es, eL, u1, Int.toNat_natCast, e1, e3, oc, u32s_length, hx, hl1]) | (simp (disch := omega) only [wA]) | (with_reducible first | refine cF dq ?_ | refine dF dq ?_) | refine aL ti_ok ?_ | refine dL ti_ok ?_ | refine dG ?_ | ((first | refine cC ?_ ?_ | refine gS ?_ ?_ | refine dS ?_ ?_) <;> intro hc <;> first | (exfalso; simp only [dcA] at hc; omega) | (simp only [hc]; try simp only [dcA] at hc)) | refine aO ?_ | refine dO ?_)
                all_goals exact fin_le trivial (Le.tup (.cons Le.dy0 (.cons (.refl _) .nil)))
            · obtain ⟨q1, q2⟩ := pz_none (tb (by
                by_cases h : dvl q 0 = 0
                · exact .inr (.inl h)
                · refine .inr (.inr ?_)
                  by_cases h2 : dvl q 0 < 4294967296
                  · rw [words_small h h2] at hl1; simp at hl1
                  · omega))
              rw [q1, q2]
              clear tb tl
              have hl2 : ¬ (((words (dvl q 0)).length : Nat) : Int) = 1 := by omega
              generalize words (dvl q 0) = W at *
              repeat' (first | (simp only [go_sem, seval, IntKind.bits.eq_def, ti, tin, es, eL, u1, Int.toNat_natCast, e1, e3, oc, u32s_length, hl2]) | (simp (disch := omega) only [wA]) | (with_reducible first | refine cF dq ?_ | refine dF dq ?_) | refine aL ti_ok ?_ | refine dL ti_ok ?_ | refine dG ?_ | ((first | refine cC ?_ ?_ | refine gS ?_ ?_ | refine dS ?_ ?_) <;> intro hc <;> first | (exfalso; simp only [dcA] at hc; omega) | (simp only [hc]; try simp only [dcA] at hc)) | refine aO ?_ | refine dO ?_)
              all_goals exact fin_le trivial (Le.tup (.cons Le.dy0 (.cons (.refl _) .nil)))
          · obtain ⟨q1, q2⟩ := pz_none (tb (.inl hq))
            rw [q1, q2]
            rw [decide_eq_false hq, if_neg hq, words_zero] at dq
            clear tb tl
            repeat' (first | (simp only [go_sem, seval, IntKind.bits.eq_def, ti, tin, es, eL, u1, Int.toNat_natCast, e1, e3, oc, u32s_length]) | (simp (disch := omega) only [wA]) | (with_reducible first | refine cF dq ?_ | refine dF dq ?_) | refine aL ti_ok ?_ | refine dL ti_ok ?_ | refine dG ?_ | ((first | refine cC ?_ ?_ | refine gS ?_ ?_ | refine dS ?_ ?_) <;> intro hc <;> first | (exfalso; simp only [dcA] at hc; omega) | (simp only [hc]; try simp only [dcA] at hc)) | refine aO ?_ | refine dO ?_)
            all_goals exact fin_le trivial (Le.tup (.cons Le.dy0 (.cons (.refl _) .nil)))
      · have tl := tn k hk (by omega)
        have lt : L.length ≤ 65536 := by omega
        clear ts tb tn
        have tcs := tail_cases tl lt
        have dg := ref_digits (L) lt
        have rv := ref_Valid neg (words (dvl (L) 0)) (0 : Nat)
        rcases tcs with ⟨h1, q1, q2⟩ | ⟨h1, hv, q1, q2⟩ | ⟨h1, hv, t, tx, tq⟩
        · rw [q1, q2]
          rw [decide_eq_false h1, if_neg h1, words_zero] at dg
          clear tl rv
          repeat' (first | (simp only [go_sem, seval, IntKind.bits.eq_def, ti, tin, es, eL, Int.toNat_natCast, u32s_length]) | (simp (disch := omega) only [wA]) | (with_reducible first | refine cF dg ?_ | refine dF dg ?_) | refine aL ti_ok ?_ | refine dL ti_ok ?_ | refine dG ?_ | ((first | refine cC ?_ ?_ | refine gS ?_ ?_ | refine dS ?_ ?_) <;> intro hc <;> first | (exfalso; simp only [dcA] at hc; omega) | (simp only [hc]; try simp only [dcA] at hc)) | refine aO ?_ | refine dO ?_)
          all_goals exact fin_le trivial (Le.tup (.cons Le.dy0 (.cons (.refl _) .nil)))
        · rw [q1, q2]
          rw [decide_eq_true h1, if_pos h1] at dg
          have hw := all_wordsR h1 lt
          have rv := rv (by omega)
          rw [hv] at rv
          clear tl hv
          generalize words (dvl (L) 0) = W at *
          repeat' (first | (simp only [go_sem, seval, IntKind.bits.eq_def, ti, tin, es, eL, Int.toNat_natCast, u32s_length]) | (simp (disch := omega) only [wA]) | (with_reducible first | refine cF dg ?_ | refine dF dg ?_ | refine cF rv ?_ | refine dF rv ?_) | refine aL ti_ok ?_ | refine dL ti_ok ?_ | refine dG ?_ | ((first | refine cC ?_ ?_ | refine gS ?_ ?_ | refine dS ?_ ?_) <;> intro hc <;> first | (exfalso; simp only [dcA] at hc; omega) | (simp only [hc]; try simp only [dcA] at hc)) | refine aO ?_ | refine dO ?_)
          all_goals exact fin_le trivial (Le.tup (.cons Le.dy0 (.cons (.refl _) .nil)))
        · rw [decide_eq_true h1, if_pos h1] at dg
          have hw := all_wordsR h1 lt
          have rv := rv (by omega)
          rw [hv] at rv
          have st := str_eqR t s
          clear tl hv
          rcases tq with ⟨te, q1, q2, q3, q4⟩ | ⟨te, q1, q2⟩
          · rw [q1, q2, q3, q4]
            have st := st.trans (decide_eq_true te)
            clear q1 q2 q3 q4
            generalize words (dvl (L) 0) = W at *
            repeat' (first | (simp only [go_sem, seval, IntKind.bits.eq_def, ti, tin, es, eL, Int.toNat_natCast, u32s_length, st]) | (simp (disch := omega) only [wA]) | (with_reducible first | refine cF dg ?_ | refine dF dg ?_ | refine cF rv ?_ | refine dF rv ?_ | refine cF tx ?_ | refine dF tx ?_) | refine aL ti_ok ?_ | refine dL ti_ok ?_ | refine dG ?_ | ((first | refine cC ?_ ?_ | refine gS ?_ ?_ | refine dS ?_ ?_) <;> intro hc <;> first | (exfalso; simp only [dcA] at hc; omega) | (simp only [hc]; try simp only [dcA] at hc)) | refine aO ?_ | refine dO ?_)
            all_goals exact fin_same trivial rfl
          · rw [q1, q2]
            have st := st.trans (decide_eq_false te)
            clear q1 q2
            generalize words (dvl (L) 0) = W at *
            repeat' (first | (simp only [go_sem, seval, IntKind.bits.eq_def, ti, tin, es, eL, Int.toNat_natCast, u32s_length, st]) | (simp (disch := omega) only [wA]) | (with_reducible first | refine cF dg ?_ | refine dF dg ?_ | refine cF rv ?_ | refine dF rv ?_ | refine cF tx ?_ | refine dF tx ?_) | refine aL ti_ok ?_ | refine dL ti_ok ?_ | refine dG ?_ | ((first | refine cC ?_ ?_ | refine gS ?_ ?_ | refine dS ?_ ?_) <;> intro hc <;> first | (exfalso; simp only [dcA] at hc; omega) | (simp only [hc]; try simp only [dcA] at hc)) | refine aO ?_ | refine dO ?_)
            all_goals exact fin_le trivial (Le.tup (.cons Le.dy0 (.cons (.refl _) .nil)))
end Go.Proofs.YtfmgfjmfogmeeaaGreatDoor
