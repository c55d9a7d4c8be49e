/- dyadic.Parse: the number whose text it is, if there is one. -/
import Derived.Test.YtfmgfjmfogmeeaaGreatDoorOfDec
import Derived.Test.YtfmgfjmfogmeeaaGreatDoorText
import Derived.Test.YtfmgfjmfogmeeaaGreatDoorU4
set_option linter.unusedSimpArgs false
set_option linter.unusedVariables false
set_option linter.deprecated false
namespace Go.Proofs.YtfmgfjmfogmeeaaGreatDoor
open Go Go.Ax Go.RowKit
set_option maxRecDepth 100000
set_option maxHeartbeats 4000000
theorem nrm_le {z : Int} {d : Nat} (hd : d ≤ 65536) : (nrm z d).n.natAbs ≤ z.natAbs := by
  obtain ⟨_, h⟩ := nrm_spec (z := z) hd
  have h2 := congrArg Int.natAbs h
  rw [Int.natAbs_mul, Int.natAbs_pow] at h2
  rw [h2]
  exact Nat.le_mul_of_pos_right _ (Nat.pow_pos (by decide))
theorem all_words {l : List UInt8} (h : allD l) (hl : l.length ≤ 65536) : (words (dvl l 0)).length ≤ 65537 := by
  have := dvl_words h l.length hl
  rwa [List.take_length] at this
theorem str_eq (a b : List UInt8) : decide ((⟨a.toArray⟩ : ByteArray) = ⟨b.toArray⟩) = decide (a = b) := decide_eq_decide.2 (by rw [bytes_eq])
theorem body_len (l : List UInt8) : (bodyOf l).length ≤ l.length := by unfold bodyOf; split; simp; exact Nat.le_refl _
theorem cut_len (s : List UInt8) : (Lib.cut s bar).1.length ≤ s.length ∧ (Lib.cut s bar).2.1.length ≤ s.length := by
  unfold Lib.cut
  split
  · exact ⟨by simp; omega, by simp⟩
  · exact ⟨Nat.le_refl _, by simp⟩
theorem read_arg (b : Bool) {l : List UInt8} (h : allD l) (hl : l.length ≤ 65536) {d : Nat} (hd : d ≤ 65536) : Arg (sg (nrm (sgn b (dvl l 0)) d)) (ms (nrm (sgn b (dvl l 0)) d)) (dn (nrm (sgn b (dvl l 0)) d)) (nrm (sgn b (dvl l 0)) d) := by
  have h1 := nrm_le (z := sgn b (dvl l 0)) hd
  rw [sgn_abs] at h1
  have h2 := words_mono h1
  have h3 := all_words h hl
  exact Arg.of (mg_of_ms (k := 65537) (Nat.le_trans h2 h3)) (by omega)
def pe (s : List UInt8) : Value := if (parseD s).isSome then .nilIface else .iface 67 (.int .i64 2)
theorem Parse_ok (s : List UInt8) (hs : s.length ≤ 65536) : CallOK Tryz.prog gl 9 [.v (.string ⟨s.toArray⟩)] (.tup [.agg [.v (.bool (sg (pz s))), .sl 1 (u32s (ms (pz s))), .v (.int .i64 (dn (pz s)))], .v (pe s)]) := by
  refine call_ok (C := ⟨Tryz.prog, gl, ti, 71, false⟩) ti_ok mixed 3000 Tryz.call9 Tryz.func9 rfl Tryz.ntmps9 (by simp) byClL byCl ?_
  rw [Tryz.results9]
  have no : parseD s = none → pz s = Dy.zero ∧ pe s = .iface 67 (.int .i64 2) := fun h => by unfold pz pe; rw [h]; exact ⟨rfl, rfl⟩
  have ye : ∀ a, parseD s = some a → pz s = a ∧ pe s = .nilIface := fun a h => by unfold pz pe; rw [h]; exact ⟨rfl, rfl⟩
  generalize pz s = Z at *
  generalize pe s = E at *
  have hd : readD s = none → parseD s = none := fun h => by unfold parseD; rw [h]
  have hd2 : ∀ a, readD s = some a → parseD s = if dyTxt a = s then some a else none := fun a h => by unfold parseD; rw [h]
  have c1 := cut_ok s (by omega)
  have es : (⟨s.toArray⟩ : ByteArray).size = s.length := rfl
  obtain ⟨l1, l2⟩ := cut_len s
  unfold readD at hd hd2
  generalize parseD s = P at *
  generalize Lib.cut s bar = ct at *
  obtain ⟨f, b, has⟩ := ct
  simp only at hd hd2 c1 l1 l2
  have c2 := cutp_ok f
  have c3 := ofDec_ok (bodyOf f) (Nat.le_trans (body_len f) (by omega))
  have l3 := body_len f
  generalize decide (f.head? = some 45) = neg at *
  generalize bodyOf f = body at *
  by_cases hg : body ≠ [] ∧ allD body
  · rw [if_pos hg, decide_eq_true hg] at c3
    rw [if_pos hg] at hd
    simp only [if_pos hg] at hd2
    have hra := fun (d : Nat) (h : d ≤ 65536) => read_arg neg hg.2 (by omega) h
    have hw := all_words hg.2 (by omega)
    have hvw := val_words (dvl body 0)
    have hWw := Wd.words (dvl body 0)
    have rs := fun (d : Nat) (h : d ≤ 65536) => result_ok neg (words (dvl body 0)) d hWw (by omega) (by omega) (by omega)
    simp only [hvw, Int.toNat_natCast] at rs
    have fin : ∀ (d : Nat), d ≤ 65536 → (P = if dyTxt (nrm (sgn neg (dvl body 0)) d) = s then some (nrm (sgn neg (dvl body 0)) d) else none) → ∃ t, CallOK Tryz.prog gl 8 [.agg [.v (.bool (sg (nrm (sgn neg (dvl body 0)) d))), .sl 1 (u32s (ms (nrm (sgn neg (dvl body 0)) d))), .v (.int .i64 (dn (nrm (sgn neg (dvl body 0)) d)))]] (.v (.string ⟨t.toArray⟩)) ∧ (t = s → Z = nrm (sgn neg (dvl body 0)) d ∧ E = .nilIface) ∧ (t ≠ s → Z = Dy.zero ∧ E = .iface 67 (.int .i64 2)) := fun d h hP =>
      ⟨dyTxt (nrm (sgn neg (dvl body 0)) d), Text_ok _ _ _ _ (hra d h), fun e => ye _ (by rw [hP, if_pos e]), fun e => no (by rw [hP, if_neg e])⟩
    cases has with
    | false =>
      simp only [Bool.false_eq_true, if_false] at hd hd2
      obtain ⟨t, tx, t1, t2⟩ := fin 0 (by omega) (hd2 _ rfl)
      have rs := rs 0 (by omega)
      have st := str_eq t s
      clear fin hd hd2 hra no ye hvw hWw hw
      generalize words (dvl body 0) = W at *
      generalize nrm (sgn neg (dvl body 0)) 0 = x at *
      by_cases hts : t = s
      · obtain ⟨rfl, rfl⟩ := t1 hts
        have st := st.trans (decide_eq_true hts)
        repeat' (first | (simp only [go_sem, seval, IntKind.bits.eq_def, ti, tin, es, st]) | (simp (disch := omega) only [wA]) | (with_reducible first | refine cF c1 ?_ | refine dF c1 ?_ | refine cF c2 ?_ | refine dF c2 ?_ | refine cF c3 ?_ | refine dF c3 ?_ | refine cF rs ?_ | refine dF rs ?_ | refine cF tx ?_ | refine dF tx ?_) | refine aL ti_ok ?_ | refine dL ti_ok ?_ | refine dG ?_ | ((first | refine cC ?_ ?_ | refine gS ?_ ?_ | refine dS ?_ ?_) <;> intro hc <;> first | (exfalso; simp only [dcA] at hc; omega) | (simp only [hc]; try simp only [dcA] at hc)) | refine aO ?_ | refine dO ?_)
        exact fin_same trivial rfl
      · obtain ⟨rfl, rfl⟩ := t2 hts
        have st := st.trans (decide_eq_false hts)
        repeat' (first | (simp only [go_sem, seval, IntKind.bits.eq_def, ti, tin, es, st]) | (simp (disch := omega) only [wA]) | (with_reducible first | refine cF c1 ?_ | refine dF c1 ?_ | refine cF c2 ?_ | refine dF c2 ?_ | refine cF c3 ?_ | refine dF c3 ?_ | refine cF rs ?_ | refine dF rs ?_ | refine cF tx ?_ | refine dF tx ?_) | refine aL ti_ok ?_ | refine dL ti_ok ?_ | refine dG ?_ | ((first | refine cC ?_ ?_ | refine gS ?_ ?_ | refine dS ?_ ?_) <;> intro hc <;> first | (exfalso; simp only [dcA] at hc; omega) | (simp only [hc]; try simp only [dcA] at hc)) | refine aO ?_ | refine dO ?_)
        exact fin_le trivial (Le.tup (.cons Le.dy0 (.cons (.refl _) .nil)))
    | true =>
      simp only [if_true] at hd hd2
      by_cases hat : ∃ v, Lib.atoiAll b = .ok v
      · obtain ⟨v, hv⟩ := hat
        have at1 := atoi_ok b (by omega) v hv
        rw [hv] at hd hd2
        simp only at hd hd2
        by_cases hr : 1 ≤ v ∧ v ≤ 65536
        · obtain ⟨d, rfl⟩ : ∃ d : Nat, v = (d : Int) := ⟨v.toNat, by omega⟩
          simp only [if_pos hr, Int.toNat_natCast] at hd2
          obtain ⟨t, tx, t1, t2⟩ := fin d (by omega) (hd2 _ rfl)
          have rs := rs d (by omega)
          have st := str_eq t s
          clear fin hd hd2 hra no ye hvw hWw hw
          generalize words (dvl body 0) = W at *
          generalize nrm (sgn neg (dvl body 0)) d = x at *
          by_cases hts : t = s
          · obtain ⟨rfl, rfl⟩ := t1 hts
            have st := st.trans (decide_eq_true hts)
            repeat' (first | (simp only [go_sem, seval, IntKind.bits.eq_def, ti, tin, es, st]) | (simp (disch := omega) only [wA]) | (with_reducible first | refine cF c1 ?_ | refine dF c1 ?_ | refine cF c2 ?_ | refine dF c2 ?_ | refine cF c3 ?_ | refine dF c3 ?_ | refine cF at1 ?_ | refine dF at1 ?_ | refine cF rs ?_ | refine dF rs ?_ | refine cF tx ?_ | refine dF tx ?_) | refine aL ti_ok ?_ | refine dL ti_ok ?_ | refine dG ?_ | ((first | refine cC ?_ ?_ | refine gS ?_ ?_ | refine dS ?_ ?_) <;> intro hc <;> first | (exfalso; simp only [dcA] at hc; omega) | (simp only [hc]; try simp only [dcA] at hc)) | refine aO ?_ | refine dO ?_)
            all_goals exact fin_same trivial rfl
          · obtain ⟨rfl, rfl⟩ := t2 hts
            have st := st.trans (decide_eq_false hts)
            repeat' (first | (simp only [go_sem, seval, IntKind.bits.eq_def, ti, tin, es, st]) | (simp (disch := omega) only [wA]) | (with_reducible first | refine cF c1 ?_ | refine dF c1 ?_ | refine cF c2 ?_ | refine dF c2 ?_ | refine cF c3 ?_ | refine dF c3 ?_ | refine cF at1 ?_ | refine dF at1 ?_ | refine cF rs ?_ | refine dF rs ?_ | refine cF tx ?_ | refine dF tx ?_) | refine aL ti_ok ?_ | refine dL ti_ok ?_ | refine dG ?_ | ((first | refine cC ?_ ?_ | refine gS ?_ ?_ | refine dS ?_ ?_) <;> intro hc <;> first | (exfalso; simp only [dcA] at hc; omega) | (simp only [hc]; try simp only [dcA] at hc)) | refine aO ?_ | refine dO ?_)
            all_goals exact fin_le trivial (Le.tup (.cons Le.dy0 (.cons (.refl _) .nil)))
        · rw [if_neg hr] at hd
          obtain ⟨rfl, rfl⟩ := no (hd rfl)
          clear fin hd hd2 hra no ye hvw hWw rs
          generalize words (dvl body 0) = W at *
          repeat' (first | (simp only [go_sem, seval, IntKind.bits.eq_def, ti, tin, es]) | (simp (disch := omega) only [wA]) | (with_reducible first | refine cF c1 ?_ | refine dF c1 ?_ | refine cF c2 ?_ | refine dF c2 ?_ | refine cF c3 ?_ | refine dF c3 ?_ | refine cF at1 ?_ | refine dF at1 ?_) | refine aL ti_ok ?_ | refine dL ti_ok ?_ | refine dG ?_ | ((first | refine cC ?_ ?_ | refine gS ?_ ?_ | refine dS ?_ ?_) <;> intro hc <;> first | (exfalso; simp only [dcA] at hc; omega) | (simp only [hc]; try simp only [dcA] at hc)) | refine aO ?_ | refine dO ?_)
          all_goals exact fin_le trivial (Le.tup (.cons Le.dy0 (.cons (.refl _) .nil)))
      · have hx := atoi_x b (by omega) (fun v h => hat ⟨v, h⟩)
        have hno : P = none := hd (by
          cases h : Lib.atoiAll b with
          | ok v => exact absurd ⟨v, h⟩ hat
          | range => rfl
          | _ => rfl)
        obtain ⟨rfl, rfl⟩ := no hno
        clear fin hd hd2 hra no ye hvw hWw rs
        generalize words (dvl body 0) = W at *
        repeat' (first | (simp only [go_sem, seval, IntKind.bits.eq_def, ti, tin, es]) | (simp (disch := omega) only [wA]) | (with_reducible first | refine cF c1 ?_ | refine dF c1 ?_ | refine cF c2 ?_ | refine dF c2 ?_ | refine cF c3 ?_ | refine dF c3 ?_) | refine aL ti_ok ?_ | refine dL ti_ok ?_ | refine dG ?_ | ((first | refine cC ?_ ?_ | refine gS ?_ ?_ | refine dS ?_ ?_) <;> intro hc <;> first | (exfalso; simp only [dcA] at hc; omega) | (simp only [hc]; try simp only [dcA] at hc)) | refine aO ?_ | refine dO ?_)
        refine callF_x hx ?_
        rintro _ ⟨v, te, pe, rfl⟩
        repeat' (first | (simp only [go_sem, seval, IntKind.bits.eq_def, ti, tin, es]) | (simp (disch := omega) only [wA]) | refine aL ti_ok ?_ | refine dL ti_ok ?_ | refine dG ?_ | ((first | refine cC ?_ ?_ | refine gS ?_ ?_ | refine dS ?_ ?_) <;> intro hc <;> first | (exfalso; simp only [dcA] at hc; omega) | (simp only [hc]; try simp only [dcA] at hc)) | refine aO ?_ | refine dO ?_)
        all_goals exact fin_le trivial (Le.tup (.cons Le.dy0 (.cons (.refl _) .nil)))
  · rw [if_neg hg, decide_eq_false hg, words_zero] at c3
    rw [if_neg hg] at hd
    obtain ⟨rfl, rfl⟩ := no (hd rfl)
    clear hd hd2 no ye
    cases has with
    | false =>
      repeat' (first | (simp only [go_sem, seval, IntKind.bits.eq_def, ti, tin, es]) | (simp (disch := omega) only [wA]) | (with_reducible first | refine cF c1 ?_ | refine dF c1 ?_ | refine cF c2 ?_ | refine dF c2 ?_ | refine cF c3 ?_ | refine dF c3 ?_) | refine aL ti_ok ?_ | refine dL ti_ok ?_ | refine dG ?_ | ((first | refine cC ?_ ?_ | refine gS ?_ ?_ | refine dS ?_ ?_) <;> intro hc <;> first | (exfalso; simp only [dcA] at hc; omega) | (simp only [hc]; try simp only [dcA] at hc)) | refine aO ?_ | refine dO ?_)
      all_goals exact fin_le trivial (Le.tup (.cons Le.dy0 (.cons (.refl _) .nil)))
    | true =>
      by_cases hat : ∃ v, Lib.atoiAll b = .ok v
      · obtain ⟨v, hv⟩ := hat
        have at1 := atoi_ok b (by omega) v hv
        repeat' (first | (simp only [go_sem, seval, IntKind.bits.eq_def, ti, tin, es]) | (simp (disch := omega) only [wA]) | (with_reducible first | refine cF c1 ?_ | refine dF c1 ?_ | refine cF c2 ?_ | refine dF c2 ?_ | refine cF c3 ?_ | refine dF c3 ?_ | refine cF at1 ?_ | refine dF at1 ?_) | refine aL ti_ok ?_ | refine dL ti_ok ?_ | refine dG ?_ | ((first | refine cC ?_ ?_ | refine gS ?_ ?_ | refine dS ?_ ?_) <;> intro hc <;> first | (exfalso; simp only [dcA] at hc; omega) | (simp only [hc]; try simp only [dcA] at hc)) | refine aO ?_ | refine dO ?_)
        all_goals exact fin_le trivial (Le.tup (.cons Le.dy0 (.cons (.refl _) .nil)))
      · have hx := atoi_x b (by omega) (fun v h => hat ⟨v, h⟩)
        repeat' (first | (simp only [go_sem, seval, IntKind.bits.eq_def, ti, tin, es]) | (simp (disch := omega) only [wA]) | (with_reducible first | refine cF c1 ?_ | refine dF c1 ?_ | refine cF c2 ?_ | refine dF c2 ?_ | refine cF c3 ?_ | refine dF c3 ?_) | refine aL ti_ok ?_ | refine dL ti_ok ?_ | refine dG ?_ | ((first | refine cC ?_ ?_ | refine gS ?_ ?_ | refine dS ?_ ?_) <;> intro hc <;> first | (exfalso; simp only [dcA] at hc; omega) | (simp only [hc]; try simp only [dcA] at hc)) | refine aO ?_ | refine dO ?_)
        refine callF_x hx ?_
        rintro _ ⟨v, te, pe, rfl⟩
        repeat' (first | (simp only [go_sem, seval, IntKind.bits.eq_def, ti, tin, es]) | (simp (disch := omega) only [wA]) | refine aL ti_ok ?_ | refine dL ti_ok ?_ | refine dG ?_ | ((first | refine cC ?_ ?_ | refine gS ?_ ?_ | refine dS ?_ ?_) <;> intro hc <;> first | (exfalso; simp only [dcA] at hc; omega) | (simp only [hc]; try simp only [dcA] at hc)) | refine aO ?_ | refine dO ?_)
        all_goals exact fin_le trivial (Le.tup (.cons Le.dy0 (.cons (.refl _) .nil)))
end Go.Proofs.YtfmgfjmfogmeeaaGreatDoor
