/- Layer 49 (identify): the interval; Gain, Slope, Offset. -/
import Derived.Test.YtfmgfjmfogmeeaaGreatDoorIdn3
import Derived.Test.YtfmgfjmfogmeeaaGreatDoorU4
set_option linter.unusedSimpArgs false
set_option linter.unusedVariables false
set_option linter.deprecated false
namespace Go.Proofs.YtfmgfjmfogmeeaaGreatDoor
open Go Go.Ax
set_option maxRecDepth 100000
set_option maxHeartbeats 4000000
theorem mg_qd {n d : Int} {m : Nat} (hn : n.natAbs < 2 ^ m) (hd : d ≠ 0) : Mg (m + 1) (qd n d) := (Mg.int hn).quo (show (Dy.int d).n ≠ 0 from hd)
theorem id_iv_bad (ln ld hn hd : Int) (hl hh no : Bool) (hs : (BS.mk ln ld hn hd hl hh no).Sm 200) (hb : no = true ∨ (hl = true ∧ hh = true ∧ hn * ld < ln * hd)) : CallOK Tryz.prog gl 98 [.rp [.v (.bool (sg (Dy.int ln))), .sl 1 (u32s (ms (Dy.int ln))), .v (.int .i64 (dn (Dy.int ln))), .v (.bool (sg (Dy.int ld))), .sl 1 (u32s (ms (Dy.int ld))), .v (.int .i64 (dn (Dy.int ld))), .v (.bool (sg (Dy.int hn))), .sl 1 (u32s (ms (Dy.int hn))), .v (.int .i64 (dn (Dy.int hn))), .v (.bool (sg (Dy.int hd))), .sl 1 (u32s (ms (Dy.int hd))), .v (.int .i64 (dn (Dy.int hd))), .v (.bool hl), .v (.bool hh), .v (.bool no)]] (.tup [.agg [.v (.bool (sg (Iv.zero).lo)), .sl 1 (u32s (ms (Iv.zero).lo)), .v (.int .i64 (dn (Iv.zero).lo)), .v (.bool (sg (Iv.zero).hi)), .sl 1 (u32s (ms (Iv.zero).hi)), .v (.int .i64 (dn (Iv.zero).hi))], .v (.iface 67 (.int .i64 23))]) := by
  refine call_ok (C := ⟨Tryz.prog, gl, ti, 73, false⟩) ti_ok mixed 3000 Tryz.call98 Tryz.func98 rfl Tryz.ntmps98 (by simp) byClL byCl ?_
  rw [Tryz.results98]
  obtain ⟨b1, b2, b3, b4⟩ := hs
  simp only at b1 b2 b3 b4
  have l1 := id_less hn hd ln ld 200 b3 b4 b1 b2 (by omega)
  clear b1 b2 b3 b4
  generalize Dy.int ln = z1 at *
  generalize Dy.int ld = z2 at *
  generalize Dy.int hn = z3 at *
  generalize Dy.int hd = z4 at *
  cases no
  ·
    obtain ⟨h1, h2, h3⟩ := hb.resolve_left (by decide)
    subst h1 h2
    rw [decide_eq_true h3] at l1
    repeat' (first | (simp only [go_sem, seval, IntKind.bits.eq_def, ti, tin]) | (simp (disch := omega) only [wA]) | (with_reducible first | refine cF l1 ?_ | refine dF l1 ?_) | refine aL ti_ok ?_ | refine dL ti_ok ?_ | refine dG ?_ | ((first | refine cC ?_ ?_ | refine gS ?_ ?_ | refine dS ?_ ?_) <;> intro hc <;> first | (exfalso; simp only [dcA] at hc; omega) | (simp only [hc]; try simp only [dcA] at hc)) | refine aO ?_ | refine dO ?_)
    all_goals exact fin_le trivial (Le.tup (.cons Le.iv0 (.cons (.refl _) .nil)))
  ·
    clear hb
    repeat' (first | (simp only [go_sem, seval, IntKind.bits.eq_def, ti, tin]) | (simp (disch := omega) only [wA]) | (with_reducible first | refine cF l1 ?_ | refine dF l1 ?_) | refine aL ti_ok ?_ | refine dL ti_ok ?_ | refine dG ?_ | ((first | refine cC ?_ ?_ | refine gS ?_ ?_ | refine dS ?_ ?_) <;> intro hc <;> first | (exfalso; simp only [dcA] at hc; omega) | (simp only [hc]; try simp only [dcA] at hc)) | refine aO ?_ | refine dO ?_)
    all_goals exact fin_le trivial (Le.tup (.cons Le.iv0 (.cons (.refl _) .nil)))
theorem id_iv_wide (ln ld hn hd : Int) (hl hh no : Bool) (hs : (BS.mk ln ld hn hd hl hh no).Sm 200) (hb : ¬ (no = true ∨ (hl = true ∧ hh = true ∧ hn * ld < ln * hd))) (hc : ¬ (hl = true ∧ hh = true)) : CallOK Tryz.prog gl 98 [.rp [.v (.bool (sg (Dy.int ln))), .sl 1 (u32s (ms (Dy.int ln))), .v (.int .i64 (dn (Dy.int ln))), .v (.bool (sg (Dy.int ld))), .sl 1 (u32s (ms (Dy.int ld))), .v (.int .i64 (dn (Dy.int ld))), .v (.bool (sg (Dy.int hn))), .sl 1 (u32s (ms (Dy.int hn))), .v (.int .i64 (dn (Dy.int hn))), .v (.bool (sg (Dy.int hd))), .sl 1 (u32s (ms (Dy.int hd))), .v (.int .i64 (dn (Dy.int hd))), .v (.bool hl), .v (.bool hh), .v (.bool no)]] (.tup [.agg [.v (.bool (sg (Iv.zero).lo)), .sl 1 (u32s (ms (Iv.zero).lo)), .v (.int .i64 (dn (Iv.zero).lo)), .v (.bool (sg (Iv.zero).hi)), .sl 1 (u32s (ms (Iv.zero).hi)), .v (.int .i64 (dn (Iv.zero).hi))], .v (.iface 67 (.int .i64 22))]) := by
  refine call_ok (C := ⟨Tryz.prog, gl, ti, 73, false⟩) ti_ok mixed 3000 Tryz.call98 Tryz.func98 rfl Tryz.ntmps98 (by simp) byClL byCl ?_
  rw [Tryz.results98]
  clear hs
  generalize Dy.int ln = z1 at *
  generalize Dy.int ld = z2 at *
  generalize Dy.int hn = z3 at *
  generalize Dy.int hd = z4 at *
  cases no
  ·
    clear hb
    cases hl
    ·
      clear hc
      repeat' (first | (simp only [go_sem, seval, IntKind.bits.eq_def, ti, tin]) | (simp (disch := omega) only [wA]) | refine aL ti_ok ?_ | refine dL ti_ok ?_ | refine dG ?_ | ((first | refine cC ?_ ?_ | refine gS ?_ ?_ | refine dS ?_ ?_) <;> intro hc <;> first | (exfalso; simp only [dcA] at hc; omega) | (simp only [hc]; try simp only [dcA] at hc)) | refine aO ?_ | refine dO ?_)
      all_goals exact fin_le trivial (Le.tup (.cons Le.iv0 (.cons (.refl _) .nil)))
    ·
      cases hh
      ·
        clear hc
        repeat' (first | (simp only [go_sem, seval, IntKind.bits.eq_def, ti, tin]) | (simp (disch := omega) only [wA]) | refine aL ti_ok ?_ | refine dL ti_ok ?_ | refine dG ?_ | ((first | refine cC ?_ ?_ | refine gS ?_ ?_ | refine dS ?_ ?_) <;> intro hc <;> first | (exfalso; simp only [dcA] at hc; omega) | (simp only [hc]; try simp only [dcA] at hc)) | refine aO ?_ | refine dO ?_)
        all_goals exact fin_le trivial (Le.tup (.cons Le.iv0 (.cons (.refl _) .nil)))
      · exact absurd ⟨rfl, rfl⟩ hc
  · exact absurd (.inl rfl) hb
theorem id_iv_ok (ln ld hn hd : Int) (hs : (BS.mk ln ld hn hd true true false).Sm 200) (hb : ln * hd ≤ hn * ld) (p1 : 0 < ld) (p2 : 0 < hd) : CallOK Tryz.prog gl 98 [.rp [.v (.bool (sg (Dy.int ln))), .sl 1 (u32s (ms (Dy.int ln))), .v (.int .i64 (dn (Dy.int ln))), .v (.bool (sg (Dy.int ld))), .sl 1 (u32s (ms (Dy.int ld))), .v (.int .i64 (dn (Dy.int ld))), .v (.bool (sg (Dy.int hn))), .sl 1 (u32s (ms (Dy.int hn))), .v (.int .i64 (dn (Dy.int hn))), .v (.bool (sg (Dy.int hd))), .sl 1 (u32s (ms (Dy.int hd))), .v (.int .i64 (dn (Dy.int hd))), .v (.bool true), .v (.bool true), .v (.bool false)]] (.tup [.agg [.v (.bool (sg (qd ln ld))), .sl 1 (u32s (ms (qd ln ld))), .v (.int .i64 (dn (qd ln ld))), .v (.bool (sg ((qd (-hn) hd).neg))), .sl 1 (u32s (ms ((qd (-hn) hd).neg))), .v (.int .i64 (dn ((qd (-hn) hd).neg)))], .v .nilIface]) := by
  refine call_ok (C := ⟨Tryz.prog, gl, ti, 73, false⟩) ti_ok mixed 3000 Tryz.call98 Tryz.func98 rfl Tryz.ntmps98 (by simp) byClL byCl ?_
  rw [Tryz.results98]
  obtain ⟨b1, b2, b3, b4⟩ := hs
  simp only at b1 b2 b3 b4
  have l1 := id_less hn hd ln ld 200 b3 b4 b1 b2 (by omega)
  rw [decide_eq_false (by omega)] at l1
  have n1 := Neg_ok _ _ _ _ (argi b3 (by omega))
  rw [Dy.int_neg] at n1
  have f1 := id_floor (-hn) hd 200 (by rw [Int.natAbs_neg]; exact b3) b4 (by omega) (by omega)
  have n2 := Neg_ok _ _ _ _ (Arg.of (mg_qd (n := -hn) (d := hd) (m := 200) (by rw [Int.natAbs_neg]; exact b3) (by omega)) (by omega))
  have f2 := id_floor ln ld 200 b1 b2 (by omega) (by omega)
  have m1 := iv_Make _ _ _ _ (Arg.of (mg_qd (n := ln) (d := ld) (m := 200) b1 (by omega)) (by omega)) _ _ _ _ (Arg.of (mg_qd (n := -hn) (d := hd) (m := 200) (by rw [Int.natAbs_neg]; exact b3) (by omega)).neg (by omega)) (qd_ends p1 p2 hb)
  clear b1 b2 b3 b4
  generalize (qd (-hn) hd).neg = y1 at *
  generalize qd (-hn) hd = y2 at *
  generalize qd ln ld = y3 at *
  generalize Dy.int (-hn) = y4 at *
  generalize Dy.int ln = z1 at *
  generalize Dy.int ld = z2 at *
  generalize Dy.int hn = z3 at *
  generalize Dy.int hd = z4 at *
  repeat' (first | (simp only [go_sem, seval, IntKind.bits.eq_def, ti, tin]) | (simp (disch := omega) only [wA]) | (with_reducible first | refine cF l1 ?_ | refine dF l1 ?_ | refine cF n1 ?_ | refine dF n1 ?_ | refine cF f1 ?_ | refine dF f1 ?_ | refine cF n2 ?_ | refine dF n2 ?_ | refine cF f2 ?_ | refine dF f2 ?_ | refine cF m1 ?_ | refine dF m1 ?_) | refine aL ti_ok ?_ | refine dL ti_ok ?_ | refine dG ?_ | ((first | refine cC ?_ ?_ | refine gS ?_ ?_ | refine dS ?_ ?_) <;> intro hc <;> first | (exfalso; simp only [dcA] at hc; omega) | (simp only [hc]; try simp only [dcA] at hc)) | refine aO ?_ | refine dO ?_)
  all_goals exact fin_same trivial rfl
theorem id_interval (b : BS) (hs : b.Sm 200) (C : List (Int × Int)) (hC : BInv C b) : CallOK Tryz.prog gl 98 [.rp [.v (.bool (sg (Dy.int b.ln))), .sl 1 (u32s (ms (Dy.int b.ln))), .v (.int .i64 (dn (Dy.int b.ln))), .v (.bool (sg (Dy.int b.ld))), .sl 1 (u32s (ms (Dy.int b.ld))), .v (.int .i64 (dn (Dy.int b.ld))), .v (.bool (sg (Dy.int b.hn))), .sl 1 (u32s (ms (Dy.int b.hn))), .v (.int .i64 (dn (Dy.int b.hn))), .v (.bool (sg (Dy.int b.hd))), .sl 1 (u32s (ms (Dy.int b.hd))), .v (.int .i64 (dn (Dy.int b.hd))), .v (.bool b.hl), .v (.bool b.hh), .v (.bool b.no)]] (.tup [.agg [.v (.bool (sg b.out.lo)), .sl 1 (u32s (ms b.out.lo)), .v (.int .i64 (dn b.out.lo)), .v (.bool (sg b.out.hi)), .sl 1 (u32s (ms b.out.hi)), .v (.int .i64 (dn b.out.hi))], .v (eV b.out.err)]) := by
  have key := out_ok hC
  obtain ⟨ln, ld, hn, hd, hl, hh, no⟩ := b
  by_cases hb : no = true ∨ (hl = true ∧ hh = true ∧ hn * ld < ln * hd)
  · have e : BS.out ⟨ln, ld, hn, hd, hl, hh, no⟩ = .bad := if_pos hb
    rw [e]
    exact id_iv_bad ln ld hn hd hl hh no hs hb
  · by_cases hc : hl = true ∧ hh = true
    · have e : BS.out ⟨ln, ld, hn, hd, hl, hh, no⟩ = .iv ln ld hn hd := by unfold BS.out; rw [if_neg hb, if_pos hc]
      rw [e] at key ⊢
      obtain ⟨rfl, rfl⟩ := hc
      cases no
      · cases key with
        | iv h1 h2 h3 h4 => exact id_iv_ok ln ld hn hd hs h3 h1 h2
      · exact absurd (.inl rfl) hb
    · have e : BS.out ⟨ln, ld, hn, hd, hl, hh, no⟩ = .wide := by unfold BS.out; rw [if_neg hb, if_neg hc]
      rw [e]
      exact id_iv_wide ln ld hn hd hl hh no hs hb hc
end Go.Proofs.YtfmgfjmfogmeeaaGreatDoor
