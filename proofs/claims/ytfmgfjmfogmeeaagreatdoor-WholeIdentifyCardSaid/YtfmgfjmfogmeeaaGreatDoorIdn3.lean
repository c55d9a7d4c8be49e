/- Layer 49 (identify): elimination. -/
import Derived.Test.YtfmgfjmfogmeeaaGreatDoorIdn2
import Derived.Test.YtfmgfjmfogmeeaaGreatDoorU4
set_option linter.unusedSimpArgs false
set_option linter.unusedVariables false
set_option linter.deprecated false
namespace Go.Proofs.YtfmgfjmfogmeeaaGreatDoor
open Go Go.Ax
set_option maxRecDepth 100000
set_option maxHeartbeats 4000000
theorem id_elim (l : List Hf) (n : Nat) (hn0 : l.length = n) (hnn : n ≤ 4611686018427387904) (hB : ∀ p ∈ l, p.1.natAbs < 2 ^ 60 ∧ p.2.1.natAbs < 2 ^ 60 ∧ p.2.2.natAbs < 2 ^ 60) : CallOK Tryz.prog gl 97 [.sl 3 (rws trow l)] (.rp [.v (.bool (sg (Dy.int (BS.of (elimC l)).ln))), .sl 1 (u32s (ms (Dy.int (BS.of (elimC l)).ln))), .v (.int .i64 (dn (Dy.int (BS.of (elimC l)).ln))), .v (.bool (sg (Dy.int (BS.of (elimC l)).ld))), .sl 1 (u32s (ms (Dy.int (BS.of (elimC l)).ld))), .v (.int .i64 (dn (Dy.int (BS.of (elimC l)).ld))), .v (.bool (sg (Dy.int (BS.of (elimC l)).hn))), .sl 1 (u32s (ms (Dy.int (BS.of (elimC l)).hn))), .v (.int .i64 (dn (Dy.int (BS.of (elimC l)).hn))), .v (.bool (sg (Dy.int (BS.of (elimC l)).hd))), .sl 1 (u32s (ms (Dy.int (BS.of (elimC l)).hd))), .v (.int .i64 (dn (Dy.int (BS.of (elimC l)).hd))), .v (.bool (BS.of (elimC l)).hl), .v (.bool (BS.of (elimC l)).hh), .v (.bool (BS.of (elimC l)).no)]) := by
  refine call_ok (C := ⟨Tryz.prog, gl, ti, 69, false⟩) ti_ok mixed 3000 Tryz.call97 Tryz.func97 rfl Tryz.ntmps97 (by simp) byClL byCl ?_
  rw [Tryz.results97]
  have e60 : (2 : Nat) ^ 60 = 1152921504606846976 := by decide
  have e200 : (2 : Nat) ^ 60 ≤ 2 ^ 200 := by decide
  repeat' (first | (simp only [go_sem, seval, IntKind.bits.eq_def, ti, tin, rws_length, hn0]) | (simp (disch := omega) only [wA]) | refine aL ti_ok ?_ | refine dL ti_ok ?_ | refine dG ?_ | ((first | refine cC ?_ ?_ | refine gS ?_ ?_ | refine dS ?_ ?_) <;> intro hc <;> first | (exfalso; simp only [dcA] at hc; omega) | (simp only [hc]; try simp only [dcA] at hc)) | refine aO ?_ | refine dO ?_)
  refine l_loop (α := Nat × BS) (fun x => ⟨[(0, .sl 3 (rws trow l)), (3, .p 0 15 0 0), (13, .sl 3 (rws trow l)), (14, .v (.int .i64 n)), (15, .v (.int .i64 x.1))], [(0, ⟨15, [[.v (.bool (sg (Dy.int x.2.ln))), .sl 1 (u32s (ms (Dy.int x.2.ln))), .v (.int .i64 (dn (Dy.int x.2.ln))), .v (.bool (sg (Dy.int x.2.ld))), .sl 1 (u32s (ms (Dy.int x.2.ld))), .v (.int .i64 (dn (Dy.int x.2.ld))), .v (.bool (sg (Dy.int x.2.hn))), .sl 1 (u32s (ms (Dy.int x.2.hn))), .v (.int .i64 (dn (Dy.int x.2.hn))), .v (.bool (sg (Dy.int x.2.hd))), .sl 1 (u32s (ms (Dy.int x.2.hd))), .v (.int .i64 (dn (Dy.int x.2.hd))), .v (.bool x.2.hl), .v (.bool x.2.hh), .v (.bool x.2.no)]]⟩)], 1⟩) (fun x => x.1 ≤ n ∧ x.2 = BS.of (E0 l x.1) ∧ x.2.Sm 200) (fun x => n - x.1) ((0, BS.zero)) _ byFresh (fun _ h => by first | (cases h; done) | exact Nat.le_of_ble_eq_true rfl) ?_ ?_ ?_
  · exact ⟨Nat.zero_le _, rfl, BS.Sm.zero _⟩
  · exact Weak.trans (Weak.mle 0 ⟨15, [[.v (.bool (sg (Dy.int 0))), .sl 1 (u32s (ms (Dy.int 0))), .v (.int .i64 (dn (Dy.int 0))), .v (.bool (sg (Dy.int 0))), .sl 1 (u32s (ms (Dy.int 0))), .v (.int .i64 (dn (Dy.int 0))), .v (.bool (sg (Dy.int 0))), .sl 1 (u32s (ms (Dy.int 0))), .v (.int .i64 (dn (Dy.int 0))), .v (.bool (sg (Dy.int 0))), .sl 1 (u32s (ms (Dy.int 0))), .v (.int .i64 (dn (Dy.int 0))), .v (.bool false), .v (.bool false), .v (.bool false)]]⟩ rfl (MLe.one (.cons (.refl _) (.cons Le.int0 (.cons (.refl _) (.cons (.refl _) (.cons Le.int0 (.cons (.refl _) (.cons (.refl _) (.cons Le.int0 (.cons (.refl _) (.cons (.refl _) (.cons Le.int0 (.cons (.refl _) (.cons (.refl _) (.cons (.refl _) (.cons (.refl _) .nil))))))))))))))))) (Nat.le_refl _) (by exact byWeak)
  rintro ⟨k, b⟩ ⟨hk, hb, hs⟩
  simp only at hk hb hs
  by_cases hkn : k < n
  ·
    have rk := rws_getD (f := trow) (l := l) (i := k) (0, 0, 0) (by omega)
    obtain ⟨p, hp⟩ : ∃ p, l.getD k (0, 0, 0) = p := ⟨_, rfl⟩
    have bp := hB p (by rw [← hp, List.getD, List.getElem?_eq_getElem (by omega)]; exact List.getElem_mem _)
    rw [hp] at rk
    obtain ⟨xa, xb, xc⟩ := p
    rw [trow_mk] at rk
    simp only at bp
    obtain ⟨bp1, bp2, bp3⟩ := bp
    by_cases h0 : xb = 0
    · have st := E0_yes (by omega) hp h0
      have o1 := Of_ok xa (by omega)
      have o2 := Of_ok xc (by omega)
      have hs2 := hs.add (k := xa) (c := xc) (Nat.lt_of_lt_of_le bp1 e200) (Nat.lt_of_lt_of_le bp3 e200)
      have hb2 : b.add xa xc = BS.of (E0 l (k + 1)) := by rw [st, hb, BS.of_add]
      clear hb st
      obtain ⟨ln, ld, hn, hd, hl, hh, no⟩ := b
      have wa := id_add ln ld hn hd hl hh no xa xc hs (Nat.lt_of_lt_of_le bp1 e200) (Nat.lt_of_lt_of_le bp3 e200)
      generalize (BS.mk ln ld hn hd hl hh no).add xa xc = B' at *
      generalize Dy.int xa = z8 at *
      generalize Dy.int xc = z9 at *
      repeat' (first | (simp only [go_sem, seval, IntKind.bits.eq_def, ti, tin, rws_length, hn0, rk]) | (simp (disch := omega) only [wA]) | (refine callF_own 0 rfl (Nat.le_of_ble_eq_true rfl) byClMx byRenL (wa) ?_) | (refine drawF_own 0 rfl (Nat.le_of_ble_eq_true rfl) byClMx byRenL (wa) ?_) | (with_reducible first | refine cF o1 ?_ | refine dF o1 ?_ | refine cF o2 ?_ | refine dF o2 ?_) | refine aL ti_ok ?_ | refine dL ti_ok ?_ | refine dG ?_ | ((first | refine cC ?_ ?_ | refine gS ?_ ?_ | refine dS ?_ ?_) <;> intro hc <;> first | (exfalso; simp only [dcA] at hc; omega) | (simp only [hc]; try simp only [dcA] at hc)) | refine aO ?_ | refine dO ?_)
      refine roundEnd_of (α := Nat × BS) (k + 1, B') ?_ ?_ ?_
      · exact ⟨by show k + 1 ≤ n; omega, hb2, hs2⟩
      · show n - (k + 1) < n - k; omega
      · exact byWeak
    · have st := E0_no (by omega) hp h0
      repeat' (first | (simp only [go_sem, seval, IntKind.bits.eq_def, ti, tin, rws_length, hn0, rk]) | (simp (disch := omega) only [wA]) | refine aL ti_ok ?_ | refine dL ti_ok ?_ | refine dG ?_ | ((first | refine cC ?_ ?_ | refine gS ?_ ?_ | refine dS ?_ ?_) <;> intro hc <;> first | (exfalso; simp only [dcA] at hc; omega) | (simp only [hc]; try simp only [dcA] at hc)) | refine aO ?_ | refine dO ?_)
      refine roundEnd_of (α := Nat × BS) (k + 1, b) ?_ ?_ ?_
      · exact ⟨by show k + 1 ≤ n; omega, by show b = BS.of (E0 l (k + 1)); rw [st]; exact hb, hs⟩
      · show n - (k + 1) < n - k; omega
      · exact byWeak
  ·
    obtain rfl : k = n := by omega
    repeat' (first | (simp only [go_sem, seval, IntKind.bits.eq_def, ti, tin, rws_length, hn0]) | (simp (disch := omega) only [wA]) | refine aL ti_ok ?_ | refine dL ti_ok ?_ | refine dG ?_ | ((first | refine cC ?_ ?_ | refine gS ?_ ?_ | refine dS ?_ ?_) <;> intro hc <;> first | (exfalso; simp only [dcA] at hc; omega) | (simp only [hc]; try simp only [dcA] at hc)) | refine aO ?_ | refine dO ?_)
    refine l_loop (α := Nat × BS) (fun x => ⟨[(0, .sl 3 (rws trow l)), (3, .p 0 15 0 0), (31, .sl 3 (rws trow l)), (32, .v (.int .i64 k)), (33, .v (.int .i64 x.1))], [(0, ⟨15, [[.v (.bool (sg (Dy.int x.2.ln))), .sl 1 (u32s (ms (Dy.int x.2.ln))), .v (.int .i64 (dn (Dy.int x.2.ln))), .v (.bool (sg (Dy.int x.2.ld))), .sl 1 (u32s (ms (Dy.int x.2.ld))), .v (.int .i64 (dn (Dy.int x.2.ld))), .v (.bool (sg (Dy.int x.2.hn))), .sl 1 (u32s (ms (Dy.int x.2.hn))), .v (.int .i64 (dn (Dy.int x.2.hn))), .v (.bool (sg (Dy.int x.2.hd))), .sl 1 (u32s (ms (Dy.int x.2.hd))), .v (.int .i64 (dn (Dy.int x.2.hd))), .v (.bool x.2.hl), .v (.bool x.2.hh), .v (.bool x.2.no)]]⟩)], 1⟩) (fun x => x.1 ≤ k ∧ x.2 = BS.of (E0 l k ++ E1 l x.1) ∧ x.2.Sm 200) (fun x => k - x.1) ((0, b)) _ byFresh (fun _ h => by first | (cases h; done) | exact Nat.le_of_ble_eq_true rfl) ?_ ?_ ?_
    · exact ⟨Nat.zero_le _, by rw [show E1 l 0 = [] from rfl, List.append_nil]; exact hb, hs⟩
    · exact byWeak
    clear hs hb b
    rintro ⟨i, b⟩ ⟨hi, hb, hs⟩
    simp only at hi hb hs
    by_cases hin : i < k
    ·
      have rk := rws_getD (f := trow) (l := l) (i := i) (0, 0, 0) (by omega)
      obtain ⟨p, hp⟩ : ∃ p, l.getD i (0, 0, 0) = p := ⟨_, rfl⟩
      have bp := hB p (by rw [← hp, List.getD, List.getElem?_eq_getElem (by omega)]; exact List.getElem_mem _)
      rw [hp] at rk
      have st := E1_succ (by omega) hp
      rw [hn0] at st
      obtain ⟨xa, xb, xc⟩ := p
      rw [trow_mk] at rk
      simp only at bp
      obtain ⟨bp1, bp2, bp3⟩ := bp
      repeat' (first | (simp only [go_sem, seval, IntKind.bits.eq_def, ti, tin, rws_length, hn0, rk]) | (simp (disch := omega) only [wA]) | refine aL ti_ok ?_ | refine dL ti_ok ?_ | refine dG ?_ | ((first | refine cC ?_ ?_ | refine gS ?_ ?_ | refine dS ?_ ?_) <;> intro hc <;> first | (exfalso; simp only [dcA] at hc; omega) | (simp only [hc]; try simp only [dcA] at hc)) | refine aO ?_ | refine dO ?_)
      refine l_loop (α := Nat × BS) (fun x => ⟨[(0, .sl 3 (rws trow l)), (3, .p 0 15 0 0), (7, .rp [.v (.int .i64 xa), .v (.int .i64 xb), .v (.int .i64 xc)]), (31, .sl 3 (rws trow l)), (32, .v (.int .i64 k)), (33, .v (.int .i64 i)), (37, .sl 3 (rws trow l)), (38, .v (.int .i64 k)), (39, .v (.int .i64 x.1))], [(0, ⟨15, [[.v (.bool (sg (Dy.int x.2.ln))), .sl 1 (u32s (ms (Dy.int x.2.ln))), .v (.int .i64 (dn (Dy.int x.2.ln))), .v (.bool (sg (Dy.int x.2.ld))), .sl 1 (u32s (ms (Dy.int x.2.ld))), .v (.int .i64 (dn (Dy.int x.2.ld))), .v (.bool (sg (Dy.int x.2.hn))), .sl 1 (u32s (ms (Dy.int x.2.hn))), .v (.int .i64 (dn (Dy.int x.2.hn))), .v (.bool (sg (Dy.int x.2.hd))), .sl 1 (u32s (ms (Dy.int x.2.hd))), .v (.int .i64 (dn (Dy.int x.2.hd))), .v (.bool x.2.hl), .v (.bool x.2.hh), .v (.bool x.2.no)]]⟩)], 2⟩) (fun x => x.1 ≤ k ∧ x.2 = BS.of (E0 l k ++ E1 l i ++ E2 (xa, xb, xc) l x.1) ∧ x.2.Sm 200) (fun x => k - x.1) ((0, b)) _ byFresh (fun _ h => by first | (cases h; done) | exact Nat.le_of_ble_eq_true rfl) ?_ ?_ ?_
      · exact ⟨Nat.zero_le _, by rw [show E2 (xa, xb, xc) l 0 = [] from rfl, List.append_nil]; exact hb, hs⟩
      · exact Weak.trans (Weak.thaw 1 rfl byThaw) (Nat.le_refl _) (by exact byWeak)
      clear hs hb b
      rintro ⟨j, b⟩ ⟨hj, hb, hs⟩
      simp only at hj hb hs
      by_cases hjn : j < k
      ·
        have rj := rws_getD (f := trow) (l := l) (i := j) (0, 0, 0) (by omega)
        obtain ⟨q, hq⟩ : ∃ q, l.getD j (0, 0, 0) = q := ⟨_, rfl⟩
        have bq := hB q (by rw [← hq, List.getD, List.getElem?_eq_getElem (by omega)]; exact List.getElem_mem _)
        rw [hq] at rj
        have s2 := E2_succ (x := (xa, xb, xc)) (by omega) hq
        obtain ⟨ya, yb, yc⟩ := q
        rw [trow_mk] at rj
        simp only at bq
        obtain ⟨bq1, bq2, bq3⟩ := bq
        by_cases hc1 : 0 < xb ∧ yb < 0
        ·
          have s3 : joinC (xa, xb, xc) (ya, yb, yc) = [(ya * xb - xa * yb, yc * xb - xc * yb)] := if_pos hc1
          rw [s3] at s2
          have g1 := join_lt bp1 bq1 bp2 bq2
          have g2 := join_lt bp3 bq3 bp2 bq2
          have j1 := id_join xa ya xa xb xc ya yb yc bp1 bq1 bp2 bq2
          have j2 := id_join xc yc xa xb xc ya yb yc bp3 bq3 bp2 bq2
          have hs2 := hs.add g1 g2
          have hb2 : b.add (ya * xb - xa * yb) (yc * xb - xc * yb) = BS.of (E0 l k ++ E1 l i ++ E2 (xa, xb, xc) l (j + 1)) := by
            rw [hb, BS.of_add, s2, List.append_assoc]
          clear hb s2 s3 st
          obtain ⟨ln, ld, hn, hd, hl, hh, no⟩ := b
          have wa := id_add ln ld hn hd hl hh no _ _ hs g1 g2
          clear hs bp1 bp2 bp3 bq1 bq2 bq3 g1 g2 hB
          generalize ya * xb - xa * yb = v1 at *
          generalize yc * xb - xc * yb = v2 at *
          generalize (BS.mk ln ld hn hd hl hh no).add v1 v2 = B' at *
          generalize Dy.int v1 = z8 at *
          generalize Dy.int v2 = z9 at *
          repeat' (first | (simp only [go_sem, seval, IntKind.bits.eq_def, ti, tin, rws_length, hn0, rj]) | (simp (disch := omega) only [wA]) | (refine callF_own 0 rfl (Nat.le_of_ble_eq_true rfl) byClMx byRenL (wa) ?_) | (refine drawF_own 0 rfl (Nat.le_of_ble_eq_true rfl) byClMx byRenL (wa) ?_) | (with_reducible first | refine cF j1 ?_ | refine dF j1 ?_ | refine cF j2 ?_ | refine dF j2 ?_) | (refine after_thaws ti_ok [2] (by (repeat' (first | exact trivial | exact fun _ => ⟨rfl, Nat.le_of_ble_eq_true rfl⟩ | exact fun h => absurd h (by decide) | refine And.intro ?_ ?_))) rfl rfl trivial ?_) | refine aL ti_ok ?_ | refine dL ti_ok ?_ | refine dG ?_ | ((first | refine cC ?_ ?_ | refine gS ?_ ?_ | refine dS ?_ ?_) <;> intro hc <;> first | (exfalso; simp only [dcA] at hc; omega) | (simp only [hc]; try simp only [dcA] at hc)) | refine aO ?_ | refine dO ?_)
          refine roundEnd_of (α := Nat × BS) (j + 1, B') ?_ ?_ ?_
          · exact ⟨by show j + 1 ≤ k; omega, hb2, hs2⟩
          · show k - (j + 1) < k - j; omega
          · exact byWeak
        ·
          have s3 : joinC (xa, xb, xc) (ya, yb, yc) = [] := if_neg hc1
          rw [s3, List.append_nil] at s2
          have hb2 : b = BS.of (E0 l k ++ E1 l i ++ E2 (xa, xb, xc) l (j + 1)) := by rw [s2]; exact hb
          clear hb s2 s3 st
          by_cases hc2 : 0 < xb
          ·
            have hc3 : ¬ yb < 0 := fun h => hc1 ⟨hc2, h⟩
            repeat' (first | (simp only [go_sem, seval, IntKind.bits.eq_def, ti, tin, rws_length, hn0, rj]) | (simp (disch := omega) only [wA]) | refine aL ti_ok ?_ | refine dL ti_ok ?_ | refine dG ?_ | ((first | refine cC ?_ ?_ | refine gS ?_ ?_ | refine dS ?_ ?_) <;> intro hc <;> first | (exfalso; simp only [dcA] at hc; omega) | (simp only [hc]; try simp only [dcA] at hc)) | refine aO ?_ | refine dO ?_)
            refine roundEnd_of (α := Nat × BS) (j + 1, b) ?_ ?_ ?_
            · exact ⟨by show j + 1 ≤ k; omega, hb2, hs⟩
            · show k - (j + 1) < k - j; omega
            · exact byWeak
          ·
            repeat' (first | (simp only [go_sem, seval, IntKind.bits.eq_def, ti, tin, rws_length, hn0, rj]) | (simp (disch := omega) only [wA]) | refine aL ti_ok ?_ | refine dL ti_ok ?_ | refine dG ?_ | ((first | refine cC ?_ ?_ | refine gS ?_ ?_ | refine dS ?_ ?_) <;> intro hc <;> first | (exfalso; simp only [dcA] at hc; omega) | (simp only [hc]; try simp only [dcA] at hc)) | refine aO ?_ | refine dO ?_)
            refine roundEnd_of (α := Nat × BS) (j + 1, b) ?_ ?_ ?_
            · exact ⟨by show j + 1 ≤ k; omega, hb2, hs⟩
            · show k - (j + 1) < k - j; omega
            · exact byWeak
      ·
        obtain rfl : j = k := by omega
        repeat' (first | (simp only [go_sem, seval, IntKind.bits.eq_def, ti, tin, rws_length, hn0]) | (simp (disch := omega) only [wA]) | refine aL ti_ok ?_ | refine dL ti_ok ?_ | refine dG ?_ | ((first | refine cC ?_ ?_ | refine gS ?_ ?_ | refine dS ?_ ?_) <;> intro hc <;> first | (exfalso; simp only [dcA] at hc; omega) | (simp only [hc]; try simp only [dcA] at hc)) | refine aO ?_ | refine dO ?_)
        refine roundEnd_of (α := Nat × BS) (i + 1, b) ?_ ?_ ?_
        · exact ⟨by show i + 1 ≤ j; omega, by show b = BS.of (E0 l j ++ E1 l (i + 1)); rw [st, ← List.append_assoc]; exact hb, hs⟩
        · show j - (i + 1) < j - i; omega
        · exact byWeak
    ·
      obtain rfl : i = k := by omega
      have he : E0 l i ++ E1 l i = elimC l := by unfold elimC; rw [hn0]
      rw [he] at hb
      rw [← hb]
      repeat' (first | (simp only [go_sem, seval, IntKind.bits.eq_def, ti, tin, rws_length, hn0]) | (simp (disch := omega) only [wA]) | refine aL ti_ok ?_ | refine dL ti_ok ?_ | refine dG ?_ | ((first | refine cC ?_ ?_ | refine gS ?_ ?_ | refine dS ?_ ?_) <;> intro hc <;> first | (exfalso; simp only [dcA] at hc; omega) | (simp only [hc]; try simp only [dcA] at hc)) | refine aO ?_ | refine dO ?_)
      refine fin_pub trivial (.one (.one (.p rfl rfl (Nat.le_of_ble_eq_true rfl)))) ?_
      exact .refl _
end Go.Proofs.YtfmgfjmfogmeeaaGreatDoor
