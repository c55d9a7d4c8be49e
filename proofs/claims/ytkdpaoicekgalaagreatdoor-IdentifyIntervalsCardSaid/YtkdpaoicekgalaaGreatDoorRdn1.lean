/- The reference of layer 49 (ref.go): the numbers that satisfy all limits. -/
import Derived.Test.YtkdpaoicekgalaaGreatDoorIdn5
import Derived.Test.YtkdpaoicekgalaaGreatDoorQuo4
import Derived.Test.YtkdpaoicekgalaaGreatDoorRefB
import Derived.Test.YtkdpaoicekgalaaGreatDoorU4
set_option linter.unusedSimpArgs false
set_option linter.unusedVariables false
set_option linter.deprecated false
namespace Go.Proofs.YtkdpaoicekgalaaGreatDoor
open Go Go.Ax
set_option maxRecDepth 100000
set_option maxHeartbeats 4000000

theorem r49_v16 : ((16 : Nat) : Int) = 16 := rfl
theorem r49_least (l : List Hf) (N : Nat) (hN : l.length = N) (hl0 : N ≤ 1000000) (hB : ∀ p ∈ l, p.1.natAbs < 2 ^ 90 ∧ p.2.1.natAbs < 2 ^ 90 ∧ p.2.2.natAbs < 2 ^ 90) (hc1 : ClRow lrowI) : CallOK Tryz.prog gl 126 [.sl 9 (rws lrowI l)] (.tup [.agg [.v (.bool (sg ((BS.of (LC l N)).out.lo))), .sl 1 (u32s (ms ((BS.of (LC l N)).out.lo))), .v (.int .i64 (dn ((BS.of (LC l N)).out.lo))), .v (.bool (sg ((BS.of (LC l N)).out.hi))), .sl 1 (u32s (ms ((BS.of (LC l N)).out.hi))), .v (.int .i64 (dn ((BS.of (LC l N)).out.hi)))], .v (.int .i64 ((BS.of (LC l N)).out.err))]) := by
  refine call_ok (C := ⟨Tryz.prog, gl, ti, 115, false⟩) ti_ok mixed 3000 Tryz.call126 Tryz.func126 rfl Tryz.ntmps126 (by simp) byClL byCl ?_
  rw [Tryz.results126]
  have e91 : (2 : Nat) ^ 90 + 2 ^ 90 ≤ 2 ^ 100 := by decide
  have e92 : (2 : Nat) ^ 100 ≤ 2 ^ 200 := by decide
  have e93 : (2 : Nat) ^ 90 ≤ 2 ^ 100 := by decide
  repeat' (first | (simp only [go_sem, Int.reduceAdd, Int.reduceEq, Int.reduceLE, Int.reduceLT, Int.reduceMul, Int.reduceNeg, Int.reducePow, Int.reduceSub, Int.reduceToNat, Nat.reduceAdd, Nat.reduceBEq, Nat.reduceEqDiff, Nat.reduceLT, Nat.reduceLeDiff, Nat.reduceMul, Nat.reducePow, Nat.reduceSub, reduceCtorEq, reduceIte, IntKind.bits.eq_def, ti, tin, rws_length, hN]) | (simp (disch := omega) only [w64, wu64, wu32, Nat.min_eq_left]) | (refine aL ti_ok ?_) | (refine dL ti_ok ?_) | (refine dE (by kernel_rfl) ?_) | ((first | refine cC ?_ ?_ | refine gS ?_ ?_ | refine dS ?_ ?_) <;> intro hc <;> first | (exfalso; simp only [dcT, dcF, bnT, bnF, bnU, bnV] at hc; omega) | (simp only [hc]; try simp only [dcT, dcF, bnT, bnF, bnU, bnV] at hc)) | (refine aN (by omega) ?_) | (refine dN (by omega) ?_))
  refine l_loop (α := Nat × BS) (fun x => ⟨[(2, .p 0 6 0 0), (4, .p 1 3 0 0), (5, .p 2 3 0 0), (6, .p 3 3 0 0), (7, .p 4 3 0 0), (8, .v (.bool (x.2.hl))), (18, .sl 9 (rws lrowI l)), (19, .v (.int .i64 N)), (20, .v (.int .i64 x.1))], [(0, ⟨6, [[.v (.bool false), .v (.slice none 0 0), .v (.int .i64 0), .v (.bool false), .v (.slice none 0 0), .v (.int .i64 0)]]⟩), (1, ⟨3, [[.v (.bool (sg (Dy.int x.2.ln))), .sl 1 (u32s (ms (Dy.int x.2.ln))), .v (.int .i64 (dn (Dy.int x.2.ln)))]]⟩), (2, ⟨3, [[.v (.bool (sg (Dy.int x.2.ld))), .sl 1 (u32s (ms (Dy.int x.2.ld))), .v (.int .i64 (dn (Dy.int x.2.ld)))]]⟩), (3, ⟨3, [[.v (.bool (sg (Dy.int x.2.hn))), .sl 1 (u32s (ms (Dy.int x.2.hn))), .v (.int .i64 (dn (Dy.int x.2.hn)))]]⟩), (4, ⟨3, [[.v (.bool (sg (Dy.int x.2.hd))), .sl 1 (u32s (ms (Dy.int x.2.hd))), .v (.int .i64 (dn (Dy.int x.2.hd)))]]⟩)], 5⟩) (fun x => x.1 ≤ N ∧ x.2 = BS.of (LC l x.1) ∧ x.2.Sm 100 ∧ x.2.no = false ∧ x.2.hl = x.2.hh) (fun x => N - x.1) ((0, BS.zero)) _ byFresh (fun _ h => by first | (cases h; done) | exact Nat.le_of_ble_eq_true rfl) ?_ ?_ ?_
  · exact ⟨Nat.zero_le _, rfl, BS.Sm.zero _, rfl, rfl⟩
  · refine Weak.trans (Weak.mle 1 ⟨3, [[.v (.bool (sg (Dy.int 0))), .sl 1 (u32s (ms (Dy.int 0))), .v (.int .i64 (dn (Dy.int 0)))]]⟩ rfl (MLe.one (.cons (.refl _) (.cons Le.int0 (.cons (.refl _) .nil))))) (Nat.le_refl _) ?_
    refine Weak.trans (Weak.mle 2 ⟨3, [[.v (.bool (sg (Dy.int 0))), .sl 1 (u32s (ms (Dy.int 0))), .v (.int .i64 (dn (Dy.int 0)))]]⟩ rfl (MLe.one (.cons (.refl _) (.cons Le.int0 (.cons (.refl _) .nil))))) (Nat.le_refl _) ?_
    refine Weak.trans (Weak.mle 3 ⟨3, [[.v (.bool (sg (Dy.int 0))), .sl 1 (u32s (ms (Dy.int 0))), .v (.int .i64 (dn (Dy.int 0)))]]⟩ rfl (MLe.one (.cons (.refl _) (.cons Le.int0 (.cons (.refl _) .nil))))) (Nat.le_refl _) ?_
    exact Weak.trans (Weak.mle 4 ⟨3, [[.v (.bool (sg (Dy.int 0))), .sl 1 (u32s (ms (Dy.int 0))), .v (.int .i64 (dn (Dy.int 0)))]]⟩ rfl (MLe.one (.cons (.refl _) (.cons Le.int0 (.cons (.refl _) .nil))))) (Nat.le_refl _) (by exact byWeak)
  rintro ⟨k, s⟩ ⟨hk, hb, hs, hno, hlh⟩
  simp only at hk hb hs hno hlh
  by_cases hkn : k < N
  ·
    have rk := rws_getD (f := lrowI) (l := l) (i := k) (0, 0, 0) (by omega)
    obtain ⟨p, hp⟩ : ∃ p, l.getD k (0, 0, 0) = p := ⟨_, rfl⟩
    have bp := hB p (by rw [← hp, List.getD, List.getElem?_eq_getElem (by omega)]; exact List.getElem_mem _)
    have st := LC_succ (by omega) hp
    have bad := of_no (by omega) hp
    rw [hp] at rk
    obtain ⟨x, y, e⟩ := p
    rw [lrowI_mk] at rk
    simp only at bp bad
    rw [hN] at bad
    obtain ⟨b1, b2, b3⟩ := bp
    have ba : (y - e).natAbs < 2 ^ 100 := by omega
    have bb : (y + e).natAbs < 2 ^ 100 := by omega
    have bx : x.natAbs < 2 ^ 100 := by omega
    have s1 := ref_Sub _ _ _ _ _ _ _ _ (argi b2 (by omega)) (argi b3 (by omega))
    have a1 := ref_Add _ _ _ _ _ _ _ _ (argi b2 (by omega)) (argi b3 (by omega))
    rw [Dy.int_sub] at s1
    rw [Dy.int_add] at a1
    have q1 := ref_Sign _ _ _ _ (argi bx (by omega))
    have q2 := ref_Sign _ _ _ _ (argi ba (by omega))
    have q3 := ref_Sign _ _ _ _ (argi bb (by omega))
    have x1 : (Dy.int x).sign = if x < 0 then -1 else if x = 0 then 0 else 1 := rfl
    have x2 : (Dy.int (y - e)).sign = if y - e < 0 then -1 else if y - e = 0 then 0 else 1 := rfl
    have x3 : (Dy.int (y + e)).sign = if y + e < 0 then -1 else if y + e = 0 then 0 else 1 := rfl
    have hb0 : BS.of (LC l (k + 1)) = (s.add x (y + e)).add (-x) (e - y) := by rw [st, BS.of_lim, ← hb]
    clear st hb
    rcases Int.lt_trichotomy x 0 with h0 | h0 | h0
    ·
      rw [if_pos h0] at x1
      rw [x1] at q1
      have n1 := ref_Neg _ _ _ _ (argi bb (by omega))
      have n2 := ref_Neg _ _ _ _ (argi ba (by omega))
      have n3 := ref_Neg _ _ _ _ (argi bx (by omega))
      rw [Dy.int_neg] at n1 n2 n3
      rw [lim_neg h0] at hb0
      rw [← Int.natAbs_neg] at ba bb bx
      clear q2 q3 x2 x3 bad hB
      generalize -(y + e) = a' at *
      generalize -(y - e) = b' at *
      generalize -x = x' at *
      have sm2 : ∀ u1 u2 u3 u4 : Int, u1.natAbs < 2 ^ 100 → u2.natAbs < 2 ^ 100 → u3.natAbs < 2 ^ 100 → u4.natAbs < 2 ^ 100 → (BS.mk u1 u2 u3 u4 true true s.no).Sm 100 := fun _ _ _ _ h1 h2 h3 h4 => ⟨h1, h2, h3, h4⟩
      obtain ⟨ln, ld, hn, hd, hl, hh, no⟩ := s
      simp only at hno hlh sm2 hb0
      subst hno hlh
      obtain ⟨g1, g2, g3, g4⟩ := hs
      simp only at g1 g2 g3 g4
      have m1 := ref_Mul _ _ _ _ _ _ _ _ (argi bb (by omega)) (argi g2 (by omega))
      have m2 := ref_Mul _ _ _ _ _ _ _ _ (argi g1 (by omega)) (argi bx (by omega))
      have m3 := ref_Mul _ _ _ _ _ _ _ _ (argi ba (by omega)) (argi g4 (by omega))
      have m4 := ref_Mul _ _ _ _ _ _ _ _ (argi g3 (by omega)) (argi bx (by omega))
      rw [Dy.int_mul] at m1 m2 m3 m4
      have c1 := ref_Cmp _ _ _ _ _ _ _ _ (argi (natAbs_mul_lt bb g2) (by omega)) (argi (natAbs_mul_lt g1 bx) (by omega))
      have c2 := ref_Cmp _ _ _ _ _ _ _ _ (argi (natAbs_mul_lt ba g4) (by omega)) (argi (natAbs_mul_lt g3 bx) (by omega))
      have t1 := int_cmp_gt (a' * ld) (ln * x')
      have t2 := int_cmp_lt (b' * hd) (hn * x')
      cases hl
      ·
        have k1 : (BS.mk ln ld hn hd false false false).c1 a' x' := .inl rfl
        have k2 : (BS.mk ln ld hn hd false false false).c2 b' x' := .inl rfl
        rw [if_pos k1, if_pos k1, if_pos k2, if_pos k2] at hb0
        have hb2 : BS.mk a' x' b' x' true true false = BS.of (LC l (k + 1)) := hb0.symm
        have hs2 := sm2 _ _ _ _ bb bx ba bx
        have hno2 : (false : Bool) = false := rfl
        have hlh2 : (true : Bool) = true := rfl
        clear hb0 sm2 t1 t2 k1 k2
        generalize (Dy.int (a' * ld)).cmp (Dy.int (ln * x')) = u1 at *
        generalize (Dy.int (b' * hd)).cmp (Dy.int (hn * x')) = u2 at *
        generalize Dy.int (a' * ld) = w1 at *
        generalize Dy.int (ln * x') = w2 at *
        generalize Dy.int (b' * hd) = w3 at *
        generalize Dy.int (hn * x') = w4 at *
        repeat' (first | (simp only [go_sem, Int.reduceAdd, Int.reduceEq, Int.reduceLE, Int.reduceLT, Int.reduceMul, Int.reduceNeg, Int.reducePow, Int.reduceSub, Int.reduceToNat, Nat.reduceAdd, Nat.reduceBEq, Nat.reduceEqDiff, Nat.reduceLT, Nat.reduceLeDiff, Nat.reduceMul, Nat.reducePow, Nat.reduceSub, reduceCtorEq, reduceIte, IntKind.bits.eq_def, ti, tin, rws_length, hN, rk]) | (simp (disch := omega) only [w64, wu64, wu32, Nat.min_eq_left]) | (with_reducible first | refine cF (s1) ?_ | refine dF (s1) ?_) | (with_reducible first | refine cF (a1) ?_ | refine dF (a1) ?_) | (with_reducible first | refine cF (q1) ?_ | refine dF (q1) ?_) | (with_reducible first | refine cF (n1) ?_ | refine dF (n1) ?_) | (with_reducible first | refine cF (n2) ?_ | refine dF (n2) ?_) | (with_reducible first | refine cF (n3) ?_ | refine dF (n3) ?_) | (with_reducible first | refine cF (m1) ?_ | refine dF (m1) ?_) | (with_reducible first | refine cF (m2) ?_ | refine dF (m2) ?_) | (with_reducible first | refine cF (m3) ?_ | refine dF (m3) ?_) | (with_reducible first | refine cF (m4) ?_ | refine dF (m4) ?_) | (with_reducible first | refine cF (c1) ?_ | refine dF (c1) ?_) | (with_reducible first | refine cF (c2) ?_ | refine dF (c2) ?_) | (refine aL ti_ok ?_) | (refine dL ti_ok ?_) | (refine dE (by kernel_rfl) ?_) | ((first | refine cC ?_ ?_ | refine gS ?_ ?_ | refine dS ?_ ?_) <;> intro hc <;> first | (exfalso; simp only [dcT, dcF, bnT, bnF, bnU, bnV] at hc; omega) | (simp only [hc]; try simp only [dcT, dcF, bnT, bnF, bnU, bnV] at hc)) | (refine aN (by omega) ?_) | (refine dN (by omega) ?_))
        refine roundEnd_of (α := Nat × BS) (k + 1, BS.mk a' x' b' x' true true false) ?_ ?_ ?_
        · exact ⟨by show k + 1 ≤ N; omega, hb2, hs2, hno2, hlh2⟩
        · show N - (k + 1) < N - k; omega
        · exact byWeak
      ·
        by_cases h1 : ln * x' < a' * ld
        ·
          have r1 := t1.2 h1
          have k1 : (BS.mk ln ld hn hd true true false).c1 a' x' := .inr h1
          by_cases h2 : b' * hd < hn * x'
          ·
            have r2 := t2.2 h2
            have k2 : (BS.mk ln ld hn hd true true false).c2 b' x' := .inr h2
            rw [if_pos k1, if_pos k1, if_pos k2, if_pos k2] at hb0
            have hb2 : BS.mk a' x' b' x' true true false = BS.of (LC l (k + 1)) := hb0.symm
            have hs2 := sm2 _ _ _ _ bb bx ba bx
            have hno2 : (false : Bool) = false := rfl
            have hlh2 : (true : Bool) = true := rfl
            clear hb0 sm2 t1 t2 k1 k2
            generalize (Dy.int (a' * ld)).cmp (Dy.int (ln * x')) = u1 at *
            generalize (Dy.int (b' * hd)).cmp (Dy.int (hn * x')) = u2 at *
            generalize Dy.int (a' * ld) = w1 at *
            generalize Dy.int (ln * x') = w2 at *
            generalize Dy.int (b' * hd) = w3 at *
            generalize Dy.int (hn * x') = w4 at *
            repeat' (first | (simp only [go_sem, Int.reduceAdd, Int.reduceEq, Int.reduceLE, Int.reduceLT, Int.reduceMul, Int.reduceNeg, Int.reducePow, Int.reduceSub, Int.reduceToNat, Nat.reduceAdd, Nat.reduceBEq, Nat.reduceEqDiff, Nat.reduceLT, Nat.reduceLeDiff, Nat.reduceMul, Nat.reducePow, Nat.reduceSub, reduceCtorEq, reduceIte, IntKind.bits.eq_def, ti, tin, rws_length, hN, rk]) | (simp (disch := omega) only [w64, wu64, wu32, Nat.min_eq_left]) | (with_reducible first | refine cF (s1) ?_ | refine dF (s1) ?_) | (with_reducible first | refine cF (a1) ?_ | refine dF (a1) ?_) | (with_reducible first | refine cF (q1) ?_ | refine dF (q1) ?_) | (with_reducible first | refine cF (n1) ?_ | refine dF (n1) ?_) | (with_reducible first | refine cF (n2) ?_ | refine dF (n2) ?_) | (with_reducible first | refine cF (n3) ?_ | refine dF (n3) ?_) | (with_reducible first | refine cF (m1) ?_ | refine dF (m1) ?_) | (with_reducible first | refine cF (m2) ?_ | refine dF (m2) ?_) | (with_reducible first | refine cF (m3) ?_ | refine dF (m3) ?_) | (with_reducible first | refine cF (m4) ?_ | refine dF (m4) ?_) | (with_reducible first | refine cF (c1) ?_ | refine dF (c1) ?_) | (with_reducible first | refine cF (c2) ?_ | refine dF (c2) ?_) | (refine aL ti_ok ?_) | (refine dL ti_ok ?_) | (refine dE (by kernel_rfl) ?_) | ((first | refine cC ?_ ?_ | refine gS ?_ ?_ | refine dS ?_ ?_) <;> intro hc <;> first | (exfalso; simp only [dcT, dcF, bnT, bnF, bnU, bnV] at hc; omega) | (simp only [hc]; try simp only [dcT, dcF, bnT, bnF, bnU, bnV] at hc)) | (refine aN (by omega) ?_) | (refine dN (by omega) ?_))
            refine roundEnd_of (α := Nat × BS) (k + 1, BS.mk a' x' b' x' true true false) ?_ ?_ ?_
            · exact ⟨by show k + 1 ≤ N; omega, hb2, hs2, hno2, hlh2⟩
            · show N - (k + 1) < N - k; omega
            · exact byWeak
          ·
            have r2 : ¬ (Dy.int (b' * hd)).cmp (Dy.int (hn * x')) < 0 := fun h => h2 (t2.1 h)
            have k2 : ¬ (BS.mk ln ld hn hd true true false).c2 b' x' := fun h => h.elim (fun h => by cases h) h2
            rw [if_pos k1, if_pos k1, if_neg k2, if_neg k2] at hb0
            have hb2 : BS.mk a' x' hn hd true true false = BS.of (LC l (k + 1)) := hb0.symm
            have hs2 := sm2 _ _ _ _ bb bx g3 g4
            have hno2 : (false : Bool) = false := rfl
            have hlh2 : (true : Bool) = true := rfl
            clear hb0 sm2 t1 t2 k1 k2
            generalize (Dy.int (a' * ld)).cmp (Dy.int (ln * x')) = u1 at *
            generalize (Dy.int (b' * hd)).cmp (Dy.int (hn * x')) = u2 at *
            generalize Dy.int (a' * ld) = w1 at *
            generalize Dy.int (ln * x') = w2 at *
            generalize Dy.int (b' * hd) = w3 at *
            generalize Dy.int (hn * x') = w4 at *
            repeat' (first | (simp only [go_sem, Int.reduceAdd, Int.reduceEq, Int.reduceLE, Int.reduceLT, Int.reduceMul, Int.reduceNeg, Int.reducePow, Int.reduceSub, Int.reduceToNat, Nat.reduceAdd, Nat.reduceBEq, Nat.reduceEqDiff, Nat.reduceLT, Nat.reduceLeDiff, Nat.reduceMul, Nat.reducePow, Nat.reduceSub, reduceCtorEq, reduceIte, IntKind.bits.eq_def, ti, tin, rws_length, hN, rk]) | (simp (disch := omega) only [w64, wu64, wu32, Nat.min_eq_left]) | (with_reducible first | refine cF (s1) ?_ | refine dF (s1) ?_) | (with_reducible first | refine cF (a1) ?_ | refine dF (a1) ?_) | (with_reducible first | refine cF (q1) ?_ | refine dF (q1) ?_) | (with_reducible first | refine cF (n1) ?_ | refine dF (n1) ?_) | (with_reducible first | refine cF (n2) ?_ | refine dF (n2) ?_) | (with_reducible first | refine cF (n3) ?_ | refine dF (n3) ?_) | (with_reducible first | refine cF (m1) ?_ | refine dF (m1) ?_) | (with_reducible first | refine cF (m2) ?_ | refine dF (m2) ?_) | (with_reducible first | refine cF (m3) ?_ | refine dF (m3) ?_) | (with_reducible first | refine cF (m4) ?_ | refine dF (m4) ?_) | (with_reducible first | refine cF (c1) ?_ | refine dF (c1) ?_) | (with_reducible first | refine cF (c2) ?_ | refine dF (c2) ?_) | (refine aL ti_ok ?_) | (refine dL ti_ok ?_) | (refine dE (by kernel_rfl) ?_) | ((first | refine cC ?_ ?_ | refine gS ?_ ?_ | refine dS ?_ ?_) <;> intro hc <;> first | (exfalso; simp only [dcT, dcF, bnT, bnF, bnU, bnV] at hc; omega) | (simp only [hc]; try simp only [dcT, dcF, bnT, bnF, bnU, bnV] at hc)) | (refine aN (by omega) ?_) | (refine dN (by omega) ?_))
            refine roundEnd_of (α := Nat × BS) (k + 1, BS.mk a' x' hn hd true true false) ?_ ?_ ?_
            · exact ⟨by show k + 1 ≤ N; omega, hb2, hs2, hno2, hlh2⟩
            · show N - (k + 1) < N - k; omega
            · exact byWeak
        ·
          have r1 : ¬ 0 < (Dy.int (a' * ld)).cmp (Dy.int (ln * x')) := fun h => h1 (t1.1 h)
          have k1 : ¬ (BS.mk ln ld hn hd true true false).c1 a' x' := fun h => h.elim (fun h => by cases h) h1
          by_cases h2 : b' * hd < hn * x'
          ·
            have r2 := t2.2 h2
            have k2 : (BS.mk ln ld hn hd true true false).c2 b' x' := .inr h2
            rw [if_neg k1, if_neg k1, if_pos k2, if_pos k2] at hb0
            have hb2 : BS.mk ln ld b' x' true true false = BS.of (LC l (k + 1)) := hb0.symm
            have hs2 := sm2 _ _ _ _ g1 g2 ba bx
            have hno2 : (false : Bool) = false := rfl
            have hlh2 : (true : Bool) = true := rfl
            clear hb0 sm2 t1 t2 k1 k2
            generalize (Dy.int (a' * ld)).cmp (Dy.int (ln * x')) = u1 at *
            generalize (Dy.int (b' * hd)).cmp (Dy.int (hn * x')) = u2 at *
            generalize Dy.int (a' * ld) = w1 at *
            generalize Dy.int (ln * x') = w2 at *
            generalize Dy.int (b' * hd) = w3 at *
            generalize Dy.int (hn * x') = w4 at *
            repeat' (first | (simp only [go_sem, Int.reduceAdd, Int.reduceEq, Int.reduceLE, Int.reduceLT, Int.reduceMul, Int.reduceNeg, Int.reducePow, Int.reduceSub, Int.reduceToNat, Nat.reduceAdd, Nat.reduceBEq, Nat.reduceEqDiff, Nat.reduceLT, Nat.reduceLeDiff, Nat.reduceMul, Nat.reducePow, Nat.reduceSub, reduceCtorEq, reduceIte, IntKind.bits.eq_def, ti, tin, rws_length, hN, rk]) | (simp (disch := omega) only [w64, wu64, wu32, Nat.min_eq_left]) | (with_reducible first | refine cF (s1) ?_ | refine dF (s1) ?_) | (with_reducible first | refine cF (a1) ?_ | refine dF (a1) ?_) | (with_reducible first | refine cF (q1) ?_ | refine dF (q1) ?_) | (with_reducible first | refine cF (n1) ?_ | refine dF (n1) ?_) | (with_reducible first | refine cF (n2) ?_ | refine dF (n2) ?_) | (with_reducible first | refine cF (n3) ?_ | refine dF (n3) ?_) | (with_reducible first | refine cF (m1) ?_ | refine dF (m1) ?_) | (with_reducible first | refine cF (m2) ?_ | refine dF (m2) ?_) | (with_reducible first | refine cF (m3) ?_ | refine dF (m3) ?_) | (with_reducible first | refine cF (m4) ?_ | refine dF (m4) ?_) | (with_reducible first | refine cF (c1) ?_ | refine dF (c1) ?_) | (with_reducible first | refine cF (c2) ?_ | refine dF (c2) ?_) | (refine aL ti_ok ?_) | (refine dL ti_ok ?_) | (refine dE (by kernel_rfl) ?_) | ((first | refine cC ?_ ?_ | refine gS ?_ ?_ | refine dS ?_ ?_) <;> intro hc <;> first | (exfalso; simp only [dcT, dcF, bnT, bnF, bnU, bnV] at hc; omega) | (simp only [hc]; try simp only [dcT, dcF, bnT, bnF, bnU, bnV] at hc)) | (refine aN (by omega) ?_) | (refine dN (by omega) ?_))
            refine roundEnd_of (α := Nat × BS) (k + 1, BS.mk ln ld b' x' true true false) ?_ ?_ ?_
            · exact ⟨by show k + 1 ≤ N; omega, hb2, hs2, hno2, hlh2⟩
            · show N - (k + 1) < N - k; omega
            · exact byWeak
          ·
            have r2 : ¬ (Dy.int (b' * hd)).cmp (Dy.int (hn * x')) < 0 := fun h => h2 (t2.1 h)
            have k2 : ¬ (BS.mk ln ld hn hd true true false).c2 b' x' := fun h => h.elim (fun h => by cases h) h2
            rw [if_neg k1, if_neg k1, if_neg k2, if_neg k2] at hb0
            have hb2 : BS.mk ln ld hn hd true true false = BS.of (LC l (k + 1)) := hb0.symm
            have hs2 := sm2 _ _ _ _ g1 g2 g3 g4
            have hno2 : (false : Bool) = false := rfl
            have hlh2 : (true : Bool) = true := rfl
            clear hb0 sm2 t1 t2 k1 k2
            generalize (Dy.int (a' * ld)).cmp (Dy.int (ln * x')) = u1 at *
            generalize (Dy.int (b' * hd)).cmp (Dy.int (hn * x')) = u2 at *
            generalize Dy.int (a' * ld) = w1 at *
            generalize Dy.int (ln * x') = w2 at *
            generalize Dy.int (b' * hd) = w3 at *
            generalize Dy.int (hn * x') = w4 at *
            repeat' (first | (simp only [go_sem, Int.reduceAdd, Int.reduceEq, Int.reduceLE, Int.reduceLT, Int.reduceMul, Int.reduceNeg, Int.reducePow, Int.reduceSub, Int.reduceToNat, Nat.reduceAdd, Nat.reduceBEq, Nat.reduceEqDiff, Nat.reduceLT, Nat.reduceLeDiff, Nat.reduceMul, Nat.reducePow, Nat.reduceSub, reduceCtorEq, reduceIte, IntKind.bits.eq_def, ti, tin, rws_length, hN, rk]) | (simp (disch := omega) only [w64, wu64, wu32, Nat.min_eq_left]) | (with_reducible first | refine cF (s1) ?_ | refine dF (s1) ?_) | (with_reducible first | refine cF (a1) ?_ | refine dF (a1) ?_) | (with_reducible first | refine cF (q1) ?_ | refine dF (q1) ?_) | (with_reducible first | refine cF (n1) ?_ | refine dF (n1) ?_) | (with_reducible first | refine cF (n2) ?_ | refine dF (n2) ?_) | (with_reducible first | refine cF (n3) ?_ | refine dF (n3) ?_) | (with_reducible first | refine cF (m1) ?_ | refine dF (m1) ?_) | (with_reducible first | refine cF (m2) ?_ | refine dF (m2) ?_) | (with_reducible first | refine cF (m3) ?_ | refine dF (m3) ?_) | (with_reducible first | refine cF (m4) ?_ | refine dF (m4) ?_) | (with_reducible first | refine cF (c1) ?_ | refine dF (c1) ?_) | (with_reducible first | refine cF (c2) ?_ | refine dF (c2) ?_) | (refine aL ti_ok ?_) | (refine dL ti_ok ?_) | (refine dE (by kernel_rfl) ?_) | ((first | refine cC ?_ ?_ | refine gS ?_ ?_ | refine dS ?_ ?_) <;> intro hc <;> first | (exfalso; simp only [dcT, dcF, bnT, bnF, bnU, bnV] at hc; omega) | (simp only [hc]; try simp only [dcT, dcF, bnT, bnF, bnU, bnV] at hc)) | (refine aN (by omega) ?_) | (refine dN (by omega) ?_))
            refine roundEnd_of (α := Nat × BS) (k + 1, BS.mk ln ld hn hd true true false) ?_ ?_ ?_
            · exact ⟨by show k + 1 ≤ N; omega, hb2, hs2, hno2, hlh2⟩
            · show N - (k + 1) < N - k; omega
            · exact byWeak
    ·
      subst h0
      rw [if_neg (by omega), if_pos rfl] at x1
      rw [x1] at q1
      rw [lim_zero] at hb0
      by_cases hbad : y + e < 0 ∨ 0 < y - e
      ·
        have no := bad rfl hbad
        have eo : (BS.of (LC l N)).out = .bad := if_pos (.inl no)
        rw [eo]
        clear hb0 bad hB
        by_cases h1 : 0 < y - e
        ·
          have p1 : 0 < (Dy.int (y - e)).sign := by rw [x2, if_neg (by omega), if_neg (by omega)]; decide
          clear x2 x3
          generalize (Dy.int (y - e)).sign = u1 at *
          generalize (Dy.int (y + e)).sign = u2 at *
          generalize Dy.int (y - e) = z1 at *
          generalize Dy.int (y + e) = z2 at *
          repeat' (first | (simp only [go_sem, Int.reduceAdd, Int.reduceEq, Int.reduceLE, Int.reduceLT, Int.reduceMul, Int.reduceNeg, Int.reducePow, Int.reduceSub, Int.reduceToNat, Nat.reduceAdd, Nat.reduceBEq, Nat.reduceEqDiff, Nat.reduceLT, Nat.reduceLeDiff, Nat.reduceMul, Nat.reducePow, Nat.reduceSub, reduceCtorEq, reduceIte, IntKind.bits.eq_def, ti, tin, rws_length, hN, rk]) | (simp (disch := omega) only [w64, wu64, wu32, Nat.min_eq_left]) | (with_reducible first | refine cF (s1) ?_ | refine dF (s1) ?_) | (with_reducible first | refine cF (a1) ?_ | refine dF (a1) ?_) | (with_reducible first | refine cF (q1) ?_ | refine dF (q1) ?_) | (with_reducible first | refine cF (q2) ?_ | refine dF (q2) ?_) | (with_reducible first | refine cF (q3) ?_ | refine dF (q3) ?_) | (refine aL ti_ok ?_) | (refine dL ti_ok ?_) | (refine dE (by kernel_rfl) ?_) | ((first | refine cC ?_ ?_ | refine gS ?_ ?_ | refine dS ?_ ?_) <;> intro hc <;> first | (exfalso; simp only [dcT, dcF, bnT, bnF, bnU, bnV] at hc; omega) | (simp only [hc]; try simp only [dcT, dcF, bnT, bnF, bnU, bnV] at hc)) | (refine aN (by omega) ?_) | (refine dN (by omega) ?_))
          all_goals exact fin_le trivial (Le.tup (.cons Le.iv0 (.cons (.refl _) .nil)))
        ·
          have p1 : ¬ 0 < (Dy.int (y - e)).sign := by rw [x2]; split <;> (try split) <;> omega
          have p2 : (Dy.int (y + e)).sign < 0 := by rw [x3, if_pos (by omega)]; decide
          clear x2 x3
          generalize (Dy.int (y - e)).sign = u1 at *
          generalize (Dy.int (y + e)).sign = u2 at *
          generalize Dy.int (y - e) = z1 at *
          generalize Dy.int (y + e) = z2 at *
          repeat' (first | (simp only [go_sem, Int.reduceAdd, Int.reduceEq, Int.reduceLE, Int.reduceLT, Int.reduceMul, Int.reduceNeg, Int.reducePow, Int.reduceSub, Int.reduceToNat, Nat.reduceAdd, Nat.reduceBEq, Nat.reduceEqDiff, Nat.reduceLT, Nat.reduceLeDiff, Nat.reduceMul, Nat.reducePow, Nat.reduceSub, reduceCtorEq, reduceIte, IntKind.bits.eq_def, ti, tin, rws_length, hN, rk]) | (simp (disch := omega) only [w64, wu64, wu32, Nat.min_eq_left]) | (with_reducible first | refine cF (s1) ?_ | refine dF (s1) ?_) | (with_reducible first | refine cF (a1) ?_ | refine dF (a1) ?_) | (with_reducible first | refine cF (q1) ?_ | refine dF (q1) ?_) | (with_reducible first | refine cF (q2) ?_ | refine dF (q2) ?_) | (with_reducible first | refine cF (q3) ?_ | refine dF (q3) ?_) | (refine aL ti_ok ?_) | (refine dL ti_ok ?_) | (refine dE (by kernel_rfl) ?_) | ((first | refine cC ?_ ?_ | refine gS ?_ ?_ | refine dS ?_ ?_) <;> intro hc <;> first | (exfalso; simp only [dcT, dcF, bnT, bnF, bnU, bnV] at hc; omega) | (simp only [hc]; try simp only [dcT, dcF, bnT, bnF, bnU, bnV] at hc)) | (refine aN (by omega) ?_) | (refine dN (by omega) ?_))
          all_goals exact fin_le trivial (Le.tup (.cons Le.iv0 (.cons (.refl _) .nil)))
      ·
        have p1 : ¬ 0 < (Dy.int (y - e)).sign := by rw [x2]; split <;> (try split) <;> omega
        have p2 : ¬ (Dy.int (y + e)).sign < 0 := by rw [x3]; split <;> (try split) <;> omega
        rw [decide_eq_false (show ¬ y + e < 0 by omega), decide_eq_false (show ¬ e - y < 0 by omega), Bool.or_false, Bool.or_false] at hb0
        have hs2 := hs
        have hno2 := hno
        have hlh2 := hlh
        have hb2 : s = BS.of (LC l (k + 1)) := by rw [hb0]
        clear x2 x3 bad hB hb0
        generalize (Dy.int (y - e)).sign = u1 at *
        generalize (Dy.int (y + e)).sign = u2 at *
        generalize Dy.int (y - e) = z1 at *
        generalize Dy.int (y + e) = z2 at *
        repeat' (first | (simp only [go_sem, Int.reduceAdd, Int.reduceEq, Int.reduceLE, Int.reduceLT, Int.reduceMul, Int.reduceNeg, Int.reducePow, Int.reduceSub, Int.reduceToNat, Nat.reduceAdd, Nat.reduceBEq, Nat.reduceEqDiff, Nat.reduceLT, Nat.reduceLeDiff, Nat.reduceMul, Nat.reducePow, Nat.reduceSub, reduceCtorEq, reduceIte, IntKind.bits.eq_def, ti, tin, rws_length, hN, rk]) | (simp (disch := omega) only [w64, wu64, wu32, Nat.min_eq_left]) | (with_reducible first | refine cF (s1) ?_ | refine dF (s1) ?_) | (with_reducible first | refine cF (a1) ?_ | refine dF (a1) ?_) | (with_reducible first | refine cF (q1) ?_ | refine dF (q1) ?_) | (with_reducible first | refine cF (q2) ?_ | refine dF (q2) ?_) | (with_reducible first | refine cF (q3) ?_ | refine dF (q3) ?_) | (refine aL ti_ok ?_) | (refine dL ti_ok ?_) | (refine dE (by kernel_rfl) ?_) | ((first | refine cC ?_ ?_ | refine gS ?_ ?_ | refine dS ?_ ?_) <;> intro hc <;> first | (exfalso; simp only [dcT, dcF, bnT, bnF, bnU, bnV] at hc; omega) | (simp only [hc]; try simp only [dcT, dcF, bnT, bnF, bnU, bnV] at hc)) | (refine aN (by omega) ?_) | (refine dN (by omega) ?_))
        refine roundEnd_of (α := Nat × BS) (k + 1, s) ?_ ?_ ?_
        · exact ⟨by show k + 1 ≤ N; omega, hb2, hs2, hno2, hlh2⟩
        · show N - (k + 1) < N - k; omega
        · exact byWeak
    ·
      rw [if_neg (by omega), if_neg (by omega)] at x1
      rw [x1] at q1
      rw [lim_pos h0] at hb0
      clear q2 q3 x2 x3 bad hB
      generalize y + e = b' at *
      generalize y - e = a' at *
      generalize hx' : x = x' at *
      have sm2 : ∀ u1 u2 u3 u4 : Int, u1.natAbs < 2 ^ 100 → u2.natAbs < 2 ^ 100 → u3.natAbs < 2 ^ 100 → u4.natAbs < 2 ^ 100 → (BS.mk u1 u2 u3 u4 true true s.no).Sm 100 := fun _ _ _ _ h1 h2 h3 h4 => ⟨h1, h2, h3, h4⟩
      obtain ⟨ln, ld, hn, hd, hl, hh, no⟩ := s
      simp only at hno hlh sm2 hb0
      subst hno hlh
      obtain ⟨g1, g2, g3, g4⟩ := hs
      simp only at g1 g2 g3 g4
      have m1 := ref_Mul _ _ _ _ _ _ _ _ (argi ba (by omega)) (argi g2 (by omega))
      have m2 := ref_Mul _ _ _ _ _ _ _ _ (argi g1 (by omega)) (argi bx (by omega))
      have m3 := ref_Mul _ _ _ _ _ _ _ _ (argi bb (by omega)) (argi g4 (by omega))
      have m4 := ref_Mul _ _ _ _ _ _ _ _ (argi g3 (by omega)) (argi bx (by omega))
      rw [Dy.int_mul] at m1 m2 m3 m4
      have c1 := ref_Cmp _ _ _ _ _ _ _ _ (argi (natAbs_mul_lt ba g2) (by omega)) (argi (natAbs_mul_lt g1 bx) (by omega))
      have c2 := ref_Cmp _ _ _ _ _ _ _ _ (argi (natAbs_mul_lt bb g4) (by omega)) (argi (natAbs_mul_lt g3 bx) (by omega))
      have t1 := int_cmp_gt (a' * ld) (ln * x')
      have t2 := int_cmp_lt (b' * hd) (hn * x')
      cases hl
      ·
        have k1 : (BS.mk ln ld hn hd false false false).c1 a' x' := .inl rfl
        have k2 : (BS.mk ln ld hn hd false false false).c2 b' x' := .inl rfl
        rw [if_pos k1, if_pos k1, if_pos k2, if_pos k2] at hb0
        have hb2 : BS.mk a' x' b' x' true true false = BS.of (LC l (k + 1)) := hb0.symm
        have hs2 := sm2 _ _ _ _ ba bx bb bx
        have hno2 : (false : Bool) = false := rfl
        have hlh2 : (true : Bool) = true := rfl
        clear hb0 sm2 t1 t2 k1 k2
        generalize (Dy.int (a' * ld)).cmp (Dy.int (ln * x')) = u1 at *
        generalize (Dy.int (b' * hd)).cmp (Dy.int (hn * x')) = u2 at *
        generalize Dy.int (a' * ld) = w1 at *
        generalize Dy.int (ln * x') = w2 at *
        generalize Dy.int (b' * hd) = w3 at *
        generalize Dy.int (hn * x') = w4 at *
        repeat' (first | (simp only [go_sem, Int.reduceAdd, Int.reduceEq, Int.reduceLE, Int.reduceLT, Int.reduceMul, Int.reduceNeg, Int.reducePow, Int.reduceSub, Int.reduceToNat, Nat.reduceAdd, Nat.reduceBEq, Nat.reduceEqDiff, Nat.reduceLT, Nat.reduceLeDiff, Nat.reduceMul, Nat.reducePow, Nat.reduceSub, reduceCtorEq, reduceIte, IntKind.bits.eq_def, ti, tin, rws_length, hN, rk]) | (simp (disch := omega) only [w64, wu64, wu32, Nat.min_eq_left]) | (with_reducible first | refine cF (s1) ?_ | refine dF (s1) ?_) | (with_reducible first | refine cF (a1) ?_ | refine dF (a1) ?_) | (with_reducible first | refine cF (q1) ?_ | refine dF (q1) ?_) | (with_reducible first | refine cF (m1) ?_ | refine dF (m1) ?_) | (with_reducible first | refine cF (m2) ?_ | refine dF (m2) ?_) | (with_reducible first | refine cF (m3) ?_ | refine dF (m3) ?_) | (with_reducible first | refine cF (m4) ?_ | refine dF (m4) ?_) | (with_reducible first | refine cF (c1) ?_ | refine dF (c1) ?_) | (with_reducible first | refine cF (c2) ?_ | refine dF (c2) ?_) | (refine aL ti_ok ?_) | (refine dL ti_ok ?_) | (refine dE (by kernel_rfl) ?_) | ((first | refine cC ?_ ?_ | refine gS ?_ ?_ | refine dS ?_ ?_) <;> intro hc <;> first | (exfalso; simp only [dcT, dcF, bnT, bnF, bnU, bnV] at hc; omega) | (simp only [hc]; try simp only [dcT, dcF, bnT, bnF, bnU, bnV] at hc)) | (refine aN (by omega) ?_) | (refine dN (by omega) ?_))
        refine roundEnd_of (α := Nat × BS) (k + 1, BS.mk a' x' b' x' true true false) ?_ ?_ ?_
        · exact ⟨by show k + 1 ≤ N; omega, hb2, hs2, hno2, hlh2⟩
        · show N - (k + 1) < N - k; omega
        · exact byWeak
      ·
        by_cases h1 : ln * x' < a' * ld
        ·
          have r1 := t1.2 h1
          have k1 : (BS.mk ln ld hn hd true true false).c1 a' x' := .inr h1
          by_cases h2 : b' * hd < hn * x'
          ·
            have r2 := t2.2 h2
            have k2 : (BS.mk ln ld hn hd true true false).c2 b' x' := .inr h2
            rw [if_pos k1, if_pos k1, if_pos k2, if_pos k2] at hb0
            have hb2 : BS.mk a' x' b' x' true true false = BS.of (LC l (k + 1)) := hb0.symm
            have hs2 := sm2 _ _ _ _ ba bx bb bx
            have hno2 : (false : Bool) = false := rfl
            have hlh2 : (true : Bool) = true := rfl
            clear hb0 sm2 t1 t2 k1 k2
            generalize (Dy.int (a' * ld)).cmp (Dy.int (ln * x')) = u1 at *
            generalize (Dy.int (b' * hd)).cmp (Dy.int (hn * x')) = u2 at *
            generalize Dy.int (a' * ld) = w1 at *
            generalize Dy.int (ln * x') = w2 at *
            generalize Dy.int (b' * hd) = w3 at *
            generalize Dy.int (hn * x') = w4 at *
            repeat' (first | (simp only [go_sem, Int.reduceAdd, Int.reduceEq, Int.reduceLE, Int.reduceLT, Int.reduceMul, Int.reduceNeg, Int.reducePow, Int.reduceSub, Int.reduceToNat, Nat.reduceAdd, Nat.reduceBEq, Nat.reduceEqDiff, Nat.reduceLT, Nat.reduceLeDiff, Nat.reduceMul, Nat.reducePow, Nat.reduceSub, reduceCtorEq, reduceIte, IntKind.bits.eq_def, ti, tin, rws_length, hN, rk]) | (simp (disch := omega) only [w64, wu64, wu32, Nat.min_eq_left]) | (with_reducible first | refine cF (s1) ?_ | refine dF (s1) ?_) | (with_reducible first | refine cF (a1) ?_ | refine dF (a1) ?_) | (with_reducible first | refine cF (q1) ?_ | refine dF (q1) ?_) | (with_reducible first | refine cF (m1) ?_ | refine dF (m1) ?_) | (with_reducible first | refine cF (m2) ?_ | refine dF (m2) ?_) | (with_reducible first | refine cF (m3) ?_ | refine dF (m3) ?_) | (with_reducible first | refine cF (m4) ?_ | refine dF (m4) ?_) | (with_reducible first | refine cF (c1) ?_ | refine dF (c1) ?_) | (with_reducible first | refine cF (c2) ?_ | refine dF (c2) ?_) | (refine aL ti_ok ?_) | (refine dL ti_ok ?_) | (refine dE (by kernel_rfl) ?_) | ((first | refine cC ?_ ?_ | refine gS ?_ ?_ | refine dS ?_ ?_) <;> intro hc <;> first | (exfalso; simp only [dcT, dcF, bnT, bnF, bnU, bnV] at hc; omega) | (simp only [hc]; try simp only [dcT, dcF, bnT, bnF, bnU, bnV] at hc)) | (refine aN (by omega) ?_) | (refine dN (by omega) ?_))
            refine roundEnd_of (α := Nat × BS) (k + 1, BS.mk a' x' b' x' true true false) ?_ ?_ ?_
            · exact ⟨by show k + 1 ≤ N; omega, hb2, hs2, hno2, hlh2⟩
            · show N - (k + 1) < N - k; omega
            · exact byWeak
          ·
            have r2 : ¬ (Dy.int (b' * hd)).cmp (Dy.int (hn * x')) < 0 := fun h => h2 (t2.1 h)
            have k2 : ¬ (BS.mk ln ld hn hd true true false).c2 b' x' := fun h => h.elim (fun h => by cases h) h2
            rw [if_pos k1, if_pos k1, if_neg k2, if_neg k2] at hb0
            have hb2 : BS.mk a' x' hn hd true true false = BS.of (LC l (k + 1)) := hb0.symm
            have hs2 := sm2 _ _ _ _ ba bx g3 g4
            have hno2 : (false : Bool) = false := rfl
            have hlh2 : (true : Bool) = true := rfl
            clear hb0 sm2 t1 t2 k1 k2
            generalize (Dy.int (a' * ld)).cmp (Dy.int (ln * x')) = u1 at *
            generalize (Dy.int (b' * hd)).cmp (Dy.int (hn * x')) = u2 at *
            generalize Dy.int (a' * ld) = w1 at *
            generalize Dy.int (ln * x') = w2 at *
            generalize Dy.int (b' * hd) = w3 at *
            generalize Dy.int (hn * x') = w4 at *
            repeat' (first | (simp only [go_sem, Int.reduceAdd, Int.reduceEq, Int.reduceLE, Int.reduceLT, Int.reduceMul, Int.reduceNeg, Int.reducePow, Int.reduceSub, Int.reduceToNat, Nat.reduceAdd, Nat.reduceBEq, Nat.reduceEqDiff, Nat.reduceLT, Nat.reduceLeDiff, Nat.reduceMul, Nat.reducePow, Nat.reduceSub, reduceCtorEq, reduceIte, IntKind.bits.eq_def, ti, tin, rws_length, hN, rk]) | (simp (disch := omega) only [w64, wu64, wu32, Nat.min_eq_left]) | (with_reducible first | refine cF (s1) ?_ | refine dF (s1) ?_) | (with_reducible first | refine cF (a1) ?_ | refine dF (a1) ?_) | (with_reducible first | refine cF (q1) ?_ | refine dF (q1) ?_) | (with_reducible first | refine cF (m1) ?_ | refine dF (m1) ?_) | (with_reducible first | refine cF (m2) ?_ | refine dF (m2) ?_) | (with_reducible first | refine cF (m3) ?_ | refine dF (m3) ?_) | (with_reducible first | refine cF (m4) ?_ | refine dF (m4) ?_) | (with_reducible first | refine cF (c1) ?_ | refine dF (c1) ?_) | (with_reducible first | refine cF (c2) ?_ | refine dF (c2) ?_) | (refine aL ti_ok ?_) | (refine dL ti_ok ?_) | (refine dE (by kernel_rfl) ?_) | ((first | refine cC ?_ ?_ | refine gS ?_ ?_ | refine dS ?_ ?_) <;> intro hc <;> first | (exfalso; simp only [dcT, dcF, bnT, bnF, bnU, bnV] at hc; omega) | (simp only [hc]; try simp only [dcT, dcF, bnT, bnF, bnU, bnV] at hc)) | (refine aN (by omega) ?_) | (refine dN (by omega) ?_))
            refine roundEnd_of (α := Nat × BS) (k + 1, BS.mk a' x' hn hd true true false) ?_ ?_ ?_
            · exact ⟨by show k + 1 ≤ N; omega, hb2, hs2, hno2, hlh2⟩
            · show N - (k + 1) < N - k; omega
            · exact byWeak
        ·
          have r1 : ¬ 0 < (Dy.int (a' * ld)).cmp (Dy.int (ln * x')) := fun h => h1 (t1.1 h)
          have k1 : ¬ (BS.mk ln ld hn hd true true false).c1 a' x' := fun h => h.elim (fun h => by cases h) h1
          by_cases h2 : b' * hd < hn * x'
          ·
            have r2 := t2.2 h2
            have k2 : (BS.mk ln ld hn hd true true false).c2 b' x' := .inr h2
            rw [if_neg k1, if_neg k1, if_pos k2, if_pos k2] at hb0
            have hb2 : BS.mk ln ld b' x' true true false = BS.of (LC l (k + 1)) := hb0.symm
            have hs2 := sm2 _ _ _ _ g1 g2 bb bx
            have hno2 : (false : Bool) = false := rfl
            have hlh2 : (true : Bool) = true := rfl
            clear hb0 sm2 t1 t2 k1 k2
            generalize (Dy.int (a' * ld)).cmp (Dy.int (ln * x')) = u1 at *
            generalize (Dy.int (b' * hd)).cmp (Dy.int (hn * x')) = u2 at *
            generalize Dy.int (a' * ld) = w1 at *
            generalize Dy.int (ln * x') = w2 at *
            generalize Dy.int (b' * hd) = w3 at *
            generalize Dy.int (hn * x') = w4 at *
            repeat' (first | (simp only [go_sem, Int.reduceAdd, Int.reduceEq, Int.reduceLE, Int.reduceLT, Int.reduceMul, Int.reduceNeg, Int.reducePow, Int.reduceSub, Int.reduceToNat, Nat.reduceAdd, Nat.reduceBEq, Nat.reduceEqDiff, Nat.reduceLT, Nat.reduceLeDiff, Nat.reduceMul, Nat.reducePow, Nat.reduceSub, reduceCtorEq, reduceIte, IntKind.bits.eq_def, ti, tin, rws_length, hN, rk]) | (simp (disch := omega) only [w64, wu64, wu32, Nat.min_eq_left]) | (with_reducible first | refine cF (s1) ?_ | refine dF (s1) ?_) | (with_reducible first | refine cF (a1) ?_ | refine dF (a1) ?_) | (with_reducible first | refine cF (q1) ?_ | refine dF (q1) ?_) | (with_reducible first | refine cF (m1) ?_ | refine dF (m1) ?_) | (with_reducible first | refine cF (m2) ?_ | refine dF (m2) ?_) | (with_reducible first | refine cF (m3) ?_ | refine dF (m3) ?_) | (with_reducible first | refine cF (m4) ?_ | refine dF (m4) ?_) | (with_reducible first | refine cF (c1) ?_ | refine dF (c1) ?_) | (with_reducible first | refine cF (c2) ?_ | refine dF (c2) ?_) | (refine aL ti_ok ?_) | (refine dL ti_ok ?_) | (refine dE (by kernel_rfl) ?_) | ((first | refine cC ?_ ?_ | refine gS ?_ ?_ | refine dS ?_ ?_) <;> intro hc <;> first | (exfalso; simp only [dcT, dcF, bnT, bnF, bnU, bnV] at hc; omega) | (simp only [hc]; try simp only [dcT, dcF, bnT, bnF, bnU, bnV] at hc)) | (refine aN (by omega) ?_) | (refine dN (by omega) ?_))
            refine roundEnd_of (α := Nat × BS) (k + 1, BS.mk ln ld b' x' true true false) ?_ ?_ ?_
            · exact ⟨by show k + 1 ≤ N; omega, hb2, hs2, hno2, hlh2⟩
            · show N - (k + 1) < N - k; omega
            · exact byWeak
          ·
            have r2 : ¬ (Dy.int (b' * hd)).cmp (Dy.int (hn * x')) < 0 := fun h => h2 (t2.1 h)
            have k2 : ¬ (BS.mk ln ld hn hd true true false).c2 b' x' := fun h => h.elim (fun h => by cases h) h2
            rw [if_neg k1, if_neg k1, if_neg k2, if_neg k2] at hb0
            have hb2 : BS.mk ln ld hn hd true true false = BS.of (LC l (k + 1)) := hb0.symm
            have hs2 := sm2 _ _ _ _ g1 g2 g3 g4
            have hno2 : (false : Bool) = false := rfl
            have hlh2 : (true : Bool) = true := rfl
            clear hb0 sm2 t1 t2 k1 k2
            generalize (Dy.int (a' * ld)).cmp (Dy.int (ln * x')) = u1 at *
            generalize (Dy.int (b' * hd)).cmp (Dy.int (hn * x')) = u2 at *
            generalize Dy.int (a' * ld) = w1 at *
            generalize Dy.int (ln * x') = w2 at *
            generalize Dy.int (b' * hd) = w3 at *
            generalize Dy.int (hn * x') = w4 at *
            repeat' (first | (simp only [go_sem, Int.reduceAdd, Int.reduceEq, Int.reduceLE, Int.reduceLT, Int.reduceMul, Int.reduceNeg, Int.reducePow, Int.reduceSub, Int.reduceToNat, Nat.reduceAdd, Nat.reduceBEq, Nat.reduceEqDiff, Nat.reduceLT, Nat.reduceLeDiff, Nat.reduceMul, Nat.reducePow, Nat.reduceSub, reduceCtorEq, reduceIte, IntKind.bits.eq_def, ti, tin, rws_length, hN, rk]) | (simp (disch := omega) only [w64, wu64, wu32, Nat.min_eq_left]) | (with_reducible first | refine cF (s1) ?_ | refine dF (s1) ?_) | (with_reducible first | refine cF (a1) ?_ | refine dF (a1) ?_) | (with_reducible first | refine cF (q1) ?_ | refine dF (q1) ?_) | (with_reducible first | refine cF (m1) ?_ | refine dF (m1) ?_) | (with_reducible first | refine cF (m2) ?_ | refine dF (m2) ?_) | (with_reducible first | refine cF (m3) ?_ | refine dF (m3) ?_) | (with_reducible first | refine cF (m4) ?_ | refine dF (m4) ?_) | (with_reducible first | refine cF (c1) ?_ | refine dF (c1) ?_) | (with_reducible first | refine cF (c2) ?_ | refine dF (c2) ?_) | (refine aL ti_ok ?_) | (refine dL ti_ok ?_) | (refine dE (by kernel_rfl) ?_) | ((first | refine cC ?_ ?_ | refine gS ?_ ?_ | refine dS ?_ ?_) <;> intro hc <;> first | (exfalso; simp only [dcT, dcF, bnT, bnF, bnU, bnV] at hc; omega) | (simp only [hc]; try simp only [dcT, dcF, bnT, bnF, bnU, bnV] at hc)) | (refine aN (by omega) ?_) | (refine dN (by omega) ?_))
            refine roundEnd_of (α := Nat × BS) (k + 1, BS.mk ln ld hn hd true true false) ?_ ?_ ?_
            · exact ⟨by show k + 1 ≤ N; omega, hb2, hs2, hno2, hlh2⟩
            · show N - (k + 1) < N - k; omega
            · exact byWeak
  ·
    obtain rfl : k = N := by omega
    rw [← hb]
    have hk2 := BInv.of (LC l k)
    rw [← hb] at hk2
    obtain ⟨ln, ld, hn, hd, hl, hh, no⟩ := s
    simp only at hno hlh
    subst hno hlh
    obtain ⟨b1, b2, b3, b4⟩ := hs
    simp only at b1 b2 b3 b4
    cases hl
    ·
      have eo : BS.out ⟨ln, ld, hn, hd, false, false, false⟩ = .wide := by unfold BS.out; rw [if_neg (fun h => h.elim (fun h => by cases h) (fun h => by cases h.1)), if_neg (fun h => by cases h.1)]
      rw [eo]
      clear hb hk2
      repeat' (first | (simp only [go_sem, Int.reduceAdd, Int.reduceEq, Int.reduceLE, Int.reduceLT, Int.reduceMul, Int.reduceNeg, Int.reducePow, Int.reduceSub, Int.reduceToNat, Nat.reduceAdd, Nat.reduceBEq, Nat.reduceEqDiff, Nat.reduceLT, Nat.reduceLeDiff, Nat.reduceMul, Nat.reducePow, Nat.reduceSub, reduceCtorEq, reduceIte, IntKind.bits.eq_def, ti, tin, rws_length, hN]) | (simp (disch := omega) only [w64, wu64, wu32, Nat.min_eq_left]) | (refine aL ti_ok ?_) | (refine dL ti_ok ?_) | (refine dE (by kernel_rfl) ?_) | ((first | refine cC ?_ ?_ | refine gS ?_ ?_ | refine dS ?_ ?_) <;> intro hc <;> first | (exfalso; simp only [dcT, dcF, bnT, bnF, bnU, bnV] at hc; omega) | (simp only [hc]; try simp only [dcT, dcF, bnT, bnF, bnU, bnV] at hc)) | (refine aN (by omega) ?_) | (refine dN (by omega) ?_))
      all_goals exact fin_le trivial (Le.tup (.cons Le.iv0 (.cons (.refl _) .nil)))
    ·
      have m1 := ref_Mul _ _ _ _ _ _ _ _ (argi b1 (by omega)) (argi b4 (by omega))
      have m2 := ref_Mul _ _ _ _ _ _ _ _ (argi b3 (by omega)) (argi b2 (by omega))
      rw [Dy.int_mul] at m1 m2
      have c3 := ref_Cmp _ _ _ _ _ _ _ _ (argi (natAbs_mul_lt b1 b4) (by omega)) (argi (natAbs_mul_lt b3 b2) (by omega))
      have gt := int_cmp_gt (ln * hd) (hn * ld)
      by_cases hlt : hn * ld < ln * hd
      ·
        have eo : BS.out ⟨ln, ld, hn, hd, true, true, false⟩ = .bad := if_pos (.inr ⟨rfl, rfl, hlt⟩)
        have g2 := gt.2 hlt
        rw [eo]
        clear hb hk2 gt b1 b2 b3 b4
        generalize (Dy.int (ln * hd)).cmp (Dy.int (hn * ld)) = u1 at *
        generalize Dy.int (ln * hd) = w1 at *
        generalize Dy.int (hn * ld) = w2 at *
        repeat' (first | (simp only [go_sem, Int.reduceAdd, Int.reduceEq, Int.reduceLE, Int.reduceLT, Int.reduceMul, Int.reduceNeg, Int.reducePow, Int.reduceSub, Int.reduceToNat, Nat.reduceAdd, Nat.reduceBEq, Nat.reduceEqDiff, Nat.reduceLT, Nat.reduceLeDiff, Nat.reduceMul, Nat.reducePow, Nat.reduceSub, reduceCtorEq, reduceIte, IntKind.bits.eq_def, ti, tin, rws_length, hN]) | (simp (disch := omega) only [w64, wu64, wu32, Nat.min_eq_left]) | (with_reducible first | refine cF (m1) ?_ | refine dF (m1) ?_) | (with_reducible first | refine cF (m2) ?_ | refine dF (m2) ?_) | (with_reducible first | refine cF (c3) ?_ | refine dF (c3) ?_) | (refine aL ti_ok ?_) | (refine dL ti_ok ?_) | (refine dE (by kernel_rfl) ?_) | ((first | refine cC ?_ ?_ | refine gS ?_ ?_ | refine dS ?_ ?_) <;> intro hc <;> first | (exfalso; simp only [dcT, dcF, bnT, bnF, bnU, bnV] at hc; omega) | (simp only [hc]; try simp only [dcT, dcF, bnT, bnF, bnU, bnV] at hc)) | (refine aN (by omega) ?_) | (refine dN (by omega) ?_))
        all_goals exact fin_le trivial (Le.tup (.cons Le.iv0 (.cons (.refl _) .nil)))
      ·
        have eo : BS.out ⟨ln, ld, hn, hd, true, true, false⟩ = .iv ln ld hn hd := by unfold BS.out; rw [if_neg (fun h => h.elim (fun h => by cases h) (fun h => hlt h.2.2)), if_pos ⟨rfl, rfl⟩]
        have g2 : ¬ 0 < (Dy.int (ln * hd)).cmp (Dy.int (hn * ld)) := fun h => hlt (gt.1 h)
        have pl := (hk2.lo rfl).1
        have ph := (hk2.hi rfl).1
        simp only at pl ph
        have n1 := ref_Neg _ _ _ _ (argi b3 (by omega))
        rw [Dy.int_neg] at n1
        have f1 := ref_Quo _ _ _ _ _ _ 16 (by omega) _ _ (argi b1 (by omega)) (argi b2 (by omega)) (show (Dy.int ld).n ≠ 0 by show ld ≠ 0; omega)
        have f2 := ref_Quo _ _ _ _ _ _ 16 (by omega) _ _ (argi (n := -hn) (m := 100) (by rw [Int.natAbs_neg]; exact b3) (by omega)) (argi b4 (by omega)) (show (Dy.int hd).n ≠ 0 by show hd ≠ 0; omega)
        rw [r49_v16] at f1 f2
        have n2 := ref_Neg _ _ _ _ (Arg.of (mg_qd (n := -hn) (d := hd) (m := 100) (by rw [Int.natAbs_neg]; exact b3) (by omega)) (by omega))
        change CallOK _ _ _ _ (.tup [.agg [.v (.bool (sg (qd ln ld))), .sl 1 (u32s (ms (qd ln ld))), .v (.int .i64 (dn (qd ln ld)))], _]) at f1
        change CallOK _ _ _ _ (.tup [.agg [.v (.bool (sg (qd (-hn) hd))), .sl 1 (u32s (ms (qd (-hn) hd))), .v (.int .i64 (dn (qd (-hn) hd)))], _]) at f2
        rw [eo]
        simp only [Out.lo, Out.hi, Out.err]
        clear hb hk2 gt b1 b2 b3 b4 hlt eo
        generalize (qd (-hn) hd).neg = w3 at *
        generalize qd (-hn) hd = w4 at *
        generalize qd ln ld = w5 at *
        generalize (Dy.int (ln * hd)).cmp (Dy.int (hn * ld)) = u1 at *
        generalize Dy.int (ln * hd) = w1 at *
        generalize Dy.int (hn * ld) = w2 at *
        generalize Dy.int (-hn) = w6 at *
        repeat' (first | (simp only [go_sem, Int.reduceAdd, Int.reduceEq, Int.reduceLE, Int.reduceLT, Int.reduceMul, Int.reduceNeg, Int.reducePow, Int.reduceSub, Int.reduceToNat, Nat.reduceAdd, Nat.reduceBEq, Nat.reduceEqDiff, Nat.reduceLT, Nat.reduceLeDiff, Nat.reduceMul, Nat.reducePow, Nat.reduceSub, reduceCtorEq, reduceIte, IntKind.bits.eq_def, ti, tin, rws_length, hN]) | (simp (disch := omega) only [w64, wu64, wu32, Nat.min_eq_left]) | (with_reducible first | refine cF (m1) ?_ | refine dF (m1) ?_) | (with_reducible first | refine cF (m2) ?_ | refine dF (m2) ?_) | (with_reducible first | refine cF (c3) ?_ | refine dF (c3) ?_) | (with_reducible first | refine cF (n1) ?_ | refine dF (n1) ?_) | (with_reducible first | refine cF (f1) ?_ | refine dF (f1) ?_) | (with_reducible first | refine cF (f2) ?_ | refine dF (f2) ?_) | (with_reducible first | refine cF (n2) ?_ | refine dF (n2) ?_) | (refine aL ti_ok ?_) | (refine dL ti_ok ?_) | (refine dE (by kernel_rfl) ?_) | ((first | refine cC ?_ ?_ | refine gS ?_ ?_ | refine dS ?_ ?_) <;> intro hc <;> first | (exfalso; simp only [dcT, dcF, bnT, bnF, bnU, bnV] at hc; omega) | (simp only [hc]; try simp only [dcT, dcF, bnT, bnF, bnU, bnV] at hc)) | (refine aN (by omega) ?_) | (refine dN (by omega) ?_))
        all_goals exact fin_same trivial rfl
end Go.Proofs.YtkdpaoicekgalaaGreatDoor
