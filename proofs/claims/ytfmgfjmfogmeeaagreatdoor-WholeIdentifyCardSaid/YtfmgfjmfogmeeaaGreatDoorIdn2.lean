/- Layer 49 (identify): quotients, conditions. -/
import Derived.Test.YtfmgfjmfogmeeaaGreatDoorNum
import Derived.Test.YtfmgfjmfogmeeaaGreatDoorIv3
import Derived.Test.YtfmgfjmfogmeeaaGreatDoorU4
set_option linter.unusedSimpArgs false
set_option linter.unusedVariables false
set_option linter.deprecated false
namespace Go.Proofs.YtfmgfjmfogmeeaaGreatDoor
open Go Go.Ax
set_option maxRecDepth 100000
set_option maxHeartbeats 4000000
theorem i16 : ((16 : Nat) : Int) = 16 := rfl
theorem argi {n : Int} {m : Nat} (h : n.natAbs < 2 ^ m) (hm : m ≤ 1000) : Arg (sg (Dy.int n)) (ms (Dy.int n)) (dn (Dy.int n)) (Dy.int n) := Arg.of (Mg.int h) (by omega)
theorem natAbs_mul_lt {a b : Int} {m : Nat} (ha : a.natAbs < 2 ^ m) (hb : b.natAbs < 2 ^ m) : (a * b).natAbs < 2 ^ (m + m) := by
  rw [Int.natAbs_mul, Nat.pow_add]; exact Nat.mul_lt_mul'' ha hb
theorem id_less (a b c d : Int) (m : Nat) (ha : a.natAbs < 2 ^ m) (hb : b.natAbs < 2 ^ m) (hc : c.natAbs < 2 ^ m) (hd : d.natAbs < 2 ^ m) (hm : m ≤ 400) : CallOK Tryz.prog gl 145 [.agg [.v (.bool (sg (Dy.int a))), .sl 1 (u32s (ms (Dy.int a))), .v (.int .i64 (dn (Dy.int a))), .v (.bool (sg (Dy.int b))), .sl 1 (u32s (ms (Dy.int b))), .v (.int .i64 (dn (Dy.int b)))], .agg [.v (.bool (sg (Dy.int c))), .sl 1 (u32s (ms (Dy.int c))), .v (.int .i64 (dn (Dy.int c))), .v (.bool (sg (Dy.int d))), .sl 1 (u32s (ms (Dy.int d))), .v (.int .i64 (dn (Dy.int d)))]] (.v (.bool ((decide (a * d < c * b))))) := by
  refine call_ok (C := ⟨Tryz.prog, gl, ti, 17, false⟩) ti_ok mixed 3000 Tryz.call145 Tryz.func145 rfl Tryz.ntmps145 (by simp) byClL byCl ?_
  rw [Tryz.results145]
  have p1 := Mul_ok _ _ _ _ _ _ _ _ (argi ha (by omega)) (argi hd (by omega))
  have p2 := Mul_ok _ _ _ _ _ _ _ _ (argi hc (by omega)) (argi hb (by omega))
  rw [Dy.int_mul] at p1 p2
  have p3 := Cmp_ok _ _ _ _ _ _ _ _ (argi (natAbs_mul_lt ha hd) (by omega)) (argi (natAbs_mul_lt hc hb) (by omega))
  have e := int_cmp_lt (a * d) (c * b)
  simp only [← e]
  clear e ha hb hc hd
  generalize (Dy.int (a * d)).cmp (Dy.int (c * b)) = n at *
  generalize Dy.int (a * d) = z1 at *
  generalize Dy.int (c * b) = z2 at *
  generalize Dy.int a = z3 at *
  generalize Dy.int b = z4 at *
  generalize Dy.int c = z5 at *
  generalize Dy.int d = z6 at *
  repeat' (first | (simp only [go_sem, seval, IntKind.bits.eq_def, ti, tin]) | (simp (disch := omega) only [wA]) | (with_reducible first | refine cF p1 ?_ | refine dF p1 ?_ | refine cF p2 ?_ | refine dF p2 ?_ | refine cF p3 ?_ | refine dF p3 ?_) | refine aL ti_ok ?_ | refine dL ti_ok ?_ | refine dG ?_ | ((first | refine cC ?_ ?_ | refine gS ?_ ?_ | refine dS ?_ ?_) <;> intro hc <;> first | (exfalso; simp only [dcA] at hc; omega) | (simp only [hc]; try simp only [dcA] at hc)) | refine aO ?_ | refine dO ?_)
  exact fin_same trivial rfl
theorem id_floor (n d : Int) (m : Nat) (hn : n.natAbs < 2 ^ m) (hd : d.natAbs < 2 ^ m) (hm : m ≤ 1000) (h0 : d ≠ 0) : CallOK Tryz.prog gl 146 [.agg [.v (.bool (sg (Dy.int n))), .sl 1 (u32s (ms (Dy.int n))), .v (.int .i64 (dn (Dy.int n))), .v (.bool (sg (Dy.int d))), .sl 1 (u32s (ms (Dy.int d))), .v (.int .i64 (dn (Dy.int d)))]] (.agg [.v (.bool (sg (qd n d))), .sl 1 (u32s (ms (qd n d))), .v (.int .i64 (dn (qd n d)))]) := by
  refine call_ok (C := ⟨Tryz.prog, gl, ti, 14, false⟩) ti_ok mixed 3000 Tryz.call146 Tryz.func146 rfl Tryz.ntmps146 (by simp) byClL byCl ?_
  rw [Tryz.results146]
  have p1 := Quo_ok _ _ _ _ _ _ 16 (by omega) _ _ (argi hn hm) (argi hd hm) h0
  rw [i16] at p1
  change CallOK _ _ _ _ (.tup [.agg [.v (.bool (sg (qd n d))), .sl 1 (u32s (ms (qd n d))), .v (.int .i64 (dn (qd n d)))], _]) at p1
  clear hn hd
  generalize qd n d = z1 at *
  generalize Dy.int n = z3 at *
  generalize Dy.int d = z4 at *
  repeat' (first | (simp only [go_sem, seval, IntKind.bits.eq_def, ti, tin]) | (simp (disch := omega) only [wA]) | (with_reducible first | refine cF p1 ?_ | refine dF p1 ?_) | refine aL ti_ok ?_ | refine dL ti_ok ?_ | refine dG ?_ | ((first | refine cC ?_ ?_ | refine gS ?_ ?_ | refine dS ?_ ?_) <;> intro hc <;> first | (exfalso; simp only [dcA] at hc; omega) | (simp only [hc]; try simp only [dcA] at hc)) | refine aO ?_ | refine dO ?_)
  exact fin_same trivial rfl
theorem addZ (ln ld hn hd c : Int) (hl hh no : Bool) : (BS.mk ln ld hn hd hl hh no).add 0 c = ⟨ln, ld, hn, hd, hl, hh, no || decide (c < 0)⟩ := if_pos rfl
theorem addP1 {ln ld hn hd k c : Int} {hl hh no : Bool} (hk : 0 < k) (h : hh = false ∨ c * hd < hn * k) : (BS.mk ln ld hn hd hl hh no).add k c = ⟨ln, ld, c, k, hl, true, no⟩ := by
  unfold BS.add; rw [if_neg (by omega), if_pos hk, if_pos h]
theorem addP2 {ln ld hn hd k c : Int} {hl hh no : Bool} (hk : 0 < k) (h : ¬ (hh = false ∨ c * hd < hn * k)) : (BS.mk ln ld hn hd hl hh no).add k c = ⟨ln, ld, hn, hd, hl, hh, no⟩ := by
  unfold BS.add; rw [if_neg (by omega), if_pos hk, if_neg h]
theorem addN1 {ln ld hn hd k c : Int} {hl hh no : Bool} (hk : k < 0) (h : hl = false ∨ ln * -k < -c * ld) : (BS.mk ln ld hn hd hl hh no).add k c = ⟨-c, -k, hn, hd, true, hh, no⟩ := by
  unfold BS.add; rw [if_neg (by omega), if_neg (by omega), if_pos h]
theorem addN2 {ln ld hn hd k c : Int} {hl hh no : Bool} (hk : k < 0) (h : ¬ (hl = false ∨ ln * -k < -c * ld)) : (BS.mk ln ld hn hd hl hh no).add k c = ⟨ln, ld, hn, hd, hl, hh, no⟩ := by
  unfold BS.add; rw [if_neg (by omega), if_neg (by omega), if_neg h]
theorem id_add (ln ld hn hd : Int) (hl hh no : Bool) (k c : Int) (hb : (BS.mk ln ld hn hd hl hh no).Sm 200) (hk : k.natAbs < 2 ^ 200) (hc0 : c.natAbs < 2 ^ 200) : CallW Tryz.prog gl 141 [.p 0 15 0 0, .agg [.v (.bool (sg (Dy.int k))), .sl 1 (u32s (ms (Dy.int k))), .v (.int .i64 (dn (Dy.int k)))], .agg [.v (.bool (sg (Dy.int c))), .sl 1 (u32s (ms (Dy.int c))), .v (.int .i64 (dn (Dy.int c)))]] ⟨15, [[.v (.bool (sg (Dy.int ln))), .sl 1 (u32s (ms (Dy.int ln))), .v (.int .i64 (dn (Dy.int ln))), .v (.bool (sg (Dy.int ld))), .sl 1 (u32s (ms (Dy.int ld))), .v (.int .i64 (dn (Dy.int ld))), .v (.bool (sg (Dy.int hn))), .sl 1 (u32s (ms (Dy.int hn))), .v (.int .i64 (dn (Dy.int hn))), .v (.bool (sg (Dy.int hd))), .sl 1 (u32s (ms (Dy.int hd))), .v (.int .i64 (dn (Dy.int hd))), .v (.bool hl), .v (.bool hh), .v (.bool no)]]⟩ (.tup []) ⟨15, [[.v (.bool (sg (Dy.int ((BS.mk ln ld hn hd hl hh no).add k c).ln))), .sl 1 (u32s (ms (Dy.int ((BS.mk ln ld hn hd hl hh no).add k c).ln))), .v (.int .i64 (dn (Dy.int ((BS.mk ln ld hn hd hl hh no).add k c).ln))), .v (.bool (sg (Dy.int ((BS.mk ln ld hn hd hl hh no).add k c).ld))), .sl 1 (u32s (ms (Dy.int ((BS.mk ln ld hn hd hl hh no).add k c).ld))), .v (.int .i64 (dn (Dy.int ((BS.mk ln ld hn hd hl hh no).add k c).ld))), .v (.bool (sg (Dy.int ((BS.mk ln ld hn hd hl hh no).add k c).hn))), .sl 1 (u32s (ms (Dy.int ((BS.mk ln ld hn hd hl hh no).add k c).hn))), .v (.int .i64 (dn (Dy.int ((BS.mk ln ld hn hd hl hh no).add k c).hn))), .v (.bool (sg (Dy.int ((BS.mk ln ld hn hd hl hh no).add k c).hd))), .sl 1 (u32s (ms (Dy.int ((BS.mk ln ld hn hd hl hh no).add k c).hd))), .v (.int .i64 (dn (Dy.int ((BS.mk ln ld hn hd hl hh no).add k c).hd))), .v (.bool ((BS.mk ln ld hn hd hl hh no).add k c).hl), .v (.bool ((BS.mk ln ld hn hd hl hh no).add k c).hh), .v (.bool ((BS.mk ln ld hn hd hl hh no).add k c).no)]]⟩ := by
  refine call_w (C := ⟨Tryz.prog, gl, ti, 74, true⟩) ti_ok mixed rfl 3000 Tryz.call141 Tryz.func141 rfl Tryz.ntmps141 (by simp) byCl byClMx ?_
  rw [Tryz.results141]
  have q1 := Sign_ok _ _ _ _ (argi hk (by omega))
  have q2 := Sign_ok _ _ _ _ (argi hc0 (by omega))
  have n1 := Neg_ok _ _ _ _ (argi hk (by omega))
  have n2 := Neg_ok _ _ _ _ (argi hc0 (by omega))
  rw [Dy.int_neg] at n1 n2
  have s1 : (Dy.int k).sign = if k < 0 then -1 else if k = 0 then 0 else 1 := rfl
  have s2 : (Dy.int c).sign = if c < 0 then -1 else if c = 0 then 0 else 1 := rfl
  obtain ⟨b1, b2, b3, b4⟩ := hb
  simp only at b1 b2 b3 b4
  have l1 := id_less c k hn hd 200 hc0 hk b3 b4 (by omega)
  have l2 := id_less ln ld (-c) (-k) 200 b1 b2 (by rw [Int.natAbs_neg]; exact hc0) (by rw [Int.natAbs_neg]; exact hk) (by omega)
  rcases Int.lt_trichotomy k 0 with h0 | h0 | h0
  · rw [if_pos h0] at s1
    rw [s1] at q1
    clear q2 s2 l1 b1 b2 b3 b4 hk hc0
    cases hl
    · rw [addN1 h0 (.inl rfl)]
      generalize Dy.int ln = z1 at *
      generalize Dy.int ld = z2 at *
      generalize Dy.int hn = z3 at *
      generalize Dy.int hd = z4 at *
      generalize Dy.int (-c) = z5 at *
      generalize Dy.int (-k) = z6 at *
      generalize Dy.int c = z7 at *
      generalize Dy.int k = z8 at *
      repeat' (first | (simp only [go_sem, seval, IntKind.bits.eq_def, ti, tin]) | (simp (disch := omega) only [wA]) | (with_reducible first | refine cF q1 ?_ | refine dF q1 ?_ | refine cF n1 ?_ | refine dF n1 ?_ | refine cF n2 ?_ | refine dF n2 ?_ | refine cF l2 ?_ | refine dF l2 ?_) | refine aL ti_ok ?_ | refine dL ti_ok ?_ | refine dG ?_ | ((first | refine cC ?_ ?_ | refine gS ?_ ?_ | refine dS ?_ ?_) <;> intro hc <;> first | (exfalso; simp only [dcA] at hc; omega) | (simp only [hc]; try simp only [dcA] at hc)) | refine aO ?_ | refine dO ?_)
      all_goals exact finW_same trivial rfl (MLe.refl _)
    · by_cases hlt : ln * -k < -c * ld
      · rw [decide_eq_true hlt] at l2
        rw [addN1 h0 (.inr hlt)]
        generalize Dy.int ln = z1 at *
        generalize Dy.int ld = z2 at *
        generalize Dy.int hn = z3 at *
        generalize Dy.int hd = z4 at *
        generalize Dy.int (-c) = z5 at *
        generalize Dy.int (-k) = z6 at *
        generalize Dy.int c = z7 at *
        generalize Dy.int k = z8 at *
        repeat' (first | (simp only [go_sem, seval, IntKind.bits.eq_def, ti, tin]) | (simp (disch := omega) only [wA]) | (with_reducible first | refine cF q1 ?_ | refine dF q1 ?_ | refine cF n1 ?_ | refine dF n1 ?_ | refine cF n2 ?_ | refine dF n2 ?_ | refine cF l2 ?_ | refine dF l2 ?_) | refine aL ti_ok ?_ | refine dL ti_ok ?_ | refine dG ?_ | ((first | refine cC ?_ ?_ | refine gS ?_ ?_ | refine dS ?_ ?_) <;> intro hc <;> first | (exfalso; simp only [dcA] at hc; omega) | (simp only [hc]; try simp only [dcA] at hc)) | refine aO ?_ | refine dO ?_)
        all_goals exact finW_same trivial rfl (MLe.refl _)
      · rw [decide_eq_false hlt] at l2
        rw [addN2 h0 (fun h => h.elim (fun h => by cases h) hlt)]
        generalize Dy.int ln = z1 at *
        generalize Dy.int ld = z2 at *
        generalize Dy.int hn = z3 at *
        generalize Dy.int hd = z4 at *
        generalize Dy.int (-c) = z5 at *
        generalize Dy.int (-k) = z6 at *
        generalize Dy.int c = z7 at *
        generalize Dy.int k = z8 at *
        repeat' (first | (simp only [go_sem, seval, IntKind.bits.eq_def, ti, tin]) | (simp (disch := omega) only [wA]) | (with_reducible first | refine cF q1 ?_ | refine dF q1 ?_ | refine cF n1 ?_ | refine dF n1 ?_ | refine cF n2 ?_ | refine dF n2 ?_ | refine cF l2 ?_ | refine dF l2 ?_) | refine aL ti_ok ?_ | refine dL ti_ok ?_ | refine dG ?_ | ((first | refine cC ?_ ?_ | refine gS ?_ ?_ | refine dS ?_ ?_) <;> intro hc <;> first | (exfalso; simp only [dcA] at hc; omega) | (simp only [hc]; try simp only [dcA] at hc)) | refine aO ?_ | refine dO ?_)
        all_goals exact finW_same trivial rfl (MLe.refl _)
  · subst h0
    rw [if_neg (by omega), if_pos rfl] at s1
    rw [s1] at q1
    rw [addZ]
    clear l1 l2 n1 n2 b1 b2 b3 b4 hk hc0
    by_cases hc1 : c < 0
    · rw [if_pos hc1] at s2
      rw [s2] at q2
      rw [decide_eq_true hc1]
      generalize Dy.int ln = z1 at *
      generalize Dy.int ld = z2 at *
      generalize Dy.int hn = z3 at *
      generalize Dy.int hd = z4 at *
      generalize Dy.int c = z7 at *
      generalize Dy.int 0 = z8 at *
      cases no
      ·
        repeat' (first | (simp only [go_sem, seval, IntKind.bits.eq_def, ti, tin]) | (simp (disch := omega) only [wA]) | (with_reducible first | refine cF q1 ?_ | refine dF q1 ?_ | refine cF q2 ?_ | refine dF q2 ?_) | refine aL ti_ok ?_ | refine dL ti_ok ?_ | refine dG ?_ | ((first | refine cC ?_ ?_ | refine gS ?_ ?_ | refine dS ?_ ?_) <;> intro hc <;> first | (exfalso; simp only [dcA] at hc; omega) | (simp only [hc]; try simp only [dcA] at hc)) | refine aO ?_ | refine dO ?_)
        all_goals exact finW_same trivial rfl (MLe.refl _)
      ·
        repeat' (first | (simp only [go_sem, seval, IntKind.bits.eq_def, ti, tin]) | (simp (disch := omega) only [wA]) | (with_reducible first | refine cF q1 ?_ | refine dF q1 ?_ | refine cF q2 ?_ | refine dF q2 ?_) | refine aL ti_ok ?_ | refine dL ti_ok ?_ | refine dG ?_ | ((first | refine cC ?_ ?_ | refine gS ?_ ?_ | refine dS ?_ ?_) <;> intro hc <;> first | (exfalso; simp only [dcA] at hc; omega) | (simp only [hc]; try simp only [dcA] at hc)) | refine aO ?_ | refine dO ?_)
        all_goals exact finW_same trivial rfl (MLe.refl _)
    · have k2 : ¬ (Dy.int c).sign < 0 := by rw [s2, if_neg hc1]; split <;> omega
      clear s2
      rw [decide_eq_false hc1]
      have dk : decide ((Dy.int c).sign < 0) = false := decide_eq_false k2
      generalize (Dy.int c).sign = sc at *
      generalize Dy.int ln = z1 at *
      generalize Dy.int ld = z2 at *
      generalize Dy.int hn = z3 at *
      generalize Dy.int hd = z4 at *
      generalize Dy.int c = z7 at *
      generalize Dy.int 0 = z8 at *
      cases no
      ·
        repeat' (first | (simp only [go_sem, seval, IntKind.bits.eq_def, ti, tin, dk]) | (simp (disch := omega) only [wA]) | (with_reducible first | refine cF q1 ?_ | refine dF q1 ?_ | refine cF q2 ?_ | refine dF q2 ?_) | refine aL ti_ok ?_ | refine dL ti_ok ?_ | refine dG ?_ | ((first | refine cC ?_ ?_ | refine gS ?_ ?_ | refine dS ?_ ?_) <;> intro hc <;> first | (exfalso; simp only [dcA] at hc; omega) | (simp only [hc]; try simp only [dcA] at hc)) | refine aO ?_ | refine dO ?_)
        all_goals exact finW_same trivial rfl (MLe.refl _)
      ·
        repeat' (first | (simp only [go_sem, seval, IntKind.bits.eq_def, ti, tin, dk]) | (simp (disch := omega) only [wA]) | (with_reducible first | refine cF q1 ?_ | refine dF q1 ?_ | refine cF q2 ?_ | refine dF q2 ?_) | refine aL ti_ok ?_ | refine dL ti_ok ?_ | refine dG ?_ | ((first | refine cC ?_ ?_ | refine gS ?_ ?_ | refine dS ?_ ?_) <;> intro hc <;> first | (exfalso; simp only [dcA] at hc; omega) | (simp only [hc]; try simp only [dcA] at hc)) | refine aO ?_ | refine dO ?_)
        all_goals exact finW_same trivial rfl (MLe.refl _)
  · rw [if_neg (by omega), if_neg (by omega)] at s1
    rw [s1] at q1
    clear q2 s2 l2 n1 n2 b1 b2 b3 b4 hk hc0
    cases hh
    · rw [addP1 h0 (.inl rfl)]
      generalize Dy.int ln = z1 at *
      generalize Dy.int ld = z2 at *
      generalize Dy.int hn = z3 at *
      generalize Dy.int hd = z4 at *
      generalize Dy.int c = z7 at *
      generalize Dy.int k = z8 at *
      repeat' (first | (simp only [go_sem, seval, IntKind.bits.eq_def, ti, tin]) | (simp (disch := omega) only [wA]) | (with_reducible first | refine cF q1 ?_ | refine dF q1 ?_ | refine cF l1 ?_ | refine dF l1 ?_) | refine aL ti_ok ?_ | refine dL ti_ok ?_ | refine dG ?_ | ((first | refine cC ?_ ?_ | refine gS ?_ ?_ | refine dS ?_ ?_) <;> intro hc <;> first | (exfalso; simp only [dcA] at hc; omega) | (simp only [hc]; try simp only [dcA] at hc)) | refine aO ?_ | refine dO ?_)
      all_goals exact finW_same trivial rfl (MLe.refl _)
    · by_cases hlt : c * hd < hn * k
      · rw [decide_eq_true hlt] at l1
        rw [addP1 h0 (.inr hlt)]
        generalize Dy.int ln = z1 at *
        generalize Dy.int ld = z2 at *
        generalize Dy.int hn = z3 at *
        generalize Dy.int hd = z4 at *
        generalize Dy.int c = z7 at *
        generalize Dy.int k = z8 at *
        repeat' (first | (simp only [go_sem, seval, IntKind.bits.eq_def, ti, tin]) | (simp (disch := omega) only [wA]) | (with_reducible first | refine cF q1 ?_ | refine dF q1 ?_ | refine cF l1 ?_ | refine dF l1 ?_) | refine aL ti_ok ?_ | refine dL ti_ok ?_ | refine dG ?_ | ((first | refine cC ?_ ?_ | refine gS ?_ ?_ | refine dS ?_ ?_) <;> intro hc <;> first | (exfalso; simp only [dcA] at hc; omega) | (simp only [hc]; try simp only [dcA] at hc)) | refine aO ?_ | refine dO ?_)
        all_goals exact finW_same trivial rfl (MLe.refl _)
      · rw [decide_eq_false hlt] at l1
        rw [addP2 h0 (fun h => h.elim (fun h => by cases h) hlt)]
        generalize Dy.int ln = z1 at *
        generalize Dy.int ld = z2 at *
        generalize Dy.int hn = z3 at *
        generalize Dy.int hd = z4 at *
        generalize Dy.int c = z7 at *
        generalize Dy.int k = z8 at *
        repeat' (first | (simp only [go_sem, seval, IntKind.bits.eq_def, ti, tin]) | (simp (disch := omega) only [wA]) | (with_reducible first | refine cF q1 ?_ | refine dF q1 ?_ | refine cF l1 ?_ | refine dF l1 ?_) | refine aL ti_ok ?_ | refine dL ti_ok ?_ | refine dG ?_ | ((first | refine cC ?_ ?_ | refine gS ?_ ?_ | refine dS ?_ ?_) <;> intro hc <;> first | (exfalso; simp only [dcA] at hc; omega) | (simp only [hc]; try simp only [dcA] at hc)) | refine aO ?_ | refine dO ?_)
        all_goals exact finW_same trivial rfl (MLe.refl _)
theorem id_join (p q xa xb xc ya yb yc : Int) (hp : p.natAbs < 2 ^ 60) (hq : q.natAbs < 2 ^ 60) (hx : xb.natAbs < 2 ^ 60) (hy : yb.natAbs < 2 ^ 60) : CallOK Tryz.prog gl 142 [.v (.int .i64 p), .v (.int .i64 q), .rp [.v (.int .i64 xa), .v (.int .i64 xb), .v (.int .i64 xc)], .rp [.v (.int .i64 ya), .v (.int .i64 yb), .v (.int .i64 yc)]] (.agg [.v (.bool (sg (Dy.int (q * xb - p * yb)))), .sl 1 (u32s (ms (Dy.int (q * xb - p * yb)))), .v (.int .i64 (dn (Dy.int (q * xb - p * yb))))]) := by
  refine call_ok (C := ⟨Tryz.prog, gl, ti, 20, false⟩) ti_ok mixed 3000 Tryz.call142 Tryz.func142 rfl Tryz.ntmps142 (by simp) byClL byCl ?_
  rw [Tryz.results142]
  have e60 : (2 : Nat) ^ 60 = 1152921504606846976 := by decide
  have o1 := Of_ok p (by omega)
  have o2 := Of_ok q (by omega)
  have o3 := Of_ok xb (by omega)
  have o4 := Of_ok yb (by omega)
  have m1 := Mul_ok _ _ _ _ _ _ _ _ (argi hq (by omega)) (argi hx (by omega))
  have m2 := Mul_ok _ _ _ _ _ _ _ _ (argi hp (by omega)) (argi hy (by omega))
  rw [Dy.int_mul] at m1 m2
  have s1 := Sub_ok _ _ _ _ _ _ _ _ (argi (natAbs_mul_lt hq hx) (by omega)) (argi (natAbs_mul_lt hp hy) (by omega))
  rw [Dy.int_sub] at s1
  clear hp hq hx hy
  generalize Dy.int (q * xb - p * yb) = z1 at *
  generalize Dy.int (q * xb) = z2 at *
  generalize Dy.int (p * yb) = z3 at *
  generalize Dy.int p = z4 at *
  generalize Dy.int q = z5 at *
  generalize Dy.int xb = z6 at *
  generalize Dy.int yb = z7 at *
  repeat' (first | (simp only [go_sem, seval, IntKind.bits.eq_def, ti, tin]) | (simp (disch := omega) only [wA]) | (with_reducible first | refine cF o1 ?_ | refine dF o1 ?_ | refine cF o2 ?_ | refine dF o2 ?_ | refine cF o3 ?_ | refine dF o3 ?_ | refine cF o4 ?_ | refine dF o4 ?_ | refine cF m1 ?_ | refine dF m1 ?_ | refine cF m2 ?_ | refine dF m2 ?_ | refine cF s1 ?_ | refine dF s1 ?_) | refine aL ti_ok ?_ | refine dL ti_ok ?_ | refine dG ?_ | ((first | refine cC ?_ ?_ | refine gS ?_ ?_ | refine dS ?_ ?_) <;> intro hc <;> first | (exfalso; simp only [dcA] at hc; omega) | (simp only [hc]; try simp only [dcA] at hc)) | refine aO ?_ | refine dO ?_)
  exact fin_same trivial rfl
end Go.Proofs.YtfmgfjmfogmeeaaGreatDoor
