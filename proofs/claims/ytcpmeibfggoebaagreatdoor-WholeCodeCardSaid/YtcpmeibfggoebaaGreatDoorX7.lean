/- What the functions that the statement reaches compute. -/
import Derived.Test.YtcpmeibfggoebaaGreatDoorX6
import Derived.Test.YtcpmeibfggoebaaGreatDoorV4
import Derived.Test.YtcpmeibfggoebaaGreatDoorX5
import Derived.Test.YtcpmeibfggoebaaGreatDoorX2
import Derived.Tactics
import Derived.Tactics2
import Derived.Defers
import Derived.Recover
import Derived.Laws.Pointers
set_option linter.unusedSimpArgs false
set_option linter.unusedVariables false
set_option linter.deprecated false
namespace Go.Proofs.YtcpmeibfggoebaaGreatDoor
open Go Go.Ax
set_option maxRecDepth 100000
set_option maxHeartbeats 8000000
def cpS6 (ins : List (Int × Int × Int)) (bs : List Blk) (outs fr D C I2 : List Int) (L : List Ins) (n nP nC m l0 k : Nat) : AS := ⟨[(1, .sl 1 (rws zad fr)), (2, .p 0 3 0 0), (4, .p 1 4 0 0), (11, .p 9 4 0 0), (14, .ps 16 1 0 n), (15, .ps 20 1 0 m), (413, .ps 20 1 0 m), (414, .v (.int .i64 m)), (415, .v (.int .i64 k))], [(0, ⟨3, [[.sl 3 (rws zaD ins), .sl 6 (rws zao bs), .sl 1 (rws zad outs)]]⟩), (1, ⟨4, [[.v (.slice none 0 0), .v (.slice none 0 0), .v (.slice none 0 0), .v (.slice none 0 0)]]⟩), (9, ⟨4, [[.ps 5 3 0 nP, .ps 7 1 0 nC, .ps 22 7 0 (l0 + k), .v (.slice none 0 0)]]⟩), (5, ⟨3, rws zaD ins⟩), (7, ⟨1, rws zad I2⟩), (16, ⟨1, rws zad C⟩), (20, ⟨1, rws zad D⟩), (22, ⟨7, rws zbn (za9 L (mv1 bs fr C D) k)⟩)], 23⟩
theorem cp_L6 {q : Nat} {s : AS} {r : List It} {Q : Lab → AS → Prop} (ins : List (Int × Int × Int)) (bs : List Blk) (outs fr D C I2 : List Int) (L : List Ins) (n nP nC m l0 : Nat) (hn : bs.length = n) (H : CpOK ins bs outs fr) (hD : D.length = m) (hmn : m ≤ n) (hL : L.length = l0) (hl0 : l0 ≤ 128) (hd : ∀ k, k < m → 0 ≤ D.getD k 0 ∧ (D.getD k 0).toNat < n ∧ zav bs (D.getD k 0).toNat = 2) (hC : C.length = n) (cb : zae zao) (ci : zae zbn)
  (hw : zaI s (cpS6 ins bs outs fr D C I2 L n nP nC m l0 0)) (h : ∀ Q', QUp Q Q' → ex cpC (q + 192) r ⟨(416, .v (.bool false)) :: (cpS6 ins bs outs fr D C I2 L n nP nC m l0 m).env, (cpS6 ins bs outs fr D C I2 L n nP nC m l0 m).mem, 23⟩ Q') : ex cpC (q + 200) (.code (zbo 21) :: r) s Q := by
 have h64 := H.dg.nB
 rw [hn] at h64
 have hlf := H.lf
 rw [hn] at hlf
 unfold cpC at h ⊢
 simp only [zbo, zbd, Tryz.f6, Option.getD_some, List.cons_append, List.nil_append, List.getD_cons_succ, List.getD_cons_zero]
 refine wk zc0 ?_
 refine lL (α := Nat) (fun k => ⟨[(1, .sl 1 (rws zad fr)), (2, .p 0 3 0 0), (4, .p 1 4 0 0), (11, .p 9 4 0 0), (14, .ps 16 1 0 n), (15, .ps 20 1 0 m), (413, .ps 20 1 0 m), (414, .v (.int .i64 m)), (415, .v (.int .i64 k))], [(0, ⟨3, [[.sl 3 (rws zaD ins), .sl 6 (rws zao bs), .sl 1 (rws zad outs)]]⟩), (1, ⟨4, [[.v (.slice none 0 0), .v (.slice none 0 0), .v (.slice none 0 0), .v (.slice none 0 0)]]⟩), (9, ⟨4, [[.ps 5 3 0 nP, .ps 7 1 0 nC, .ps 22 7 0 (l0 + k), .v (.slice none 0 0)]]⟩), (5, ⟨3, rws zaD ins⟩), (7, ⟨1, rws zad I2⟩), (16, ⟨1, rws zad C⟩), (20, ⟨1, rws zad D⟩), (22, ⟨7, rws zbn (za9 L (mv1 bs fr C D) k)⟩)], 23⟩) (fun k => k ≤ m) (fun k => m - k) (0) ?_ ?_ ?_
 ·exact Nat.zero_le _
 ·exact hw
 rintro k hk
 by_cases hkm : k < m
 case neg =>
  obtain rfl : k = m := by omega
  clear H
  refine wkr hD ?_
  exact h _ (fun l s hl hq => .inr ⟨hl _, hq⟩)
 clear h hw
 have rd := ig (l := D) (i := k) (by omega)
 obtain ⟨d1, d2, d3⟩ := hd k hkm
 clear hd
 have e1 : za9 L (mv1 bs fr C D) (k + 1) = za9 L (mv1 bs fr C D) k ++ [mv1 bs fr C D k] := rfl
 have e8 : zbn (mv1 bs fr C D k) = [.v (.int .i64 2), .v (.int .i64 (C.getD (D.getD k 0).toNat 0)), .v (.int .i64 ((bs.getD (D.getD k 0).toNat Blk.zero).at 0 : Nat)), .v (.int .i64 0), .v (.int .i64 (fr.getD (D.getD k 0).toNat 0 - fr.getD ((bs.getD (D.getD k 0).toNat Blk.zero).at 0) 0)), .v (.int .i64 0), .v (.int .i64 0)] := rfl
 obtain ⟨i, hi⟩ : ∃ p : Nat, D.getD k 0 = (p : Int) := ⟨(D.getD k 0).toNat, by omega⟩
 rw [hi] at rd d2 d3 e8
 rw [Int.toNat_natCast] at d2 d3 e8
 have lq := zcQ L (mv1 bs fr C D) k
 rw [hL] at lq
 have e7 := snoc1 lq e8.symm
 rw [← e1] at e7
 obtain ⟨L2, hL2⟩ : ∃ L2, za9 L (mv1 bs fr C D) (k + 1) = L2 := ⟨_, rfl⟩
 rw [hL2] at e7
 generalize za9 L (mv1 bs fr C D) k = L1 at *
 have rb := bg (l := bs) (i := i) (by omega)
 have rf := ig (l := fr) (i := i) (by omega)
 have rC := ig (l := C) (i := i) (by omega)
 have bk := H.dg.blk i (by omega)
 have f1 := H.hf i (by omega)
 have hF := H.hf
 clear H e8 e1
 rw [hn] at bk hF
 unfold zav at d3
 generalize bs.getD i Blk.zero = b at *
 have rb : (rws zao bs).getD i [] = [.v (.int .i64 b.k), .sl 1 (rws zad b.a), .v (.int .i64 b.vn), .v (.int .i64 b.ve), .v (.int .i64 b.un), .v (.int .i64 b.ue)] := rb
 obtain ⟨ha, hp⟩ := bk.a1 (by omega)
 generalize b.at 0 = p at *
 have rp := ig (l := fr) (i := p) (by omega)
 have f2 := hF p hp
 rw [ha] at rb
 clear bk hF
 generalize fr.getD p 0 = fp at *
 generalize fr.getD i 0 = f at *
 have a0 : (rws zad [(p : Int)]).getD 0 [] = [.v (.int .i64 p)] := rfl
 repeat' (first | simp only [go_sem, seval, zab, hn, hD, hlf, rd, rb, rf, rp, rC, hC, lq, a0, e7] | simp (disch := omega) only [wA] | refine dAp ?_ | refine aAp ?_ | refine aI ?_ | refine dI ?_ | refine dG ?_ | ((first | refine cC ?_ ?_ | refine gS ?_ ?_ | refine dS ?_ ?_) <;> intro hc <;> simp only [hc] <;> try simp only [dcA] at hc <;> try omega) | refine aP ?_ | refine dP ?_)
 refine zac (α := Nat) (k + 1) ?_ ?_ ?_
 ·show k + 1 ≤ m; omega
 ·show m - (k + 1) < m - k; omega
 simp only [hL2]
 rw [show l0 + k + 1 = l0 + (k + 1) by omega]
 exact zaI.map [(0, 0), (1, 1), (5, 5), (7, 7), (9, 9), (16, 16), (20, 20), (22, 41)] rfl (by decide) (by decide) zml znc
def cpS7 (ins : List (Int × Int × Int)) (bs : List Blk) (outs fr D C I2 : List Int) (L : List Ins) (n nP nC m l0 k : Nat) : AS := ⟨[(1, .sl 1 (rws zad fr)), (2, .p 0 3 0 0), (4, .p 1 4 0 0), (11, .p 9 4 0 0), (14, .ps 16 1 0 n), (448, .ps 20 1 0 m), (449, .v (.int .i64 m)), (450, .v (.int .i64 k))], [(0, ⟨3, [[.sl 3 (rws zaD ins), .sl 6 (rws zao bs), .sl 1 (rws zad outs)]]⟩), (1, ⟨4, [[.v (.slice none 0 0), .v (.slice none 0 0), .v (.slice none 0 0), .v (.slice none 0 0)]]⟩), (9, ⟨4, [[.ps 5 3 0 nP, .ps 7 1 0 nC, .ps 22 7 0 (l0 + k), .v (.slice none 0 0)]]⟩), (5, ⟨3, rws zaD ins⟩), (7, ⟨1, rws zad I2⟩), (16, ⟨1, rws zad C⟩), (20, ⟨1, rws zad D⟩), (22, ⟨7, rws zbn (za9 L (mv2 C D) k)⟩)], 23⟩
theorem cp_L7 {q : Nat} {s : AS} {r : List It} {Q : Lab → AS → Prop} (ins : List (Int × Int × Int)) (bs : List Blk) (outs fr D C I2 : List Int) (L : List Ins) (n nP nC m l0 : Nat) (h64 : n ≤ 64) (hD : D.length = m) (hmn : m ≤ n) (hL : L.length = l0) (hl0 : l0 ≤ 192) (hd : ∀ k, k < m → 0 ≤ D.getD k 0 ∧ (D.getD k 0).toNat < n) (hC : C.length = n) (cb : zae zao) (ci : zae zbn)
  (hw : zaI s (cpS7 ins bs outs fr D C I2 L n nP nC m l0 0)) (h : ∀ Q', QUp Q Q' → ex cpC (q + 192) r ⟨(451, .v (.bool false)) :: (cpS7 ins bs outs fr D C I2 L n nP nC m l0 m).env, (cpS7 ins bs outs fr D C I2 L n nP nC m l0 m).mem, 23⟩ Q') : ex cpC (q + 200) (.code (zbo 23) :: r) s Q := by
 unfold cpC at h ⊢
 simp only [zbo, zbd, Tryz.f6, Option.getD_some, List.cons_append, List.nil_append, List.getD_cons_succ, List.getD_cons_zero]
 refine wk zc0 ?_
 refine lL (α := Nat) (fun k => ⟨[(1, .sl 1 (rws zad fr)), (2, .p 0 3 0 0), (4, .p 1 4 0 0), (11, .p 9 4 0 0), (14, .ps 16 1 0 n), (448, .ps 20 1 0 m), (449, .v (.int .i64 m)), (450, .v (.int .i64 k))], [(0, ⟨3, [[.sl 3 (rws zaD ins), .sl 6 (rws zao bs), .sl 1 (rws zad outs)]]⟩), (1, ⟨4, [[.v (.slice none 0 0), .v (.slice none 0 0), .v (.slice none 0 0), .v (.slice none 0 0)]]⟩), (9, ⟨4, [[.ps 5 3 0 nP, .ps 7 1 0 nC, .ps 22 7 0 (l0 + k), .v (.slice none 0 0)]]⟩), (5, ⟨3, rws zaD ins⟩), (7, ⟨1, rws zad I2⟩), (16, ⟨1, rws zad C⟩), (20, ⟨1, rws zad D⟩), (22, ⟨7, rws zbn (za9 L (mv2 C D) k)⟩)], 23⟩) (fun k => k ≤ m) (fun k => m - k) (0) ?_ ?_ ?_
 ·exact Nat.zero_le _
 ·exact hw
 rintro k hk
 by_cases hkm : k < m
 case neg =>
  obtain rfl : k = m := by omega
  refine wkr hD ?_
  exact h _ (fun l s hl hq => .inr ⟨hl _, hq⟩)
 clear h hw
 have rd := ig (l := D) (i := k) (by omega)
 obtain ⟨d1, d2⟩ := hd k hkm
 clear hd
 have e1 : za9 L (mv2 C D) (k + 1) = za9 L (mv2 C D) k ++ [mv2 C D k] := rfl
 have e8 : zbn (mv2 C D k) = [.v (.int .i64 2), .v (.int .i64 (D.getD k 0)), .v (.int .i64 (C.getD (D.getD k 0).toNat 0)), .v (.int .i64 0), .v (.int .i64 0), .v (.int .i64 0), .v (.int .i64 0)] := rfl
 obtain ⟨i, hi⟩ : ∃ p : Nat, D.getD k 0 = (p : Int) := ⟨(D.getD k 0).toNat, by omega⟩
 rw [hi] at rd d2 e8
 rw [Int.toNat_natCast] at d2 e8
 have lq := zcQ L (mv2 C D) k
 rw [hL] at lq
 have e7 := snoc1 lq e8.symm
 rw [← e1] at e7
 obtain ⟨L2, hL2⟩ : ∃ L2, za9 L (mv2 C D) (k + 1) = L2 := ⟨_, rfl⟩
 rw [hL2] at e7
 generalize za9 L (mv2 C D) k = L1 at *
 have rC := ig (l := C) (i := i) (by omega)
 clear e8 e1
 repeat' (first | simp only [go_sem, seval, zab, hD, rd, rC, hC, lq, e7] | simp (disch := omega) only [wA] | refine dAp ?_ | refine aAp ?_ | refine aI ?_ | refine dI ?_ | refine dG ?_ | ((first | refine cC ?_ ?_ | refine gS ?_ ?_ | refine dS ?_ ?_) <;> intro hc <;> simp only [hc] <;> try simp only [dcA] at hc <;> try omega) | refine aP ?_ | refine dP ?_)
 refine zac (α := Nat) (k + 1) ?_ ?_ ?_
 ·show k + 1 ≤ m; omega
 ·show m - (k + 1) < m - k; omega
 simp only [hL2]
 rw [show l0 + k + 1 = l0 + (k + 1) by omega]
 exact zaI.map [(0, 0), (1, 1), (5, 5), (7, 7), (9, 9), (16, 16), (20, 20), (22, 32)] rfl (by decide) (by decide) zml znc
def cpS8 (ins : List (Int × Int × Int)) (bs : List Blk) (outs I2 : List Int) (L : List Ins) (nP nC l0 k : Nat) : AS := ⟨[(2, .p 0 3 0 0), (4, .p 1 4 0 0), (11, .p 9 4 0 0), (467, .ps 22 7 0 l0), (468, .v (.int .i64 l0)), (469, .v (.int .i64 k))], [(0, ⟨3, [[.sl 3 (rws zaD ins), .sl 6 (rws zao bs), .sl 1 (rws zad outs)]]⟩), (1, ⟨4, [[.v (.slice none 0 0), .v (.slice none 0 0), .v (.slice none 0 0), .v (.slice none 0 0)]]⟩), (9, ⟨4, [[.ps 5 3 0 nP, .ps 7 1 0 nC, .ps 22 7 0 l0, .v (.slice none 0 0)]]⟩), (5, ⟨3, rws zaD ins⟩), (7, ⟨1, rws zad I2⟩), (22, ⟨7, rws zbn L⟩)], 23⟩
theorem cp_L8 {q : Nat} {s : AS} {r : List It} {Q : Lab → AS → Prop} (ins : List (Int × Int × Int)) (bs : List Blk) (outs I2 : List Int) (L : List Ins) (nP nC l0 : Nat) (hL : L.length = l0) (hl0 : l0 ≤ 256) (hs : ∀ k, k < l0 → (-62 ≤ (L.getD k Ins.zero).sa ∧ (L.getD k Ins.zero).sa ≤ 30) ∧ -62 ≤ (L.getD k Ins.zero).sb ∧ (L.getD k Ins.zero).sb ≤ 30) (cb : zae zao) (ci : zae zbn)
  (hw : zaI s (cpS8 ins bs outs I2 L nP nC l0 0)) (h : ∀ Q', QUp Q Q' → ex cpC (q + 192) r ⟨(470, .v (.bool false)) :: (cpS8 ins bs outs I2 L nP nC l0 l0).env, (cpS8 ins bs outs I2 L nP nC l0 l0).mem, 23⟩ Q') : ex cpC (q + 200) (.code (zbo 25) :: r) s Q := by
 unfold cpC at h ⊢
 simp only [zbo, zbd, Tryz.f6, Option.getD_some, List.cons_append, List.nil_append, List.getD_cons_succ, List.getD_cons_zero]
 refine wk zc0 ?_
 refine lL (α := Nat) (fun k => ⟨[(2, .p 0 3 0 0), (4, .p 1 4 0 0), (11, .p 9 4 0 0), (467, .ps 22 7 0 l0), (468, .v (.int .i64 l0)), (469, .v (.int .i64 k))], [(0, ⟨3, [[.sl 3 (rws zaD ins), .sl 6 (rws zao bs), .sl 1 (rws zad outs)]]⟩), (1, ⟨4, [[.v (.slice none 0 0), .v (.slice none 0 0), .v (.slice none 0 0), .v (.slice none 0 0)]]⟩), (9, ⟨4, [[.ps 5 3 0 nP, .ps 7 1 0 nC, .ps 22 7 0 l0, .v (.slice none 0 0)]]⟩), (5, ⟨3, rws zaD ins⟩), (7, ⟨1, rws zad I2⟩), (22, ⟨7, rws zbn L⟩)], 23⟩) (fun k => k ≤ l0) (fun k => l0 - k) (0) ?_ ?_ ?_
 ·exact Nat.zero_le _
 ·exact hw
 rintro k hk
 by_cases hkm : k < l0
 case neg =>
  obtain rfl : k = l0 := by omega
  refine wkr hL ?_
  exact h _ (fun l s hl hq => .inr ⟨hl _, hq⟩)
 clear h hw
 have rx := insG (l := L) (i := k) (by omega)
 have hx := hs k hkm
 clear hs
 generalize L.getD k Ins.zero = x at *
 obtain ⟨x1, x2, x3, x4, x5, x6, x7⟩ := x
 have rx : (rws zbn L).getD k [] = [.v (.int .i64 x1), .v (.int .i64 x2), .v (.int .i64 x3), .v (.int .i64 x4), .v (.int .i64 x5), .v (.int .i64 x6), .v (.int .i64 x7)] := rx
 have hx : (-62 ≤ x5 ∧ x5 ≤ 30) ∧ -62 ≤ x6 ∧ x6 ≤ 30 := hx
 refine wkr (zc2 hL rx) ?_
 refine zac (α := Nat) (k + 1) ?_ ?_ ?_
 ·show k + 1 ≤ l0; omega
 ·show l0 - (k + 1) < l0 - k; omega
 exact zah
set_option maxHeartbeats 8000000
noncomputable def zei : List Code := zbd 60 (Tryz.f6.body.getD .skip)
theorem cp_flat : zei = zei.take 13 ++ zbo 13 :: zei.getD 14 .skip :: zbo 15 :: zei.getD 16 .skip :: zbo 17 :: zei.getD 18 .skip :: zbo 19 :: zei.getD 20 .skip :: zbo 21 :: zei.getD 22 .skip :: zbo 23 :: zei.getD 24 .skip :: zbo 25 :: zei.drop 26 := rfl
def zbw (bs : List Blk) (n m mc : Nat) (D L : List Int) : List Int := zd1 n m (zdS n D m) L mc
def zeI (bs : List Blk) (fr L : List Int) (n m mc : Nat) : List Int := zic (zaY (gI bs fr) n n ++ List.replicate m 0) (zaY (gV bs fr) n n) (zaY (gU bs fr) n n) L mc
def zjb (ins : List (Int × Int × Int)) (bs : List Blk) (fr O D L : List Int) (n m mc oL : Nat) : List Ins := za9 (za9 (zbr ins bs fr (zbw bs n m mc D L) (zaY (gV bs fr) n n) O oL) (mv1 bs fr (zbw bs n m mc D L) D) m) (mv2 (zbw bs n m mc D L) D) m
theorem zkm (ins : List (Int × Int × Int)) (bs : List Blk) (outs fr : List Int) (n nP m mc oL nO : Nat) (hn : bs.length = n) (H : CpOK ins bs outs fr) (hz : dgE ins bs outs = 0) (O D L : List Int) (hO : zcf bs = O) (hoL : O.length = oL) (hon : oL ≤ n) (ho : ∀ k, k < oL → 0 ≤ O.getD k 0 ∧ (O.getD k 0).toNat < n ∧ (bs.getD (O.getD k 0).toNat Blk.zero).k ≠ 2) (hDe : zaq bs = D) (hD : D.length = m) (hmn : m ≤ n) (hd : ∀ k, k < m → 0 ≤ D.getD k 0 ∧ (D.getD k 0).toNat < n ∧ zav bs (D.getD k 0).toNat = 2) (hLe : clB bs = L) (hL : L.length = mc) (hmc : mc ≤ n) (hlc : ∀ k, k < mc → 0 ≤ L.getD k 0 ∧ (L.getD k 0).toNat < n) (hcell : ∀ i, i < n → 0 ≤ (zbw bs n m mc D L).getD i 0 ∧ (zbw bs n m mc D L).getD i 0 ≤ 1000) (hP : ins.length = nP) (hnO : outs.length = nO) (lc : Nat) (hlc1 : (zbr ins bs fr (zbw bs n m mc D L) (zaY (gV bs fr) n n) O oL).length = lc) (hlc2 : lc ≤ 128) (hsh : ∀ k, k < lc + m + m → (-62 ≤ ((zjb ins bs fr O D L n m mc oL).getD k Ins.zero).sa ∧ ((zjb ins bs fr O D L n m mc oL).getD k Ins.zero).sa ≤ 30) ∧ -62 ≤ ((zjb ins bs fr O D L n m mc oL).getD k Ins.zero).sb ∧ ((zjb ins bs fr O D L n m mc oL).getD k Ins.zero).sb ≤ 30) (cb : zae zao) (ci : zae zbn) :
  CallOK Tryz.prog gl 6 [AG ins bs outs, .sl 1 (rws zad fr)] (.tup [.agg [.sl 3 (rws zaD ins), .sl 1 (rws zad (zeI bs fr L n m mc)), .sl 7 (rws zbn (zjb ins bs fr O D L n m mc oL)), .sl 1 (rws zad outs)], .v .nilIface]) := by
 refine zpy (c := Tryz.f6.body.getD .skip) (C := cpC) za1 zgl 60 5000 Tryz.call6 Tryz.func6 rfl Tryz.ntmps6 (by unfold cpC; simp) zhN zdk ?_
 show ex cpC 5000 (its zei) _ _
 rw [Tryz.results6, cp_flat, zcH]
 simp only [its, List.map_cons]
 obtain ⟨c13, h13⟩ : ∃ c, zbo 13 = c := ⟨_, rfl⟩
 obtain ⟨c15, h15⟩ : ∃ c, zbo 15 = c := ⟨_, rfl⟩
 obtain ⟨c17, h17⟩ : ∃ c, zbo 17 = c := ⟨_, rfl⟩
 obtain ⟨c19, h19⟩ : ∃ c, zbo 19 = c := ⟨_, rfl⟩
 obtain ⟨c21, h21⟩ : ∃ c, zbo 21 = c := ⟨_, rfl⟩
 obtain ⟨c23, h23⟩ : ∃ c, zbo 23 = c := ⟨_, rfl⟩
 obtain ⟨c25, h25⟩ : ∃ c, zbo 25 = c := ⟨_, rfl⟩
 rw [h13, h15, h17, h19, h21, h23, h25]
 have L2 := @cp_L2
 have L3 := @cp_L3
 have L4 := @cp_L4
 have L5 := @cp_L5
 have L6 := @cp_L6
 have L7 := @cp_L7
 have L8 := @cp_L8
 rw [h13] at L2
 rw [h15] at L3
 rw [h17] at L4
 rw [h19] at L5
 rw [h21] at L6
 rw [h23] at L7
 rw [h25] at L8
 clear h13 h15 h17 h19 h21 h23 h25
 unfold cpC at L2 L3 L4 L5 L6 L7 L8 ⊢
 simp only [zei, zbd, Tryz.f6, Option.getD_some, List.cons_append, List.nil_append, List.getD_cons_succ, List.getD_cons_zero, List.take, List.drop, its, List.map_cons, List.map_nil, entry, entryEnv]
 have o1 := zeC ins bs outs hz cb
 rw [hO] at o1
 have hlf := H.lf
 rw [hn] at hlf
 have h64 := H.dg.nB
 rw [hn] at h64
 have h16 := H.dg.nI
 rw [hP] at h16
 have hO16 := H.dg.nO
 rw [hnO] at hO16
 have hf := H.hf
 rw [hn] at hf
 refine wkr (zc2 hlf hn) ?_
 refine lL (α := Nat) (fun j => ⟨[(1, .sl 1 (rws zad fr)), (2, .p 0 3 0 0), (4, .p 1 4 0 0), (6, .sl 1 (rws zad O)), (52, .sl 1 (rws zad fr)), (53, .v (.int .i64 n)), (54, .v (.int .i64 j))], [(0, ⟨3, [[.sl 3 (rws zaD ins), .sl 6 (rws zao bs), .sl 1 (rws zad outs)]]⟩), (1, ⟨4, [[.v (.slice none 0 0), .v (.slice none 0 0), .v (.slice none 0 0), .v (.slice none 0 0)]]⟩)], 2⟩) (fun j => j ≤ n) (fun j => n - j) (0) ?_ ?_ ?_
 ·exact Nat.zero_le _
 ·exact zah
 rintro j hj
 by_cases hjn : j < n
 ·clear L2 L3 L4 L5 L6 L7 L8 hsh hcell ho hd hlc
  have rf := ig (l := fr) (i := j) (by omega)
  have f1 := hf j hjn
  clear hf
  generalize fr.getD j 0 = f at *
  refine wkr (zc2 hlf rf) ?_
  refine zac (α := Nat) (j + 1) ?_ ?_ ?_
  ·show j + 1 ≤ n; omega
  ·show n - (j + 1) < n - j; omega
  exact zah
 obtain rfl : n = j := by omega
 clear hf o1
 have eD : dlK bs n = D := by rw [← hDe, ← hn]; rfl
 have eL : clK bs n = L := by rw [← hLe, ← hn]; rfl
 repeat' (first | simp only [go_sem, seval, zab, hlf, hn, hP] | simp (disch := omega) only [wA] | (refine zhK za1 rfl rfl ?_) | refine dAp (h9 := zf8) ?_ | refine aAp (h9 := zf8) ?_ | refine aI ?_ | refine dI ?_ | refine dG ?_ | ((first | refine cC ?_ ?_ | refine gS ?_ ?_ | refine dS ?_ ?_) <;> intro hc <;> simp only [hc] <;> try simp only [dcA] at hc <;> try omega) | refine aP ?_ | refine dP ?_)
 refine L2 ins bs outs fr O n nP hn H cb ?_ (fun Q2 hQ2 => ?_)
 ·unfold cpS2
  rw [zfI, zfI, zfI, ← zkM]
  exact zaI.trans (zaI.newnil 20 1 (Nat.le_refl _)) (Nat.le_of_ble_eq_true rfl) (zaI.trans (zaI.newnil 21 1 (Nat.le_refl _)) (Nat.le_of_ble_eq_true rfl) (by exact zah))
 clear L2
 unfold cpS2
 rw [eD, eL, hD, hL]
 have lI := zaC (gI bs fr) n n
 have lV := zaC (gV bs fr) n n
 have lU := zaC (gU bs fr) n n
 refine wkr (zc2 hD hL) ?_
 refine L3 ins bs outs fr O D L (zaY (gV bs fr) n n) (zaY (gU bs fr) n n) (zaY (gI bs fr) n n) n nP m mc h64 hmn hD lI (fun k hk => ⟨(hd k hk).1, (hd k hk).2.1⟩) cb ?_ (fun Q3 hQ3 => ?_)
 ·unfold cpS3
  rw [List.replicate_zero, List.append_nil, Nat.add_zero]
  exact zah
 clear L3
 unfold cpS3
 have lI1 : (zaY (gI bs fr) n n ++ List.replicate m (0 : Int)).length = n + m := by rw [List.length_append, lI, List.length_replicate]
 have lc0 := zcs n D m
 refine wkr (zc2 hD hL) ?_
 refine L4 ins bs outs fr O D L (zaY (gV bs fr) n n) (zaY (gU bs fr) n n) (zaY (gI bs fr) n n ++ List.replicate m 0) (zdS n D m) n nP m mc h64 hmn hmc hL lI1 lc0 lV lU hlc cb ?_ (fun Q4 hQ4 => ?_)
 ·unfold cpS4
  exact zah
 clear L4
 unfold cpS4
 change ex _ _ _ ⟨_, _, _⟩ _
 have lC : (zbw bs n m mc D L).length = n := by unfold zbw; rw [zek, lc0]
 rw [show zd1 n m (zdS n D m) L mc = zbw bs n m mc D L from rfl, show zic (zaY (gI bs fr) n n ++ List.replicate m 0) (zaY (gV bs fr) n n) (zaY (gU bs fr) n n) L mc = zeI bs fr L n m mc from rfl]
 refine wkr (zc3 hD hL hoL) ?_
 refine L5 ins bs outs fr O D (zaY (gV bs fr) n n) (zbw bs n m mc D L) (zeI bs fr L n m mc) n nP (n + m + 2 * mc) m oL hn H hoL hon ho lV lC hcell cb ci ?_ (fun Q5 hQ5 => ?_)
 ·unfold cpS5
  exact zaI.trans (zaI.newnil 22 7 (Nat.le_refl _)) (Nat.le_of_ble_eq_true rfl) (zaI.trans (zaI.mle 9 ⟨4, [[.ps 5 3 0 nP, .ps 7 1 0 (n + m + 2 * mc), .ps 22 7 0 0, .v (.slice none 0 0)]]⟩ rfl (zkW (.cons (.refl _) (.cons (.refl _) (.cons (Le.ps0 22 7 0) (.cons (.refl _) .nil)))))) (Nat.le_refl _) (by exact zah))
 clear L5
 unfold cpS5
 change ex _ _ _ ⟨_, _, _⟩ _
 rw [hlc1]
 have hcp : zjb ins bs fr O D L n m mc oL = za9 (za9 (zbr ins bs fr (zbw bs n m mc D L) (zaY (gV bs fr) n n) O oL) (mv1 bs fr (zbw bs n m mc D L) D) m) (mv2 (zbw bs n m mc D L) D) m := rfl
 generalize zbr ins bs fr (zbw bs n m mc D L) (zaY (gV bs fr) n n) O oL = K0 at *
 refine wkr (zc3 hD hL hoL) ?_
 refine L6 ins bs outs fr D (zbw bs n m mc D L) (zeI bs fr L n m mc) K0 n nP (n + m + 2 * mc) m lc hn H hD hmn hlc1 hlc2 hd lC cb ci ?_ (fun Q6 hQ6 => ?_)
 ·unfold cpS6
  show zaI _ ⟨_, _, _⟩
  rw [Nat.add_zero]
  exact zaI.of (by (repeat' (first | exact trivial | exact ⟨_, rfl, .refl _⟩ | refine And.intro ?_ ?_))) (by (repeat' (first | exact trivial | exact rfl | refine And.intro ?_ ?_))) (Nat.le_refl _)
 clear L6
 unfold cpS6
 change ex _ _ _ ⟨_, _, _⟩ _
 have lK := zcQ K0 (mv1 bs fr (zbw bs n m mc D L) D) m
 rw [hlc1] at lK
 generalize za9 K0 (mv1 bs fr (zbw bs n m mc D L) D) m = K1 at *
 refine wkr (zc3 hD hL hoL) ?_
 refine L7 ins bs outs fr D (zbw bs n m mc D L) (zeI bs fr L n m mc) K1 n nP (n + m + 2 * mc) m (lc + m) h64 hD hmn lK (by omega) (fun k hk => ⟨(hd k hk).1, (hd k hk).2.1⟩) lC cb ci ?_ (fun Q7 hQ7 => ?_)
 ·unfold cpS7
  show zaI _ ⟨_, _, _⟩
  rw [Nat.add_zero]
  exact zaI.of (by (repeat' (first | exact trivial | exact ⟨_, rfl, .refl _⟩ | refine And.intro ?_ ?_))) (by (repeat' (first | exact trivial | exact rfl | refine And.intro ?_ ?_))) (Nat.le_refl _)
 clear L7
 unfold cpS7
 change ex _ _ _ ⟨_, _, _⟩ _
 have lK2 := zcQ K1 (mv2 (zbw bs n m mc D L) D) m
 rw [lK] at lK2
 rw [← hcp] at lK2 ⊢
 clear hcp
 refine wkr (zc3 hD hL hoL) ?_
 refine L8 ins bs outs (zeI bs fr L n m mc) (zjb ins bs fr O D L n m mc oL) nP (n + m + 2 * mc) (lc + m + m) lK2 (by omega) hsh cb ci ?_ (fun Q8 hQ8 => ?_)
 ·unfold cpS8
  exact zah
 clear L8
 unfold cpS8
 change ex _ _ _ ⟨_, _, _⟩ _
 have lIn : (zeI bs fr L n m mc).length = n + m + 2 * mc := by unfold zeI; rw [zey, lI1]
 repeat' (first | simp only [go_sem, seval, zab, hnO] | simp (disch := omega) only [wA] | (refine zf2 za1 rfl rfl ?_) | refine dAp ?_ | refine aAp ?_ | refine aI ?_ | refine dI ?_ | refine dG ?_ | ((first | refine cC ?_ ?_ | refine gS ?_ ?_ | refine dS ?_ ?_) <;> intro hc <;> simp only [hc] <;> try simp only [dcA] at hc <;> try omega) | refine aP ?_ | refine dP ?_)
 refine hQ8 _ _ (fun k h => by cases h) (hQ7 _ _ (fun k h => by cases h) (hQ6 _ _ (fun k h => by cases h) (hQ5 _ _ (fun k h => by cases h) (hQ4 _ _ (fun k h => by cases h) (hQ3 _ _ (fun k h => by cases h) (hQ2 _ _ (fun k h => by cases h) ?_))))))
 refine .inr ⟨(fun h => by cases h), ?_⟩
 repeat' (first | simp only [go_sem, seval] | simp (disch := omega) only [wA] | refine aI ?_ | refine dI ?_ | refine dG ?_ | ((first | refine cC ?_ ?_ | refine gS ?_ ?_ | refine dS ?_ ?_) <;> intro hc <;> simp only [hc] <;> try simp only [dcA] at hc <;> try omega) | refine aP ?_ | refine dP ?_)
 have z1 : (rws zaD ins).length ≤ nP := by rw [zab]; omega
 have z2 : (rws zad (zeI bs fr L n m mc)).length ≤ n + m + 2 * mc := by rw [zab]; omega
 have z3 : (rws zbn (zjb ins bs fr O D L n m mc oL)).length ≤ lc + m + m := by rw [zab]; omega
 have z4 : (rws zad outs).length ≤ nO := by rw [zab]; omega
 refine zci trivial (.tup (.cons (.agg (.cons (.ps rfl rfl (by show 0 + nP ≤ (rws zaD ins).length; rw [zab]; omega)) (.cons (.ps rfl rfl (by show 0 + (n + m + 2 * mc) ≤ (rws zad (zeI bs fr L n m mc)).length; rw [zab]; omega)) (.cons (.ps rfl rfl (by show 0 + (lc + m + m) ≤ (rws zbn (zjb ins bs fr O D L n m mc oL)).length; rw [zab]; omega)) (.cons (.ps rfl rfl (by show 0 + nO ≤ (rws zad outs).length; rw [zab]; omega)) .nil))))) (.cons (.one .same) .nil))) ?_
 exact Le.tup (.cons (Le.agg (.cons (Le.takeN z1) (.cons (Le.takeN z2) (.cons (Le.takeN z3) (.cons (Le.takeN z4) .nil))))) (.cons (.refl _) .nil))
set_option maxHeartbeats 1000000
theorem zo9 {ins : List (Int × Int × Int)} {bs : List Blk} {outs fr : List Int} {R : List Iv} {E : List Dy} (hz : dgE ins bs outs = 0) (h : CrtOK ins bs R fr E) : CtOK ins bs outs fr R E := by
 have hl : ∀ i, i < bs.length → scB ins fr (fr.getD i 0) (bs.getD i Blk.zero) = true ∧ rgB ins R i (bs.getD i Blk.zero) = true ∧ (bdB ins fr R E (fr.getD i 0) (bs.getD i Blk.zero)).v ≤ (E.getD i Dy.zero).v ∧ ftB fr R E i (bs.getD i Blk.zero) = true := fun i hi => by
  have hv := h.vf i hi
  unfold lkB at hv
  split at hv
  ·cases hv
  rename_i h1
  split at hv
  ·cases hv
  rename_i h2
  split at hv
  ·cases hv
  rename_i h3
  split at hv
  ·cases hv
  rename_i h4
  exact ⟨by simpa using h1, by simpa using h2, (zpn _ _).1 (by omega), by simpa using h4⟩
 exact ⟨zdB hz, h.hf, fun i hi => (zeH (h.hR i hi)).2, fun i hi => ⟨(h.hE i hi).nn, (h.hE i hi).d⟩, fun i hi => (hl i hi).1, fun i hi => (hl i hi).2.1, fun i hi => (hl i hi).2.2.1, fun i hi => (hl i hi).2.2.2⟩
theorem zim {ins : List (Int × Int × Int)} {bs : List Blk} {outs fr : List Int} {R : List Iv} {E : List Dy} (hz : dgE ins bs outs = 0) (hlf : fr.length = bs.length) (H : CtOK ins bs outs fr R E) (h40 : bs.length ≤ 40) :
  CallOK Tryz.prog gl 6 [AG ins bs outs, .sl 1 (rws zad fr)] (.tup [.agg [.sl 3 (rws zaD ins), .sl 1 (rws zad (zcA bs fr)), .sl 7 (rws zbn (zcB ins bs fr)), .sl 1 (rws zad outs)], .v .nilIface]) := by
 obtain ⟨ht, hall, ho, hle⟩ := pO_ok H
 have hL := pLay bs fr
 have l1 := zeg bs
 have l2 := zpt bs
 have l3 := znV H
 have lp := zjQ ins bs fr
 refine zkm ins bs outs fr bs.length ins.length (zaq bs).length (clB bs).length (pO bs).length outs.length rfl ⟨H.dg, hlf, H.hf, H.sc⟩ hz (pO bs) (zaq bs) (clB bs) rfl rfl hle ho rfl rfl l1 (fun k hk => ?_) rfl rfl l2 (fun k hk => ?_) (fun i hi => ?_) rfl rfl (pC0 ins bs fr).length rfl (by omega) (fun k hk => ?_) zaf zaR
 ·obtain ⟨i, q1, q2, q3⟩ := zbA hk
  rw [q1, Int.toNat_natCast]
  exact ⟨by omega, q2, q3⟩
 ·obtain ⟨i, q1, q2, q3⟩ := zgh hk
  rw [q1, Int.toNat_natCast]
  exact ⟨by omega, q2⟩
 ·show 0 ≤ (zb7 bs).getD i 0 ∧ (zb7 bs).getD i 0 ≤ 1000
  by_cases h2 : zav bs i = 2
  ·obtain ⟨k, hk, e⟩ := zlf hi h2
   have := zjR bs hk
   rw [e, Int.toNat_natCast] at this
   rw [this]
   omega
  by_cases h11 : (bs.getD i Blk.zero).k = 11
  ·obtain ⟨k, hk, e⟩ := zpr hi h11
   have := zfO bs hk
   rw [e, Int.toNat_natCast] at this
   rw [this]
   omega
  have e : (zb7 bs).getD i 0 = 0 := by
   unfold zb7
   rw [zht (fun k hk => by obtain ⟨i, a, b, _⟩ := zgh hk; exact ⟨i, a, by rw [zcs]; exact b⟩) _ (Nat.le_refl _) (fun j hj e => by
    obtain ⟨i', a, b, c⟩ := zgh hj
    rw [a] at e
    have : i' = i := by omega
    subst this
    exact h11 c)]
   exact zkq (fun k hk => by obtain ⟨i, a, b, _⟩ := zbA hk; exact ⟨i, a, b⟩) hi _ (Nat.le_refl _) (fun j hj e => by
    obtain ⟨i', a, b, c⟩ := zbA hj
    rw [a] at e
    have : i' = i := by omega
    subst this
    exact h2 c)
  rw [e]
  omega
 ·rw [← lp] at hk
  exact insOK_sh (zlL H _ (zez hk))
set_option maxHeartbeats 1000000
def hvI : List (Int × Int × Int) := [(-100, 100, 0)]
def hvB : List Blk := [⟨0, [0], 0, 0, 0, 0⟩, ⟨6, [0], 1, -1, 0, 0⟩]
def hvO : List Int := [1]
theorem hv_dg : dgE hvI hvB hvO = 0 := by decide +kernel
theorem hv_del : zaq hvB = [] := by decide +kernel
theorem hv_ev : (evB hvI hvB []).2 = 0 := by decide +kernel
theorem hv_ch : chL (evB hvI hvB []).1 = [23, 24] := by decide +kernel
theorem hv_len : (evB hvI hvB []).1.length = 2 := by decide +kernel
theorem hv_far : ∀ k, k < (zcf hvB).length → decide (0 < (erV hvI hvB (chL (evB hvI hvB []).1) (evB hvI hvB []).1 (zcf hvB) (List.replicate hvB.length Dy.zero) k).cmp (Dy.int 1099511627776)) = false := by decide +kernel
theorem hv_vf : ∀ i, i < hvB.length → lkB hvI hvB (chL (evB hvI hvB []).1) (evB hvI hvB []).1 (erO hvI hvB (chL (evB hvI hvB []).1) (evB hvI hvB []).1 (zcf hvB) (List.replicate hvB.length Dy.zero) (zcf hvB).length) i = 0 := by decide +kernel
theorem hv_lg : ∀ k, k < (pO hvB).length → lgD (exV hvI hvB [6] (exD hvB.length (zaq hvB) [] (zaq hvB).length) (pO hvB) k) = false := by decide +kernel
theorem hv_run : (zcG [6] (zcA hvB [23, 24]) (zcB hvI hvB [23, 24])).getD 1 0 = 50331648 := by decide +kernel
theorem hv_mk1 : Mk1 hvI hvB := by
 refine ⟨by rw [hv_del]; rfl, hv_ev, fun i hi => ?_, hv_far, hv_vf⟩
 have h := hv_ch
 have hl := hv_len
 have hi : i < 2 := hi
 have e : chF ((evB hvI hvB []).1.getD i Iv.zero) = (chL (evB hvI hvB []).1).getD i 0 := by
  unfold chL
  rw [zaB (by omega), zaB (by rw [List.length_map]; omega), List.getElem_map]
 rw [e, h]
 match i, hi with
 | 0, _ => decide
 | 1, _ => decide
set_option maxHeartbeats 4000000
theorem hv_rI : rws zaD hvI = [[.v (.int .i64 (-100)), .v (.int .i64 100), .v (.int .i64 0)]] := rfl
theorem hv_rB : rws zao hvB = [[.v (.int .i64 0), .sl 1 [[.v (.int .i64 0)]], .v (.int .i64 0), .v (.int .i64 0), .v (.int .i64 0), .v (.int .i64 0)], [.v (.int .i64 6), .sl 1 [[.v (.int .i64 0)]], .v (.int .i64 1), .v (.int .i64 (-1)), .v (.int .i64 0), .v (.int .i64 0)]] := rfl
theorem hv_rO : rws zad hvO = [[.v (.int .i64 1)]] := rfl
theorem hv_six : rws zad [6] = [[.v (.int .i64 6)]] := rfl
theorem zgP  : CallOK Tryz.prog gl 4 [] (.v (.bool (true))) := by
 refine okC 98 Tryz.call4 Tryz.func4 Tryz.ntmps4 Tryz.results4 ?_
 have mk := zoo hvI hvB hvO 2 (by omega) (by omega) hv_dg
 refine wk zc0 ?_
 refine zhu mk ?_
 rintro _ (⟨R, fr, E, rfl, hc⟩ | ⟨hn, _⟩)
 case inr => exact absurd hv_mk1 hn
 have hct := zo9 hv_dg hc
 obtain ⟨_, e1, _⟩ := hc.one hv_mk1
 rw [hv_ch] at e1
 subst e1
 have cp := zim hv_dg hc.lf hct (by decide)
 have hpg := pgOK hct (by decide)
 have st := zmg hvI (zcA hvB [23, 24]) (zcB hvI hvB [23, 24]) hvO _ rfl hpg zaR
 have s0 := st0 hct
 have tk := tick (inp := [6]) hct s0 (fun i hi => by
  have hi : i < 1 := hi
  obtain rfl : i = 0 := by omega
  exact ⟨by decide, by decide⟩) (by
  have e : ((zaq hvB).map fun i => scN (hvB.getD i.toNat Blk.zero).vn (hvB.getD i.toNat Blk.zero).ve) = [] := by rw [hv_del]; rfl
  rw [e]
  exact hv_lg)
 have run := co_Run hvI (zcA hvB [23, 24]) (zcB hvI hvB [23, 24]) hvO (zcA hvB [23, 24]) [6] 1 _ _ 1 rfl rfl rfl rfl hpg rfl hpg.ini rfl (fun i hi => by
  obtain rfl : i = 0 := by omega
  exact ⟨by decide, by decide⟩) (fun k hk => zlP tk.1 hk) zaR
 rw [zlC] at run
 have eo : outL (zcG [6] (zcA hvB [23, 24]) (zcB hvI hvB [23, 24])) hvO = [50331648] := by
  show [(zcG [6] (zcA hvB [23, 24]) (zcB hvI hvB [23, 24])).getD 1 0] = _
  rw [hv_run]
 rw [eo] at run
 have hlf := hc.lf
 clear hc hct s0 tk mk hpg
 unfold AG at cp
 rw [hv_rI, hv_rB, hv_rO] at cp
 rw [hv_rI, hv_rO] at st
 rw [hv_rI, hv_rO, hv_six] at run
 generalize zcG [6] (zcA hvB [23, 24]) (zcB hvI hvB [23, 24]) = C at *
 generalize zcB hvI hvB [23, 24] = code at *
 generalize zcA hvB [23, 24] = init at *
 have a1 : (rws zad [23, 24]).getD 1 [] = [.v (.int .i64 24)] := rfl
 have a2 : (rws zad [50331648]).getD 0 [] = [.v (.int .i64 50331648)] := rfl
 exact wer (zc2 a1 a2)
set_option maxHeartbeats 4000000
theorem zdR (x : Dy) (hM : Mg 30000 x) (h : lgD x = false) : CallOK Tryz.prog gl 30 [.agg [.v (.bool (sg (x))), .sl 1 (u32s (ms (x))), .v (.int .i64 (dn (x)))]] (.agg [.v (.bool (sg (x))), .sl 1 (u32s (ms (x))), .v (.int .i64 (dn (x)))]) := by
 refine okC 12 Tryz.call30 Tryz.func30 Tryz.ntmps30 Tryz.results30 ?_
 have b1 := zf5 _ _ _ _ (hM.arg (by omega))
 rw [zen] at b1
 have p1 : ((zeE x.n.natAbs : Nat) : Int) ≤ 9223372036854775807 := by have := zdl (zcv.1 hM); have := x.ok.1; omega
 unfold lgD at h
 have h := of_decide_eq_false h
 clear hM
 generalize ((zeE x.n.natAbs : Nat) : Int) = x1 at *
 generalize dn x = y1 at *
 exact we zc0
theorem za6 {α : Type} : ∀ {l : List α} {n : Nat}, l.length = n + 1 → ∃ x t, l = x :: t ∧ t.length = n
 | x :: t, n, h => ⟨x, t, rfl, by simpa using h⟩
theorem zj9 (nx : Nat) : TailP ⟨Tryz.prog, gl, ti, 12, false, false, []⟩ Tryz.f30 ⟨[(8, .v (.bool true))], [], nx⟩ ((zbd 8 (Tryz.f30.body.getD .skip)).drop 2) := by
 intro S w0 a w hs
 obtain ⟨hd, hn, σ, S', hF, hE⟩ := hs
 obtain ⟨x, hx, hr⟩ := hE 8 _ rfl
 obtain ⟨tmps, defers⟩ := a
 have hd := hd.1
 simp only at hd
 subst hd
 have hr := zdZ hr
 subst hr
 obtain ⟨l⟩ := tmps
 have hn0 : l.length = 12 := hn
 obtain ⟨x0, l0, rfl, hn1⟩ := za6 hn0
 obtain ⟨x1, l1, rfl, hn2⟩ := za6 hn1
 obtain ⟨x2, l2, rfl, hn3⟩ := za6 hn2
 obtain ⟨x3, l3, rfl, hn4⟩ := za6 hn3
 obtain ⟨x4, l4, rfl, hn5⟩ := za6 hn4
 obtain ⟨x5, l5, rfl, hn6⟩ := za6 hn5
 obtain ⟨x6, l6, rfl, hn7⟩ := za6 hn6
 obtain ⟨x7, l7, rfl, hn8⟩ := za6 hn7
 obtain ⟨x8, l8, rfl, hn9⟩ := za6 hn8
 obtain ⟨x9, l9, rfl, hn10⟩ := za6 hn9
 obtain ⟨x10, l10, rfl, hn11⟩ := za6 hn10
 obtain ⟨x11, l11, rfl, hn12⟩ := za6 hn11
 obtain rfl : l11 = [] := List.length_eq_zero_iff.1 hn12
 clear hn12
 have hx : x8 = _ := Option.some.inj hx
 subst hx
 simp only [zbd, Tryz.f30, Option.getD_some, List.cons_append, List.nil_append, List.drop, its, List.map_cons, List.map_nil]
 show Code.wp Tryz.prog _ _ _ _
 go_wp2
 show zaJ Tryz.prog _ (fun _ _ _ => False) _ (.panic [{ v := .iface 91 (.agg #[]), recovered := false }]) _ w
 refine zcz _ _ _ _ ?_
 exact ⟨_, rfl, rfl, rfl, RowKit.Below.refl _ _⟩
theorem zi2 (x : Dy) (hM : Mg 30000 x) (h : lgD x = true) : CallP Tryz.prog gl 30 [.agg [.v (.bool (sg x)), .sl 1 (u32s (ms x)), .v (.int .i64 (dn x))]] zkj := by
 refine call_p (C := ⟨Tryz.prog, gl, ti, 12, false, false, []⟩) za1 zgl 8 2 3000 Tryz.call30 Tryz.func30 rfl Tryz.ntmps30 (by simp) zhN dead_cl ?_
 simp only [zbd, List.cons_append, List.nil_append, List.take, List.drop, its, List.map_cons, List.map_nil]
 have b1 := zf5 _ _ _ _ (hM.arg (by omega))
 rw [zen] at b1
 have p1 : ((zeE x.n.natAbs : Nat) : Int) ≤ 9223372036854775807 := by have := zdl (zcv.1 hM); have := x.ok.1; omega
 unfold lgD at h
 have h := of_decide_eq_true h
 clear hM
 generalize ((zeE x.n.natAbs : Nat) : Int) = x1 at *
 generalize dn x = y1 at *
 repeat' (first | simp only [go_sem, seval] | simp (disch := omega) only [wA] | (with_reducible first | refine cA ?_ | refine dA ?_) | refine aI ?_ | refine dI ?_ | refine dG ?_ | ((first | refine cC ?_ ?_ | refine gS ?_ ?_ | refine dS ?_ ?_) <;> intro hc <;> simp only [hc] <;> try simp only [dcA] at hc <;> try omega) | refine aP ?_ | refine dP ?_)
 have hb : decide (4096 < max x1 y1) = true := decide_eq_true h
 rw [hb]
 exact ⟨⟨[(8, .v (.bool (true)))], [], 8⟩, by exact zah, zj9 8⟩
set_option maxHeartbeats 4000000
theorem ex_block (ins : List (Int × Int × Int)) (bs : List Blk) (outs inp : List Int) (b : Blk) (vals : List Dy) (N : Nat) (hN : vals.length = N) (h0 : 0 < N) (hM : ∀ i, i < N → Mg 9000 (vals.getD i Dy.zero)) (hb : BlkOK ins.length N b) (hk : b.k ≠ 2) (hn : inp.length = ins.length)
  (hI : ∀ i, i < ins.length → -2147483648 ≤ inp.getD i 0 ∧ inp.getD i 0 < 2147483648) (hP : ∀ i, i < ins.length → zbu (ins.getD i (0, 0, 0))) :
  CallW Tryz.prog gl 31 [AG ins bs outs, .agg [.v (.int .i64 b.k), .sl 1 (rws zad b.a), .v (.int .i64 b.vn), .v (.int .i64 b.ve), .v (.int .i64 b.un), .v (.int .i64 b.ue)], .ps 0 3 0 N, .sl 1 (rws zad inp)] ⟨3, rws zaj vals⟩
   (.agg [.v (.bool (sg (exB ins inp vals b))), .sl 1 (u32s (ms (exB ins inp vals b))), .v (.int .i64 (dn (exB ins inp vals b)))]) ⟨3, rws zaj vals⟩ := by
 have hk1 := hb.kind
 have hval := hb.val
 have hupp := hb.upp
 have hcs : b.k = 0 ∨ b.k = 1 ∨ b.k = 3 ∨ b.k = 4 ∨ b.k = 5 ∨ b.k = 6 ∨ b.k = 7 ∨ b.k = 8 ∨ b.k = 9 ∨ b.k = 10 ∨ b.k = 11 := by omega
 rcases hcs with h | h | h | h | h | h | h | h | h | h | h
 ·have ha := hb.ai h
  have c := ex_b0 ins bs outs inp b.vn b.ve b.un b.ue vals N hN h0 hM zaf zan (b.at 0) ins.length rfl hn (hb.inp h).1 hI ⟨(hP _ (hb.inp h).1).2.2.1, (hP _ (hb.inp h).1).2.2.2⟩
  have e : exB ins inp vals b = (Dy.int (inp.getD (b.at 0) 0)).shift (-(ins.getD (b.at 0) (0, 0, 0)).2.2) := by unfold exB; simp only []; rw [if_pos h]
  rw [e, h, ha]; exact c
 ·have ha := hb.a0 h
  have c := ex_b1 ins bs outs inp b.vn b.ve b.un b.ue vals N hN h0 hM zaf zan (hval (by omega))
  have e : exB ins inp vals b = scN b.vn b.ve := by unfold exB; simp only []; rw [if_neg (show ¬ b.k = 0 by omega), if_pos h]; rfl
  rw [e, h, ha]; exact c
 ·obtain ⟨ha, hp, hq⟩ := hb.a2 (by omega)
  have c := ex_b3 ins bs outs inp b.vn b.ve b.un b.ue vals N hN h0 hM zaf zan (b.at 0) hp (b.at 1) hq
  have e : exB ins inp vals b = (vals.getD (b.at 0) Dy.zero).add (vals.getD (b.at 1) Dy.zero) := by unfold exB; simp only []; rw [if_neg (show ¬ b.k = 0 by omega), if_neg (show ¬ b.k = 1 by omega), if_pos h]
  rw [e, h, ha]; exact c
 ·obtain ⟨ha, hp, hq⟩ := hb.a2 (by omega)
  have c := ex_b4 ins bs outs inp b.vn b.ve b.un b.ue vals N hN h0 hM zaf zan (b.at 0) hp (b.at 1) hq
  have e : exB ins inp vals b = (vals.getD (b.at 0) Dy.zero).sub (vals.getD (b.at 1) Dy.zero) := by unfold exB; simp only []; rw [if_neg (show ¬ b.k = 0 by omega), if_neg (show ¬ b.k = 1 by omega), if_neg (show ¬ b.k = 3 by omega), if_pos h]
  rw [e, h, ha]; exact c
 ·obtain ⟨ha, hp⟩ := hb.a1 (by omega)
  have c := ex_b5 ins bs outs inp b.vn b.ve b.un b.ue vals N hN h0 hM zaf zan (b.at 0) hp
  have e : exB ins inp vals b = (vals.getD (b.at 0) Dy.zero).neg := by unfold exB; simp only []; rw [if_neg (show ¬ b.k = 0 by omega), if_neg (show ¬ b.k = 1 by omega), if_neg (show ¬ b.k = 3 by omega), if_neg (show ¬ b.k = 4 by omega), if_neg (show ¬ b.k = 7 by omega), if_pos h]
  rw [e, h, ha]; exact c
 ·obtain ⟨ha, hp⟩ := hb.a1 (by omega)
  have c := ex_b6 ins bs outs inp b.vn b.ve b.un b.ue vals N hN h0 hM zaf zan (b.at 0) hp (hval (by omega))
  have e : exB ins inp vals b = (scN b.vn b.ve).mul (vals.getD (b.at 0) Dy.zero) := by unfold exB; simp only []; rw [if_neg (show ¬ b.k = 0 by omega), if_neg (show ¬ b.k = 1 by omega), if_neg (show ¬ b.k = 3 by omega), if_neg (show ¬ b.k = 4 by omega), if_neg (show ¬ b.k = 7 by omega), if_neg (show ¬ b.k = 5 by omega), if_neg (show ¬ b.k = 10 by omega), if_pos h]; rfl
  rw [e, h, ha]; exact c
 ·obtain ⟨ha, hp, hq⟩ := hb.a2 (by omega)
  have c := ex_b7 ins bs outs inp b.vn b.ve b.un b.ue vals N hN h0 hM zaf zan (b.at 0) hp (b.at 1) hq
  have e : exB ins inp vals b = (vals.getD (b.at 0) Dy.zero).mul (vals.getD (b.at 1) Dy.zero) := by unfold exB; simp only []; rw [if_neg (show ¬ b.k = 0 by omega), if_neg (show ¬ b.k = 1 by omega), if_neg (show ¬ b.k = 3 by omega), if_neg (show ¬ b.k = 4 by omega), if_pos h]
  rw [e, h, ha]; exact c
 ·obtain ⟨ha, hp, hq⟩ := hb.a2 (by omega)
  have c := ex_b8 ins bs outs inp b.vn b.ve b.un b.ue vals N hN h0 hM zaf zan (b.at 0) hp (b.at 1) hq
  have e : exB ins inp vals b = (vals.getD (b.at 0) Dy.zero).min (vals.getD (b.at 1) Dy.zero) := by unfold exB; simp only []; rw [if_neg (show ¬ b.k = 0 by omega), if_neg (show ¬ b.k = 1 by omega), if_neg (show ¬ b.k = 3 by omega), if_neg (show ¬ b.k = 4 by omega), if_neg (show ¬ b.k = 7 by omega), if_neg (show ¬ b.k = 5 by omega), if_neg (show ¬ b.k = 10 by omega), if_neg (show ¬ b.k = 6 by omega), if_pos h]
  rw [e, h, ha]; exact c
 ·obtain ⟨ha, hp, hq⟩ := hb.a2 (by omega)
  have c := ex_b9 ins bs outs inp b.vn b.ve b.un b.ue vals N hN h0 hM zaf zan (b.at 0) hp (b.at 1) hq
  have e : exB ins inp vals b = (vals.getD (b.at 0) Dy.zero).max (vals.getD (b.at 1) Dy.zero) := by unfold exB; simp only []; rw [if_neg (show ¬ b.k = 0 by omega), if_neg (show ¬ b.k = 1 by omega), if_neg (show ¬ b.k = 3 by omega), if_neg (show ¬ b.k = 4 by omega), if_neg (show ¬ b.k = 7 by omega), if_neg (show ¬ b.k = 5 by omega), if_neg (show ¬ b.k = 10 by omega), if_neg (show ¬ b.k = 6 by omega), if_neg (show ¬ b.k = 8 by omega), if_pos h]
  rw [e, h, ha]; exact c
 ·obtain ⟨ha, hp⟩ := hb.a1 (by omega)
  have c := ex_b10 ins bs outs inp b.vn b.ve b.un b.ue vals N hN h0 hM zaf zan (b.at 0) hp
  have e : exB ins inp vals b = (vals.getD (b.at 0) Dy.zero).abs := by unfold exB; simp only []; rw [if_neg (show ¬ b.k = 0 by omega), if_neg (show ¬ b.k = 1 by omega), if_neg (show ¬ b.k = 3 by omega), if_neg (show ¬ b.k = 4 by omega), if_neg (show ¬ b.k = 7 by omega), if_neg (show ¬ b.k = 5 by omega), if_pos h]
  rw [e, h, ha]; exact c
 ·obtain ⟨ha, hp⟩ := hb.a1 (by omega)
  have c := ex_b11 ins bs outs inp b.vn b.ve b.un b.ue vals N hN h0 hM zaf zan (b.at 0) hp (hval (by omega)) (hupp h)
  have e : exB ins inp vals b = (scN b.vn b.ve).max ((scN b.un b.ue).min (vals.getD (b.at 0) Dy.zero)) := by unfold exB; simp only []; rw [if_neg (show ¬ b.k = 0 by omega), if_neg (show ¬ b.k = 1 by omega), if_neg (show ¬ b.k = 3 by omega), if_neg (show ¬ b.k = 4 by omega), if_neg (show ¬ b.k = 7 by omega), if_neg (show ¬ b.k = 5 by omega), if_neg (show ¬ b.k = 10 by omega), if_neg (show ¬ b.k = 6 by omega), if_neg (show ¬ b.k = 8 by omega), if_neg (show ¬ b.k = 9 by omega)]; rfl
  rw [e, h, ha]; exact c
set_option maxHeartbeats 4000000
theorem st_idle (p6 p7 p8 : Value) (w : World) :
  CallsD Tryz.prog 29 #[p6, p7, p8] .returning w fun e u' w' => e = .returned (.tuple #[]) ∧ u' = .returning ∧ w' = w := by
 refine callsD_of_wpS Tryz.func29 rfl fun c₀ cs hu => ?_
 apply wpS_seq
 apply wpS_region
 simp [wpOpsS, go_sem, recoverD, hu, Tryz.ntmps29, Exit.thenS]
 apply wpS_seq
 apply wpS_region
 simp [wpOpsS, go_sem, recoverD, hu, Exit.thenS]
 refine wpS_cond (t := false) (by simp [Act.eval, Array.replicate]) ?_
 simp only [Bool.false_eq_true, if_false]
 refine wpS_of_wp (wp_skip ?_)
 cases c₀
 simp_all [bodyPostS, results, Tryz.results29]
theorem znn (w : World) : (Instr.typeAssert (.iface 91 (.agg #[])) 20 91 true).run Tryz.prog w = .ok (.tuple #[.agg #[], .bool true]) w := by
 simp [Instr.typeAssert, go_sem, Tryz.underlying91]
theorem st_catch (k6 k7 k8 : Nat) (w : World) (h6 : zbs w k6) (h7 : zbs w k7) (h8 : zbs w k8) :
  CallsD Tryz.prog 29 #[.pointer (some ⟨k6, 0, none⟩), .pointer (some ⟨k7, 0, none⟩), .pointer (some ⟨k8, 0, none⟩)] (.panicking [{ v := .iface 91 (.agg #[]), recovered := false }]) w fun e u' w' => e = .returned (.tuple #[]) ∧ u' = .panicking [{ v := .iface 91 (.agg #[]), recovered := true }] ∧
   w' = (((w.alloc (.cells #[] 91)).setCell ⟨k6, 0, none⟩ (.slice none 0 0)).setCell ⟨k7, 0, none⟩ (.slice none 0 0)).setCell ⟨k8, 0, none⟩ (.iface 71 (.int .i64 4)) := by
 refine callsD_of_wpS Tryz.func29 rfl fun c₀ cs hu => ?_
 apply wpS_seq
 apply wpS_region
 simp [wpOpsS, go_sem, recoverD, hu, Tryz.ntmps29, Exit.thenS]
 apply wpS_seq
 apply wpS_region
 simp [wpOpsS, go_sem, recoverD, hu, Exit.thenS]
 refine wpS_cond (t := true) (by simp [Act.eval, Array.replicate]) ?_
 simp only [if_true]
 have hta := znn w
 have a6 := h6.alloc (.cells #[] 91)
 have a7 := h7.alloc (.cells #[] 91)
 have a8 := h8.alloc (.cells #[] 91)
 have b7 := a7.set (j := k6) (.slice none 0 0)
 have b8 := a8.set (j := k6) (.slice none 0 0)
 have d8 := b8.set (j := k7) (.slice none 0 0)
 obtain ⟨x6, c6⟩ := a6.cell
 obtain ⟨x7, c7⟩ := b7.cell
 obtain ⟨x8, c8⟩ := d8.cell
 have f6 := a6.frozen
 have f7 := b7.frozen
 have f8 := d8.frozen
 refine wpS_of_wp ?_
 go_wp2
 exact ⟨rfl, _, rfl, .tuple #[], by simp [results, Tryz.results29], rfl, rfl, rfl⟩
set_option maxHeartbeats 8000000
theorem st_exA (ins : List (Int × Int × Int)) (bs : List Blk) (outs inp : List Int) (st : List Dy) (n m oL : Nat) (hn : bs.length = n) (h64 : n ≤ 64) (D O : List Int) (hm : D.length = m) (hmn : m ≤ n) (hoL : O.length = oL) (hoN : oL ≤ n) (hS : st.length = m) (hSM : ∀ k, k < m → lgD (st.getD k Dy.zero) = false) (hd : ∀ k, k < m → 0 ≤ D.getD k 0 ∧ (D.getD k 0).toNat < n ∧ zav bs (D.getD k 0).toNat = 2) (ho : ∀ k, k < oL → 0 ≤ O.getD k 0 ∧ (O.getD k 0).toNat < n ∧ (bs.getD (O.getD k 0).toNat Blk.zero).k ≠ 2) (hB : ∀ i, i < n → BlkOK ins.length n (bs.getD i Blk.zero)) (hP : ∀ i, i < ins.length → zbu (ins.getD i (0, 0, 0))) (hin : inp.length = ins.length) (hI : ∀ i, i < ins.length → -2147483648 ≤ inp.getD i 0 ∧ inp.getD i 0 < 2147483648) (hl : ∀ k, k < oL → lgD (exV ins bs inp (exD n D st m) O k) = false) (cb : zae zao) (cc : zae zaj) :
  ex ⟨Tryz.prog, gl, ti, 155, false, false, [6, 7, 8]⟩ 3000 (its ((zbd 60 (Tryz.f9.body.getD .skip)).drop 16)) ⟨[(1, .sl 3 (rws zaj st)), (2, .sl 1 (rws zad inp)), (3, .p 0 3 0 0), (6, .p 1 1 0 0), (7, .p 2 1 0 0), (8, .p 3 1 0 0), (9, .sl 1 (rws zad D)), (15, .sl 1 (rws zad O))], [(0, ⟨3, [[.sl 3 (rws zaD ins), .sl 6 (rws zao bs), .sl 1 (rws zad outs)]]⟩), (1, ⟨1, [[.v (.slice none 0 0)]]⟩), (2, ⟨1, [[.v (.slice none 0 0)]]⟩), (3, ⟨1, [[.v .nilIface]]⟩)], 4⟩
   (fun l s => l = .ret ∧ Fin s.mem (resL ti s Tryz.f9.results.toList) (.tup [.sl 3 (rws zaj (zgk bs D (exO ins bs inp (exD n D st m) O oL))), .sl 3 (rws zaj (exO ins bs inp (exD n D st m) O oL)), .v .nilIface])) := by
 simp only [zbd, Tryz.f9, Option.getD_some, List.cons_append, List.nil_append, List.drop, its, List.map_cons, List.map_nil]
 have hSM2 : ∀ k, k < m → Mg 9000 (st.getD k Dy.zero) := fun k hk => (zdX (hSM k hk)).1.mono (by omega)
 have mgD := zoV (st := st) hm (fun k hk => (hd k hk).2.1) hSM2
 refine wkr (zc2 hn hm) ?_
 refine lL (α := Nat) (fun k => ⟨[(1, .sl 3 (rws zaj st)), (2, .sl 1 (rws zad inp)), (3, .p 0 3 0 0), (6, .p 1 1 0 0), (7, .p 2 1 0 0), (8, .p 3 1 0 0), (9, .sl 1 (rws zad D)), (15, .sl 1 (rws zad O)), (94, .sl 1 (rws zad D)), (95, .v (.int .i64 m)), (96, .v (.int .i64 k))], [(0, ⟨3, [[.sl 3 (rws zaD ins), .sl 6 (rws zao bs), .sl 1 (rws zad outs)]]⟩), (1, ⟨1, [[.v (.slice none 0 0)]]⟩), (2, ⟨1, [[.ps 4 3 0 n]]⟩), (3, ⟨1, [[.v .nilIface]]⟩), (4, ⟨3, rws zaj (exD n D st k)⟩)], 5⟩) (fun k => k ≤ m) (fun k => m - k) (0) ?_ ?_ ?_
 ·exact Nat.zero_le _
 ·exact zaI.trans (zaI.mle 4 ⟨3, rws zaj (List.replicate n Dy.zero)⟩ rfl (mle_d n)) (Nat.le_refl _) (by exact zah)
 rintro k hk
 by_cases hkm : k < m
 ·have rs := cg (l := st) (i := k) (by omega)
  have rD := ig (l := D) (i := k) (by omega)
  obtain ⟨d1, d2, d3⟩ := hd k hkm
  have hMk := hSM2 k hkm
  have b1 := zdR (st.getD k Dy.zero) (hMk.mono (by omega)) (hSM k hkm)
  have s1 := zaS _ _ _ 0 _ (hMk.arg (by omega))
  rw [zcF] at s1
  have est : exD n D st (k + 1) = (exD n D st k).set (D.getD k 0).toNat (st.getD k Dy.zero) := rfl
  have hlen := zdi n D st k
  clear hSM hSM2 mgD hd ho hB hP hI hl
  generalize st.getD k Dy.zero = x at *
  generalize exD n D st k = V at *
  generalize D.getD k 0 = i at *
  obtain ⟨p, rfl⟩ : ∃ p : Nat, i = (p : Int) := ⟨i.toNat, by omega⟩
  rw [Int.toNat_natCast] at d2 d3 est
  have rl : ((rws zaj V).getD p []).length = 3 := by rw [cg (by omega)]; rfl
  have r6 : List.drop 3 ((rws zaj V).getD p []) = [] := List.drop_eq_nil_of_le (by rw [rl]; exact Nat.le_refl _)
  have e9 : (rws zaj V).set p [.v (.bool (sg x)), .sl 1 (u32s (ms x)), .v (.int .i64 (dn x))] = rws zaj (V.set p x) := zba V p x
  refine wkr (zc8 hm hS hlen rs rD rl r6 e9) ?_
  refine zac (α := Nat) (k + 1) ?_ ?_ ?_
  ·show k + 1 ≤ m; omega
  ·show m - (k + 1) < m - k; omega
  rw [est]
  exact zah
 obtain rfl : k = m := by omega
 have hlen := zdi n D st k
 have mgD := mgD k (Nat.le_refl _)
 have mgO := zoU (ins := ins) (bs := bs) (inp := inp) (O := O) hlen mgD (fun j hj => (ho j hj).2.1) hl
 clear hSM hSM2
 generalize exD n D st k = V0 at *
 refine wkr (zc2 hm hoL) ?_
 refine lL (α := Nat) (fun j => ⟨[(2, .sl 1 (rws zad inp)), (3, .p 0 3 0 0), (6, .p 1 1 0 0), (7, .p 2 1 0 0), (8, .p 3 1 0 0), (9, .sl 1 (rws zad D)), (111, .sl 1 (rws zad O)), (112, .v (.int .i64 oL)), (113, .v (.int .i64 j))], [(0, ⟨3, [[.sl 3 (rws zaD ins), .sl 6 (rws zao bs), .sl 1 (rws zad outs)]]⟩), (1, ⟨1, [[.v (.slice none 0 0)]]⟩), (2, ⟨1, [[.ps 4 3 0 n]]⟩), (3, ⟨1, [[.v .nilIface]]⟩), (4, ⟨3, rws zaj (exO ins bs inp V0 O j)⟩)], 5⟩) (fun j => j ≤ oL) (fun j => oL - j) (0) ?_ ?_ ?_
 ·exact Nat.zero_le _
 ·exact zah
 rintro j hj
 have hl1 := zfZ ins bs inp V0 O j
 rw [hlen] at hl1
 by_cases hjo : j < oL
 ·have ro := ig (l := O) (i := j) (by omega)
  obtain ⟨o1, o2, o3⟩ := ho j hjo
  have hMj := mgO j hj
  have e1 : exO ins bs inp V0 O (j + 1) = (exO ins bs inp V0 O j).set (O.getD j 0).toNat (exV ins bs inp V0 O j) := rfl
  have e0 : exV ins bs inp V0 O j = exB ins inp (exO ins bs inp V0 O j) (bs.getD (O.getD j 0).toNat Blk.zero) := rfl
  have rb := bg (l := bs) (i := (O.getD j 0).toNat) (by omega)
  have w1 := ex_block ins bs outs inp (bs.getD (O.getD j 0).toNat Blk.zero) (exO ins bs inp V0 O j) n hl1 (by omega) hMj (hB _ o2) o3 hin hI hP
  have mB := exB_mg (V := exO ins bs inp V0 O j) (bs.getD (O.getD j 0).toNat Blk.zero) hMj (hB _ o2) o3 hI hP
  rw [← e0] at w1 mB
  have hlj := hl j hjo
  clear hl ho hB hP hI mgO mgD hMj hd e0
  have b1 := zdR _ (mB.mono (by omega)) hlj
  clear mB hlj
  generalize exV ins bs inp V0 O j = x at *
  generalize exO ins bs inp V0 O j = V at *
  generalize O.getD j 0 = i at *
  obtain ⟨p, rfl⟩ : ∃ p : Nat, i = (p : Int) := ⟨i.toNat, by omega⟩
  rw [Int.toNat_natCast] at *
  generalize bs.getD p Blk.zero = b at *
  have rb : (rws zao bs).getD p [] = [.v (.int .i64 b.k), .sl 1 (rws zad b.a), .v (.int .i64 b.vn), .v (.int .i64 b.ve), .v (.int .i64 b.un), .v (.int .i64 b.ue)] := rb
  have rl : ((rws zaj V).getD p []).length = 3 := by rw [cg (by omega)]; rfl
  have r6 : List.drop 3 ((rws zaj V).getD p []) = [] := List.drop_eq_nil_of_le (by rw [rl]; exact Nat.le_refl _)
  have e9 : (rws zaj V).set p [.v (.bool (sg x)), .sl 1 (u32s (ms x)), .v (.int .i64 (dn x))] = rws zaj (V.set p x) := zba V p x
  refine wkrq [] 4 w1 w1 (zc8 hn hoL hl1 ro rb rl r6 e9) ?_
  refine zac (α := Nat) (j + 1) ?_ ?_ ?_
  ·show j + 1 ≤ oL; omega
  ·show oL - (j + 1) < oL - j; omega
  rw [e1]
  exact zah
 obtain rfl : j = oL := by omega
 have hVM := mgO j (Nat.le_refl _)
 clear hl ho mgO mgD hI hP
 generalize exO ins bs inp V0 O j = V at *
 refine wkr (zc2 hm hoL) ?_
 refine lL (α := Nat) (fun q => ⟨[(3, .p 0 3 0 0), (6, .p 1 1 0 0), (7, .p 2 1 0 0), (8, .p 3 1 0 0), (131, .sl 1 (rws zad D)), (132, .v (.int .i64 k)), (133, .v (.int .i64 q))], [(0, ⟨3, [[.sl 3 (rws zaD ins), .sl 6 (rws zao bs), .sl 1 (rws zad outs)]]⟩), (1, ⟨1, [[.ps 5 3 0 q]]⟩), (2, ⟨1, [[.ps 4 3 0 n]]⟩), (3, ⟨1, [[.v .nilIface]]⟩), (4, ⟨3, rws zaj V⟩), (5, ⟨3, rws zaj ((D.take q).map fun i => V.getD ((bs.getD i.toNat Blk.zero).at 0) Dy.zero)⟩)], 6⟩) (fun q => q ≤ k) (fun q => k - q) (0) ?_ ?_ ?_
 ·exact Nat.zero_le _
 ·exact zaI.trans (zaI.newnil 5 3 (Nat.le_of_ble_eq_true rfl)) (Nat.le_of_ble_eq_true rfl) (zaI.trans (zaI.mle 1 ⟨1, [[.ps 5 3 0 0]]⟩ rfl (zkW (.cons (Le.ps0 5 3 0) .nil))) (Nat.le_refl _) (by exact zah))
 rintro q hq
 have hL : ((D.take q).map fun i => V.getD ((bs.getD i.toNat Blk.zero).at 0) Dy.zero).length = q := by rw [List.length_map, List.length_take]; omega
 by_cases hqk : q < k
 ·have rD := ig (l := D) (i := q) (by omega)
  obtain ⟨d1, d2, d3⟩ := hd q hqk
  have ms := mapTk (fun i : Int => V.getD ((bs.getD i.toNat Blk.zero).at 0) Dy.zero) 0 D (k := q) (by omega)
  obtain ⟨p, hp⟩ : ∃ p : Nat, D.getD q 0 = (p : Int) := ⟨(D.getD q 0).toNat, by omega⟩
  rw [hp] at rD d2 d3 ms
  rw [Int.toNat_natCast] at d2 d3 ms
  have rb := bg (l := bs) (i := p) (by omega)
  obtain ⟨ha, hq0⟩ := (hB p d2).a1 (.inl d3)
  clear hB hd
  generalize bs.getD p Blk.zero = b at *
  have rb : (rws zao bs).getD p [] = [.v (.int .i64 b.k), .sl 1 (rws zad b.a), .v (.int .i64 b.vn), .v (.int .i64 b.ve), .v (.int .i64 b.un), .v (.int .i64 b.ue)] := rb
  have hla : b.a.length = 1 := by rw [ha]; rfl
  have ra : (rws zad b.a).getD 0 [] = [.v (.int .i64 ((b.at 0 : Nat) : Int))] := by rw [ha]; rfl
  generalize b.at 0 = i0 at *
  have rv := cg (l := V) (i := i0) (by omega)
  have s1 := zaS _ _ _ 0 _ ((hVM i0 hq0).arg (by omega))
  rw [zcF] at s1
  generalize V.getD i0 Dy.zero = x at *
  generalize ((D.take q).map fun i => V.getD ((bs.getD i.toNat Blk.zero).at 0) Dy.zero) = L at *
  have hlo : (rws zaj L).length = q := by rw [zab, hL]
  have e9 : (rws zaj L).take q ++ [[.v (.bool (sg x)), .sl 1 (u32s (Ax.ms x)), .v (.int .i64 (dn x))]] = rws zaj (L ++ [x]) := zbV hL
  repeat' (first | simp only [go_sem, seval, zab, hn, hm, hl1, hL, rD, rb, ra, hla, rv, e9] | simp (disch := omega) only [wA] | (with_reducible first | refine cA ?_ | refine dA ?_) | refine dAp ?_ | refine aI ?_ | refine dI ?_ | refine dG ?_ | ((first | refine cC ?_ ?_ | refine gS ?_ ?_ | refine dS ?_ ?_) <;> intro hc <;> simp only [hc] <;> try simp only [dcA] at hc <;> try omega) | refine aP ?_ | refine dP ?_)
  refine zac (α := Nat) (q + 1) ?_ ?_ ?_
  ·show q + 1 ≤ k; omega
  ·show k - (q + 1) < k - q; omega
  rw [ms]
  exact zaI.map [(0, 0), (1, 1), (2, 2), (3, 3), (4, 4), (5, 20)] rfl (by decide) (by decide) zml byGQ
 obtain rfl : q = k := by omega
 have eL : ((D.take q).map fun i => V.getD ((bs.getD i.toNat Blk.zero).at 0) Dy.zero) = zgk bs D V := by rw [List.take_of_length_le (by omega)]; rfl
 rw [eL] at hL ⊢
 clear eL hVM hB hd
 generalize zgk bs D V = L at *
 repeat' (first | simp only [go_sem, seval, zab, hm] | simp (disch := omega) only [wA] | refine aI ?_ | refine dI ?_ | refine dG ?_ | ((first | refine cC ?_ ?_ | refine gS ?_ ?_ | refine dS ?_ ?_) <;> intro hc <;> simp only [hc] <;> try simp only [dcA] at hc <;> try omega) | refine aP ?_ | refine dP ?_)
 have z1 : (rws zaj L).length ≤ q := by rw [zab]; omega
 have z2 : (rws zaj V).length ≤ n := by rw [zab]; omega
 refine zci trivial (.tup (.cons (.one (.ps rfl rfl (by show 0 + q ≤ (rws zaj L).length; rw [zab]; omega))) (.cons (.one (.ps rfl rfl (by show 0 + n ≤ (rws zaj V).length; rw [zab]; omega))) (.cons (.one .same) .nil)))) ?_
 exact Le.tup (.cons (Le.takeN z1) (.cons (Le.takeN z2) (.cons (.refl _) .nil)))
set_option maxHeartbeats 8000000
theorem st_exB (ins : List (Int × Int × Int)) (bs : List Blk) (outs inp : List Int) (st : List Dy) (n m oL : Nat) (hn : bs.length = n) (h64 : n ≤ 64) (D O : List Int) (hm : D.length = m) (hmn : m ≤ n) (hoL : O.length = oL) (hoN : oL ≤ n) (hS : st.length = m) (hSM : ∀ k, k < m → lgD (st.getD k Dy.zero) = false) (hd : ∀ k, k < m → 0 ≤ D.getD k 0 ∧ (D.getD k 0).toNat < n ∧ zav bs (D.getD k 0).toNat = 2) (ho : ∀ k, k < oL → 0 ≤ O.getD k 0 ∧ (O.getD k 0).toNat < n ∧ (bs.getD (O.getD k 0).toNat Blk.zero).k ≠ 2) (hB : ∀ i, i < n → BlkOK ins.length n (bs.getD i Blk.zero)) (hP : ∀ i, i < ins.length → zbu (ins.getD i (0, 0, 0))) (hin : inp.length = ins.length) (hI : ∀ i, i < ins.length → -2147483648 ≤ inp.getD i 0 ∧ inp.getD i 0 < 2147483648) (q : Nat) (hq : q < oL) (hlq : lgD (exV ins bs inp (exD n D st m) O q) = true) (hl : ∀ k, k < q → lgD (exV ins bs inp (exD n D st m) O k) = false) (cb : zae zao) (cc : zae zaj) :
  ex ⟨Tryz.prog, gl, ti, 155, false, true, [6, 7, 8]⟩ 3000 (its ((zbd 60 (Tryz.f9.body.getD .skip)).drop 16 |>.take 5)) ⟨[(1, .sl 3 (rws zaj st)), (2, .sl 1 (rws zad inp)), (3, .p 0 3 0 0), (6, .p 1 1 0 0), (7, .p 2 1 0 0), (8, .p 3 1 0 0), (9, .sl 1 (rws zad D)), (15, .sl 1 (rws zad O))], [(0, ⟨3, [[.sl 3 (rws zaD ins), .sl 6 (rws zao bs), .sl 1 (rws zad outs)]]⟩), (1, ⟨1, [[.v (.slice none 0 0)]]⟩), (2, ⟨1, [[.v (.slice none 0 0)]]⟩), (3, ⟨1, [[.v .nilIface]]⟩)], 4⟩
   (fun l s => l = .normal ∧ Dead 128 s) := by
 simp only [zbd, Tryz.f9, Option.getD_some, List.cons_append, List.nil_append, List.drop, List.take, its, List.map_cons, List.map_nil]
 have hSM2 : ∀ k, k < m → Mg 9000 (st.getD k Dy.zero) := fun k hk => (zdX (hSM k hk)).1.mono (by omega)
 have mgD := zoV (st := st) hm (fun k hk => (hd k hk).2.1) hSM2
 refine wkr (zc2 hn hm) ?_
 refine lL (α := Nat) (fun k => ⟨[(1, .sl 3 (rws zaj st)), (2, .sl 1 (rws zad inp)), (3, .p 0 3 0 0), (6, .p 1 1 0 0), (7, .p 2 1 0 0), (8, .p 3 1 0 0), (9, .sl 1 (rws zad D)), (15, .sl 1 (rws zad O)), (94, .sl 1 (rws zad D)), (95, .v (.int .i64 m)), (96, .v (.int .i64 k))], [(0, ⟨3, [[.sl 3 (rws zaD ins), .sl 6 (rws zao bs), .sl 1 (rws zad outs)]]⟩), (1, ⟨1, [[.v (.slice none 0 0)]]⟩), (2, ⟨1, [[.ps 4 3 0 n]]⟩), (3, ⟨1, [[.v .nilIface]]⟩), (4, ⟨3, rws zaj (exD n D st k)⟩)], 5⟩) (fun k => k ≤ m) (fun k => m - k) (0) ?_ ?_ ?_
 ·exact Nat.zero_le _
 ·exact zaI.trans (zaI.mle 4 ⟨3, rws zaj (List.replicate n Dy.zero)⟩ rfl (mle_d n)) (Nat.le_refl _) (by exact zah)
 rintro k hk
 by_cases hkm : k < m
 ·have rs := cg (l := st) (i := k) (by omega)
  have rD := ig (l := D) (i := k) (by omega)
  obtain ⟨d1, d2, d3⟩ := hd k hkm
  have hMk := hSM2 k hkm
  have b1 := zdR (st.getD k Dy.zero) (hMk.mono (by omega)) (hSM k hkm)
  have s1 := zaS _ _ _ 0 _ (hMk.arg (by omega))
  rw [zcF] at s1
  have est : exD n D st (k + 1) = (exD n D st k).set (D.getD k 0).toNat (st.getD k Dy.zero) := rfl
  have hlen := zdi n D st k
  clear hSM hSM2 mgD hd ho hB hP hI hl hlq
  generalize st.getD k Dy.zero = x at *
  generalize exD n D st k = V at *
  generalize D.getD k 0 = i at *
  obtain ⟨p, rfl⟩ : ∃ p : Nat, i = (p : Int) := ⟨i.toNat, by omega⟩
  rw [Int.toNat_natCast] at d2 d3 est
  have rl : ((rws zaj V).getD p []).length = 3 := by rw [cg (by omega)]; rfl
  have r6 : List.drop 3 ((rws zaj V).getD p []) = [] := List.drop_eq_nil_of_le (by rw [rl]; exact Nat.le_refl _)
  have e9 : (rws zaj V).set p [.v (.bool (sg x)), .sl 1 (u32s (ms x)), .v (.int .i64 (dn x))] = rws zaj (V.set p x) := zba V p x
  refine wkr (zc8 hm hS hlen rs rD rl r6 e9) ?_
  refine zac (α := Nat) (k + 1) ?_ ?_ ?_
  ·show k + 1 ≤ m; omega
  ·show m - (k + 1) < m - k; omega
  rw [est]
  exact zah
 obtain rfl : k = m := by omega
 have hlen := zdi n D st k
 have mgD := mgD k (Nat.le_refl _)
 have mgO := zoU (ins := ins) (bs := bs) (inp := inp) (O := O) hlen mgD (oL := q) (fun j hj => (ho j (by omega)).2.1) hl
 clear hSM hSM2
 generalize exD n D st k = V0 at *
 refine wkr (zc2 hm hoL) ?_
 refine l_loop (α := Option Nat) (fun y => match y with | some j => ⟨[(2, .sl 1 (rws zad inp)), (3, .p 0 3 0 0), (6, .p 1 1 0 0), (7, .p 2 1 0 0), (8, .p 3 1 0 0), (9, .sl 1 (rws zad D)), (111, .sl 1 (rws zad O)), (112, .v (.int .i64 oL)), (113, .v (.int .i64 j))], [(0, ⟨3, [[.sl 3 (rws zaD ins), .sl 6 (rws zao bs), .sl 1 (rws zad outs)]]⟩), (1, ⟨1, [[.v (.slice none 0 0)]]⟩), (2, ⟨1, [[.ps 4 3 0 n]]⟩), (3, ⟨1, [[.v .nilIface]]⟩), (4, ⟨3, rws zaj (exO ins bs inp V0 O j)⟩)], 5⟩ | none => ⟨[(112, .v (.int .i64 oL)), (113, .v (.int .i64 oL)), (128, zkj)], [], 300⟩) (fun y => ∀ j, y = some j → j ≤ q) (fun y => match y with | some j => oL - j + 1 | none => 0) (some 0) _ zpD (fun _ h => by cases h) ?_ ?_ ?_
 ·exact fun j h => by injection h with h; omega
 ·exact zah
 rintro y hy
 cases y with
 | none =>
  show ex _ _ _ ⟨[(112, .v (.int .i64 oL)), (113, .v (.int .i64 oL)), (128, zkj)], [], 300⟩ _
  repeat' (first | simp only [go_sem, seval, zab, hoL] | simp (disch := omega) only [wA] | refine aI ?_ | refine dI ?_ | refine dG ?_ | ((first | refine cC ?_ ?_ | refine gS ?_ ?_ | refine dS ?_ ?_) <;> intro hc <;> simp only [hc] <;> try simp only [dcA] at hc <;> try omega) | refine aP ?_ | refine dP ?_)
  all_goals exact rfl
 | some j =>
 have hj := hy j rfl
 show ex _ _ _ ⟨[(2, .sl 1 (rws zad inp)), (3, .p 0 3 0 0), (6, .p 1 1 0 0), (7, .p 2 1 0 0), (8, .p 3 1 0 0), (9, .sl 1 (rws zad D)), (111, .sl 1 (rws zad O)), (112, .v (.int .i64 oL)), (113, .v (.int .i64 j))], [(0, ⟨3, [[.sl 3 (rws zaD ins), .sl 6 (rws zao bs), .sl 1 (rws zad outs)]]⟩), (1, ⟨1, [[.v (.slice none 0 0)]]⟩), (2, ⟨1, [[.ps 4 3 0 n]]⟩), (3, ⟨1, [[.v .nilIface]]⟩), (4, ⟨3, rws zaj (exO ins bs inp V0 O j)⟩)], 5⟩ _
 have hl1 := zfZ ins bs inp V0 O j
 rw [hlen] at hl1
 have ro := ig (l := O) (i := j) (by omega)
 obtain ⟨o1, o2, o3⟩ := ho j (by omega)
 have hMj := mgO j hj
 have e1 : exO ins bs inp V0 O (j + 1) = (exO ins bs inp V0 O j).set (O.getD j 0).toNat (exV ins bs inp V0 O j) := rfl
 have e0 : exV ins bs inp V0 O j = exB ins inp (exO ins bs inp V0 O j) (bs.getD (O.getD j 0).toNat Blk.zero) := rfl
 have rb := bg (l := bs) (i := (O.getD j 0).toNat) (by omega)
 have w1 := ex_block ins bs outs inp (bs.getD (O.getD j 0).toNat Blk.zero) (exO ins bs inp V0 O j) n hl1 (by omega) hMj (hB _ o2) o3 hin hI hP
 have mB := exB_mg (V := exO ins bs inp V0 O j) (bs.getD (O.getD j 0).toNat Blk.zero) hMj (hB _ o2) o3 hI hP
 rw [← e0] at w1 mB
 by_cases hjq : j < q
 ·have hlj := hl j hjq
  clear hl ho hB hP hI mgO mgD hMj hd e0 hlq
  have b1 := zdR _ (mB.mono (by omega)) hlj
  clear mB hlj
  generalize exV ins bs inp V0 O j = x at *
  generalize exO ins bs inp V0 O j = V at *
  generalize O.getD j 0 = i at *
  obtain ⟨p, rfl⟩ : ∃ p : Nat, i = (p : Int) := ⟨i.toNat, by omega⟩
  rw [Int.toNat_natCast] at *
  generalize bs.getD p Blk.zero = b at *
  have rb : (rws zao bs).getD p [] = [.v (.int .i64 b.k), .sl 1 (rws zad b.a), .v (.int .i64 b.vn), .v (.int .i64 b.ve), .v (.int .i64 b.un), .v (.int .i64 b.ue)] := rb
  have rl : ((rws zaj V).getD p []).length = 3 := by rw [cg (by omega)]; rfl
  have r6 : List.drop 3 ((rws zaj V).getD p []) = [] := List.drop_eq_nil_of_le (by rw [rl]; exact Nat.le_refl _)
  have e9 : (rws zaj V).set p [.v (.bool (sg x)), .sl 1 (u32s (ms x)), .v (.int .i64 (dn x))] = rws zaj (V.set p x) := zba V p x
  refine wkrq [] 4 w1 w1 (zc8 hn hoL hl1 ro rb rl r6 e9) ?_
  refine zac (α := Option Nat) (some (j + 1)) ?_ ?_ ?_
  ·exact fun i h => by injection h with h; omega
  ·show oL - (j + 1) + 1 < oL - j + 1; omega
  show zaI _ ⟨[(2, .sl 1 (rws zad inp)), (3, .p 0 3 0 0), (6, .p 1 1 0 0), (7, .p 2 1 0 0), (8, .p 3 1 0 0), (9, .sl 1 (rws zad D)), (111, .sl 1 (rws zad O)), (112, .v (.int .i64 oL)), (113, .v (.int .i64 ((j + 1 : Nat))))], [(0, ⟨3, [[.sl 3 (rws zaD ins), .sl 6 (rws zao bs), .sl 1 (rws zad outs)]]⟩), (1, ⟨1, [[.v (.slice none 0 0)]]⟩), (2, ⟨1, [[.ps 4 3 0 n]]⟩), (3, ⟨1, [[.v .nilIface]]⟩), (4, ⟨3, rws zaj (exO ins bs inp V0 O (j + 1))⟩)], 5⟩
  rw [e1]
  exact zah
 ·obtain rfl : j = q := by omega
  have b1 := zi2 _ (mB.mono (by omega)) hlq
  clear hl ho hB hP hI mgO mgD hMj hd e0 hlq mB
  generalize exV ins bs inp V0 O j = x at *
  generalize exO ins bs inp V0 O j = V at *
  generalize O.getD j 0 = i at *
  obtain ⟨p, rfl⟩ : ∃ p : Nat, i = (p : Int) := ⟨i.toNat, by omega⟩
  rw [Int.toNat_natCast] at *
  generalize bs.getD p Blk.zero = b at *
  have rb : (rws zao bs).getD p [] = [.v (.int .i64 b.k), .sl 1 (rws zad b.a), .v (.int .i64 b.vn), .v (.int .i64 b.ve), .v (.int .i64 b.un), .v (.int .i64 b.ue)] := rb
  have rl : ((rws zaj V).getD p []).length = 3 := by rw [cg (by omega)]; rfl
  have r6 : List.drop 3 ((rws zaj V).getD p []) = [] := List.drop_eq_nil_of_le (by rw [rl]; exact Nat.le_refl _)
  unfold zkj at b1
  repeat' (first | simp only [go_sem, seval, zab, hn, hoL, hl1, ro, rb, rl, r6] | simp (disch := omega) only [wA] | refine cW 4 w1 ?_ | refine dW 4 w1 ?_ | (refine drawF_p (b1) rfl ?_) | refine aI ?_ | refine dI ?_ | refine dG ?_ | ((first | refine cC ?_ ?_ | refine gS ?_ ?_ | refine dS ?_ ?_) <;> intro hc <;> simp only [hc] <;> try simp only [dcA] at hc <;> try omega) | refine aP ?_ | refine dP ?_)
  refine zac (α := Option Nat) none ?_ ?_ ?_
  ·exact fun i h => by cases h
  ·show 0 < oL - j + 1; omega
  exact Dead.to (t := 128) rfl rfl (Nat.le_of_ble_eq_true rfl)
set_option maxHeartbeats 8000000
theorem zi4 (ins : List (Int × Int × Int)) (bs : List Blk) (outs inp : List Int) (st : List Dy) (n m : Nat) (hn : bs.length = n) (h64 : n ≤ 64) (hz : dgE ins bs outs = 0) (D O : List Int) (hD : zaq bs = D) (hO : zcf bs = O) (hm : D.length = m) (hmn : m ≤ n) (hS : st.length = m) (hSM : ∀ k, k < m → lgD (st.getD k Dy.zero) = false) (h : ¬ inp.length = ins.length) (cb : zae zao) (cc : zae zaj) : CallOK Tryz.prog gl 9 [AG ins bs outs, .sl 3 (rws zaj st), .sl 1 (rws zad inp)] (.tup [.v (.slice none 0 0), .v (.slice none 0 0), .v (.iface 71 (.int .i64 11))]) := by
 refine okC 155 Tryz.call9 Tryz.func9 Tryz.ntmps9 Tryz.results9 ?_
 have c1 := zcp ins bs outs hz
 have c2 := zeC ins bs outs hz zaf
 rw [hD] at c1
 rw [hO] at c2
 clear hz hD hO
 refine wkr (zc2 hm hS) ?_
 refine lL (α := Nat) (fun j => ⟨[(1, .sl 3 (rws zaj st)), (2, .sl 1 (rws zad inp)), (3, .p 0 3 0 0), (6, .p 1 1 0 0), (7, .p 2 1 0 0), (8, .p 3 1 0 0), (9, .sl 1 (rws zad D)), (36, .sl 3 (rws zaj st)), (37, .v (.int .i64 m)), (38, .v (.int .i64 j))], [(0, ⟨3, [[.sl 3 (rws zaD ins), .sl 6 (rws zao bs), .sl 1 (rws zad outs)]]⟩), (1, ⟨1, [[.v (.slice none 0 0)]]⟩), (2, ⟨1, [[.v (.slice none 0 0)]]⟩), (3, ⟨1, [[.v .nilIface]]⟩)], 4⟩) (fun j => j ≤ m) (fun j => m - j) (0) ?_ ?_ ?_
 ·exact Nat.zero_le _
 ·exact zah
 rintro j hj
 by_cases hjm : j < m
 ·have rs := cg (l := st) (i := j) (by omega)
  have hMj := (zdX (hSM j hjm)).1
  clear hSM
  generalize st.getD j Dy.zero = x at *
  have v1 := zdT (sg x) (ms x) (dn x) (by have := (hMj.arg (by omega)).len; omega)
  rw [zbB x] at v1
  refine wkr (zc2 hS rs) ?_
  refine zac (α := Nat) (j + 1) ?_ ?_ ?_
  ·show j + 1 ≤ m; omega
  ·show m - (j + 1) < m - j; omega
  exact zah
 obtain rfl : j = m := by omega
 exact wer (zc2 hm hS)
theorem zi5 (ins : List (Int × Int × Int)) (bs : List Blk) (outs inp : List Int) (st : List Dy) (n m : Nat) (hn : bs.length = n) (h64 : n ≤ 64) (hz : dgE ins bs outs = 0) (D O : List Int) (hD : zaq bs = D) (hO : zcf bs = O) (hm : D.length = m) (hmn : m ≤ n) (hS : st.length = m) (hSM : ∀ k, k < m → lgD (st.getD k Dy.zero) = false) (nP : Nat) (hin : inp.length = nP) (hP : ins.length = nP) (h16 : nP ≤ 16) (q : Nat) (hq : q < nP) (hb : ¬ ((ins.getD q (0, 0, 0)).1 ≤ inp.getD q 0 ∧ inp.getD q 0 ≤ (ins.getD q (0, 0, 0)).2.1)) (hg : ∀ i, i < q → (ins.getD i (0, 0, 0)).1 ≤ inp.getD i 0 ∧ inp.getD i 0 ≤ (ins.getD i (0, 0, 0)).2.1) (cb : zae zao) (cc : zae zaj) : CallOK Tryz.prog gl 9 [AG ins bs outs, .sl 3 (rws zaj st), .sl 1 (rws zad inp)] (.tup [.v (.slice none 0 0), .v (.slice none 0 0), .v (.iface 71 (.int .i64 3))]) := by
 refine okC 155 Tryz.call9 Tryz.func9 Tryz.ntmps9 Tryz.results9 ?_
 have c1 := zcp ins bs outs hz
 have c2 := zeC ins bs outs hz zaf
 rw [hD] at c1
 rw [hO] at c2
 clear hz hD hO
 refine wkr (zc2 hm hS) ?_
 refine lL (α := Nat) (fun j => ⟨[(1, .sl 3 (rws zaj st)), (2, .sl 1 (rws zad inp)), (3, .p 0 3 0 0), (6, .p 1 1 0 0), (7, .p 2 1 0 0), (8, .p 3 1 0 0), (9, .sl 1 (rws zad D)), (36, .sl 3 (rws zaj st)), (37, .v (.int .i64 m)), (38, .v (.int .i64 j))], [(0, ⟨3, [[.sl 3 (rws zaD ins), .sl 6 (rws zao bs), .sl 1 (rws zad outs)]]⟩), (1, ⟨1, [[.v (.slice none 0 0)]]⟩), (2, ⟨1, [[.v (.slice none 0 0)]]⟩), (3, ⟨1, [[.v .nilIface]]⟩)], 4⟩) (fun j => j ≤ m) (fun j => m - j) (0) ?_ ?_ ?_
 ·exact Nat.zero_le _
 ·exact zah
 rintro j hj
 by_cases hjm : j < m
 ·have rs := cg (l := st) (i := j) (by omega)
  have hMj := (zdX (hSM j hjm)).1
  clear hSM
  generalize st.getD j Dy.zero = x at *
  have v1 := zdT (sg x) (ms x) (dn x) (by have := (hMj.arg (by omega)).len; omega)
  rw [zbB x] at v1
  refine wkr (zc2 hS rs) ?_
  refine zac (α := Nat) (j + 1) ?_ ?_ ?_
  ·show j + 1 ≤ m; omega
  ·show m - (j + 1) < m - j; omega
  exact zah
 obtain rfl : j = m := by omega
 refine wkr (zc4 hm hS hin hP) ?_
 refine lL (α := Nat) (fun i => ⟨[(1, .sl 3 (rws zaj st)), (2, .sl 1 (rws zad inp)), (3, .p 0 3 0 0), (6, .p 1 1 0 0), (7, .p 2 1 0 0), (8, .p 3 1 0 0), (54, .sl 1 (rws zad inp)), (55, .v (.int .i64 nP)), (56, .v (.int .i64 i))], [(0, ⟨3, [[.sl 3 (rws zaD ins), .sl 6 (rws zao bs), .sl 1 (rws zad outs)]]⟩), (1, ⟨1, [[.v (.slice none 0 0)]]⟩), (2, ⟨1, [[.v (.slice none 0 0)]]⟩), (3, ⟨1, [[.v .nilIface]]⟩)], 4⟩) (fun i => i ≤ q) (fun i => q - i) (0) ?_ ?_ ?_
 ·exact Nat.zero_le _
 ·exact zah
 rintro i hi
 have rp := pg (l := ins) (i := i) (by omega)
 have rn := ig (l := inp) (i := i) (by omega)
 by_cases hiq : i < q
 ·have ok := hg i hiq
  clear hg hb hSM
  generalize inp.getD i 0 = y at *
  generalize ins.getD i (0, 0, 0) = p at *
  obtain ⟨p1, p2, p3⟩ := p
  change (rws zaD ins).getD i [] = [.v (.int .i64 p1), .v (.int .i64 p2), .v (.int .i64 p3)] at rp
  have ok : p1 ≤ y ∧ y ≤ p2 := ok
  refine wkr (zc4 hin hP rp rn) ?_
  refine zac (α := Nat) (i + 1) ?_ ?_ ?_
  ·show i + 1 ≤ q; omega
  ·show q - (i + 1) < q - i; omega
  exact zah
 ·obtain rfl : i = q := by omega
  clear hg hSM
  generalize inp.getD i 0 = y at *
  generalize ins.getD i (0, 0, 0) = p at *
  obtain ⟨p1, p2, p3⟩ := p
  change (rws zaD ins).getD i [] = [.v (.int .i64 p1), .v (.int .i64 p2), .v (.int .i64 p3)] at rp
  have hb : ¬ (p1 ≤ y ∧ y ≤ p2) := hb
  exact wer (zc4 hin hP rp rn)
theorem zkb (ins : List (Int × Int × Int)) (bs : List Blk) (outs inp : List Int) (st : List Dy) (n m : Nat) (hn : bs.length = n) (h64 : n ≤ 64) (hz : dgE ins bs outs = 0) (D O : List Int) (hD : zaq bs = D) (hO : zcf bs = O) (hm : D.length = m) (hmn : m ≤ n) (hS : st.length = m) (hSM : ∀ k, k < m → lgD (st.getD k Dy.zero) = false) (nP : Nat) (hin : inp.length = nP) (hP : ins.length = nP) (h16 : nP ≤ 16) (hg : ∀ i, i < nP → (ins.getD i (0, 0, 0)).1 ≤ inp.getD i 0 ∧ inp.getD i 0 ≤ (ins.getD i (0, 0, 0)).2.1) (cb : zae zao) (cc : zae zaj) (res : AV) (hres : Cl res)
  (tail : TailD ⟨Tryz.prog, gl, ti, 155, false, false, []⟩ Tryz.f9 ⟨[(1, .sl 3 (rws zaj st)), (2, .sl 1 (rws zad inp)), (3, .p 0 3 0 0), (6, .p 1 1 0 0), (7, .p 2 1 0 0), (8, .p 3 1 0 0), (9, .sl 1 (rws zad D)), (15, .sl 1 (rws zad O))], [(0, ⟨3, [[.sl 3 (rws zaD ins), .sl 6 (rws zao bs), .sl 1 (rws zad outs)]]⟩), (1, ⟨1, [[.v (.slice none 0 0)]]⟩), (2, ⟨1, [[.v (.slice none 0 0)]]⟩), (3, ⟨1, [[.v .nilIface]]⟩)], 4⟩ ((zbd 60 (Tryz.f9.body.getD .skip)).drop 15) res) :
  CallOK Tryz.prog gl 9 [AG ins bs outs, .sl 3 (rws zaj st), .sl 1 (rws zad inp)] res := by
 refine zpz (c := Tryz.f9.body.getD .skip) (C := ⟨Tryz.prog, gl, ti, 155, false, false, []⟩) za1 zgl 60 15 3000 Tryz.call9 Tryz.func9 rfl Tryz.ntmps9 (by simp) zhN hres ?_
 generalize (zbd 60 (Tryz.f9.body.getD .skip)).drop 15 = T at *
 simp only [zbd, Tryz.f9, Option.getD_some, List.cons_append, List.nil_append, List.take, its, List.map_cons, List.map_nil]
 have c1 := zcp ins bs outs hz
 have c2 := zeC ins bs outs hz zaf
 rw [hD] at c1
 rw [hO] at c2
 clear hz hD hO
 refine wkr (zc2 hm hS) ?_
 refine lL (α := Nat) (fun j => ⟨[(1, .sl 3 (rws zaj st)), (2, .sl 1 (rws zad inp)), (3, .p 0 3 0 0), (6, .p 1 1 0 0), (7, .p 2 1 0 0), (8, .p 3 1 0 0), (9, .sl 1 (rws zad D)), (36, .sl 3 (rws zaj st)), (37, .v (.int .i64 m)), (38, .v (.int .i64 j))], [(0, ⟨3, [[.sl 3 (rws zaD ins), .sl 6 (rws zao bs), .sl 1 (rws zad outs)]]⟩), (1, ⟨1, [[.v (.slice none 0 0)]]⟩), (2, ⟨1, [[.v (.slice none 0 0)]]⟩), (3, ⟨1, [[.v .nilIface]]⟩)], 4⟩) (fun j => j ≤ m) (fun j => m - j) (0) ?_ ?_ ?_
 ·exact Nat.zero_le _
 ·exact zah
 rintro j hj
 by_cases hjm : j < m
 ·have rs := cg (l := st) (i := j) (by omega)
  have hMj := (zdX (hSM j hjm)).1
  clear hSM
  generalize st.getD j Dy.zero = x at *
  have v1 := zdT (sg x) (ms x) (dn x) (by have := (hMj.arg (by omega)).len; omega)
  rw [zbB x] at v1
  refine wkr (zc2 hS rs) ?_
  refine zac (α := Nat) (j + 1) ?_ ?_ ?_
  ·show j + 1 ≤ m; omega
  ·show m - (j + 1) < m - j; omega
  exact zah
 obtain rfl : j = m := by omega
 refine wkr (zc4 hm hS hin hP) ?_
 refine lL (α := Nat) (fun i => ⟨[(1, .sl 3 (rws zaj st)), (2, .sl 1 (rws zad inp)), (3, .p 0 3 0 0), (6, .p 1 1 0 0), (7, .p 2 1 0 0), (8, .p 3 1 0 0), (9, .sl 1 (rws zad D)), (54, .sl 1 (rws zad inp)), (55, .v (.int .i64 nP)), (56, .v (.int .i64 i))], [(0, ⟨3, [[.sl 3 (rws zaD ins), .sl 6 (rws zao bs), .sl 1 (rws zad outs)]]⟩), (1, ⟨1, [[.v (.slice none 0 0)]]⟩), (2, ⟨1, [[.v (.slice none 0 0)]]⟩), (3, ⟨1, [[.v .nilIface]]⟩)], 4⟩) (fun i => i ≤ nP) (fun i => nP - i) (0) ?_ ?_ ?_
 ·exact Nat.zero_le _
 ·exact zah
 rintro i hi
 by_cases hiq : i < nP
 ·have rp := pg (l := ins) (i := i) (by omega)
  have rn := ig (l := inp) (i := i) (by omega)
  have ok := hg i hiq
  clear hg hSM
  generalize inp.getD i 0 = y at *
  generalize ins.getD i (0, 0, 0) = p at *
  obtain ⟨p1, p2, p3⟩ := p
  change (rws zaD ins).getD i [] = [.v (.int .i64 p1), .v (.int .i64 p2), .v (.int .i64 p3)] at rp
  have ok : p1 ≤ y ∧ y ≤ p2 := ok
  refine wkr (zc4 hin hP rp rn) ?_
  refine zac (α := Nat) (i + 1) ?_ ?_ ?_
  ·show i + 1 ≤ nP; omega
  ·show nP - (i + 1) < nP - i; omega
  exact zah
 clear hg hSM
 repeat' (first | simp only [go_sem, seval, zab, hin, hP] | simp (disch := omega) only [wA] | (with_reducible first | refine cF c2 ?_ | refine dF c2 ?_) | refine aI ?_ | refine dI ?_ | refine dG ?_ | ((first | refine cC ?_ ?_ | refine gS ?_ ?_ | refine dS ?_ ?_) <;> intro hc <;> simp only [hc] <;> try simp only [dcA] at hc <;> try omega) | refine aP ?_ | refine dP ?_)
 exact ⟨⟨[(1, .sl 3 (rws zaj st)), (2, .sl 1 (rws zad inp)), (3, .p 0 3 0 0), (6, .p 1 1 0 0), (7, .p 2 1 0 0), (8, .p 3 1 0 0), (9, .sl 1 (rws zad D)), (15, .sl 1 (rws zad O))], [(0, ⟨3, [[.sl 3 (rws zaD ins), .sl 6 (rws zao bs), .sl 1 (rws zad outs)]]⟩), (1, ⟨1, [[.v (.slice none 0 0)]]⟩), (2, ⟨1, [[.v (.slice none 0 0)]]⟩), (3, ⟨1, [[.v .nilIface]]⟩)], 4⟩, by exact zah, tail⟩
theorem st_inv (k6 k7 k8 : Nat) (w : World) : (invoke (.fn (.func 29) #[.pointer (some ⟨k6, 0, none⟩), .pointer (some ⟨k7, 0, none⟩), .pointer (some ⟨k8, 0, none⟩)]) #[]).run Tryz.prog w = .ok (.enter 29 #[.pointer (some ⟨k6, 0, none⟩), .pointer (some ⟨k7, 0, none⟩), .pointer (some ⟨k8, 0, none⟩)]) w := by
 simp [go_sem]
theorem st_res (k6 k7 k8 : Nat) (v6 v7 v8 : Value) (tmps : Array Value) (w : World) (h6 : tmps[6]? = some (.pointer (some ⟨k6, 0, none⟩))) (h7 : tmps[7]? = some (.pointer (some ⟨k7, 0, none⟩))) (h8 : tmps[8]? = some (.pointer (some ⟨k8, 0, none⟩))) (g6 : w.cell? ⟨k6, 0, none⟩ = some v6) (g7 : w.cell? ⟨k7, 0, none⟩ = some v7) (g8 : w.cell? ⟨k8, 0, none⟩ = some v8) :
  (results Tryz.f9 tmps).run Tryz.prog w = .ok (.tuple #[v6, v7, v8]) w := by
 simp [results, Tryz.results9, go_sem, h6, h7, h8, g6, g7, g8]
theorem zmM (ins : List (Int × Int × Int)) (bs : List Blk) (outs inp : List Int) (st : List Dy) (n m : Nat) (hn : bs.length = n) (h64 : n ≤ 64) (hz : dgE ins bs outs = 0) (D O : List Int) (hD : zaq bs = D) (hO : zcf bs = O) (hm : D.length = m) (hmn : m ≤ n) (hS : st.length = m) (hSM : ∀ k, k < m → lgD (st.getD k Dy.zero) = false) (nP oL : Nat) (hin : inp.length = nP) (hP : ins.length = nP) (h16 : nP ≤ 16) (hg : ∀ i, i < nP → (ins.getD i (0, 0, 0)).1 ≤ inp.getD i 0 ∧ inp.getD i 0 ≤ (ins.getD i (0, 0, 0)).2.1) (hoL : O.length = oL) (hl : ∀ k, k < oL → lgD (exV ins bs inp (exD n D st m) O k) = false) :
  CallOK Tryz.prog gl 9 [AG ins bs outs, .sl 3 (rws zaj st), .sl 1 (rws zad inp)] (.tup [.sl 3 (rws zaj (zgk bs D (exO ins bs inp (exD n D st m) O oL))), .sl 3 (rws zaj (exO ins bs inp (exD n D st m) O oL)), .v .nilIface]) := by
 have hdg := zdB hz
 have cb := zaf
 have cc := zan
 refine zkb ins bs outs inp st n m hn h64 hz D O hD hO hm hmn hS hSM nP hin hP h16 hg cb cc _ zdk ?_
 obtain ⟨o1, o2⟩ := zd7 hdg
 rw [hO, hoL, hn] at o1
 rw [hO, hoL, hn] at o2
 have hI : ∀ i, i < ins.length → -2147483648 ≤ inp.getD i 0 ∧ inp.getD i 0 < 2147483648 := fun i hi => by
  have h1 := hg i (by omega)
  obtain ⟨⟨q1, q2⟩, q3, _⟩ := hdg.ports i hi
  omega
 have hex := st_exA ins bs outs inp st n m oL hn h64 D O hm hmn hoL o1 hS hSM (fun k hk => by have := zdj (bs := bs) (k := k) (by rw [hD]; omega); rw [hD, hn] at this; exact this) o2 (fun i hi => by have := hdg.blk i (by omega); rw [hn] at this; exact this) hdg.ports (by rw [hin, hP]) hI hl cb cc
 refine znm (g := 29) (b6 := 1) (b7 := 2) (b8 := 3) rfl rfl rfl rfl rfl (by decide) ⟨_, rfl, rfl, Nat.zero_lt_one⟩ ⟨_, rfl, rfl, Nat.zero_lt_one⟩ ⟨_, rfl, rfl, Nat.zero_lt_one⟩ (by decide) (fun S w0 a w k6 k7 k8 D2 S1 hD3 => ?_)
 exact zbb (C := ⟨Tryz.prog, gl, ti, 155, false, false, [6, 7, 8]⟩) (D := D2) (S0 := S1) (w0 := w) za1 ⟨hD3.hD.1, fun _ => hD3.hD.2, by rw [hD3.fx]; rfl⟩ zgl 3000 _ _ _ _ _ hex a w hD3.sim
  ⟨fun s a w q hs => (by cases q.1), fun s a w q hs => ret_d za1 hD3 (st_inv k6 k7 k8) st_idle hs q.2 zdk, fun k s a w q hs => (by cases q.1), fun h => by cases h⟩
theorem zka (ins : List (Int × Int × Int)) (bs : List Blk) (outs inp : List Int) (st : List Dy) (n m : Nat) (hn : bs.length = n) (h64 : n ≤ 64) (hz : dgE ins bs outs = 0) (D O : List Int) (hD : zaq bs = D) (hO : zcf bs = O) (hm : D.length = m) (hmn : m ≤ n) (hS : st.length = m) (hSM : ∀ k, k < m → lgD (st.getD k Dy.zero) = false) (nP oL : Nat) (hin : inp.length = nP) (hP : ins.length = nP) (h16 : nP ≤ 16) (hg : ∀ i, i < nP → (ins.getD i (0, 0, 0)).1 ≤ inp.getD i 0 ∧ inp.getD i 0 ≤ (ins.getD i (0, 0, 0)).2.1) (hoL : O.length = oL) (q : Nat) (hq : q < oL) (hlq : lgD (exV ins bs inp (exD n D st m) O q) = true) (hl : ∀ k, k < q → lgD (exV ins bs inp (exD n D st m) O k) = false) :
  CallOK Tryz.prog gl 9 [AG ins bs outs, .sl 3 (rws zaj st), .sl 1 (rws zad inp)] (.tup [.v (.slice none 0 0), .v (.slice none 0 0), .v (.iface 71 (.int .i64 4))]) := by
 have hdg := zdB hz
 have cb := zaf
 have cc := zan
 refine zkb ins bs outs inp st n m hn h64 hz D O hD hO hm hmn hS hSM nP hin hP h16 hg cb cc _ zdk ?_
 obtain ⟨o1, o2⟩ := zd7 hdg
 rw [hO, hoL, hn] at o1
 rw [hO, hoL, hn] at o2
 have hI : ∀ i, i < ins.length → -2147483648 ≤ inp.getD i 0 ∧ inp.getD i 0 < 2147483648 := fun i hi => by
  have h1 := hg i (by omega)
  obtain ⟨⟨q1, q2⟩, q3, _⟩ := hdg.ports i hi
  omega
 have hex := st_exB ins bs outs inp st n m oL hn h64 D O hm hmn hoL o1 hS hSM (fun k hk => by have := zdj (bs := bs) (k := k) (by rw [hD]; omega); rw [hD, hn] at this; exact this) o2 (fun i hi => by have := hdg.blk i (by omega); rw [hn] at this; exact this) hdg.ports (by rw [hin, hP]) hI q hq hlq hl cb cc
 refine znm (g := 29) (b6 := 1) (b7 := 2) (b8 := 3) rfl rfl rfl rfl rfl (by decide) ⟨_, rfl, rfl, Nat.zero_lt_one⟩ ⟨_, rfl, rfl, Nat.zero_lt_one⟩ ⟨_, rfl, rfl, Nat.zero_lt_one⟩ (by decide) (fun S w0 a w k6 k7 k8 D2 S1 hD3 => ?_)
 show zaJ Tryz.prog _ _ (its ((zbd 60 (Tryz.f9.body.getD .skip)).drop 16)) .normal a w
 rw [← List.take_append_drop 5 ((zbd 60 (Tryz.f9.body.getD .skip)).drop 16), zcH, ← zbI]
 have hpan := pan_d (C2 := ⟨Tryz.prog, gl, ti, 155, false, true, [6, 7, 8]⟩) (fn := Tryz.f9) hD3 (st_inv k6 k7 k8) (st_catch k6 k7 k8) (st_res k6 k7 k8 _ _ _)
 exact zbb (C := ⟨Tryz.prog, gl, ti, 155, false, true, [6, 7, 8]⟩) (D := D2) (S0 := S1) (w0 := w) za1 ⟨hD3.hD.1, fun _ => hD3.hD.2, by rw [hD3.fx]; rfl⟩ zgl 3000 _ _ _ _ _ hex a w hD3.sim
  ⟨fun s a w q hs => (q.2.no hs).elim, fun s a w q hs => (by cases q.1), fun k s a w q hs => (by cases q.1), fun hp ch a w' hf hb => zcz _ _ _ _ (hpan hp ch a w' hf hb)⟩
set_option maxHeartbeats 4000000
theorem tp_big (ins : List (Int × Int × Int)) (bs : List Blk) (outs : List Int) (ll : List (List Int)) (n nl : Nat) (hn : bs.length = n) (hnl : ll.length = nl) (h1 : n ≤ 9223372036854775807) (h2 : nl ≤ 9223372036854775807) (h : 40 < n ∨ 20 < nl) (cb : zae zao) (cs : zae lsR) : CallOK Tryz.prog gl 3 [AG ins bs outs, .sl 1 (rws lsR ll)] (.v (.bool (true))) := by
 refine okC 227 Tryz.call3 Tryz.func3 Tryz.ntmps3 Tryz.results3 ?_
 have hv := zgP
 by_cases h40 : 40 < n
 ·clear h
  exact wer (zc2 hn hnl)
 ·have h20 : 20 < nl := by omega
  clear h
  exact wer (zc2 hn hnl)
theorem tp_err (ins : List (Int × Int × Int)) (bs : List Blk) (outs : List Int) (ll : List (List Int)) (n nl : Nat) (hn : bs.length = n) (hnl : ll.length = nl) (h1 : n ≤ 40) (h2 : nl ≤ 20) (z : Int) (hz : dgE ins bs outs = z) (h : ¬ z = 0) (cb : zae zao) (cs : zae lsR) : CallOK Tryz.prog gl 3 [AG ins bs outs, .sl 1 (rws lsR ll)] (.v (.bool (true))) := by
 refine okC 227 Tryz.call3 Tryz.func3 Tryz.ntmps3 Tryz.results3 ?_
 have hv := zgP
 have c1 := mk_no ins bs outs 3 z hz h cb
 rw [zcD h] at c1
 clear hz
 exact wer (zc2 hn hnl)
set_option maxHeartbeats 8000000
theorem tp_run (ins : List (Int × Int × Int)) (bs : List Blk) (outs : List Int) (ll : List (List Int)) (n nl : Nat) (hn : bs.length = n) (hnl : ll.length = nl) (h1 : n ≤ 40) (h2 : nl ≤ 20) (hz : dgE ins bs outs = 0) (cb : zae zao) (cs : zae lsR) (cv : zae ivr) (cc : zae zaj) (ci : zae zbn) : CallOK Tryz.prog gl 3 [AG ins bs outs, .sl 1 (rws lsR ll)] (.v (.bool (true))) := by
 refine okC 227 Tryz.call3 Tryz.func3 Tryz.ntmps3 Tryz.results3 ?_
 have hv := zgP
 have mk := zoo ins bs outs 3 (by omega) (by omega) hz
 refine wkr (zc2 hn hnl) ?_
 refine zhu mk ?_
 rintro _ (⟨R, fr, E, rfl, hcr⟩ | ⟨_, rfl⟩)
 case inr =>
  clear mk hv
  exact wer (zc2 hn hnl)
 have H := zo9 (outs := outs) hz hcr
 have cp := zim hz hcr.lf H (by omega)
 have hpg := pgOK H (by omega)
 have hst := zmg ins (zcA bs fr) (zcB ins bs fr) outs _ rfl hpg ci
 have hex := zl7 ins bs outs hz
 have dl := zcp ins bs outs hz
 have lI := zdt bs fr
 have lnC : n ≤ pNC bs := by unfold pNC; omega
 have lnC2 : pNC bs ≤ 1000 := by have := zeg bs; have := zpt bs; unfold pNC; omega
 have hlf := hcr.lf
 have hlE := hcr.lE
 have hlR := hcr.lR
 rw [hn] at hlf hlE hlR
 have s0 := st0 H
 have es : staB bs = (zaq bs).map fun i => scN (bs.getD i.toNat Blk.zero).vn (bs.getD i.toNat Blk.zero).ve := rfl
 rw [← es] at s0
 generalize staB bs = S0 at *
 generalize zcA bs fr = C0 at *
 clear mk hv es
 refine wkr (zc6 hn hnl hlf hlE hlR lI) ?_
 clear cp hst hex
 have hcode : zcB ins bs fr = zcB ins bs fr := rfl
 obtain ⟨code, hcd⟩ : ∃ code, zcB ins bs fr = code := ⟨_, rfl⟩
 rw [hcd] at hpg ⊢
 have TK := fun (L : List Int) (C : List Int) (st : List Dy) => tick (inp := L) (C := C) (st := st) H
 rw [hcd] at TK
 clear hcode
 refine lL (α := Nat × List Int × List Dy) (fun y => ⟨[(2, .p 0 3 0 0), (5, .p 1 3 0 0), (8, .p 2 4 0 0), (9, .sl 1 (rws zad y.2.1)), (10, .sl 3 (rws zaj y.2.2)), (113, .sl 1 (rws lsR ll)), (114, .v (.int .i64 nl)), (115, .v (.int .i64 y.1))], [(0, ⟨3, [[.sl 3 (rws zaD ins), .sl 6 (rws zao bs), .sl 1 (rws zad outs)]]⟩), (1, ⟨3, [[.sl 1 (rws zad fr), .sl 6 (rws ivr R), .sl 3 (rws zaj E)]]⟩), (2, ⟨4, [[.sl 3 (rws zaD ins), .sl 1 (rws zad C0), .sl 7 (rws zbn code), .sl 1 (rws zad outs)]]⟩)], 3⟩) (fun y => y.1 ≤ nl ∧ StOK bs fr R E y.2.1 y.2.2) (fun y => nl - y.1) ((0, C0, S0)) ?_ ?_ ?_
 ·exact ⟨Nat.zero_le _, s0⟩
 ·exact zah
 rintro ⟨j, C, st⟩ ⟨hj, hS⟩
 have hj : j ≤ nl := hj
 have hS : StOK bs fr R E C st := hS
 by_cases hjn : j < nl
 case neg =>
  obtain rfl : nl = j := by omega
  clear TK
  exact wer hnl
 have rl := lsg (l := ll) (i := j) (by omega)
 generalize ll.getD j [] = L at *
 clear s0
 by_cases hin : L.length = ins.length
 case neg =>
  have sp := zi4 ins bs outs L st bs.length _ rfl (by omega) hz (zaq bs) (pO bs) rfl rfl rfl (zeg bs) hS.sl hS.lg hin cb cc
  clear TK
  exact wer (zc2 hnl rl)
 have h16 := H.dg.nI
 by_cases hrg : ∀ i, i < ins.length → (ins.getD i (0, 0, 0)).1 ≤ L.getD i 0 ∧ L.getD i 0 ≤ (ins.getD i (0, 0, 0)).2.1
 case neg =>
  obtain ⟨q, hq, hb, hg⟩ := zfw (p := fun i => (ins.getD i (0, 0, 0)).1 ≤ L.getD i 0 ∧ L.getD i 0 ≤ (ins.getD i (0, 0, 0)).2.1) hrg
  have sp := zi5 ins bs outs L st bs.length _ rfl (by omega) hz (zaq bs) (pO bs) rfl rfl rfl (zeg bs) hS.sl hS.lg _ hin rfl h16 q hq hb hg cb cc
  clear TK hb hg
  exact wer (zc2 hnl rl)
 by_cases hlg : ∀ k, k < (pO bs).length → lgD (exV ins bs L (exD bs.length (zaq bs) st (zaq bs).length) (pO bs) k) = false
 case neg =>
  obtain ⟨q, hq, hb, hg⟩ := zfw (p := fun k => lgD (exV ins bs L (exD bs.length (zaq bs) st (zaq bs).length) (pO bs) k) = false) hlg
  have sp := zka ins bs outs L st bs.length _ rfl (by omega) hz (zaq bs) (pO bs) rfl rfl rfl (zeg bs) hS.sl hS.lg _ _ hin rfl h16 hrg rfl q hq (by simpa using hb) hg
  clear TK hb hg hlg
  exact wer (zc2 hnl rl)
 have sp := zmM ins bs outs L st bs.length _ rfl (by omega) hz (zaq bs) (pO bs) rfl rfl rfl (zeg bs) hS.sl hS.lg _ _ hin rfl h16 hrg rfl hlg
 change CallOK _ _ _ _ (.tup [.sl 3 (rws zaj (zgk bs (zaq bs) (zfj ins bs L st))), .sl 3 (rws zaj (zfj ins bs L st)), .v .nilIface]) at sp
 have lX := znT ins bs L st
 obtain ⟨t1, t2, t3⟩ := TK L C st hS hrg hlg
 clear TK
 have run := co_Run ins C0 code outs C L _ _ _ _ rfl rfl rfl rfl hpg (hS.len.trans lI.symm) (by rw [lI]; exact hS.i32) hin hrg (fun k hk => zlP t1 hk) ci
 rw [zlC] at run
 have lC := hS.len
 have lC' : (zcG L C code).length = pNC bs := by rw [ziI]; exact lC
 clear t1 hlg hrg hpg
 generalize zfj ins bs L st = X at *
 generalize zgk bs (zaq bs) X = st' at *
 generalize outL (zcG L C code) outs = OL at *
 generalize zcG L C code = C' at *
 rw [hn] at lX
 obtain ⟨D, hD⟩ : ∃ D, zaq bs = D := ⟨_, rfl⟩
 have hdk := fun k (h : k < (zaq bs).length) => zbA (bs := bs) (k := k) h
 have hdo := fun i (h : i < bs.length) (g : zav bs i = 2) => zlf (bs := bs) (i := i) h g
 rw [hD] at dl hdk hdo
 rw [hn] at hdo
 obtain ⟨m, hm⟩ : ∃ m, D.length = m := ⟨_, rfl⟩
 rw [hm] at hdk hdo
 have hm40 : m ≤ 40 := by have := zeg bs; rw [hD] at this; omega
 refine wkr (zc5 hnl rl lX lC' hn) ?_
 refine lL (α := Nat) (fun i => ⟨[(2, .p 0 3 0 0), (5, .p 1 3 0 0), (8, .p 2 4 0 0), (9, .sl 1 (rws zad C)), (14, .sl 3 (rws zaj st')), (17, .p 3 3 0 0), (19, .sl 1 (rws zad D)), (113, .sl 1 (rws lsR ll)), (114, .v (.int .i64 nl)), (115, .v (.int .i64 j)), (166, .sl 3 (rws zaj X)), (167, .v (.int .i64 n)), (168, .v (.int .i64 i))], [(0, ⟨3, [[.sl 3 (rws zaD ins), .sl 6 (rws zao bs), .sl 1 (rws zad outs)]]⟩), (1, ⟨3, [[.sl 1 (rws zad fr), .sl 6 (rws ivr R), .sl 3 (rws zaj E)]]⟩), (2, ⟨4, [[.sl 3 (rws zaD ins), .sl 1 (rws zad C0), .sl 7 (rws zbn code), .sl 1 (rws zad outs)]]⟩), (3, ⟨3, [[.sl 1 (rws zad C'), .sl 1 (rws zad OL), .v (.bool (false))]]⟩)], 4⟩) (fun i => i ≤ n) (fun i => n - i) (0) ?_ ?_ ?_
 ·exact Nat.zero_le _
 ·exact zah
 rintro i hi
 by_cases hin2 : i < n
 case neg =>
  obtain rfl : n = i := by omega
  clear t3 hdk hdo
  refine wkr lX ?_
  refine zac (α := Nat × List Int × List Dy) (j + 1, C', st') ⟨?_, t2⟩ ?_ ?_
  ·show j + 1 ≤ nl; omega
  ·show nl - (j + 1) < nl - j; omega
  exact zah
 have g := t3 i (by omega)
 clear t2 t3
 have rx := cg (l := X) (i := i) (by omega)
 have rc := ig (l := C) (i := i) (by omega)
 have rc' := ig (l := C') (i := i) (by omega)
 refine wkr (zc5 lX rx rc' lC' hm) ?_
 refine lL (α := Nat × Int) (fun y => ⟨[(2, .p 0 3 0 0), (5, .p 1 3 0 0), (8, .p 2 4 0 0), (9, .sl 1 (rws zad C)), (14, .sl 3 (rws zaj st')), (17, .p 3 3 0 0), (19, .sl 1 (rws zad D)), (113, .sl 1 (rws lsR ll)), (114, .v (.int .i64 nl)), (115, .v (.int .i64 j)), (21, .v (.int .i64 i)), (22, .p 4 3 0 0), (23, .v (.int .i64 y.2)), (166, .sl 3 (rws zaj X)), (167, .v (.int .i64 n)), (168, .v (.int .i64 i)), (178, .sl 1 (rws zad D)), (179, .v (.int .i64 m)), (180, .v (.int .i64 y.1))], [(0, ⟨3, [[.sl 3 (rws zaD ins), .sl 6 (rws zao bs), .sl 1 (rws zad outs)]]⟩), (1, ⟨3, [[.sl 1 (rws zad fr), .sl 6 (rws ivr R), .sl 3 (rws zaj E)]]⟩), (2, ⟨4, [[.sl 3 (rws zaD ins), .sl 1 (rws zad C0), .sl 7 (rws zbn code), .sl 1 (rws zad outs)]]⟩), (3, ⟨3, [[.sl 1 (rws zad C'), .sl 1 (rws zad OL), .v (.bool (false))]]⟩), (4, ⟨3, [zaj (X.getD i Dy.zero)]⟩)], 5⟩) (fun y => y.1 ≤ m ∧ y.2 = (if (i : Int) ∈ D.take y.1 then C.getD i 0 else C'.getD i 0)) (fun y => m - y.1) ((0, C'.getD i 0)) ?_ ?_ ?_
 ·exact ⟨Nat.zero_le _, by simp⟩
 ·exact zah
 rintro ⟨k, v⟩ ⟨hk, hv⟩
 have hk : k ≤ m := hk
 have hv : v = (if (i : Int) ∈ D.take k then C.getD i 0 else C'.getD i 0) := hv
 by_cases hkm : k < m
 ·have rd := ig (l := D) (i := k) (by omega)
  obtain ⟨q, hq, _, _⟩ := hdk k hkm
  have tk := ze5 (l := D) (k := k) (by omega) (x := (i : Int))
  rw [hq] at rd tk
  clear hdk hdo g
  by_cases hqi : q = i
  ·subst hqi
   have hv2 : C.getD q 0 = (if (q : Int) ∈ D.take (k + 1) then C.getD q 0 else C'.getD q 0) := by rw [if_pos (tk.2 (.inr rfl))]
   clear tk hv
   generalize C.getD q 0 = w at *
   refine wkr (zc4 hm rd rc lC) ?_
   refine zac (α := Nat × Int) (k + 1, w) ⟨?_, hv2⟩ ?_ ?_
   ·show k + 1 ≤ m; omega
   ·show m - (k + 1) < m - k; omega
   exact zah
  ·have hv2 : v = (if (i : Int) ∈ D.take (k + 1) then C.getD i 0 else C'.getD i 0) := by
    rw [hv]
    by_cases hmem : (i : Int) ∈ D.take k
    ·rw [if_pos hmem, if_pos (tk.2 (.inl hmem))]
    ·rw [if_neg hmem, if_neg (fun h => by
      rcases tk.1 h with h | h
      ·exact hmem h
      ·omega)]
   clear tk hv
   refine wkr (zc4 hm rd rc lC) ?_
   refine zac (α := Nat × Int) (k + 1, v) ⟨?_, hv2⟩ ?_ ?_
   ·show k + 1 ≤ m; omega
   ·show m - (k + 1) < m - k; omega
   exact zah
 obtain rfl : m = k := by omega
 have hv2 : v = if zav bs i = 2 then C.getD i 0 else C'.getD i 0 := by
  rw [hv, List.take_of_length_le (by omega)]
  by_cases hk2 : zav bs i = 2
  ·obtain ⟨k, hk1, hk2'⟩ := hdo i hin2 hk2
   rw [if_pos hk2, if_pos (by rw [← hk2']; exact zez (by omega))]
  ·rw [if_neg hk2, if_neg (fun h => by
    obtain ⟨k, hk1, he⟩ := zgu 0 h
    obtain ⟨q, hq, _, hq2⟩ := hdk k (by omega)
    rw [he] at hq
    have : q = i := by omega
    subst this
    exact hk2 hq2)]
 rw [← hv2] at g
 clear hv hv2 hdk hdo
 have rf := ig (l := fr) (i := i) (by omega)
 have re := cg (l := E) (i := i) (by omega)
 have rr := vg (l := R) (i := i) (by omega)
 have f1 := H.hf i (by omega)
 have off := good_off H (by omega) g
 have on := g.on.has
 have hv32 := g.i32
 unfold i32 at hv32
 have mR := (zeH (hcr.hR i (by omega))).1
 have mE := (hcr.hE i (by omega)).mg
 have mX : Mg 4096 (X.getD i Dy.zero) := on_mg mR g.on
 clear g H hcr hS
 have o1 := zeY v (by omega)
 have mv : Mg 64 (Dy.int v) := zcY (by omega)
 have s1 := zaS _ _ _ (0 - fr.getD i 0) _ (mv.arg (by omega))
 have ms : Mg 4096 ((Dy.int v).shift (0 - fr.getD i 0)) := (mv.shift _).mono (by unfold zbe; omega)
 have b1 := Sub_ok _ _ _ _ _ _ _ _ (ms.arg (by omega)) (mX.arg (by omega))
 have mb := ms.sub mX
 have a1 := zit _ _ _ _ (mb.arg (by omega))
 have c1 := zb2 _ _ _ _ _ _ _ _ (mb.abs.arg (by omega)) (mE.arg (by omega))
 have h1' := zk5 _ _ _ _ _ _ _ _ _ (IArg.of mR) _ _ _ _ (mX.arg (by omega))
 rw [on] at h1'
 clear mR mE mX mv ms mb on
 generalize ((((Dy.int v).shift (0 - fr.getD i 0)).sub (X.getD i Dy.zero)).abs).cmp (E.getD i Dy.zero) = c at *
 generalize (((Dy.int v).shift (0 - fr.getD i 0)).sub (X.getD i Dy.zero)).abs = y4 at *
 generalize ((Dy.int v).shift (0 - fr.getD i 0)).sub (X.getD i Dy.zero) = y3 at *
 generalize (Dy.int v).shift (0 - fr.getD i 0) = y2 at *
 generalize fr.getD i 0 = f at *
 generalize E.getD i Dy.zero = e at *
 generalize R.getD i Iv.zero = r at *
 generalize X.getD i Dy.zero = x at *
 generalize Dy.int v = y1 at *
 refine wkr (zc7 hm hlf hlE hlR rf re rr) ?_
 refine zac (α := Nat) (i + 1) ?_ ?_ ?_
 ·show i + 1 ≤ n; omega
 ·show n - (i + 1) < n - i; omega
 exact zah
theorem tp_law (ins : List (Int × Int × Int)) (bs : List Blk) (outs : List Int) (ll : List (List Int)) (h1 : bs.length ≤ 9223372036854775807) (h2 : ll.length ≤ 9223372036854775807) :
  CallOK Tryz.prog gl 3 [AG ins bs outs, .sl 1 (rws lsR ll)] (.v (.bool true)) := by
 by_cases h : 40 < bs.length ∨ 20 < ll.length
 ·exact tp_big ins bs outs ll _ _ rfl rfl h1 h2 h zaf zjg
 ·by_cases hz : dgE ins bs outs = 0
  ·exact tp_run ins bs outs ll _ _ rfl rfl (by omega) (by omega) hz zaf zjg zak zan zaR
  ·exact tp_err ins bs outs ll _ _ rfl rfl (by omega) (by omega) _ rfl hz zaf zjg
set_option maxHeartbeats 4000000
theorem wc_law (r1 r2 r3 r4 : List (List AV)) (m1 : r1.length ≤ maxLen) (f1 : ∀ x ∈ r1, zeo [.int .i64, .int .i64, .int .i64] x) (m2 : r2.length ≤ maxLen) (f2 : ∀ x ∈ r2, zeo [.int .i64, .sl [.int .i64], .int .i64, .int .i64, .int .i64, .int .i64] x) (m3 : r3.length ≤ maxLen) (f3 : ∀ x ∈ r3, zeo [.int .i64] x) (m4 : r4.length ≤ maxLen) (f4 : ∀ x ∈ r4, zeo [.sl [.int .i64]] x) :
  CallOK Tryz.prog gl 3 [.agg [.sl 3 r1, .sl 6 r2, .sl 1 r3], .sl 1 r4] (.v (.bool true)) := by
 obtain ⟨ins, rfl, z1⟩ := zoR f1
 obtain ⟨bs, _, rfl, z2⟩ := fit_blks f2
 obtain ⟨outs, _, rfl, z3⟩ := zhg f3
 obtain ⟨ll, rfl, z4⟩ := fit_ls f4
 unfold maxLen at m2 m4
 exact tp_law ins bs outs ll (by omega) (by omega)
end Go.Proofs.YtcpmeibfggoebaaGreatDoor
