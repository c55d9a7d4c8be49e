/- What the functions that the statement reaches compute. -/
import Derived.Test.YtcpmeibfggoebaaGreatDoorX1
import Derived.Test.YtcpmeibfggoebaaGreatDoorX2
import Derived.Test.YtcpmeibfggoebaaGreatDoorX3
import Derived.Test.YtcpmeibfggoebaaGreatDoorV4
set_option linter.unusedSimpArgs false
set_option linter.unusedVariables false
set_option linter.deprecated false
namespace Go.Proofs.YtcpmeibfggoebaaGreatDoor
open Go Go.Ax
set_option maxRecDepth 100000
set_option maxHeartbeats 4000000
def zlM (b : Bool) : List AV := [.v (.bool b)]
theorem og {l : List Bool} {i : Nat} (h : i < l.length) : (rws zlM l).getD i [] = [.v (.bool (l.getD i false))] := by rw [zcS (f := zlM) false h]; rfl
theorem rws_set {α : Type} {f : α → List AV} (l : List α) (i : Nat) (x : α) : (rws f l).set i (f x) = rws f (l.set i x) := by simp [rws, List.map_set]
theorem o_set (l : List Bool) (i : Nat) (b : Bool) : (rws zlM l).set i [AV.v (.bool b)] = rws zlM (l.set i b) := rws_set l i b
def dK (bs : List Blk) (n k : Nat) : List Bool := (List.range n).map fun i => decide (i < k) && decide (zav bs i = 2)
theorem zdC (bs : List Blk) (n k : Nat) : (dK bs n k).length = n := by simp [dK]
theorem zil {bs : List Blk} {n k i : Nat} (h : i < n) : (dK bs n k).getD i false = (decide (i < k) && decide (zav bs i = 2)) := by simp [dK, List.getD, h]
theorem zgz {l m : List Bool} (h1 : l.length = m.length) (h2 : ∀ i, i < l.length → l.getD i false = m.getD i false) : l = m := by
 apply List.ext_getElem h1
 intro i a b
 have := h2 i a
 rwa [zaB a, zaB b] at this
theorem dK_zero (bs : List Blk) (n : Nat) : dK bs n 0 = List.replicate n false := by
 refine zgz (by rw [zdC, List.length_replicate]) fun i hi => ?_
 rw [zdC] at hi
 rw [zil hi]; simp [List.getD, hi]
theorem dK_yes {bs : List Blk} {n k : Nat} (hk : k < n) (h : zav bs k = 2) : (dK bs n k).set k true = dK bs n (k + 1) := by
 refine zgz (by rw [List.length_set, zdC, zdC]) fun i hi => ?_
 rw [List.length_set, zdC] at hi
 rw [zft (by rw [zdC]; exact hk), zil hi, zil hi]
 by_cases e : k = i
 ·subst e; simp [h]
 ·rw [if_neg e]
  congr 1
  exact decide_eq_decide.2 (by omega)
theorem dK_no {bs : List Blk} {n k : Nat} (hk : k < n) (h : zav bs k ≠ 2) : dK bs n k = dK bs n (k + 1) := by
 refine zgz (by rw [zdC, zdC]) fun i hi => ?_
 rw [zdC] at hi
 rw [zil hi, zil hi]
 by_cases e : k = i
 ·subst e; simp [h]
 ·congr 1
  exact decide_eq_decide.2 (by omega)
theorem dK_all (bs : List Blk) : dK bs bs.length bs.length = zfy bs := by
 refine zgz (by rw [zdC]; simp [zfy]) fun i hi => ?_
 rw [zdC] at hi
 rw [zil hi]
 unfold zfy zav
 simp [List.getD, hi]
def lK (bs : List Blk) (k : Nat) : Nat := ((bs.take k).filter fun b => decide (b.k ≠ 2)).length
theorem lK_yes {bs : List Blk} {k : Nat} (hk : k < bs.length) (h : zav bs k = 2) : lK bs (k + 1) = lK bs k := by
 unfold lK
 rw [List.take_succ_eq_append_getElem hk, List.filter_append]
 have : (bs[k]).k = 2 := by unfold zav at h; rwa [zaB hk] at h
 simp [this]
theorem lK_no {bs : List Blk} {k : Nat} (hk : k < bs.length) (h : zav bs k ≠ 2) : lK bs (k + 1) = lK bs k + 1 := by
 unfold lK
 rw [List.take_succ_eq_append_getElem hk, List.filter_append]
 have : (bs[k]).k ≠ 2 := by unfold zav at h; rwa [zaB hk] at h
 simp [this]
theorem lK_le (bs : List Blk) (k : Nat) : lK bs k ≤ k := by
 unfold lK
 exact Nat.le_trans (List.length_filter_le _ _) (by rw [List.length_take]; omega)
theorem zo2 (ins : List (Int × Int × Int)) (bs : List Blk) (outs : List Int) (i n : Nat) (hn : bs.length = n) (hi : i < n) (h64 : n ≤ 64) (cb : zae zao) : CallOK Tryz.prog gl 79 [AG ins bs outs, .v (.int .i64 i)] (.sl 1 (rws zad (zhz (bs.getD i Blk.zero)))) := by
 refine okC 20 Tryz.call79 Tryz.func79 Tryz.ntmps79 Tryz.results79 ?_
 have rb := bg (l := bs) (i := i) (by omega)
 generalize bs.getD i Blk.zero = b at *
 have rb : (rws zao bs).getD i [] = [.v (.int .i64 b.k), .sl 1 (rws zad b.a), .v (.int .i64 b.vn), .v (.int .i64 b.ve), .v (.int .i64 b.un), .v (.int .i64 b.ue)] := rb
 unfold zhz
 generalize b.k = k at *
 by_cases h : k = 0 ∨ k = 2
 ·rw [if_pos h]
  repeat' (first | simp only [go_sem, seval, zab, hn, rb] | simp (disch := omega) only [wA] | refine aI ?_ | refine dI ?_ | refine dG ?_ | ((first | refine cC ?_ ?_ | refine gS ?_ ?_ | refine dS ?_ ?_) <;> intro hc <;> simp only [hc] <;> try simp only [dcA] at hc <;> try omega) | refine aP ?_ | refine dP ?_)
  all_goals exact zbQ trivial (Le.nil _)
 ·rw [if_neg h]
  exact wer (zc2 hn rb)
set_option maxHeartbeats 4000000
def zcf (bs : List Blk) : List Int := (ordB bs).getD []
def zn2 (bs : List Blk) : Int := if (ordB bs).isSome then 0 else 24
theorem rws_repl (n : Nat) : rws zlM (List.replicate n false) = List.replicate n [AV.v (.bool false)] := by simp [rws, zlM]
theorem zku {done : List Bool} {l : List Int} {j : Nat} (h : j < l.length) : zdm done (l.take (j + 1)) = (zdm done (l.take j) && done.getD (l.getD j 0).toNat false) := by
 unfold zdm
 rw [List.take_succ_eq_append_getElem h, List.all_append, zaB h]
 simp
theorem znR (bs : List Blk) (done : List Bool) (i : Nat) : zce bs done (i + 1) = if ((!done.getD i false && decide (zce bs done i < 0)) && zdm done (zhz (bs.getD i Blk.zero))) = true then (i : Int) else zce bs done i := by
 have hg := zlI bs done i
 rw [zce]
 by_cases h1 : zce bs done i < 0
 ·rw [if_pos h1, decide_eq_true h1]
  unfold rdyB
  by_cases h2 : (!done.getD i false && zdm done (zhz (bs.getD i Blk.zero))) = true
  ·rw [if_pos h2, if_pos (by rw [Bool.and_true]; exact h2)]
  ·rw [if_neg h2, if_neg (by rw [Bool.and_true]; exact h2)]; omega
 ·rw [if_neg h1, decide_eq_false h1, if_neg (by simp)]
theorem zmc (ins : List (Int × Int × Int)) (bs : List Blk) (outs : List Int) (n : Nat) (hn : bs.length = n) (h64 : n ≤ 64) (ha : ∀ i, i < n → ∀ a ∈ zhz (bs.getD i Blk.zero), 0 ≤ a ∧ a < n) (hm : ∀ i, i < n → (zhz (bs.getD i Blk.zero)).length ≤ 2) (cb : zae zao) (co : zae zlM) : CallOK Tryz.prog gl 46 [AG ins bs outs] (.tup [.sl 1 (rws zad (zcf bs)), .v (eV (zn2 bs))]) := by
 refine okC 84 Tryz.call46 Tryz.func46 Tryz.ntmps46 Tryz.results46 ?_
 refine wkr hn ?_
 refine lL (α := Nat) (fun k => ⟨[(1, .p 0 3 0 0), (5, .ps 1 1 0 n), (6, .v (.int .i64 (lK bs k))), (19, .sl 6 (rws zao bs)), (20, .v (.int .i64 n)), (21, .v (.int .i64 k)), (4, .v (.slice none 0 0))], [(0, ⟨3, [[.sl 3 (rws zaD ins), .sl 6 (rws zao bs), .sl 1 (rws zad outs)]]⟩), (1, ⟨1, rws zlM (dK bs n k)⟩)], 2⟩) (fun k => k ≤ n) (fun k => n - k) (0) ?_ ?_ ?_
 ·exact Nat.zero_le _
 ·rw [dK_zero, rws_repl]
  exact zah
 rintro k hk
 by_cases hkn : k < n
 ·have rb := bg (l := bs) (i := k) (by omega)
  have lk := lK_le bs k
  have dl := zdC bs n k
  by_cases h2 : zav bs k = 2
  ·have e1 := dK_yes hkn h2
   have e2 := lK_yes (bs := bs) (k := k) (by omega) h2
   unfold zav at h2
   generalize bs.getD k Blk.zero = b at *
   have rb : (rws zao bs).getD k [] = [.v (.int .i64 b.k), .sl 1 (rws zad b.a), .v (.int .i64 b.vn), .v (.int .i64 b.ve), .v (.int .i64 b.un), .v (.int .i64 b.ue)] := rb
   rw [h2] at rb
   have ro := og (l := dK bs n k) (i := k) (by omega)
   repeat' (first | simp only [go_sem, seval, zab, hn, rb, dl, ro, o_set, e1] | simp (disch := omega) only [wA] | refine aI ?_ | refine dI ?_ | refine dG ?_ | ((first | refine cC ?_ ?_ | refine gS ?_ ?_ | refine dS ?_ ?_) <;> intro hc <;> simp only [hc] <;> try simp only [dcA] at hc <;> try omega) | refine aP ?_ | refine dP ?_)
   refine zac (α := Nat) (k + 1) ?_ ?_ ?_
   ·show k + 1 ≤ n; omega
   ·show n - (k + 1) < n - k; omega
   rw [e2]
   exact zah
  ·have e1 := dK_no hkn h2
   have e2 := lK_no (bs := bs) (k := k) (by omega) h2
   unfold zav at h2
   generalize bs.getD k Blk.zero = b at *
   have rb : (rws zao bs).getD k [] = [.v (.int .i64 b.k), .sl 1 (rws zad b.a), .v (.int .i64 b.vn), .v (.int .i64 b.ve), .v (.int .i64 b.un), .v (.int .i64 b.ue)] := rb
   generalize b.k = kk at *
   refine wkr (zc3 hn rb dl) ?_
   refine zac (α := Nat) (k + 1) ?_ ?_ ?_
   ·show k + 1 ≤ n; omega
   ·show n - (k + 1) < n - k; omega
   rw [e2, ← e1]
   exact zah
 ·obtain rfl : k = n := by omega
  have hL := lK_le bs k
  have hdn : dK bs k k = zfy bs := by rw [← hn]; exact dK_all bs
  have hlf : lK bs k = zmJ bs := by unfold lK zmJ; rw [List.take_of_length_le (by omega)]
  rw [hdn]
  have hd0 : (zfy bs).length = k := by rw [← hdn, zdC]
  obtain ⟨L, hLL⟩ : ∃ L, lK bs k = L := ⟨_, rfl⟩
  rw [hLL] at hL hlf ⊢
  have hR0 : zn1 bs L (zfy bs) [] = ordB bs := by rw [hlf]; rfl
  generalize zfy bs = D0 at *
  refine wkr hn ?_
  refine lL (α := Nat × List Bool × List Int) (fun y => ⟨[(1, .p 0 3 0 0), (5, .ps 1 1 0 k), (6, .v (.int .i64 y.1)), (4, .ps 2 1 0 y.2.2.length)], [(0, ⟨3, [[.sl 3 (rws zaD ins), .sl 6 (rws zao bs), .sl 1 (rws zad outs)]]⟩), (1, ⟨1, rws zlM y.2.1⟩), (2, ⟨1, rws zad y.2.2⟩)], 3⟩) (fun y => y.2.2.length + y.1 = L ∧ y.2.1.length = k ∧ zn1 bs y.1 y.2.1 y.2.2 = ordB bs) (fun y => y.1) ((L, D0, [])) ?_ ?_ ?_
  ·exact ⟨Nat.zero_add _, hd0, hR0⟩
  ·exact zaI.trans (zaI.newnil 2 1 (Nat.le_refl _)) (Nat.le_of_ble_eq_true rfl) (by exact zah)
  rintro ⟨left, done, out⟩ ⟨h1, h2, h3⟩
  simp only at h1 h2 h3
  obtain ⟨ol, hol⟩ : ∃ ol, out.length = ol := ⟨_, rfl⟩
  rw [hol] at h1 ⊢
  cases left with
  | zero =>
   have hL2 : zcf bs = out := by unfold zcf; rw [← h3]; rfl
   have hE2 : zn2 bs = 0 := by unfold zn2; rw [← h3]; rfl
   rw [hL2, hE2, zbg]
   repeat' (first | simp only [go_sem, seval, zab, hn] | simp (disch := omega) only [wA] | refine aI ?_ | refine dI ?_ | refine dG ?_ | ((first | refine cC ?_ ?_ | refine gS ?_ ?_ | refine dS ?_ ?_) <;> intro hc <;> simp only [hc] <;> try simp only [dcA] at hc <;> try omega) | refine aP ?_ | refine dP ?_)
   refine zci trivial (.tup (.cons (.one (.ps rfl rfl (by show 0 + ol ≤ (rws zad out).length; rw [zab]; omega))) (.cons (.one .same) .nil))) ?_
   rw [List.drop_zero, List.take_of_length_le (by show (rws zad out).length ≤ ol; rw [zab]; omega)]
   exact .refl _
  | succ left =>
   refine wkr hn ?_
   refine lL (α := Nat) (fun i => ⟨[(1, .p 0 3 0 0), (5, .ps 1 1 0 k), (6, .v (.int .i64 ((left + 1 : Nat)))), (4, .ps 2 1 0 ol), (9, .v (.int .i64 (zce bs done i))), (40, .sl 6 (rws zao bs)), (41, .v (.int .i64 k)), (42, .v (.int .i64 i))], [(0, ⟨3, [[.sl 3 (rws zaD ins), .sl 6 (rws zao bs), .sl 1 (rws zad outs)]]⟩), (1, ⟨1, rws zlM done⟩), (2, ⟨1, rws zad out⟩)], 3⟩) (fun i => i ≤ k) (fun i => k - i) (0) ?_ ?_ ?_
   ·exact Nat.zero_le _
   ·exact zah
   rintro i hi
   by_cases hik : i < k
   ·have c1 := zo2 ins bs outs i k hn hik h64 cb
    have hai := ha i hik
    have hmi := hm i hik
    have ps := znR bs done i
    have ro := og (l := done) (i := i) (by omega)
    generalize zhz (bs.getD i Blk.zero) = args at *
    obtain ⟨m, hmm⟩ : ∃ m, args.length = m := ⟨_, rfl⟩
    rw [hmm] at hmi
    obtain ⟨r0, hr0⟩ : ∃ r0, (!done.getD i false && decide (zce bs done i < 0)) = r0 := ⟨_, rfl⟩
    rw [hr0] at ps
    generalize done.getD i false = di at *
    generalize zce bs done i = p at *
    have haj : ∀ j, j < m → 0 ≤ args.getD j 0 ∧ args.getD j 0 < k := fun j hj => hai _ (by rw [zaB (by omega)]; exact List.getElem_mem _)
    cases r0 with
    | false =>
     rw [Bool.false_and, if_neg Bool.noConfusion] at ps
     have hx : (di = true ∧ (0 : Nat) = 0) ∨ (di = false ∧ decide (p < 0) = false) := by
      cases di
      ·exact .inr ⟨rfl, by simpa using hr0⟩
      ·exact .inl ⟨rfl, rfl⟩
     rcases hx with ⟨rfl, hp⟩ | ⟨rfl, hp⟩
     all_goals
      refine wkr (zc5 hn h2 hmm ro hp) ?_
      refine lL (α := Nat) (fun j => ⟨[(1, .p 0 3 0 0), (5, .ps 1 1 0 k), (6, .v (.int .i64 ((left + 1 : Nat)))), (4, .ps 2 1 0 ol), (9, .v (.int .i64 p)), (40, .sl 6 (rws zao bs)), (41, .v (.int .i64 k)), (42, .v (.int .i64 i)), (10, .v (.int .i64 i)), (56, .sl 1 (rws zad args)), (57, .v (.int .i64 m)), (58, .v (.int .i64 j)), (11, .v (.bool (false)))], [(0, ⟨3, [[.sl 3 (rws zaD ins), .sl 6 (rws zao bs), .sl 1 (rws zad outs)]]⟩), (1, ⟨1, rws zlM done⟩), (2, ⟨1, rws zad out⟩)], 3⟩) (fun j => j ≤ m) (fun j => m - j) (0) ?_ ?_ ?_
      ·exact Nat.zero_le _
      ·exact zah
      rintro j hj
      by_cases hjm : j < m
      ·have ra := ig (l := args) (i := j) (by omega)
       refine wkr (zc4 hn h2 hmm ra) ?_
       refine zac (α := Nat) (j + 1) (by show j + 1 ≤ m; omega) (by show m - (j + 1) < m - j; omega) ?_
       exact zah
      ·
       refine wkr (zc3 hn h2 hmm) ?_
       refine zac (α := Nat) (i + 1) (by show i + 1 ≤ k; omega) (by show k - (i + 1) < k - i; omega) ?_
       rw [ps]
       exact zah
    | true =>
     obtain ⟨hdi, hp⟩ : di = false ∧ p < 0 := by
      rw [Bool.and_eq_true] at hr0
      exact ⟨by simpa using hr0.1, by simpa using hr0.2⟩
     subst hdi
     rw [Bool.true_and] at ps
     have hpd : decide (p < 0) = true := decide_eq_true hp
     refine wkr (zc5 hn h2 hmm ro hpd) ?_
     refine lL (α := Nat) (fun j => ⟨[(1, .p 0 3 0 0), (5, .ps 1 1 0 k), (6, .v (.int .i64 ((left + 1 : Nat)))), (4, .ps 2 1 0 ol), (9, .v (.int .i64 p)), (40, .sl 6 (rws zao bs)), (41, .v (.int .i64 k)), (42, .v (.int .i64 i)), (10, .v (.int .i64 i)), (56, .sl 1 (rws zad args)), (57, .v (.int .i64 m)), (58, .v (.int .i64 j)), (11, .v (.bool (zdm done (args.take j))))], [(0, ⟨3, [[.sl 3 (rws zaD ins), .sl 6 (rws zao bs), .sl 1 (rws zad outs)]]⟩), (1, ⟨1, rws zlM done⟩), (2, ⟨1, rws zad out⟩)], 3⟩) (fun j => j ≤ m) (fun j => m - j) (0) ?_ ?_ ?_
     ·exact Nat.zero_le _
     ·exact zah
     rintro j hj
     by_cases hjm : j < m
     ·have ra := ig (l := args) (i := j) (by omega)
      have hj2 := haj j hjm
      have asc := zku (done := done) (l := args) (j := j) (by omega)
      generalize args.getD j 0 = a at *
      have ra2 := og (l := done) (i := a.toNat) (by omega)
      cases hA : zdm done (args.take j) with
      | true =>
       rw [hA, Bool.true_and] at asc
       refine wkr (zc5 hn h2 hmm ra ra2) ?_
       refine zac (α := Nat) (j + 1) (by show j + 1 ≤ m; omega) (by show m - (j + 1) < m - j; omega) ?_
       rw [asc]
       exact zah
      | false =>
       rw [hA, Bool.false_and] at asc
       refine wkr (zc4 hn h2 hmm ra) ?_
       refine zac (α := Nat) (j + 1) (by show j + 1 ≤ m; omega) (by show m - (j + 1) < m - j; omega) ?_
       rw [asc]
       exact zah
     ·rw [List.take_of_length_le (by omega)]
      cases hA : zdm done args with
      | true =>
       rw [hA, if_pos rfl] at ps
       refine wkr (zc3 hn h2 hmm) ?_
       refine zac (α := Nat) (i + 1) (by show i + 1 ≤ k; omega) (by show k - (i + 1) < k - i; omega) ?_
       rw [ps]
       exact zah
      | false =>
       rw [hA, if_neg Bool.noConfusion] at ps
       refine wkr (zc3 hn h2 hmm) ?_
       refine zac (α := Nat) (i + 1) (by show i + 1 ≤ k; omega) (by show k - (i + 1) < k - i; omega) ?_
       rw [ps]
       exact zah
   ·obtain rfl : i = k := by omega
    have hpl := ziO bs done i
    have hpg := zlI bs done i
    rw [zn1, hn] at h3
    generalize zce bs done i = p at *
    by_cases hp : p < 0
    ·rw [if_pos hp] at h3
     have hL2 : zcf bs = [] := by unfold zcf; rw [← h3]; rfl
     have hE2 : zn2 bs = 24 := by unfold zn2; rw [← h3]; rfl
     rw [hL2, hE2, zcD (by decide)]
     repeat' (first | simp only [go_sem, seval, zab, hn] | simp (disch := omega) only [wA] | refine aI ?_ | refine dI ?_ | refine dG ?_ | ((first | refine cC ?_ ?_ | refine gS ?_ ?_ | refine dS ?_ ?_) <;> intro hc <;> simp only [hc] <;> try simp only [dcA] at hc <;> try omega) | refine aP ?_ | refine dP ?_)
     all_goals exact zbQ trivial (Le.tup (.cons (Le.nil _) (.cons (.refl _) .nil)))
    ·rw [if_neg hp] at h3
     obtain ⟨q, rfl⟩ : ∃ q : Nat, p = (q : Int) := ⟨p.toNat, by omega⟩
     rw [Int.toNat_natCast] at h3
     have ro := og (l := done) (i := q) (by omega)
     have hlo : (rws zad out).length = ol := by rw [zab, hol]
     have e9 : (rws zad out).take ol ++ [[AV.v (.int .i64 (q : Int))]] = rws zad (out ++ [(q : Int)]) := zbV hol
     have el : ((left + 1 : Nat) : Int) - 1 = (left : Int) := by omega
     repeat' (first | simp only [go_sem, seval, zab, hn, h2, hol, ro, o_set, e9, el] | simp (disch := omega) only [wA] | (refine zas za1 rfl rfl rfl rfl ⟨rfl, by decide⟩ rfl ⟨trivial, by (try simp only [List.length_cons, List.length_nil, List.length_append, zaa, List.length_map, hlo]); omega, by (try simp only [List.length_cons, List.length_nil, List.length_append, zaa, List.length_map, hlo]); omega⟩ (fun _ => zbj) ?_) | (refine zar za1 rfl rfl rfl rfl rfl ⟨rfl, rfl, by decide, Nat.le_of_ble_eq_true rfl⟩ (fun h => by first | (cases h; done) | decide) rfl ⟨trivial, by (try simp only [List.length_cons, List.length_nil, List.length_append, zaa, List.length_map, hlo]); omega, by (try simp only [List.length_cons, List.length_nil, List.length_append, zaa, List.length_map, hlo]); omega, by (try simp only [List.length_cons, List.length_nil, List.length_append, zaa, List.length_map, hlo]); omega⟩ zbj zfC zfB ?_) | refine aI ?_ | refine dI ?_ | refine dG ?_ | ((first | refine cC ?_ ?_ | refine gS ?_ ?_ | refine dS ?_ ?_) <;> intro hc <;> simp only [hc] <;> try simp only [dcA] at hc <;> try omega) | refine aP ?_ | refine dP ?_)
     refine zac (α := Nat × List Bool × List Int) (left, done.set q true, out ++ [(q : Int)]) ?_ ?_ ?_
     ·refine ⟨?_, ?_, h3⟩
      ·show (out ++ [(q : Int)]).length + left = L
       rw [List.length_append, hol]; simp; omega
      ·show (done.set q true).length = i
       rw [List.length_set]; exact h2
     ·show left < left + 1; omega
     ·rw [List.length_append, hol]
      exact zah
set_option maxHeartbeats 4000000
theorem zja (ins : List (Int × Int × Int)) (bs : List Blk) (outs : List Int) (k : Int) (a : List Int) (vn ve un ue : Int) (cb : zae zao) (h : zgF k < 0) : CallOK Tryz.prog gl 71 [AG ins bs outs, .agg [.v (.int .i64 k), .sl 1 (rws zad a), .v (.int .i64 vn), .v (.int .i64 ve), .v (.int .i64 un), .v (.int .i64 ue)]] (.v (.iface 71 (.int .i64 7))) := by
 refine okC 93 Tryz.call71 Tryz.func71 Tryz.ntmps71 Tryz.results71 ?_
 have c1 := zgB k
 generalize zgF k = r at *
 exact we zc0
theorem zkg (ins : List (Int × Int × Int)) (bs : List Blk) (outs : List Int) (k : Int) (a : List Int) (vn ve un ue : Int) (cb : zae zao) (h : ¬ zgF k < 0) (hl : ¬ (a.length : Int) = zgF k) : CallOK Tryz.prog gl 71 [AG ins bs outs, .agg [.v (.int .i64 k), .sl 1 (rws zad a), .v (.int .i64 vn), .v (.int .i64 ve), .v (.int .i64 un), .v (.int .i64 ue)]] (.v (.iface 71 (.int .i64 11))) := by
 refine okC 93 Tryz.call71 Tryz.func71 Tryz.ntmps71 Tryz.results71 ?_
 have c1 := zgB k
 generalize zgF k = r at *
 exact wer zc0
def zjW (nP nB : Nat) (k : Int) : Nat := if k = 0 then nP else nB
theorem zki (ins : List (Int × Int × Int)) (bs : List Blk) (outs : List Int) (k : Int) (a : List Int) (vn ve un ue : Int) (cb : zae zao) (nP nB m : Nat) (hP : ins.length = nP) (hB : bs.length = nB) (hm : a.length = m) (hm2 : m ≤ 2) (h : ¬ zgF k < 0) (hl : (a.length : Int) = zgF k) (q : Nat) (hq : q < m) (hg : ∀ i, i < q → 0 ≤ a.getD i 0 ∧ a.getD i 0 < zjW nP nB k) (hb : ¬ (0 ≤ a.getD q 0 ∧ a.getD q 0 < zjW nP nB k)) : CallOK Tryz.prog gl 71 [AG ins bs outs, .agg [.v (.int .i64 k), .sl 1 (rws zad a), .v (.int .i64 vn), .v (.int .i64 ve), .v (.int .i64 un), .v (.int .i64 ue)]] (.v (.iface 71 (.int .i64 10))) := by
 refine okC 93 Tryz.call71 Tryz.func71 Tryz.ntmps71 Tryz.results71 ?_
 have c1 := zgB k
 rw [← hl, hm] at c1
 obtain ⟨M, hM⟩ : ∃ M, zjW nP nB k = M := ⟨_, rfl⟩
 rw [hM] at hg hb
 have hk : (k = 0 ∧ nP = M) ∨ (¬ k = 0 ∧ nB = M) := by
  unfold zjW at hM
  by_cases h0 : k = 0
  ·rw [if_pos h0] at hM; exact .inl ⟨h0, hM⟩
  ·rw [if_neg h0] at hM; exact .inr ⟨h0, hM⟩
 clear h hl hM
 rcases hk with ⟨rfl, hn⟩ | ⟨h0, hn⟩
 ·skip
  refine wkr (zc4 hP hB hm hn) ?_
  refine lL (α := Nat) (fun j => ⟨[(2, .p 0 3 0 0), (3, .p 1 6 0 0), (6, .v (.int .i64 M)), (34, .sl 1 (rws zad a)), (35, .v (.int .i64 m)), (36, .v (.int .i64 j))], [(0, ⟨3, [[.sl 3 (rws zaD ins), .sl 6 (rws zao bs), .sl 1 (rws zad outs)]]⟩), (1, ⟨6, [[.v (.int .i64 0), .sl 1 (rws zad a), .v (.int .i64 vn), .v (.int .i64 ve), .v (.int .i64 un), .v (.int .i64 ue)]]⟩)], 2⟩) (fun j => j ≤ q) (fun j => q - j) (0) ?_ ?_ ?_
  ·exact Nat.zero_le _
  ·exact zah
  rintro j hj
  have ra := ig (l := a) (i := j) (by omega)
  by_cases hjq : j < q
  ·have g := hg j hjq
   clear hg hb
   generalize a.getD j 0 = x at *
   refine wkr (zc2 hm ra) ?_
   refine zac (α := Nat) (j + 1) (by show j + 1 ≤ q; omega) (by show q - (j + 1) < q - j; omega) ?_
   exact zah
  ·obtain rfl : j = q := by omega
   clear hg
   generalize a.getD j 0 = x at *
   exact wer (zc2 hm ra)
 ·skip
  refine wkr (zc5 hP hB hm h0 hn) ?_
  refine lL (α := Nat) (fun j => ⟨[(2, .p 0 3 0 0), (3, .p 1 6 0 0), (6, .v (.int .i64 M)), (34, .sl 1 (rws zad a)), (35, .v (.int .i64 m)), (36, .v (.int .i64 j))], [(0, ⟨3, [[.sl 3 (rws zaD ins), .sl 6 (rws zao bs), .sl 1 (rws zad outs)]]⟩), (1, ⟨6, [[.v (.int .i64 k), .sl 1 (rws zad a), .v (.int .i64 vn), .v (.int .i64 ve), .v (.int .i64 un), .v (.int .i64 ue)]]⟩)], 2⟩) (fun j => j ≤ q) (fun j => q - j) (0) ?_ ?_ ?_
  ·exact Nat.zero_le _
  ·exact zah
  rintro j hj
  have ra := ig (l := a) (i := j) (by omega)
  by_cases hjq : j < q
  ·have g := hg j hjq
   clear hg hb
   generalize a.getD j 0 = x at *
   refine wkr (zc2 hm ra) ?_
   refine zac (α := Nat) (j + 1) (by show j + 1 ≤ q; omega) (by show q - (j + 1) < q - j; omega) ?_
   exact zah
  ·obtain rfl : j = q := by omega
   clear hg
   generalize a.getD j 0 = x at *
   exact wer (zc2 hm ra)
theorem zjh {n e : Int} (h : zhs n e true = 0) : zbO n e := by
 unfold zhs at h
 rw [if_neg Bool.noConfusion] at h
 by_cases g : zbO n e
 ·exact g
 ·rw [if_neg g] at h; exact absurd h (by decide)
def znb (k : Int) : Bool := decide (k = 11 ∨ k = 1 ∨ k = 2 ∨ k = 6)
def zko (k vn ve un ue : Int) : Int := if k = 11 ∧ 0 < (scN vn ve).cmp (scN un ue) then 26 else 0
def endE (k vn ve un ue : Int) : Int := if zhs vn ve (znb k) ≠ 0 then zhs vn ve (znb k) else if zhs un ue (decide (k = 11)) ≠ 0 then zhs un ue (decide (k = 11)) else zko k vn ve un ue
theorem zkh (ins : List (Int × Int × Int)) (bs : List Blk) (outs : List Int) (k : Int) (a : List Int) (vn ve un ue : Int) (cb : zae zao) (nP nB m : Nat) (hP : ins.length = nP) (hB : bs.length = nB) (hm : a.length = m) (hm2 : m ≤ 2) (h : ¬ zgF k < 0) (hl : (a.length : Int) = zgF k) (hg : ∀ i, i < m → 0 ≤ a.getD i 0 ∧ a.getD i 0 < zjW nP nB k) : CallOK Tryz.prog gl 71 [AG ins bs outs, .agg [.v (.int .i64 k), .sl 1 (rws zad a), .v (.int .i64 vn), .v (.int .i64 ve), .v (.int .i64 un), .v (.int .i64 ue)]] (.v (eV (endE k vn ve un ue))) := by
 refine okC 93 Tryz.call71 Tryz.func71 Tryz.ntmps71 Tryz.results71 ?_
 have c1 := zgB k
 rw [← hl, hm] at c1
 obtain ⟨M, hM⟩ : ∃ M, zjW nP nB k = M := ⟨_, rfl⟩
 rw [hM] at hg
 have hk : (k = 0 ∧ nP = M) ∨ (¬ k = 0 ∧ nB = M) := by
  unfold zjW at hM
  by_cases h0 : k = 0
  ·rw [if_pos h0] at hM; exact .inl ⟨h0, hM⟩
  ·rw [if_neg h0] at hM; exact .inr ⟨h0, hM⟩
 obtain ⟨z, hz⟩ : ∃ z, endE k vn ve un ue = z := ⟨_, rfl⟩
 rw [hz]
 clear h hl hM
 rcases hk with ⟨rfl, hn⟩ | ⟨h0, hn⟩
 ·skip
  refine wkr (zc4 hP hB hm hn) ?_
  refine lL (α := Nat) (fun j => ⟨[(2, .p 0 3 0 0), (3, .p 1 6 0 0), (6, .v (.int .i64 M)), (34, .sl 1 (rws zad a)), (35, .v (.int .i64 m)), (36, .v (.int .i64 j))], [(0, ⟨3, [[.sl 3 (rws zaD ins), .sl 6 (rws zao bs), .sl 1 (rws zad outs)]]⟩), (1, ⟨6, [[.v (.int .i64 0), .sl 1 (rws zad a), .v (.int .i64 vn), .v (.int .i64 ve), .v (.int .i64 un), .v (.int .i64 ue)]]⟩)], 2⟩) (fun j => j ≤ m) (fun j => m - j) (0) ?_ ?_ ?_
  ·exact Nat.zero_le _
  ·exact zah
  rintro j hj
  by_cases hjm : j < m
  ·have ra := ig (l := a) (i := j) (by omega)
   have g := hg j hjm
   clear hg
   generalize a.getD j 0 = x at *
   refine wkr (zc2 hm ra) ?_
   refine zac (α := Nat) (j + 1) (by show j + 1 ≤ m; omega) (by show m - (j + 1) < m - j; omega) ?_
   exact zah
  ·clear hg
   obtain rfl : j = m := by omega
   clear c1
   have u1 : znb 0 = false := rfl
   have u2 : decide ((0 : Int) = 11) = false := rfl
   unfold endE at hz
   rw [u1, u2] at hz
   have s1 := zby vn ve false
   have s2 := zby un ue false
   obtain ⟨z1, hz1⟩ : ∃ z, zhs vn ve false = z := ⟨_, rfl⟩
   obtain ⟨z2, hz2⟩ : ∃ z, zhs un ue false = z := ⟨_, rfl⟩
   rw [hz1] at s1 hz; rw [hz2] at s2 hz
   by_cases g1 : z1 = 0
   ·subst g1
    rw [if_neg (fun h => h rfl)] at hz
    rw [zbg] at s1
    by_cases g2 : z2 = 0
    ·subst g2
     rw [if_neg (fun h => h rfl)] at hz
     rw [zbg] at s2
     unfold zko at hz
     rw [if_neg (fun h => absurd h.1 (by decide))] at hz
     subst hz
     exact wer hm
    ·rw [if_pos g2] at hz
     subst hz
     rw [zcD g2] at s2 ⊢
     exact wer hm
   ·rw [if_pos g1] at hz
    subst hz
    rw [zcD g1] at s1 ⊢
    exact wer hm
 ·skip
  refine wkr (zc5 hP hB hm h0 hn) ?_
  refine lL (α := Nat) (fun j => ⟨[(2, .p 0 3 0 0), (3, .p 1 6 0 0), (6, .v (.int .i64 M)), (34, .sl 1 (rws zad a)), (35, .v (.int .i64 m)), (36, .v (.int .i64 j))], [(0, ⟨3, [[.sl 3 (rws zaD ins), .sl 6 (rws zao bs), .sl 1 (rws zad outs)]]⟩), (1, ⟨6, [[.v (.int .i64 k), .sl 1 (rws zad a), .v (.int .i64 vn), .v (.int .i64 ve), .v (.int .i64 un), .v (.int .i64 ue)]]⟩)], 2⟩) (fun j => j ≤ m) (fun j => m - j) (0) ?_ ?_ ?_
  ·exact Nat.zero_le _
  ·exact zah
  rintro j hj
  by_cases hjm : j < m
  ·have ra := ig (l := a) (i := j) (by omega)
   have g := hg j hjm
   clear hg
   generalize a.getD j 0 = x at *
   refine wkr (zc2 hm ra) ?_
   refine zac (α := Nat) (j + 1) (by show j + 1 ≤ m; omega) (by show m - (j + 1) < m - j; omega) ?_
   exact zah
  ·clear hg
   obtain rfl : j = m := by omega
   by_cases k11 : k = 11
   ·subst k11
    clear h0 c1
    have u1 : znb 11 = true := rfl
    have u2 : decide ((11 : Int) = 11) = true := rfl
    unfold endE at hz
    rw [u1, u2] at hz
    have s1 := zby vn ve true
    have s2 := zby un ue true
    obtain ⟨z1, hz1⟩ : ∃ z, zhs vn ve true = z := ⟨_, rfl⟩
    obtain ⟨z2, hz2⟩ : ∃ z, zhs un ue true = z := ⟨_, rfl⟩
    rw [hz1] at s1 hz; rw [hz2] at s2 hz
    by_cases g1 : z1 = 0
    ·subst g1
     rw [if_neg (fun h => h rfl)] at hz
     rw [zbg] at s1
     by_cases g2 : z2 = 0
     ·subst g2
      rw [if_neg (fun h => h rfl)] at hz
      rw [zbg] at s2
      have v1 := zjh hz1
      have v2 := zjh hz2
      have c3 := zmb vn ve v1
      have c4 := zmb un ue v2
      have c5 := zb2 _ _ _ _ _ _ _ _ (Arg.of (zaP v1) (by omega)) (Arg.of (zaP v2) (by omega))
      unfold zko at hz
      generalize scN vn ve = y1 at *
      generalize scN un ue = y2 at *
      generalize y1.cmp y2 = cc at *
      by_cases g3 : 0 < cc
      ·rw [if_pos ⟨rfl, g3⟩] at hz
       subst hz
       exact wer (zc2 hm g3)
      ·rw [if_neg (fun h => g3 h.2)] at hz
       subst hz
       exact wer (zc2 hm g3)
     ·rw [if_pos g2] at hz
      subst hz
      rw [zcD g2] at s2 ⊢
      exact wer hm
    ·rw [if_pos g1] at hz
     subst hz
     rw [zcD g1] at s1 ⊢
     exact wer hm
   by_cases k1 : k = 1
   ·subst k1
    clear h0 c1
    have u1 : znb 1 = true := rfl
    have u2 : decide ((1 : Int) = 11) = false := rfl
    unfold endE at hz
    rw [u1, u2] at hz
    have s1 := zby vn ve true
    have s2 := zby un ue false
    obtain ⟨z1, hz1⟩ : ∃ z, zhs vn ve true = z := ⟨_, rfl⟩
    obtain ⟨z2, hz2⟩ : ∃ z, zhs un ue false = z := ⟨_, rfl⟩
    rw [hz1] at s1 hz; rw [hz2] at s2 hz
    by_cases g1 : z1 = 0
    ·subst g1
     rw [if_neg (fun h => h rfl)] at hz
     rw [zbg] at s1
     by_cases g2 : z2 = 0
     ·subst g2
      rw [if_neg (fun h => h rfl)] at hz
      rw [zbg] at s2
      unfold zko at hz
      rw [if_neg (fun h => absurd h.1 (by decide))] at hz
      subst hz
      exact wer hm
     ·rw [if_pos g2] at hz
      subst hz
      rw [zcD g2] at s2 ⊢
      exact wer hm
    ·rw [if_pos g1] at hz
     subst hz
     rw [zcD g1] at s1 ⊢
     exact wer hm
   by_cases k2 : k = 2
   ·subst k2
    clear h0 c1
    have u1 : znb 2 = true := rfl
    have u2 : decide ((2 : Int) = 11) = false := rfl
    unfold endE at hz
    rw [u1, u2] at hz
    have s1 := zby vn ve true
    have s2 := zby un ue false
    obtain ⟨z1, hz1⟩ : ∃ z, zhs vn ve true = z := ⟨_, rfl⟩
    obtain ⟨z2, hz2⟩ : ∃ z, zhs un ue false = z := ⟨_, rfl⟩
    rw [hz1] at s1 hz; rw [hz2] at s2 hz
    by_cases g1 : z1 = 0
    ·subst g1
     rw [if_neg (fun h => h rfl)] at hz
     rw [zbg] at s1
     by_cases g2 : z2 = 0
     ·subst g2
      rw [if_neg (fun h => h rfl)] at hz
      rw [zbg] at s2
      unfold zko at hz
      rw [if_neg (fun h => absurd h.1 (by decide))] at hz
      subst hz
      exact wer hm
     ·rw [if_pos g2] at hz
      subst hz
      rw [zcD g2] at s2 ⊢
      exact wer hm
    ·rw [if_pos g1] at hz
     subst hz
     rw [zcD g1] at s1 ⊢
     exact wer hm
   by_cases k6 : k = 6
   ·subst k6
    clear h0 c1
    have u1 : znb 6 = true := rfl
    have u2 : decide ((6 : Int) = 11) = false := rfl
    unfold endE at hz
    rw [u1, u2] at hz
    have s1 := zby vn ve true
    have s2 := zby un ue false
    obtain ⟨z1, hz1⟩ : ∃ z, zhs vn ve true = z := ⟨_, rfl⟩
    obtain ⟨z2, hz2⟩ : ∃ z, zhs un ue false = z := ⟨_, rfl⟩
    rw [hz1] at s1 hz; rw [hz2] at s2 hz
    by_cases g1 : z1 = 0
    ·subst g1
     rw [if_neg (fun h => h rfl)] at hz
     rw [zbg] at s1
     by_cases g2 : z2 = 0
     ·subst g2
      rw [if_neg (fun h => h rfl)] at hz
      rw [zbg] at s2
      unfold zko at hz
      rw [if_neg (fun h => absurd h.1 (by decide))] at hz
      subst hz
      exact wer hm
     ·rw [if_pos g2] at hz
      subst hz
      rw [zcD g2] at s2 ⊢
      exact wer hm
    ·rw [if_pos g1] at hz
     subst hz
     rw [zcD g1] at s1 ⊢
     exact wer hm
   clear h0 c1
   have u1 : znb k = false := by unfold znb; exact decide_eq_false (by omega)
   have u2 : decide (k = 11) = false := decide_eq_false k11
   unfold endE at hz
   rw [u1, u2] at hz
   have s1 := zby vn ve false
   have s2 := zby un ue false
   obtain ⟨z1, hz1⟩ : ∃ z, zhs vn ve false = z := ⟨_, rfl⟩
   obtain ⟨z2, hz2⟩ : ∃ z, zhs un ue false = z := ⟨_, rfl⟩
   rw [hz1] at s1 hz; rw [hz2] at s2 hz
   by_cases g1 : z1 = 0
   ·subst g1
    rw [if_neg (fun h => h rfl)] at hz
    rw [zbg] at s1
    by_cases g2 : z2 = 0
    ·subst g2
     rw [if_neg (fun h => h rfl)] at hz
     rw [zbg] at s2
     unfold zko at hz
     rw [if_neg (fun h => k11 h.1)] at hz
     subst hz
     exact wer (zc5 hm k11 k1 k2 k6)
    ·rw [if_pos g2] at hz
     subst hz
     rw [zcD g2] at s2 ⊢
     exact wer (zc5 hm k11 k1 k2 k6)
   ·rw [if_pos g1] at hz
    subst hz
    rw [zcD g1] at s1 ⊢
    exact wer (zc5 hm k11 k1 k2 k6)
set_option maxHeartbeats 4000000
def zmr (nP nB : Nat) (b : Blk) : Prop := ∀ i, i < b.a.length → 0 ≤ b.a.getD i 0 ∧ b.a.getD i 0 < zjW nP nB b.k
instance (nP nB : Nat) (b : Blk) : Decidable (zmr nP nB b) := inferInstanceAs (Decidable (∀ i, i < b.a.length → _))
def zlk (nP nB : Nat) (b : Blk) : Int := if zgF b.k < 0 then 7 else if ¬ (b.a.length : Int) = zgF b.k then 11 else if ¬ zmr nP nB b then 10 else endE b.k b.vn b.ve b.un b.ue
theorem zhh {p : Nat → Prop} [DecidablePred p] : ∀ {n : Nat}, ¬ (∀ i, i < n → p i) → ∃ q, q < n ∧ (∀ i, i < q → p i) ∧ ¬ p q
 | 0, h => absurd (fun i hi => absurd hi (Nat.not_lt_zero i)) h
 | n + 1, h => by
  by_cases g : ∀ i, i < n → p i
  ·refine ⟨n, Nat.lt_succ_self n, g, fun hn => h fun i hi => ?_⟩
   by_cases e : i = n
   ·rw [e]; exact hn
   ·exact g i (by omega)
  ·obtain ⟨q, h1, h2⟩ := zhh g
   exact ⟨q, by omega, h2⟩
theorem dg_check (ins : List (Int × Int × Int)) (bs : List Blk) (outs : List Int) (b : Blk) :
  CallOK Tryz.prog gl 71 [AG ins bs outs, .agg [.v (.int .i64 b.k), .sl 1 (rws zad b.a), .v (.int .i64 b.vn), .v (.int .i64 b.ve), .v (.int .i64 b.un), .v (.int .i64 b.ue)]] (.v (eV (zlk ins.length bs.length b))) := by
 unfold zlk
 by_cases h1 : zgF b.k < 0
 ·rw [if_pos h1]
  exact zja ins bs outs b.k b.a b.vn b.ve b.un b.ue zaf h1
 rw [if_neg h1]
 by_cases h2 : (b.a.length : Int) = zgF b.k
 ·rw [if_neg (fun h => h h2)]
  have hm2 : b.a.length ≤ 2 := by have := zpH b.k; omega
  by_cases h3 : zmr ins.length bs.length b
  ·rw [if_neg (fun h => h h3)]
   exact zkh ins bs outs b.k b.a b.vn b.ve b.un b.ue zaf _ _ _ rfl rfl rfl hm2 h1 h2 h3
  ·rw [if_pos h3]
   obtain ⟨q, g1, g2, g3⟩ := zhh h3
   exact zki ins bs outs b.k b.a b.vn b.ve b.un b.ue zaf _ _ _ rfl rfl rfl hm2 h1 h2 q g1 g2 g3
 ·rw [if_pos h2]
  exact zkg ins bs outs b.k b.a b.vn b.ve b.un b.ue zaf h1 h2
theorem zpu {nP nB : Nat} {b : Blk} (h : zlk nP nB b = 0) : BlkOK nP nB b := by
 unfold zlk at h
 by_cases h1 : zgF b.k < 0
 ·rw [if_pos h1] at h; exact absurd h (by decide)
 rw [if_neg h1] at h
 by_cases h2 : (b.a.length : Int) = zgF b.k
 case neg => rw [if_pos h2] at h; exact absurd h (by decide)
 rw [if_neg (fun g => g h2)] at h
 by_cases h3 : zmr nP nB b
 case neg => rw [if_pos h3] at h; exact absurd h (by decide)
 rw [if_neg (fun g => g h3)] at h
 unfold endE at h
 by_cases e1 : zhs b.vn b.ve (znb b.k) = 0
 case neg => rw [if_pos e1] at h; exact absurd h e1
 rw [if_neg (fun g => g e1)] at h
 by_cases e2 : zhs b.un b.ue (decide (b.k = 11)) = 0
 case neg => rw [if_pos e2] at h; exact absurd h e2
 rw [if_neg (fun g => g e2)] at h
 have hk : 0 ≤ b.k ∧ b.k ≤ 11 := by
  unfold zgF at h1
  split at h1
  ·omega
  ·split at h1
   ·omega
   ·split at h1
    ·omega
    ·omega
 refine ⟨hk, h2, h3, fun g => ?_, fun g => ?_, fun g => ?_⟩
 ·have hu : znb b.k = true := by unfold znb; exact decide_eq_true (by omega)
  rw [hu] at e1; exact zjh e1
 ·rw [g] at e2; exact zjh e2
 ·unfold zko at h
  by_cases hc : 0 < (scN b.vn b.ve).cmp (scN b.un b.ue)
  ·rw [if_pos ⟨g, hc⟩] at h; exact absurd h (by decide)
  ·exact (zcr (scN b.vn b.ve) (scN b.un b.ue)).1 (by omega)
set_option maxHeartbeats 4000000
def zd6 (ins : List (Int × Int × Int)) : Prop := ∀ i, i < ins.length → zbu (ins.getD i (0, 0, 0))
instance (ins : List (Int × Int × Int)) : Decidable (zd6 ins) := inferInstanceAs (Decidable (∀ i, i < ins.length → _))
def zhx (nP : Nat) (bs : List Blk) : Prop := ∀ i, i < bs.length → zlk nP bs.length (bs.getD i Blk.zero) = 0
instance (nP : Nat) (bs : List Blk) : Decidable (zhx nP bs) := inferInstanceAs (Decidable (∀ i, i < bs.length → _))
def zjS (nB : Nat) (outs : List Int) : Prop := ∀ i, i < outs.length → 0 ≤ outs.getD i 0 ∧ outs.getD i 0 < nB
instance (nB : Nat) (outs : List Int) : Decidable (zjS nB outs) := inferInstanceAs (Decidable (∀ i, i < outs.length → _))
def zfX (nP nB : Nat) : List Blk → Int
 | [] => 0
 | b :: l => if zlk nP nB b = 0 then zfX nP nB l else zlk nP nB b
def dgE (ins : List (Int × Int × Int)) (bs : List Blk) (outs : List Int) : Int :=
 if 16 < ins.length ∨ 64 < bs.length ∨ 16 < outs.length then 4 else if ¬ zd6 ins then 3 else if ¬ zhx ins.length bs then zfX ins.length bs.length bs else if ¬ zjS bs.length outs then 10 else zn2 bs
theorem zfW {nP nB : Nat} : ∀ {bs : List Blk} {q : Nat}, q < bs.length → (∀ i, i < q → zlk nP nB (bs.getD i Blk.zero) = 0) → zlk nP nB (bs.getD q Blk.zero) ≠ 0 → zfX nP nB bs = zlk nP nB (bs.getD q Blk.zero)
 | [], q, hq, _, _ => absurd hq (Nat.not_lt_zero q)
 | b :: l, 0, _, _, h => by
  have h : ¬ zlk nP nB b = 0 := h
  unfold zfX
  rw [if_neg h]; rfl
 | b :: l, q + 1, hq, h0, h => by
  have h1 : zlk nP nB b = 0 := h0 0 (Nat.succ_pos q)
  unfold zfX
  rw [if_pos h1]
  exact zfW (bs := l) (q := q) (by simpa using hq) (fun i hi => h0 (i + 1) (by omega)) h
theorem zdB {ins : List (Int × Int × Int)} {bs : List Blk} {outs : List Int} (h : dgE ins bs outs = 0) : DgOK ins bs outs := by
 unfold dgE at h
 by_cases h1 : 16 < ins.length ∨ 64 < bs.length ∨ 16 < outs.length
 ·rw [if_pos h1] at h; exact absurd h (by decide)
 rw [if_neg h1] at h
 by_cases h2 : zd6 ins
 case neg => rw [if_pos h2] at h; exact absurd h (by decide)
 rw [if_neg (fun g => g h2)] at h
 by_cases h3 : zhx ins.length bs
 case neg =>
  rw [if_pos h3] at h
  obtain ⟨q, g1, g2, g3⟩ := zhh h3
  rw [zfW g1 g2 g3] at h
  exact absurd h g3
 rw [if_neg (fun g => g h3)] at h
 by_cases h4 : zjS bs.length outs
 case neg => rw [if_pos h4] at h; exact absurd h (by decide)
 rw [if_neg (fun g => g h4)] at h
 refine ⟨by omega, by omega, by omega, h2, fun i hi => zpu (h3 i hi), h4, ?_⟩
 unfold zn2 at h
 cases hs : (ordB bs).isSome
 ·rw [hs] at h; exact absurd h (by decide)
 ·rfl
theorem zhL (ins : List (Int × Int × Int)) (bs : List Blk) (outs : List Int) (nP nB nO : Nat) (hP : ins.length = nP) (hB : bs.length = nB) (hO : outs.length = nO) (cb : zae zao) (h : 16 < nP ∨ 64 < nB ∨ 16 < nO) : CallOK Tryz.prog gl 34 [AG ins bs outs] (.v (.iface 71 (.int .i64 4))) := by
 refine okC 101 Tryz.call34 Tryz.func34 Tryz.ntmps34 Tryz.results34 ?_
 exact wer (zc3 hP hB hO)
theorem zle (ins : List (Int × Int × Int)) (bs : List Blk) (outs : List Int) (nP nB nO : Nat) (hP : ins.length = nP) (hB : bs.length = nB) (hO : outs.length = nO) (cb : zae zao) (h1 : ¬ (16 < nP ∨ 64 < nB ∨ 16 < nO)) (z : Int) (h2 : ¬ zd6 ins → z = 3) (h3 : zd6 ins → ¬ zhx nP bs → z = zfX nP nB bs) (h4 : zd6 ins → zhx nP bs → ¬ zjS nB outs → z = 10) (h5 : zd6 ins → zhx nP bs → zjS nB outs → z = zn2 bs) : CallOK Tryz.prog gl 34 [AG ins bs outs] (.v (eV z)) := by
 refine okC 101 Tryz.call34 Tryz.func34 Tryz.ntmps34 Tryz.results34 ?_
 have hl : nP ≤ 16 ∧ nB ≤ 64 ∧ nO ≤ 16 := by omega
 clear h1
 refine wkr (zc3 hP hB hO) ?_
 refine lL (α := Nat) (fun j => ⟨[(1, .p 0 3 0 0), (30, .sl 3 (rws zaD ins)), (31, .v (.int .i64 nP)), (32, .v (.int .i64 j))], [(0, ⟨3, [[.sl 3 (rws zaD ins), .sl 6 (rws zao bs), .sl 1 (rws zad outs)]]⟩)], 1⟩) (fun j => j ≤ nP ∧ ∀ i, i < j → zbu (ins.getD i (0, 0, 0))) (fun j => nP - j) (0) ?_ ?_ ?_
 ·exact ⟨Nat.zero_le _, fun i hi => absurd hi (Nat.not_lt_zero i)⟩
 ·exact zah
 rintro j ⟨hj, hg⟩
 by_cases hjn : j < nP
 ·have rp := pg (l := ins) (i := j) (by omega)
  by_cases ok : zbu (ins.getD j (0, 0, 0))
  ·have nx : ∀ i, i < j + 1 → zbu (ins.getD i (0, 0, 0)) := fun i hi => by
    by_cases e : i = j
    ·rw [e]; exact ok
    ·exact hg i (by omega)
   clear hg h2 h3 h4 h5
   generalize ins.getD j (0, 0, 0) = p at *
   obtain ⟨p1, p2, p3⟩ := p
   change (rws zaD ins).getD j [] = [.v (.int .i64 p1), .v (.int .i64 p2), .v (.int .i64 p3)] at rp
   have ok : (-2147483648 ≤ p1 ∧ p1 ≤ p2) ∧ (p2 < 2147483648 ∧ (0 ≤ p3 ∧ p3 ≤ 30)) := ok
   refine wkr (zc2 hP rp) ?_
   refine zac (α := Nat) (j + 1) ⟨?_, nx⟩ ?_ ?_
   ·show j + 1 ≤ nP; omega
   ·show nP - (j + 1) < nP - j; omega
   exact zah
  ·have e3 := h2 (fun g => ok (g j (by omega)))
   subst e3
   clear hg h2 h3 h4 h5
   generalize ins.getD j (0, 0, 0) = p at *
   obtain ⟨p1, p2, p3⟩ := p
   change (rws zaD ins).getD j [] = [.v (.int .i64 p1), .v (.int .i64 p2), .v (.int .i64 p3)] at rp
   have ok : ¬ ((-2147483648 ≤ p1 ∧ p1 ≤ p2) ∧ (p2 < 2147483648 ∧ (0 ≤ p3 ∧ p3 ≤ 30))) := ok
   exact wer (zc2 hP rp)
 ·have g2 : zd6 ins := fun i hi => hg i (by omega)
  have h3 := h3 g2
  have h4 := h4 g2
  have h5 := h5 g2
  clear h2 hg g2
  refine wkr (zc3 hP hB hO) ?_
  refine lL (α := Nat) (fun j => ⟨[(1, .p 0 3 0 0), (64, .sl 6 (rws zao bs)), (65, .v (.int .i64 nB)), (66, .v (.int .i64 j))], [(0, ⟨3, [[.sl 3 (rws zaD ins), .sl 6 (rws zao bs), .sl 1 (rws zad outs)]]⟩)], 1⟩) (fun j => j ≤ nB ∧ ∀ i, i < j → zlk nP nB (bs.getD i Blk.zero) = 0) (fun j => nB - j) (0) ?_ ?_ ?_
  ·exact ⟨Nat.zero_le _, fun i hi => absurd hi (Nat.not_lt_zero i)⟩
  ·exact zah
  rintro j ⟨hj, hg⟩
  by_cases hjn : j < nB
  ·have rb := bg (l := bs) (i := j) (by omega)
   have c1 := dg_check ins bs outs (bs.getD j Blk.zero)
   rw [hP, hB] at c1
   by_cases ok : zlk nP nB (bs.getD j Blk.zero) = 0
   ·have nx : ∀ i, i < j + 1 → zlk nP nB (bs.getD i Blk.zero) = 0 := fun i hi => by
     by_cases e : i = j
     ·rw [e]; exact ok
     ·exact hg i (by omega)
    clear hg h3 h4 h5
    rw [ok, zbg] at c1
    clear ok
    generalize bs.getD j Blk.zero = b at *
    have rb : (rws zao bs).getD j [] = [.v (.int .i64 b.k), .sl 1 (rws zad b.a), .v (.int .i64 b.vn), .v (.int .i64 b.ve), .v (.int .i64 b.un), .v (.int .i64 b.ue)] := rb
    refine wkr (zc2 hB rb) ?_
    refine zac (α := Nat) (j + 1) ⟨?_, nx⟩ ?_ ?_
    ·show j + 1 ≤ nB; omega
    ·show nB - (j + 1) < nB - j; omega
    exact zah
   ·have e3 := h3 (fun g => ok (by have := g j (by omega); rw [hB] at this; exact this))
    rw [zfW (by omega) hg ok] at e3
    clear hg h3 h4 h5
    rw [← e3] at ok c1
    clear e3
    rw [zcD ok] at c1 ⊢
    generalize bs.getD j Blk.zero = b at *
    have rb : (rws zao bs).getD j [] = [.v (.int .i64 b.k), .sl 1 (rws zad b.a), .v (.int .i64 b.vn), .v (.int .i64 b.ve), .v (.int .i64 b.un), .v (.int .i64 b.ue)] := rb
    exact wer (zc2 hB rb)
  ·have g3 : zhx nP bs := fun i hi => by rw [hB]; exact hg i (by omega)
   have h4 := h4 g3
   have h5 := h5 g3
   have hord : ∀ i, i < nB → BlkOK nP nB (bs.getD i Blk.zero) := fun i hi => zpu (hg i (by omega))
   clear h3 hg g3
   have c2 := zmc ins bs outs nB hB hl.2.1 (fun i hi a ha => (hord i hi).bef.2 a ha) (fun i hi => (hord i hi).bef.1) zaf (fun x a ha => by simp only [zlM, List.mem_cons, List.not_mem_nil, or_false] at ha; subst ha; exact Cl.v _)
   clear hord
   refine wkr (zc3 hP hB hO) ?_
   refine lL (α := Nat) (fun j => ⟨[(1, .p 0 3 0 0), (78, .sl 1 (rws zad outs)), (79, .v (.int .i64 nO)), (80, .v (.int .i64 j))], [(0, ⟨3, [[.sl 3 (rws zaD ins), .sl 6 (rws zao bs), .sl 1 (rws zad outs)]]⟩)], 1⟩) (fun j => j ≤ nO ∧ ∀ i, i < j → 0 ≤ outs.getD i 0 ∧ outs.getD i 0 < nB) (fun j => nO - j) (0) ?_ ?_ ?_
   ·exact ⟨Nat.zero_le _, fun i hi => absurd hi (Nat.not_lt_zero i)⟩
   ·exact zah
   rintro j ⟨hj, hg⟩
   by_cases hjn : j < nO
   ·have rb := ig (l := outs) (i := j) (by omega)
    by_cases ok : 0 ≤ outs.getD j 0 ∧ outs.getD j 0 < nB
    ·have nx : ∀ i, i < j + 1 → 0 ≤ outs.getD i 0 ∧ outs.getD i 0 < nB := fun i hi => by
      by_cases e : i = j
      ·rw [e]; exact ok
      ·exact hg i (by omega)
     clear hg h4 h5 c2
     generalize outs.getD j 0 = o at *
     refine wkr (zc3 hO hB rb) ?_
     refine zac (α := Nat) (j + 1) ⟨?_, nx⟩ ?_ ?_
     ·show j + 1 ≤ nO; omega
     ·show nO - (j + 1) < nO - j; omega
     exact zah
    ·have e3 := h4 (fun g => ok (g j (by omega)))
     subst e3
     clear hg h4 h5 c2
     generalize outs.getD j 0 = o at *
     exact wer (zc3 hO hB rb)
   ·have e3 := h5 (fun i hi => hg i (by omega))
    clear hg h4 h5
    subst e3
    generalize zn2 bs = oe at *
    generalize zcf bs = ol at *
    exact wer hO
theorem zfz (ins : List (Int × Int × Int)) (bs : List Blk) (outs : List Int) :
  CallOK Tryz.prog gl 34 [AG ins bs outs] (.v (eV (dgE ins bs outs))) := by
 by_cases h1 : 16 < ins.length ∨ 64 < bs.length ∨ 16 < outs.length
 ·have h := zhL ins bs outs _ _ _ rfl rfl rfl zaf h1
  have e : dgE ins bs outs = 4 := by unfold dgE; rw [if_pos h1]
  rw [e]; exact h
 ·refine zle ins bs outs _ _ _ rfl rfl rfl zaf h1 _ (fun h2 => ?_) (fun h2 h3 => ?_) (fun h2 h3 h4 => ?_) (fun h2 h3 h4 => ?_)
  ·unfold dgE; rw [if_neg h1, if_pos h2]
  ·unfold dgE; rw [if_neg h1, if_neg (fun h => h h2), if_pos h3]
  ·unfold dgE; rw [if_neg h1, if_neg (fun h => h h2), if_neg (fun h => h h3), if_pos h4]
  ·unfold dgE; rw [if_neg h1, if_neg (fun h => h h2), if_neg (fun h => h h3), if_neg (fun h => h h4)]
set_option maxHeartbeats 4000000
theorem zo5 (ins : List (Int × Int × Int)) (bs : List Blk) (outs : List Int) (R : List Iv) (fr : List Int) (er : List Dy) (N : Nat) (i : Nat) (b : Blk) (hbe : bs.getD i Blk.zero = b) (hk : ¬ b.k = 11) (hB : bs.length = N) (hi : i < N) (hN : er.length = N) (hf : fr.length = N) (hR : R.length = N) (hM : ∀ i, i < N → Mg 9000 (er.getD i Dy.zero)) (hV : ∀ i, i < N → (R.getD i Iv.zero).Mg 9000) (hF : ∀ i, i < N → 0 ≤ fr.getD i 0 ∧ fr.getD i 0 ≤ 30) (cb : zae zao) (cc : zae zaj) (cv : zae ivr) : CallOK Tryz.prog gl 104 [AG ins bs outs, .agg [.sl 1 (rws zad fr), .sl 6 (rws ivr R), .sl 3 (rws zaj er)], .sl 3 (rws zaj er), .v (.int .i64 i)] (.v (.bool ((decide ((((R.getD i Iv.zero).mag.add (er.getD i Dy.zero)).shift (fr.getD i 0)).cmp zcX ≤ 0))))) := by
 refine okC 63 Tryz.call104 Tryz.func104 Tryz.ntmps104 Tryz.results104 ?_
 have o1 := zeY 2147483647 (by decide)
 have m1 := zge _ _ _ _ _ _ _ _ _ (IArg.of (hV i hi))
 have a1 := zbT _ _ _ _ _ _ _ _ ((hV i hi).mag.arg (by omega)) ((hM i hi).arg (by omega))
 have g1 := (hV i hi).mag.add (hM i hi)
 have s1 := zaS _ _ _ (fr.getD i 0) _ (g1.arg (by omega))
 have g2 : Mg 80000 (((R.getD i Iv.zero).mag.add (er.getD i Dy.zero)).shift (fr.getD i 0)) := (g1.shift (fr.getD i 0)).mono (by unfold zbe; omega)
 have c1 := zb2 _ _ _ _ _ _ _ _ (g2.arg (by omega)) (Arg.of (zcY (n := 2147483647) (by decide)) (by omega))
 have rf := ig (l := fr) (i := i) (by omega)
 have rv := vg (l := R) (i := i) (by omega)
 have re := cg (l := er) (i := i) (by omega)
 have rb := bg (l := bs) (i := i) (by omega)
 rw [hbe] at rb
 have rb : (rws zao bs).getD i [] = [.v (.int .i64 b.k), .sl 1 (rws zad b.a), .v (.int .i64 b.vn), .v (.int .i64 b.ve), .v (.int .i64 b.un), .v (.int .i64 b.ue)] := rb
 have fi := hF i hi
 clear hM hV hF g1 g2
 unfold zcX
 change CallOK _ _ _ _ (.agg [.v (.bool (sg (((R.getD i Iv.zero).mag.add (er.getD i Dy.zero)).shift (fr.getD i 0)))), .sl 1 (u32s (ms (((R.getD i Iv.zero).mag.add (er.getD i Dy.zero)).shift (fr.getD i 0)))), .v (.int .i64 (dn (((R.getD i Iv.zero).mag.add (er.getD i Dy.zero)).shift (fr.getD i 0))))]) at s1
 generalize (((R.getD i Iv.zero).mag.add (er.getD i Dy.zero)).shift (fr.getD i 0)).cmp (Dy.int 2147483647) = c at *
 generalize Dy.int 2147483647 = y31 at *
 generalize ((R.getD i Iv.zero).mag.add (er.getD i Dy.zero)).shift (fr.getD i 0) = y3 at *
 generalize (R.getD i Iv.zero).mag.add (er.getD i Dy.zero) = y2 at *
 generalize fr.getD i 0 = f at *
 generalize er.getD i Dy.zero = e at *
 generalize (R.getD i Iv.zero).mag = y1 at *
 generalize R.getD i Iv.zero = r at *
 by_cases hcc : c ≤ 0
 ·rw [decide_eq_true hcc]
  exact wer (zc8 hN hf hR hB rf rv re rb)
 ·rw [decide_eq_false hcc]
  exact wer (zc8 hN hf hR hB rf rv re rb)
theorem zo6 (ins : List (Int × Int × Int)) (bs : List Blk) (outs : List Int) (R : List Iv) (fr : List Int) (er : List Dy) (N : Nat) (i : Nat) (b : Blk) (hbe : bs.getD i Blk.zero = b) (hk : b.k = 11) (p : Nat) (ha : b.a = [(p : Int)]) (hp : p < N) (hB : bs.length = N) (hi : i < N) (hN : er.length = N) (hf : fr.length = N) (hR : R.length = N) (hM : ∀ i, i < N → Mg 9000 (er.getD i Dy.zero)) (hV : ∀ i, i < N → (R.getD i Iv.zero).Mg 9000) (hF : ∀ i, i < N → 0 ≤ fr.getD i 0 ∧ fr.getD i 0 ≤ 30) (cb : zae zao) (cc : zae zaj) (cv : zae ivr) : CallOK Tryz.prog gl 104 [AG ins bs outs, .agg [.sl 1 (rws zad fr), .sl 6 (rws ivr R), .sl 3 (rws zaj er)], .sl 3 (rws zaj er), .v (.int .i64 i)] (.v (.bool ((decide ((((R.getD i Iv.zero).mag.add (er.getD i Dy.zero)).shift (fr.getD i 0)).cmp zcX ≤ 0) && decide ((((R.getD p Iv.zero).hi.add (er.getD p Dy.zero)).shift (fr.getD i 0)).cmp zcX ≤ 0))))) := by
 refine okC 63 Tryz.call104 Tryz.func104 Tryz.ntmps104 Tryz.results104 ?_
 have o1 := zeY 2147483647 (by decide)
 have m1 := zge _ _ _ _ _ _ _ _ _ (IArg.of (hV i hi))
 have a1 := zbT _ _ _ _ _ _ _ _ ((hV i hi).mag.arg (by omega)) ((hM i hi).arg (by omega))
 have g1 := (hV i hi).mag.add (hM i hi)
 have s1 := zaS _ _ _ (fr.getD i 0) _ (g1.arg (by omega))
 have g2 : Mg 80000 (((R.getD i Iv.zero).mag.add (er.getD i Dy.zero)).shift (fr.getD i 0)) := (g1.shift (fr.getD i 0)).mono (by unfold zbe; omega)
 have c1 := zb2 _ _ _ _ _ _ _ _ (g2.arg (by omega)) (Arg.of (zcY (n := 2147483647) (by decide)) (by omega))
 have a2 := zbT _ _ _ _ _ _ _ _ ((hV p hp).2.arg (by omega)) ((hM p hp).arg (by omega))
 have g3 := (hV p hp).2.add (hM p hp)
 have s2 := zaS _ _ _ (fr.getD i 0) _ (g3.arg (by omega))
 have g4 : Mg 80000 (((R.getD p Iv.zero).hi.add (er.getD p Dy.zero)).shift (fr.getD i 0)) := (g3.shift (fr.getD i 0)).mono (by unfold zbe; omega)
 have c2 := zb2 _ _ _ _ _ _ _ _ (g4.arg (by omega)) (Arg.of (zcY (n := 2147483647) (by decide)) (by omega))
 have rv2 := vg (l := R) (i := p) (by omega)
 have re2 := cg (l := er) (i := p) (by omega)
 have hla : b.a.length = 1 := by rw [ha]; rfl
 have ra : (rws zad b.a).getD 0 [] = [.v (.int .i64 (p : Int))] := by rw [ha]; rfl
 have rf := ig (l := fr) (i := i) (by omega)
 have rv := vg (l := R) (i := i) (by omega)
 have re := cg (l := er) (i := i) (by omega)
 have rb := bg (l := bs) (i := i) (by omega)
 rw [hbe] at rb
 have rb : (rws zao bs).getD i [] = [.v (.int .i64 b.k), .sl 1 (rws zad b.a), .v (.int .i64 b.vn), .v (.int .i64 b.ve), .v (.int .i64 b.un), .v (.int .i64 b.ue)] := rb
 have fi := hF i hi
 rw [hk] at rb
 clear hM hV hF g1 g2 g3 g4 ha
 unfold zcX
 change CallOK _ _ _ _ (.agg [.v (.bool (sg (((R.getD i Iv.zero).mag.add (er.getD i Dy.zero)).shift (fr.getD i 0)))), .sl 1 (u32s (ms (((R.getD i Iv.zero).mag.add (er.getD i Dy.zero)).shift (fr.getD i 0)))), .v (.int .i64 (dn (((R.getD i Iv.zero).mag.add (er.getD i Dy.zero)).shift (fr.getD i 0))))]) at s1
 change CallOK _ _ _ _ (.agg [.v (.bool (sg (((R.getD p Iv.zero).hi.add (er.getD p Dy.zero)).shift (fr.getD i 0)))), .sl 1 (u32s (ms (((R.getD p Iv.zero).hi.add (er.getD p Dy.zero)).shift (fr.getD i 0)))), .v (.int .i64 (dn (((R.getD p Iv.zero).hi.add (er.getD p Dy.zero)).shift (fr.getD i 0))))]) at s2
 generalize (((R.getD p Iv.zero).hi.add (er.getD p Dy.zero)).shift (fr.getD i 0)).cmp (Dy.int 2147483647) = d at *
 generalize (((R.getD i Iv.zero).mag.add (er.getD i Dy.zero)).shift (fr.getD i 0)).cmp (Dy.int 2147483647) = c at *
 generalize Dy.int 2147483647 = y31 at *
 generalize ((R.getD i Iv.zero).mag.add (er.getD i Dy.zero)).shift (fr.getD i 0) = y3 at *
 generalize ((R.getD p Iv.zero).hi.add (er.getD p Dy.zero)).shift (fr.getD i 0) = z3 at *
 generalize (R.getD p Iv.zero).hi.add (er.getD p Dy.zero) = z2 at *
 generalize (R.getD i Iv.zero).mag.add (er.getD i Dy.zero) = y2 at *
 generalize fr.getD i 0 = f at *
 have re : (rws zaj er).getD i [] = [.v (.bool (sg (er.getD i Dy.zero))), .sl 1 (u32s (ms (er.getD i Dy.zero))), .v (.int .i64 (dn (er.getD i Dy.zero)))] := re
 by_cases hcc : c ≤ 0
 ·rw [decide_eq_true hcc, Bool.true_and]
  exact wer (zc12 hN hf hR hB rf rv re rb rv2 re2 ra hla)
 ·rw [decide_eq_false hcc, Bool.false_and]
  exact wer (zc8 hN hf hR hB rf rv re rb)
theorem ct_fits (ins : List (Int × Int × Int)) (bs : List Blk) (outs : List Int) (R : List Iv) (fr : List Int) (er : List Dy) (N : Nat) (i : Nat) (b : Blk) (hbe : bs.getD i Blk.zero = b) (hb : BlkOK ins.length N b) (hB : bs.length = N) (hi : i < N) (hN : er.length = N) (hf : fr.length = N) (hR : R.length = N) (hM : ∀ i, i < N → Mg 9000 (er.getD i Dy.zero)) (hV : ∀ i, i < N → (R.getD i Iv.zero).Mg 9000) (hF : ∀ i, i < N → 0 ≤ fr.getD i 0 ∧ fr.getD i 0 ≤ 30) :
  CallOK Tryz.prog gl 104 [AG ins bs outs, .agg [.sl 1 (rws zad fr), .sl 6 (rws ivr R), .sl 3 (rws zaj er)], .sl 3 (rws zaj er), .v (.int .i64 i)] (.v (.bool (ftB fr R er i b))) := by
 by_cases hk : b.k = 11
 ·obtain ⟨ha, hp⟩ := hb.a1 (by omega)
  have c := zo6 ins bs outs R fr er N i b hbe hk _ ha hp hB hi hN hf hR hM hV hF zaf zan zak
  have e : ftB fr R er i b = (decide ((((R.getD i Iv.zero).mag.add (er.getD i Dy.zero)).shift (fr.getD i 0)).cmp zcX ≤ 0) && decide ((((R.getD (b.at 0) Iv.zero).hi.add (er.getD (b.at 0) Dy.zero)).shift (fr.getD i 0)).cmp zcX ≤ 0)) := by
   unfold ftB; rw [show decide (b.k ≠ 11) = false from decide_eq_false (by omega), Bool.false_or]
  rw [e]; exact c
 ·have c := zo5 ins bs outs R fr er N i b hbe hk hB hi hN hf hR hM hV hF zaf zan zak
  have e : ftB fr R er i b = decide ((((R.getD i Iv.zero).mag.add (er.getD i Dy.zero)).shift (fr.getD i 0)).cmp zcX ≤ 0) := by
   unfold ftB; rw [show decide (b.k ≠ 11) = true from decide_eq_true hk, Bool.true_or, Bool.and_true]
  rw [e]; exact c
def lkB (ins : List (Int × Int × Int)) (bs : List Blk) (fr : List Int) (R : List Iv) (er : List Dy) (i : Nat) : Int :=
 if scB ins fr (fr.getD i 0) (bs.getD i Blk.zero) = false then 1 else if rgB ins R i (bs.getD i Blk.zero) = false then 2
 else if (er.getD i Dy.zero).cmp (bdB ins fr R er (fr.getD i 0) (bs.getD i Blk.zero)) < 0 then 3 else if ftB fr R er i (bs.getD i Blk.zero) = false then 4 else 0
theorem zme (ins : List (Int × Int × Int)) (bs : List Blk) (outs : List Int) (R : List Iv) (fr : List Int) (er : List Dy) (N : Nat) (i : Nat) (hb : BlkOK ins.length N (bs.getD i Blk.zero)) (hB : bs.length = N) (hi : i < N) (hN : er.length = N) (hf : fr.length = N) (hR : R.length = N) (hM : ∀ i, i < N → Mg 9000 (er.getD i Dy.zero)) (hV : ∀ i, i < N → (R.getD i Iv.zero).Mg 9000) (hF : ∀ i, i < N → 0 ≤ fr.getD i 0 ∧ fr.getD i 0 ≤ 30) (hP : ∀ i, i < ins.length → zbu (ins.getD i (0, 0, 0))) (cb : zae zao) (cc : zae zaj) (cv : zae ivr) : CallOK Tryz.prog gl 62 [AG ins bs outs, .agg [.sl 1 (rws zad fr), .sl 6 (rws ivr R), .sl 3 (rws zaj er)], .v (.int .i64 i)] (.v (.int .i64 (lkB ins bs fr R er i))) := by
 refine okC 41 Tryz.call62 Tryz.func62 Tryz.ntmps62 Tryz.results62 ?_
 have c1 := zo3 ins bs outs R fr er N i _ rfl hb hB hi (by omega) hf hF hP
 have c2 := zo4 ins bs outs R fr er N i _ rfl hb hB hi (by omega) hR hV hP
 have c3 := cb_bound ins bs outs R fr er er N i _ rfl hb hB hi (by omega) hN hf hR hM hV hF hP
 have g3 := bdB_mg (fr := fr) (R := R) hM hV (hF i hi).1 hb
 have c4 := zb2 _ _ _ _ _ _ _ _ ((hM i hi).arg (by omega)) (g3.arg (by omega))
 have c5 := ct_fits ins bs outs R fr er N i _ rfl hb hB hi hN hf hR hM hV hF
 have re := cg (l := er) (i := i) (by omega)
 unfold lkB
 clear hM hV hF g3 hP
 generalize (er.getD i Dy.zero).cmp (bdB ins fr R er (fr.getD i 0) (bs.getD i Blk.zero)) = c at *
 generalize bdB ins fr R er (fr.getD i 0) (bs.getD i Blk.zero) = y at *
 generalize er.getD i Dy.zero = e at *
 generalize scB ins fr (fr.getD i 0) (bs.getD i Blk.zero) = b1 at *
 generalize rgB ins R i (bs.getD i Blk.zero) = b2 at *
 generalize ftB fr R er i (bs.getD i Blk.zero) = b3 at *
 cases b1
 ·rw [if_pos rfl]
  exact we zc0
 rw [if_neg Bool.noConfusion]
 cases b2
 ·rw [if_pos rfl]
  exact we zc0
 rw [if_neg Bool.noConfusion]
 by_cases hcc : c < 0
 ·rw [if_pos hcc]
  exact wer (zc2 hN re)
 rw [if_neg hcc]
 cases b3
 ·rw [if_pos rfl]
  exact wer (zc2 hN re)
 ·rw [if_neg Bool.noConfusion]
  exact wer (zc2 hN re)
theorem zmf (ins : List (Int × Int × Int)) (bs : List Blk) (outs : List Int) (R : List Iv) (fr : List Int) (er : List Dy) (N : Nat) (hz : dgE ins bs outs = 0) (h64 : N ≤ 64) (hB : bs.length = N) (hN : er.length = N) (hf : fr.length = N) (hR : R.length = N) (hM : ∀ i, i < N → lgD (er.getD i Dy.zero) = false) (hE : ∀ i, i < N → 0 ≤ (er.getD i Dy.zero).v) (hV : ∀ i, i < N → lgI (R.getD i Iv.zero) = false) (cb : zae zao) (cc : zae zaj) (cv : zae ivr) : CallOK Tryz.prog gl 61 [AG ins bs outs, .agg [.sl 1 (rws zad fr), .sl 6 (rws ivr R), .sl 3 (rws zaj er)]] (.v .nilIface) := by
 refine okC 85 Tryz.call61 Tryz.func61 Tryz.ntmps61 Tryz.results61 ?_
 have c1 := zfz ins bs outs
 rw [hz, zbg] at c1
 clear hz
 refine wkr (zc4 hN hf hR hB) ?_
 refine lL (α := Nat) (fun j => ⟨[(3, .p 1 3 0 0), (38, .sl 6 (rws ivr R)), (39, .v (.int .i64 N)), (40, .v (.int .i64 j))], [(1, ⟨3, [[.sl 1 (rws zad fr), .sl 6 (rws ivr R), .sl 3 (rws zaj er)]]⟩)], 2⟩) (fun j => j ≤ N) (fun j => N - j) (0) ?_ ?_ ?_
 ·exact Nat.zero_le _
 ·exact zah
 rintro j hj
 by_cases hjn : j < N
 ·have rv := vg (l := R) (i := j) (by omega)
  have re := cg (l := er) (i := j) (by omega)
  have hVj := hV j hjn
  have hMj := hM j hjn
  have hEj := hE j hjn
  clear hM hE hV
  generalize R.getD j Iv.zero = a at *
  generalize er.getD j Dy.zero = x at *
  have gI := (zeH hVj).1
  have gx := (zdX hMj).1
  have v1 := zgw _ _ _ _ _ _ _ _ _ (IArg.of gI)
  rw [decide_eq_true (ok_of a)] at v1
  have v2 := zdT (sg x) (ms x) (dn x) (by have := (gx.arg (by omega)).len; omega)
  rw [zbB x] at v2
  have s1 := zf3 _ _ _ _ (gx.arg (by omega))
  have hs : ¬ x.sign < 0 := fun h => absurd ((ziE x).1 h) (Rat.not_lt.2 hEj)
  have l1 := zli x (gx.mono (by omega))
  have l2 := zli a.lo (gI.1.mono (by omega))
  have l3 := zli a.hi (gI.2.mono (by omega))
  unfold lgI at hVj
  rw [Bool.or_eq_false_iff] at hVj
  rw [hMj] at l1
  rw [hVj.1] at l2
  rw [hVj.2] at l3
  clear hVj hMj hEj
  generalize x.sign = sg0 at *
  refine wkr (zc4 hR hN rv re) ?_
  refine zac (α := Nat) (j + 1) ?_ ?_ ?_
  ·show j + 1 ≤ N; omega
  ·show N - (j + 1) < N - j; omega
  exact zah
 ·clear hM hE hV
  exact wer hR
def vfB (ins : List (Int × Int × Int)) (bs : List Blk) (fr : List Int) (R : List Iv) (er : List Dy) : Prop := ∀ i, i < bs.length → lkB ins bs fr R er i = 0
instance (ins : List (Int × Int × Int)) (bs : List Blk) (fr : List Int) (R : List Iv) (er : List Dy) : Decidable (vfB ins bs fr R er) := inferInstanceAs (Decidable (∀ i, i < bs.length → _))
theorem zkk (ins : List (Int × Int × Int)) (bs : List Blk) (outs : List Int) (R : List Iv) (fr : List Int) (er : List Dy) (N : Nat) (hz : dgE ins bs outs = 0) (h64 : N ≤ 64) (hB : bs.length = N) (hN : er.length = N) (hf : fr.length = N) (hR : R.length = N) (hM : ∀ i, i < N → lgD (er.getD i Dy.zero) = false) (hE : ∀ i, i < N → 0 ≤ (er.getD i Dy.zero).v) (hV : ∀ i, i < N → lgI (R.getD i Iv.zero) = false) (hF : ∀ i, i < N → 0 ≤ fr.getD i 0 ∧ fr.getD i 0 ≤ 30) (hv : vfB ins bs fr R er) (cb : zae zao) (cc : zae zaj) (cv : zae ivr) : CallOK Tryz.prog gl 23 [AG ins bs outs, .agg [.sl 1 (rws zad fr), .sl 6 (rws ivr R), .sl 3 (rws zaj er)]] (.tup [.v (.bool (true)), .agg [.v (.int .i64 0), .v (.int .i64 0)], .v .nilIface]) := by
 refine okC 34 Tryz.call23 Tryz.func23 Tryz.ntmps23 Tryz.results23 ?_
 have hdg := zdB hz
 have c1 := zmf ins bs outs R fr er N hz h64 hB hN hf hR hM hE hV cb cc cv
 have lk : ∀ i, i < N → CallOK Tryz.prog gl 62 [AG ins bs outs, .agg [.sl 1 (rws zad fr), .sl 6 (rws ivr R), .sl 3 (rws zaj er)], .v (.int .i64 i)] (.v (.int .i64 (lkB ins bs fr R er i))) := fun i hi =>
  zme ins bs outs R fr er N i (by have := hdg.blk i (by omega); rw [hB] at this; exact this) hB hi hN hf hR (fun i hi => (zdX (hM i hi)).1.mono (by omega)) (fun i hi => (zeH (hV i hi)).1.mono (by omega)) hF hdg.ports cb cc cv
 clear hM hE hV hF hdg hz
 refine wkr hB ?_
 refine lL (α := Nat) (fun j => ⟨[(2, .p 0 3 0 0), (3, .p 1 3 0 0), (5, .p 2 2 0 0), (19, .v (.int .i64 N)), (20, .v (.int .i64 j))], [(0, ⟨3, [[.sl 3 (rws zaD ins), .sl 6 (rws zao bs), .sl 1 (rws zad outs)]]⟩), (1, ⟨3, [[.sl 1 (rws zad fr), .sl 6 (rws ivr R), .sl 3 (rws zaj er)]]⟩), (2, ⟨2, [[.v (.int .i64 0), .v (.int .i64 0)]]⟩)], 3⟩) (fun j => j ≤ N) (fun j => N - j) (0) ?_ ?_ ?_
 ·exact Nat.zero_le _
 ·exact zah
 rintro j hj
 by_cases hjn : j < N
 ·have l1 := lk j hjn
  rw [hv j (by omega)] at l1
  clear lk
  refine wkr hB ?_
  refine zac (α := Nat) (j + 1) ?_ ?_ ?_
  ·show j + 1 ≤ N; omega
  ·show N - (j + 1) < N - j; omega
  exact zah
 ·clear lk
  exact wer hB
theorem zkl (ins : List (Int × Int × Int)) (bs : List Blk) (outs : List Int) (R : List Iv) (fr : List Int) (er : List Dy) (N : Nat) (hz : dgE ins bs outs = 0) (h64 : N ≤ 64) (hB : bs.length = N) (hN : er.length = N) (hf : fr.length = N) (hR : R.length = N) (hM : ∀ i, i < N → lgD (er.getD i Dy.zero) = false) (hE : ∀ i, i < N → 0 ≤ (er.getD i Dy.zero).v) (hV : ∀ i, i < N → lgI (R.getD i Iv.zero) = false) (hF : ∀ i, i < N → 0 ≤ fr.getD i 0 ∧ fr.getD i 0 ≤ 30) (q : Nat) (hq : q < N) (hb : ¬ lkB ins bs fr R er q = 0) (hg : ∀ i, i < q → lkB ins bs fr R er i = 0) (cb : zae zao) (cc : zae zaj) (cv : zae ivr) : CallOK Tryz.prog gl 23 [AG ins bs outs, .agg [.sl 1 (rws zad fr), .sl 6 (rws ivr R), .sl 3 (rws zaj er)]] (.tup [.v (.bool (false)), .agg [.v (.int .i64 (lkB ins bs fr R er q)), .v (.int .i64 q)], .v .nilIface]) := by
 refine okC 34 Tryz.call23 Tryz.func23 Tryz.ntmps23 Tryz.results23 ?_
 have hdg := zdB hz
 have c1 := zmf ins bs outs R fr er N hz h64 hB hN hf hR hM hE hV cb cc cv
 have lk : ∀ i, i < N → CallOK Tryz.prog gl 62 [AG ins bs outs, .agg [.sl 1 (rws zad fr), .sl 6 (rws ivr R), .sl 3 (rws zaj er)], .v (.int .i64 i)] (.v (.int .i64 (lkB ins bs fr R er i))) := fun i hi =>
  zme ins bs outs R fr er N i (by have := hdg.blk i (by omega); rw [hB] at this; exact this) hB hi hN hf hR (fun i hi => (zdX (hM i hi)).1.mono (by omega)) (fun i hi => (zeH (hV i hi)).1.mono (by omega)) hF hdg.ports cb cc cv
 clear hM hE hV hF hdg hz
 refine wkr hB ?_
 refine lL (α := Nat) (fun j => ⟨[(2, .p 0 3 0 0), (3, .p 1 3 0 0), (5, .p 2 2 0 0), (19, .v (.int .i64 N)), (20, .v (.int .i64 j))], [(0, ⟨3, [[.sl 3 (rws zaD ins), .sl 6 (rws zao bs), .sl 1 (rws zad outs)]]⟩), (1, ⟨3, [[.sl 1 (rws zad fr), .sl 6 (rws ivr R), .sl 3 (rws zaj er)]]⟩), (2, ⟨2, [[.v (.int .i64 0), .v (.int .i64 0)]]⟩)], 3⟩) (fun j => j ≤ q) (fun j => q - j) (0) ?_ ?_ ?_
 ·exact Nat.zero_le _
 ·exact zah
 rintro j hj
 have l1 := lk j (by omega)
 by_cases hjn : j < q
 ·rw [hg j hjn] at l1
  clear lk
  refine wkr hB ?_
  refine zac (α := Nat) (j + 1) ?_ ?_ ?_
  ·show j + 1 ≤ q; omega
  ·show q - (j + 1) < q - j; omega
  exact zah
 ·obtain rfl : j = q := by omega
  clear lk hg
  generalize lkB ins bs fr R er j = z at *
  exact wer hB
set_option maxHeartbeats 4000000
theorem zbk (n : Int) : CallOK Tryz.prog gl 32 [.v (.int .i64 n)] (.v (.bool ((decide (-2147483648 ≤ n ∧ n < 2147483648))))) := by
 refine okC 9 Tryz.call32 Tryz.func32 Tryz.ntmps32 Tryz.results32 ?_
 by_cases h : -2147483648 ≤ n ∧ n < 2147483648
 ·rw [decide_eq_true h]
  repeat' (first | simp only [go_sem, seval] | simp (disch := omega) only [wA] | refine aI ?_ | refine dI ?_ | refine dG ?_ | ((first | refine cC ?_ ?_ | refine gS ?_ ?_ | refine dS ?_ ?_) <;> intro hc <;> simp only [hc] <;> try simp only [dcA] at hc <;> try omega) | refine aP ?_ | refine dP ?_)
  all_goals (refine zal trivial ?_; simp [one]; try omega)
 ·rw [decide_eq_false h]
  repeat' (first | simp only [go_sem, seval] | simp (disch := omega) only [wA] | refine aI ?_ | refine dI ?_ | refine dG ?_ | ((first | refine cC ?_ ?_ | refine gS ?_ ?_ | refine dS ?_ ?_) <;> intro hc <;> simp only [hc] <;> try simp only [dcA] at hc <;> try omega) | refine aP ?_ | refine dP ?_)
  all_goals (refine zal trivial ?_; simp [one]; try omega)
theorem zbE (n : Int) : CallOK Tryz.prog gl 107 [.v (.int .i64 n)] (.v (.bool ((decide (-62 ≤ n ∧ n ≤ 30))))) := by
 refine okC 9 Tryz.call107 Tryz.func107 Tryz.ntmps107 Tryz.results107 ?_
 by_cases h : -62 ≤ n ∧ n ≤ 30
 ·rw [decide_eq_true h]
  repeat' (first | simp only [go_sem, seval] | simp (disch := omega) only [wA] | refine aI ?_ | refine dI ?_ | refine dG ?_ | ((first | refine cC ?_ ?_ | refine gS ?_ ?_ | refine dS ?_ ?_) <;> intro hc <;> simp only [hc] <;> try simp only [dcA] at hc <;> try omega) | refine aP ?_ | refine dP ?_)
  all_goals (refine zal trivial ?_; simp [one]; try omega)
 ·rw [decide_eq_false h]
  repeat' (first | simp only [go_sem, seval] | simp (disch := omega) only [wA] | refine aI ?_ | refine dI ?_ | refine dG ?_ | ((first | refine cC ?_ ?_ | refine gS ?_ ?_ | refine dS ?_ ?_) <;> intro hc <;> simp only [hc] <;> try simp only [dcA] at hc <;> try omega) | refine aP ?_ | refine dP ?_)
  all_goals (refine zal trivial ?_; simp [one]; try omega)
theorem zje (x : Int) (j : Nat) (h : 1 ≤ j ∧ j ≤ 62) (hx : -9223372036854775808 ≤ x ∧ x ≤ 9223372036854775807) : CallOK Tryz.prog gl 33 [.v (.int .i64 x), .v (.int .i64 (-(j : Int)))] (.v (.int .i64 ((x / 2 ^ j)))) := by
 refine okC 16 Tryz.call33 Tryz.func33 Tryz.ntmps33 Tryz.results33 ?_
 have e : (0 - -(j : Int)).toNat = j := by omega
 exact we e
theorem zjd (x : Int) (j : Nat) (h : j ≤ 30) (hx : -9223372036854775808 ≤ x ∧ x ≤ 9223372036854775807) : CallOK Tryz.prog gl 33 [.v (.int .i64 x), .v (.int .i64 j)] (.v (.int .i64 ((clp x * 2 ^ j)))) := by
 refine okC 16 Tryz.call33 Tryz.func33 Tryz.ntmps33 Tryz.results33 ?_
 have hb := zpq (x := x) h
 unfold clp at *
 exact we zc0
theorem zbl (x k : Int) (h : -62 ≤ k ∧ k ≤ 30) (hx : -9223372036854775808 ≤ x ∧ x ≤ 9223372036854775807) : CallOK Tryz.prog gl 33 [.v (.int .i64 x), .v (.int .i64 k)] (.v (.int .i64 (scl x k))) := by
 unfold scl
 split
 ·rename_i hk
  have := zje x (-k).toNat (by omega) hx
  rw [show -(((-k).toNat : Nat) : Int) = k by omega] at this
  exact this
 ·rename_i hk
  have := zjd x k.toNat (by omega) hx
  rw [show ((k.toNat : Nat) : Int) = k by omega] at this
  exact this
theorem co_uses0  : CallOK Tryz.prog gl 106 [.v (.int .i64 0)] (.tup [.v (.int .i64 5), .v (.bool (true))]) := by
 refine okC 21 Tryz.call106 Tryz.func106 Tryz.ntmps106 Tryz.results106 ?_
 exact we zc0
theorem co_uses2  : CallOK Tryz.prog gl 106 [.v (.int .i64 2)] (.tup [.v (.int .i64 5), .v (.bool (true))]) := by
 refine okC 21 Tryz.call106 Tryz.func106 Tryz.ntmps106 Tryz.results106 ?_
 exact we zc0
theorem co_uses5  : CallOK Tryz.prog gl 106 [.v (.int .i64 5)] (.tup [.v (.int .i64 5), .v (.bool (true))]) := by
 refine okC 21 Tryz.call106 Tryz.func106 Tryz.ntmps106 Tryz.results106 ?_
 exact we zc0
theorem zpb  : CallOK Tryz.prog gl 106 [.v (.int .i64 10)] (.tup [.v (.int .i64 5), .v (.bool (true))]) := by
 refine okC 21 Tryz.call106 Tryz.func106 Tryz.ntmps106 Tryz.results106 ?_
 exact we zc0
theorem co_uses1  : CallOK Tryz.prog gl 106 [.v (.int .i64 1)] (.tup [.v (.int .i64 16), .v (.bool (true))]) := by
 refine okC 21 Tryz.call106 Tryz.func106 Tryz.ntmps106 Tryz.results106 ?_
 exact we zc0
theorem co_uses3  : CallOK Tryz.prog gl 106 [.v (.int .i64 3)] (.tup [.v (.int .i64 15), .v (.bool (true))]) := by
 refine okC 21 Tryz.call106 Tryz.func106 Tryz.ntmps106 Tryz.results106 ?_
 exact we zc0
theorem co_uses4  : CallOK Tryz.prog gl 106 [.v (.int .i64 4)] (.tup [.v (.int .i64 15), .v (.bool (true))]) := by
 refine okC 21 Tryz.call106 Tryz.func106 Tryz.ntmps106 Tryz.results106 ?_
 exact we zc0
theorem co_uses8  : CallOK Tryz.prog gl 106 [.v (.int .i64 8)] (.tup [.v (.int .i64 15), .v (.bool (true))]) := by
 refine okC 21 Tryz.call106 Tryz.func106 Tryz.ntmps106 Tryz.results106 ?_
 exact we zc0
theorem co_uses9  : CallOK Tryz.prog gl 106 [.v (.int .i64 9)] (.tup [.v (.int .i64 15), .v (.bool (true))]) := by
 refine okC 21 Tryz.call106 Tryz.func106 Tryz.ntmps106 Tryz.results106 ?_
 exact we zc0
theorem co_uses6  : CallOK Tryz.prog gl 106 [.v (.int .i64 6)] (.tup [.v (.int .i64 21), .v (.bool (true))]) := by
 refine okC 21 Tryz.call106 Tryz.func106 Tryz.ntmps106 Tryz.results106 ?_
 exact we zc0
theorem co_uses7  : CallOK Tryz.prog gl 106 [.v (.int .i64 7)] (.tup [.v (.int .i64 7), .v (.bool (true))]) := by
 refine okC 21 Tryz.call106 Tryz.func106 Tryz.ntmps106 Tryz.results106 ?_
 exact we zc0
set_option maxHeartbeats 4000000
theorem zmq : IntKind.i64.wrap (zeW IntKind.i64 5 1) = 1 := (rfl)
theorem zmp : IntKind.i64.wrap (zeW IntKind.i64 5 2) = 0 := (rfl)
theorem zmo : IntKind.i64.wrap (zeW IntKind.i64 5 4) = 4 := (rfl)
theorem zmn : IntKind.i64.wrap (zeW IntKind.i64 5 8) = 0 := (rfl)
theorem zjj : IntKind.i64.wrap (zeW IntKind.i64 5 16) = 0 := (rfl)
theorem bA_16_1 : IntKind.i64.wrap (zeW IntKind.i64 16 1) = 0 := (rfl)
theorem bA_16_2 : IntKind.i64.wrap (zeW IntKind.i64 16 2) = 0 := (rfl)
theorem bA_16_4 : IntKind.i64.wrap (zeW IntKind.i64 16 4) = 0 := (rfl)
theorem bA_16_8 : IntKind.i64.wrap (zeW IntKind.i64 16 8) = 0 := (rfl)
theorem bA_16_16 : IntKind.i64.wrap (zeW IntKind.i64 16 16) = 16 := (rfl)
theorem zjn : IntKind.i64.wrap (zeW IntKind.i64 15 1) = 1 := (rfl)
theorem zjm : IntKind.i64.wrap (zeW IntKind.i64 15 2) = 2 := (rfl)
theorem zjl : IntKind.i64.wrap (zeW IntKind.i64 15 4) = 4 := (rfl)
theorem zjk : IntKind.i64.wrap (zeW IntKind.i64 15 8) = 8 := (rfl)
theorem zgD : IntKind.i64.wrap (zeW IntKind.i64 15 16) = 0 := (rfl)
theorem bA_21_1 : IntKind.i64.wrap (zeW IntKind.i64 21 1) = 1 := (rfl)
theorem bA_21_2 : IntKind.i64.wrap (zeW IntKind.i64 21 2) = 0 := (rfl)
theorem bA_21_4 : IntKind.i64.wrap (zeW IntKind.i64 21 4) = 4 := (rfl)
theorem bA_21_8 : IntKind.i64.wrap (zeW IntKind.i64 21 8) = 0 := (rfl)
theorem bA_21_16 : IntKind.i64.wrap (zeW IntKind.i64 21 16) = 16 := (rfl)
theorem bA_7_1 : IntKind.i64.wrap (zeW IntKind.i64 7 1) = 1 := (rfl)
theorem bA_7_2 : IntKind.i64.wrap (zeW IntKind.i64 7 2) = 2 := (rfl)
theorem bA_7_4 : IntKind.i64.wrap (zeW IntKind.i64 7 4) = 4 := (rfl)
theorem bA_7_8 : IntKind.i64.wrap (zeW IntKind.i64 7 8) = 0 := (rfl)
theorem bA_7_16 : IntKind.i64.wrap (zeW IntKind.i64 7 16) = 0 := (rfl)
theorem zpl (ports : List (Int × Int × Int)) (init : List Int) (code : List Ins) (outs : List Int) (dst a sa : Int) (nP nC : Nat) (hP : ports.length = nP) (hC : init.length = nC) (hd : 0 ≤ dst ∧ dst < nC) (ha : 0 ≤ a ∧ a < nP) (hsa : -62 ≤ sa ∧ sa ≤ 30) (ci : zae zbn) : CallOK Tryz.prog gl 65 [.agg [.sl 3 (rws zaD ports), .sl 1 (rws zad init), .sl 7 (rws zbn code), .sl 1 (rws zad outs)], .agg [.v (.int .i64 0), .v (.int .i64 dst), .v (.int .i64 a), .v (.int .i64 0), .v (.int .i64 sa), .v (.int .i64 0), .v (.int .i64 0)]] (.v .nilIface) := by
 refine okC 154 Tryz.call65 Tryz.func65 Tryz.ntmps65 Tryz.results65 ?_
 have u := co_uses0
 have s1 := zbE sa
 rw [decide_eq_true hsa] at s1
 exact wer (zc7 hP hC zmq zmp zmo zmn zjj)
theorem zpk (ports : List (Int × Int × Int)) (init : List Int) (code : List Ins) (outs : List Int) (dst imm : Int) (nP nC : Nat) (hP : ports.length = nP) (hC : init.length = nC) (hd : 0 ≤ dst ∧ dst < nC) (hi : -2147483648 ≤ imm ∧ imm < 2147483648) (ci : zae zbn) : CallOK Tryz.prog gl 65 [.agg [.sl 3 (rws zaD ports), .sl 1 (rws zad init), .sl 7 (rws zbn code), .sl 1 (rws zad outs)], .agg [.v (.int .i64 1), .v (.int .i64 dst), .v (.int .i64 0), .v (.int .i64 0), .v (.int .i64 0), .v (.int .i64 0), .v (.int .i64 imm)]] (.v .nilIface) := by
 refine okC 154 Tryz.call65 Tryz.func65 Tryz.ntmps65 Tryz.results65 ?_
 have u := co_uses1
 have s3 := zbk imm
 rw [decide_eq_true hi] at s3
 exact wer (zc7 hP hC bA_16_1 bA_16_2 bA_16_4 bA_16_8 bA_16_16)
theorem zpj (ports : List (Int × Int × Int)) (init : List Int) (code : List Ins) (outs : List Int) (dst a sa : Int) (nP nC : Nat) (hP : ports.length = nP) (hC : init.length = nC) (hd : 0 ≤ dst ∧ dst < nC) (ha : 0 ≤ a ∧ a < nC) (hsa : -62 ≤ sa ∧ sa ≤ 30) (ci : zae zbn) : CallOK Tryz.prog gl 65 [.agg [.sl 3 (rws zaD ports), .sl 1 (rws zad init), .sl 7 (rws zbn code), .sl 1 (rws zad outs)], .agg [.v (.int .i64 2), .v (.int .i64 dst), .v (.int .i64 a), .v (.int .i64 0), .v (.int .i64 sa), .v (.int .i64 0), .v (.int .i64 0)]] (.v .nilIface) := by
 refine okC 154 Tryz.call65 Tryz.func65 Tryz.ntmps65 Tryz.results65 ?_
 have u := co_uses2
 have s1 := zbE sa
 rw [decide_eq_true hsa] at s1
 exact wer (zc7 hP hC zmq zmp zmo zmn zjj)
theorem zpi (ports : List (Int × Int × Int)) (init : List Int) (code : List Ins) (outs : List Int) (dst a sa b sb : Int) (nP nC : Nat) (hP : ports.length = nP) (hC : init.length = nC) (hd : 0 ≤ dst ∧ dst < nC) (ha : 0 ≤ a ∧ a < nC) (hsa : -62 ≤ sa ∧ sa ≤ 30) (hb : 0 ≤ b ∧ b < nC) (hsb : -62 ≤ sb ∧ sb ≤ 30) (ci : zae zbn) : CallOK Tryz.prog gl 65 [.agg [.sl 3 (rws zaD ports), .sl 1 (rws zad init), .sl 7 (rws zbn code), .sl 1 (rws zad outs)], .agg [.v (.int .i64 3), .v (.int .i64 dst), .v (.int .i64 a), .v (.int .i64 b), .v (.int .i64 sa), .v (.int .i64 sb), .v (.int .i64 0)]] (.v .nilIface) := by
 refine okC 154 Tryz.call65 Tryz.func65 Tryz.ntmps65 Tryz.results65 ?_
 have u := co_uses3
 have s1 := zbE sa
 rw [decide_eq_true hsa] at s1
 have s2 := zbE sb
 rw [decide_eq_true hsb] at s2
 exact wer (zc7 hP hC zjn zjm zjl zjk zgD)
theorem zph (ports : List (Int × Int × Int)) (init : List Int) (code : List Ins) (outs : List Int) (dst a sa b sb : Int) (nP nC : Nat) (hP : ports.length = nP) (hC : init.length = nC) (hd : 0 ≤ dst ∧ dst < nC) (ha : 0 ≤ a ∧ a < nC) (hsa : -62 ≤ sa ∧ sa ≤ 30) (hb : 0 ≤ b ∧ b < nC) (hsb : -62 ≤ sb ∧ sb ≤ 30) (ci : zae zbn) : CallOK Tryz.prog gl 65 [.agg [.sl 3 (rws zaD ports), .sl 1 (rws zad init), .sl 7 (rws zbn code), .sl 1 (rws zad outs)], .agg [.v (.int .i64 4), .v (.int .i64 dst), .v (.int .i64 a), .v (.int .i64 b), .v (.int .i64 sa), .v (.int .i64 sb), .v (.int .i64 0)]] (.v .nilIface) := by
 refine okC 154 Tryz.call65 Tryz.func65 Tryz.ntmps65 Tryz.results65 ?_
 have u := co_uses4
 have s1 := zbE sa
 rw [decide_eq_true hsa] at s1
 have s2 := zbE sb
 rw [decide_eq_true hsb] at s2
 exact wer (zc7 hP hC zjn zjm zjl zjk zgD)
theorem zpg (ports : List (Int × Int × Int)) (init : List Int) (code : List Ins) (outs : List Int) (dst a sa : Int) (nP nC : Nat) (hP : ports.length = nP) (hC : init.length = nC) (hd : 0 ≤ dst ∧ dst < nC) (ha : 0 ≤ a ∧ a < nC) (hsa : -62 ≤ sa ∧ sa ≤ 30) (ci : zae zbn) : CallOK Tryz.prog gl 65 [.agg [.sl 3 (rws zaD ports), .sl 1 (rws zad init), .sl 7 (rws zbn code), .sl 1 (rws zad outs)], .agg [.v (.int .i64 5), .v (.int .i64 dst), .v (.int .i64 a), .v (.int .i64 0), .v (.int .i64 sa), .v (.int .i64 0), .v (.int .i64 0)]] (.v .nilIface) := by
 refine okC 154 Tryz.call65 Tryz.func65 Tryz.ntmps65 Tryz.results65 ?_
 have u := co_uses5
 have s1 := zbE sa
 rw [decide_eq_true hsa] at s1
 exact wer (zc7 hP hC zmq zmp zmo zmn zjj)
theorem zpf (ports : List (Int × Int × Int)) (init : List Int) (code : List Ins) (outs : List Int) (dst a sa imm : Int) (nP nC : Nat) (hP : ports.length = nP) (hC : init.length = nC) (hd : 0 ≤ dst ∧ dst < nC) (ha : 0 ≤ a ∧ a < nC) (hsa : -62 ≤ sa ∧ sa ≤ 30) (hi : -2147483648 ≤ imm ∧ imm < 2147483648) (ci : zae zbn) : CallOK Tryz.prog gl 65 [.agg [.sl 3 (rws zaD ports), .sl 1 (rws zad init), .sl 7 (rws zbn code), .sl 1 (rws zad outs)], .agg [.v (.int .i64 6), .v (.int .i64 dst), .v (.int .i64 a), .v (.int .i64 0), .v (.int .i64 sa), .v (.int .i64 0), .v (.int .i64 imm)]] (.v .nilIface) := by
 refine okC 154 Tryz.call65 Tryz.func65 Tryz.ntmps65 Tryz.results65 ?_
 have u := co_uses6
 have s1 := zbE sa
 rw [decide_eq_true hsa] at s1
 have s3 := zbk imm
 rw [decide_eq_true hi] at s3
 exact wer (zc7 hP hC bA_21_1 bA_21_2 bA_21_4 bA_21_8 bA_21_16)
theorem zpe (ports : List (Int × Int × Int)) (init : List Int) (code : List Ins) (outs : List Int) (dst a sa b : Int) (nP nC : Nat) (hP : ports.length = nP) (hC : init.length = nC) (hd : 0 ≤ dst ∧ dst < nC) (ha : 0 ≤ a ∧ a < nC) (hsa : -62 ≤ sa ∧ sa ≤ 30) (hb : 0 ≤ b ∧ b < nC) (ci : zae zbn) : CallOK Tryz.prog gl 65 [.agg [.sl 3 (rws zaD ports), .sl 1 (rws zad init), .sl 7 (rws zbn code), .sl 1 (rws zad outs)], .agg [.v (.int .i64 7), .v (.int .i64 dst), .v (.int .i64 a), .v (.int .i64 b), .v (.int .i64 sa), .v (.int .i64 0), .v (.int .i64 0)]] (.v .nilIface) := by
 refine okC 154 Tryz.call65 Tryz.func65 Tryz.ntmps65 Tryz.results65 ?_
 have u := co_uses7
 have s1 := zbE sa
 rw [decide_eq_true hsa] at s1
 exact wer (zc7 hP hC bA_7_1 bA_7_2 bA_7_4 bA_7_8 bA_7_16)
theorem zpd (ports : List (Int × Int × Int)) (init : List Int) (code : List Ins) (outs : List Int) (dst a sa b sb : Int) (nP nC : Nat) (hP : ports.length = nP) (hC : init.length = nC) (hd : 0 ≤ dst ∧ dst < nC) (ha : 0 ≤ a ∧ a < nC) (hsa : -62 ≤ sa ∧ sa ≤ 30) (hb : 0 ≤ b ∧ b < nC) (hsb : -62 ≤ sb ∧ sb ≤ 30) (ci : zae zbn) : CallOK Tryz.prog gl 65 [.agg [.sl 3 (rws zaD ports), .sl 1 (rws zad init), .sl 7 (rws zbn code), .sl 1 (rws zad outs)], .agg [.v (.int .i64 8), .v (.int .i64 dst), .v (.int .i64 a), .v (.int .i64 b), .v (.int .i64 sa), .v (.int .i64 sb), .v (.int .i64 0)]] (.v .nilIface) := by
 refine okC 154 Tryz.call65 Tryz.func65 Tryz.ntmps65 Tryz.results65 ?_
 have u := co_uses8
 have s1 := zbE sa
 rw [decide_eq_true hsa] at s1
 have s2 := zbE sb
 rw [decide_eq_true hsb] at s2
 exact wer (zc7 hP hC zjn zjm zjl zjk zgD)
theorem zpc (ports : List (Int × Int × Int)) (init : List Int) (code : List Ins) (outs : List Int) (dst a sa b sb : Int) (nP nC : Nat) (hP : ports.length = nP) (hC : init.length = nC) (hd : 0 ≤ dst ∧ dst < nC) (ha : 0 ≤ a ∧ a < nC) (hsa : -62 ≤ sa ∧ sa ≤ 30) (hb : 0 ≤ b ∧ b < nC) (hsb : -62 ≤ sb ∧ sb ≤ 30) (ci : zae zbn) : CallOK Tryz.prog gl 65 [.agg [.sl 3 (rws zaD ports), .sl 1 (rws zad init), .sl 7 (rws zbn code), .sl 1 (rws zad outs)], .agg [.v (.int .i64 9), .v (.int .i64 dst), .v (.int .i64 a), .v (.int .i64 b), .v (.int .i64 sa), .v (.int .i64 sb), .v (.int .i64 0)]] (.v .nilIface) := by
 refine okC 154 Tryz.call65 Tryz.func65 Tryz.ntmps65 Tryz.results65 ?_
 have u := co_uses9
 have s1 := zbE sa
 rw [decide_eq_true hsa] at s1
 have s2 := zbE sb
 rw [decide_eq_true hsb] at s2
 exact wer (zc7 hP hC zjn zjm zjl zjk zgD)
theorem zmR (ports : List (Int × Int × Int)) (init : List Int) (code : List Ins) (outs : List Int) (dst a sa : Int) (nP nC : Nat) (hP : ports.length = nP) (hC : init.length = nC) (hd : 0 ≤ dst ∧ dst < nC) (ha : 0 ≤ a ∧ a < nC) (hsa : -62 ≤ sa ∧ sa ≤ 30) (ci : zae zbn) : CallOK Tryz.prog gl 65 [.agg [.sl 3 (rws zaD ports), .sl 1 (rws zad init), .sl 7 (rws zbn code), .sl 1 (rws zad outs)], .agg [.v (.int .i64 10), .v (.int .i64 dst), .v (.int .i64 a), .v (.int .i64 0), .v (.int .i64 sa), .v (.int .i64 0), .v (.int .i64 0)]] (.v .nilIface) := by
 refine okC 154 Tryz.call65 Tryz.func65 Tryz.ntmps65 Tryz.results65 ?_
 have u := zpb
 have s1 := zbE sa
 rw [decide_eq_true hsa] at s1
 exact wer (zc7 hP hC zmq zmp zmo zmn zjj)
set_option maxHeartbeats 4000000
theorem co_check (ports : List (Int × Int × Int)) (init : List Int) (code : List Ins) (outs : List Int) (x : Ins) (h : InsOK ports.length init.length x) :
  CallOK Tryz.prog gl 65 [.agg [.sl 3 (rws zaD ports), .sl 1 (rws zad init), .sl 7 (rws zbn code), .sl 1 (rws zad outs)], .agg [.v (.int .i64 x.op), .v (.int .i64 x.dst), .v (.int .i64 x.a), .v (.int .i64 x.b), .v (.int .i64 x.sa), .v (.int .i64 x.sb), .v (.int .i64 x.imm)]] (.v .nilIface) := by
 obtain ⟨op, dst, a, b, sa, sb, imm⟩ := x
 obtain ⟨h1, h2, h3, h4, h5, h6⟩ := h
 simp only at h1 h2 h3 h4 h5 h6 ⊢
 have hc : op = 0 ∨ op = 1 ∨ op = 2 ∨ op = 3 ∨ op = 4 ∨ op = 5 ∨ op = 6 ∨ op = 7 ∨ op = 8 ∨ op = 9 ∨ op = 10 := by omega
 rcases hc with rfl | rfl | rfl | rfl | rfl | rfl | rfl | rfl | rfl | rfl | rfl
 ·rw [if_neg (by decide)] at h3
  rw [if_pos rfl] at h3
  rw [if_neg (by decide)] at h4
  rw [if_neg (by decide)] at h5
  rw [if_neg (by decide)] at h6
  subst h4
  subst h5
  subst h6
  exact zpl ports init code outs dst a sa _ _ rfl rfl h2 h3.1 h3.2 zaR
 ·rw [if_pos rfl] at h3
  rw [if_neg (by decide)] at h4
  rw [if_neg (by decide)] at h5
  rw [if_pos (by decide)] at h6
  obtain ⟨rfl, rfl⟩ := h3
  subst h4
  subst h5
  exact zpk ports init code outs dst imm _ _ rfl rfl h2 h6 zaR
 ·rw [if_neg (by decide)] at h3
  rw [if_neg (by decide)] at h3
  rw [if_neg (by decide)] at h4
  rw [if_neg (by decide)] at h5
  rw [if_neg (by decide)] at h6
  subst h4
  subst h5
  subst h6
  exact zpj ports init code outs dst a sa _ _ rfl rfl h2 h3.1 h3.2 zaR
 ·rw [if_neg (by decide)] at h3
  rw [if_neg (by decide)] at h3
  rw [if_pos (by decide)] at h4
  rw [if_pos (by decide)] at h5
  rw [if_neg (by decide)] at h6
  subst h6
  exact zpi ports init code outs dst a sa b sb _ _ rfl rfl h2 h3.1 h3.2 h4 h5 zaR
 ·rw [if_neg (by decide)] at h3
  rw [if_neg (by decide)] at h3
  rw [if_pos (by decide)] at h4
  rw [if_pos (by decide)] at h5
  rw [if_neg (by decide)] at h6
  subst h6
  exact zph ports init code outs dst a sa b sb _ _ rfl rfl h2 h3.1 h3.2 h4 h5 zaR
 ·rw [if_neg (by decide)] at h3
  rw [if_neg (by decide)] at h3
  rw [if_neg (by decide)] at h4
  rw [if_neg (by decide)] at h5
  rw [if_neg (by decide)] at h6
  subst h4
  subst h5
  subst h6
  exact zpg ports init code outs dst a sa _ _ rfl rfl h2 h3.1 h3.2 zaR
 ·rw [if_neg (by decide)] at h3
  rw [if_neg (by decide)] at h3
  rw [if_neg (by decide)] at h4
  rw [if_neg (by decide)] at h5
  rw [if_pos (by decide)] at h6
  subst h4
  subst h5
  exact zpf ports init code outs dst a sa imm _ _ rfl rfl h2 h3.1 h3.2 h6 zaR
 ·rw [if_neg (by decide)] at h3
  rw [if_neg (by decide)] at h3
  rw [if_pos (by decide)] at h4
  rw [if_neg (by decide)] at h5
  rw [if_neg (by decide)] at h6
  subst h5
  subst h6
  exact zpe ports init code outs dst a sa b _ _ rfl rfl h2 h3.1 h3.2 h4 zaR
 ·rw [if_neg (by decide)] at h3
  rw [if_neg (by decide)] at h3
  rw [if_pos (by decide)] at h4
  rw [if_pos (by decide)] at h5
  rw [if_neg (by decide)] at h6
  subst h6
  exact zpd ports init code outs dst a sa b sb _ _ rfl rfl h2 h3.1 h3.2 h4 h5 zaR
 ·rw [if_neg (by decide)] at h3
  rw [if_neg (by decide)] at h3
  rw [if_pos (by decide)] at h4
  rw [if_pos (by decide)] at h5
  rw [if_neg (by decide)] at h6
  subst h6
  exact zpc ports init code outs dst a sa b sb _ _ rfl rfl h2 h3.1 h3.2 h4 h5 zaR
 ·rw [if_neg (by decide)] at h3
  rw [if_neg (by decide)] at h3
  rw [if_neg (by decide)] at h4
  rw [if_neg (by decide)] at h5
  rw [if_neg (by decide)] at h6
  subst h4
  subst h5
  subst h6
  exact zmR ports init code outs dst a sa _ _ rfl rfl h2 h3.1 h3.2 zaR
theorem zmh (ports : List (Int × Int × Int)) (init : List Int) (code : List Ins) (outs : List Int) (nP nC nI nO : Nat) (hP : ports.length = nP) (hC : init.length = nC) (hI : code.length = nI) (hO : outs.length = nO) (h : PgOK ports init code outs) (ci : zae zbn) : CallOK Tryz.prog gl 26 [.agg [.sl 3 (rws zaD ports), .sl 1 (rws zad init), .sl 7 (rws zbn code), .sl 1 (rws zad outs)]] (.v .nilIface) := by
 refine okC 115 Tryz.call26 Tryz.func26 Tryz.ntmps26 Tryz.results26 ?_
 obtain ⟨b1, b2, b3, b4, q1, q2, q3, q4⟩ := h
 rw [hP] at b1 q1
 rw [hC] at b2 q2 q4
 rw [hI] at b3
 rw [hO] at b4 q4
 have cc : ∀ i, i < nI → CallOK Tryz.prog gl 65 [.agg [.sl 3 (rws zaD ports), .sl 1 (rws zad init), .sl 7 (rws zbn code), .sl 1 (rws zad outs)], .agg (zbn (code.getD i Ins.zero))] (.v .nilIface) := fun i hi => co_check ports init code outs _ (q3 i (by omega))
 clear q3
 refine wkr (zc4 hP hC hI hO) ?_
 refine lL (α := Nat) (fun j => ⟨[(1, .p 0 4 0 0), (36, .sl 3 (rws zaD ports)), (37, .v (.int .i64 nP)), (38, .v (.int .i64 j))], [(0, ⟨4, [[.sl 3 (rws zaD ports), .sl 1 (rws zad init), .sl 7 (rws zbn code), .sl 1 (rws zad outs)]]⟩)], 1⟩) (fun j => j ≤ nP) (fun j => nP - j) (0) ?_ ?_ ?_
 ·exact Nat.zero_le _
 ·exact zah
 rintro j hj
 by_cases hjn : j < nP
 ·have rp := pg (l := ports) (i := j) (by omega)
  have ok := q1 j hjn
  clear q1 q2 q4 cc
  generalize ports.getD j (0, 0, 0) = p at *
  obtain ⟨p1, p2, p3⟩ := p
  change (rws zaD ports).getD j [] = [.v (.int .i64 p1), .v (.int .i64 p2), .v (.int .i64 p3)] at rp
  have ok : (-2147483648 ≤ p1 ∧ p1 ≤ p2) ∧ (p2 < 2147483648 ∧ (0 ≤ p3 ∧ p3 ≤ 30)) := ok
  have s1 := zbk p1
  have s2 := zbk p2
  rw [decide_eq_true (by omega)] at s1 s2
  refine wkr (zc2 hP rp) ?_
  refine zac (α := Nat) (j + 1) ?_ ?_ ?_
  ·show j + 1 ≤ nP; omega
  ·show nP - (j + 1) < nP - j; omega
  exact zah
 clear q1
 refine wkr (zc4 hP hC hI hO) ?_
 refine lL (α := Nat) (fun j => ⟨[(1, .p 0 4 0 0), (72, .sl 1 (rws zad init)), (73, .v (.int .i64 nC)), (74, .v (.int .i64 j))], [(0, ⟨4, [[.sl 3 (rws zaD ports), .sl 1 (rws zad init), .sl 7 (rws zbn code), .sl 1 (rws zad outs)]]⟩)], 1⟩) (fun j => j ≤ nC) (fun j => nC - j) (0) ?_ ?_ ?_
 ·exact Nat.zero_le _
 ·exact zah
 rintro j hj
 by_cases hjn : j < nC
 ·have rp := ig (l := init) (i := j) (by omega)
  have ok := q2 j hjn
  clear q2 q4 cc
  generalize init.getD j 0 = p at *
  unfold i32 at ok
  have s1 := zbk p
  rw [decide_eq_true ok] at s1
  refine wkr (zc2 hC rp) ?_
  refine zac (α := Nat) (j + 1) ?_ ?_ ?_
  ·show j + 1 ≤ nC; omega
  ·show nC - (j + 1) < nC - j; omega
  exact zah
 clear q2
 refine wkr (zc4 hP hC hI hO) ?_
 refine lL (α := Nat) (fun j => ⟨[(1, .p 0 4 0 0), (84, .sl 7 (rws zbn code)), (85, .v (.int .i64 nI)), (86, .v (.int .i64 j))], [(0, ⟨4, [[.sl 3 (rws zaD ports), .sl 1 (rws zad init), .sl 7 (rws zbn code), .sl 1 (rws zad outs)]]⟩)], 1⟩) (fun j => j ≤ nI) (fun j => nI - j) (0) ?_ ?_ ?_
 ·exact Nat.zero_le _
 ·exact zah
 rintro j hj
 by_cases hjn : j < nI
 ·have rp := insG (l := code) (i := j) (by omega)
  have c1 := cc j hjn
  clear cc q4
  generalize code.getD j Ins.zero = x at *
  change (rws zbn code).getD j [] = [.v (.int .i64 x.op), .v (.int .i64 x.dst), .v (.int .i64 x.a), .v (.int .i64 x.b), .v (.int .i64 x.sa), .v (.int .i64 x.sb), .v (.int .i64 x.imm)] at rp
  change CallOK _ _ _ [_, .agg [.v (.int .i64 x.op), .v (.int .i64 x.dst), .v (.int .i64 x.a), .v (.int .i64 x.b), .v (.int .i64 x.sa), .v (.int .i64 x.sb), .v (.int .i64 x.imm)]] _ at c1
  refine wkr (zc2 hI rp) ?_
  refine zac (α := Nat) (j + 1) ?_ ?_ ?_
  ·show j + 1 ≤ nI; omega
  ·show nI - (j + 1) < nI - j; omega
  exact zah
 clear cc
 refine wkr (zc4 hP hC hI hO) ?_
 refine lL (α := Nat) (fun j => ⟨[(1, .p 0 4 0 0), (98, .sl 1 (rws zad outs)), (99, .v (.int .i64 nO)), (100, .v (.int .i64 j))], [(0, ⟨4, [[.sl 3 (rws zaD ports), .sl 1 (rws zad init), .sl 7 (rws zbn code), .sl 1 (rws zad outs)]]⟩)], 1⟩) (fun j => j ≤ nO) (fun j => nO - j) (0) ?_ ?_ ?_
 ·exact Nat.zero_le _
 ·exact zah
 rintro j hj
 by_cases hjn : j < nO
 ·have rp := ig (l := outs) (i := j) (by omega)
  have ok := q4 j hjn
  clear q4
  generalize outs.getD j 0 = p at *
  refine wkr (zc3 hO hC rp) ?_
  refine zac (α := Nat) (j + 1) ?_ ?_ ?_
  ·show j + 1 ≤ nO; omega
  ·show nO - (j + 1) < nO - j; omega
  exact zah
 exact wer hO
theorem zmg (ports : List (Int × Int × Int)) (init : List Int) (code : List Ins) (outs : List Int) (nC : Nat) (hC : init.length = nC) (h : PgOK ports init code outs) (ci : zae zbn) : CallOK Tryz.prog gl 7 [.agg [.sl 3 (rws zaD ports), .sl 1 (rws zad init), .sl 7 (rws zbn code), .sl 1 (rws zad outs)]] (.tup [.sl 1 (rws zad init), .v .nilIface]) := by
 refine okC 14 Tryz.call7 Tryz.func7 Tryz.ntmps7 Tryz.results7 ?_
 have hn := h.nC
 rw [hC] at hn
 have c1 := zmh ports init code outs _ _ _ _ rfl rfl rfl rfl h zaR
 clear h
 have hlo : (rws zad init).length = nC := by rw [zab, hC]
 repeat' (first | simp only [go_sem, seval, zab, hC] | simp (disch := omega) only [wA] | (with_reducible first | refine cA ?_ | refine dA ?_) | (refine zf2 za1 rfl rfl ?_) | (refine zas za1 rfl rfl rfl rfl ⟨rfl, by decide⟩ rfl ⟨trivial, by (try simp only [List.length_cons, List.length_nil, List.length_append, zaa, List.length_map, hlo]); omega, by (try simp only [List.length_cons, List.length_nil, List.length_append, zaa, List.length_map, hlo]); omega⟩ (fun _ => zbj) ?_) | (refine zar za1 rfl rfl rfl rfl rfl ⟨rfl, rfl, by decide, Nat.le_of_ble_eq_true rfl⟩ (fun h => by first | (cases h; done) | decide) rfl ⟨trivial, by (try simp only [List.length_cons, List.length_nil, List.length_append, zaa, List.length_map, hlo]); omega, by (try simp only [List.length_cons, List.length_nil, List.length_append, zaa, List.length_map, hlo]); omega, by (try simp only [List.length_cons, List.length_nil, List.length_append, zaa, List.length_map, hlo]); omega⟩ zbj zfC zfB ?_) | refine aI ?_ | refine dI ?_ | refine dG ?_ | ((first | refine cC ?_ ?_ | refine gS ?_ ?_ | refine dS ?_ ?_) <;> intro hc <;> simp only [hc] <;> try simp only [dcA] at hc <;> try omega) | refine aP ?_ | refine dP ?_)
 all_goals
  refine zci trivial (.tup (.cons (.one (.ps rfl rfl (by show 0 + nC ≤ (rws zad init).length; rw [zab]; omega))) (.cons (.one .same) .nil))) ?_
  rw [List.drop_zero, List.take_of_length_le (by show (rws zad init).length ≤ nC; rw [zab]; omega)]
  exact .refl _
end Go.Proofs.YtcpmeibfggoebaaGreatDoor
