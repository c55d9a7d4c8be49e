/- What the functions that the statement reaches compute. -/
import Derived.Test.YtcpmeibfggoebaaGreatDoorX5
import Derived.Test.YtcpmeibfggoebaaGreatDoorV4
import Derived.Test.YtcpmeibfggoebaaGreatDoorV3
import Derived.Test.YtcpmeibfggoebaaGreatDoorX2
import Derived.Test.YtcpmeibfggoebaaGreatDoorX4
import Derived.Test.YtcpmeibfggoebaaGreatDoorX3
set_option linter.unusedSimpArgs false
set_option linter.unusedVariables false
set_option linter.deprecated false
namespace Go.Proofs.YtcpmeibfggoebaaGreatDoor
open Go Go.Ax
set_option maxRecDepth 100000
set_option maxHeartbeats 4000000
theorem rn_up (x : Dy) (hM : Mg 30000 x) : CallOK Tryz.prog gl 50 [.agg [.v (.bool (sg (x))), .sl 1 (u32s (ms (x))), .v (.int .i64 (dn (x)))]] (.agg [.v (.bool (sg (upP x))), .sl 1 (u32s (ms (upP x))), .v (.int .i64 (dn (upP x)))]) := by
 refine okC 33 Tryz.call50 Tryz.func50 Tryz.ntmps50 Tryz.results50 ?_
 have b1 := zf5 _ _ _ _ (hM.arg (by omega))
 rw [zen] at b1
 have s1 := zf3 _ _ _ _ (hM.arg (by omega))
 have p1 : ((zeE x.n.natAbs : Nat) : Int) ≤ 100000 := by have := zdl (zcv.1 hM); have := x.ok.1; omega
 have p2 : 0 ≤ dn x ∧ dn x ≤ 65536 := by have := x.ok.1; unfold dn; omega
 have ht : zd2 x = ((zeE x.n.natAbs : Nat) : Int) - 1 - dn x := rfl
 have p3 : 0 ≤ ((zeE x.n.natAbs : Nat) : Int) := by omega
 unfold upP
 by_cases h0 : x.sign = 0
 ·rw [if_pos h0]
  rw [h0] at s1
  generalize dn x = d at *
  exact we zc0
 rw [if_neg h0]
 by_cases hs : x.sign < 0
 ·rw [if_pos hs]
  by_cases h3 : zd2 x < -30
  ·rw [if_pos h3]
   generalize ((zeE x.n.natAbs : Nat) : Int) = L at *
   generalize zd2 x = t at *
   generalize x.sign = sg0 at *
   subst ht
   repeat' (first | simp only [go_sem, seval] | simp (disch := omega) only [wA] | (with_reducible first | refine cA ?_ | refine dA ?_) | refine aI ?_ | refine dI ?_ | refine dG ?_ | ((first | refine cC ?_ ?_ | refine gS ?_ ?_ | refine dS ?_ ?_) <;> intro hc <;> simp only [hc] <;> try simp only [dcA] at hc <;> try omega) | refine aP ?_ | refine dP ?_)
   all_goals exact zbQ trivial (Le.agg (.cons (.refl _) (.cons LeL.nil0 (.cons (.refl _) .nil))))
  ·rw [if_neg h3]
   have c1 := zfe (zd2 x) (by omega)
   have n1 := zfD _ _ _ _ (Arg.of (zjN (k := zd2 x) (by omega)) (by omega))
   unfold pw
   generalize ((zeE x.n.natAbs : Nat) : Int) = L at *
   generalize zd2 x = t at *
   generalize x.sign = sg0 at *
   subst ht
   generalize ((Dy.int 1).shift (L - 1 - dn x)).neg = y at *
   generalize (Dy.int 1).shift (L - 1 - dn x) = y0 at *
   exact we zc0
 ·rw [if_neg hs]
  have c1 := zfe (zd2 x) (by omega)
  have m1 := zb2 _ _ _ _ _ _ _ _ (Arg.of (zjN (k := zd2 x) (by omega)) (by omega)) (hM.arg (by omega))
  by_cases hc : (pw (zd2 x)).cmp x < 0
  ·rw [if_pos hc]
   have c2 := zfe (max (zd2 x + 1) (-30)) (by omega)
   unfold pw at *
   generalize ((zeE x.n.natAbs : Nat) : Int) = L at *
   generalize zd2 x = t at *
   generalize x.sign = sg0 at *
   subst ht
   generalize ((Dy.int 1).shift (L - 1 - dn x)).cmp x = cc at *
   generalize (Dy.int 1).shift (L - 1 - dn x) = y0 at *
   generalize (Dy.int 1).shift (max (L - 1 - dn x + 1) (-30)) = y at *
   exact we zc0
  ·rw [if_neg hc]
   have c2 := zfe (max (zd2 x) (-30)) (by omega)
   unfold pw at *
   generalize ((zeE x.n.natAbs : Nat) : Int) = L at *
   generalize zd2 x = t at *
   generalize x.sign = sg0 at *
   subst ht
   generalize ((Dy.int 1).shift (L - 1 - dn x)).cmp x = cc at *
   generalize (Dy.int 1).shift (L - 1 - dn x) = y0 at *
   generalize (Dy.int 1).shift (max (L - 1 - dn x) (-30)) = y at *
   exact we zc0
def evB (ins : List (Int × Int × Int)) (bs : List Blk) (inv : List Iv) : List Iv × Int :=
 if ¬ (∀ q, q < (zaq bs).length → lgI (inv.getD q Iv.zero) = false) then ([], 4)
 else if ¬ (∀ q, q < (zcf bs).length → lgI (rnV ins bs (rnD bs.length (zaq bs) inv (zaq bs).length) (zcf bs) q) = false) then ([], 4)
 else (rnO ins bs (rnD bs.length (zaq bs) inv (zaq bs).length) (zcf bs) (zcf bs).length, 0)
theorem zd7 {ins : List (Int × Int × Int)} {bs : List Blk} {outs : List Int} (h : DgOK ins bs outs) : (zcf bs).length ≤ bs.length ∧ ∀ k, k < (zcf bs).length → 0 ≤ (zcf bs).getD k 0 ∧ ((zcf bs).getD k 0).toNat < bs.length ∧ (bs.getD ((zcf bs).getD k 0).toNat Blk.zero).k ≠ 2 := by
 obtain ⟨h1, h2⟩ := h.ordOK
 refine ⟨?_, fun k hk => h1.rng _ (by show (zcf bs).getD k 0 ∈ zcf bs; rw [zaB hk]; exact List.getElem_mem _)⟩
 obtain ⟨res, hr⟩ := Option.isSome_iff_exists.1 h.ord
 have e : zcf bs = res := by unfold zcf; rw [hr]; rfl
 have := (zg5 (fun i hi a ha => by have := (h.blk i hi).bef.2 a ha; omega) _ _ _ _ (Topo.nil bs) (zi8 bs) hr).2.1
 rw [e, this]
 unfold zmJ
 have := List.length_filter_le (fun b : Blk => decide (b.k ≠ 2)) bs
 simp only [List.length_nil]; omega
theorem znH (ins : List (Int × Int × Int)) (bs : List Blk) (outs : List Int) (inv : List Iv) (hz : dgE ins bs outs = 0) (hI : inv.length = (zaq bs).length) (hM : ∀ k, k < (zaq bs).length → (inv.getD k Iv.zero).Mg 20000) :
  CallOK Tryz.prog gl 20 [AG ins bs outs, .sl 6 (rws ivr inv)] (.tup [.sl 6 (rws ivr (evB ins bs inv).1), .v (eV (evB ins bs inv).2)]) := by
 have hd := zdB hz
 obtain ⟨o1, o2⟩ := zd7 hd
 refine znG ins bs outs inv _ _ _ rfl hd.nB hz _ _ rfl rfl (zgC bs) rfl rfl o1 hI hM (fun k hk => ⟨(zdj hk).1, (zdj hk).2.1⟩) o2 hd.blk hd.ports _ _ (fun q hq hl => ?_) (fun h1 q hq hl => ?_) (fun h1 h2 => ?_) zaf zak
 ·unfold evB
  rw [if_pos (fun h => by rw [h q hq] at hl; cases hl)]
  exact ⟨rfl, rfl⟩
 ·unfold evB
  rw [if_neg (fun h => h h1), if_pos (fun h => by rw [h q hq] at hl; cases hl)]
  exact ⟨rfl, rfl⟩
 ·unfold evB
  rw [if_neg (fun h => h h1), if_neg (fun h => h h2)]
  exact ⟨rfl, rfl⟩
set_option maxHeartbeats 8000000
theorem evB_mg {ins : List (Int × Int × Int)} {bs : List Blk} {outs : List Int} {inv : List Iv} (hd : DgOK ins bs outs) (h : (evB ins bs inv).2 = 0) : (evB ins bs inv).1.length = bs.length ∧ ∀ i, i < bs.length → ((evB ins bs inv).1.getD i Iv.zero).Mg 9000 := by
 unfold evB at h ⊢
 by_cases h1 : ∀ q, q < (zaq bs).length → lgI (inv.getD q Iv.zero) = false
 case neg => rw [if_pos h1] at h; exact absurd h (by decide)
 rw [if_neg (fun g => g h1)] at h ⊢
 by_cases h2 : ∀ q, q < (zcf bs).length → lgI (rnV ins bs (rnD bs.length (zaq bs) inv (zaq bs).length) (zcf bs) q) = false
 case neg => rw [if_pos h2] at h; exact absurd h (by decide)
 rw [if_neg (fun g => g h2)]
 obtain ⟨o1, o2⟩ := zd7 hd
 have e1 : ∀ k, k ≤ (zaq bs).length → ∀ i, i < bs.length → ((rnD bs.length (zaq bs) inv k).getD i Iv.zero).Mg 9000 := fun k => by
  induction k with
  | zero =>
   intro _ i hi
   show ((List.replicate bs.length Iv.zero).getD i Iv.zero).Mg 9000
   rw [show (List.replicate bs.length Iv.zero).getD i Iv.zero = Iv.zero by simp [List.getD, hi]]
   exact Iv.Mg.zero _
  | succ k ih =>
   intro hk
   unfold rnD
   have hl := (zeH (h1 k (by omega))).1
   exact zb0 (P := fun a => Iv.Mg 9000 a) (by rw [zeN]; exact (zdj (by omega)).2.1) (ih (by omega)) ((hl.hull hl).mono (by omega))
 have hlen : (rnD bs.length (zaq bs) inv (zaq bs).length).length = bs.length := zeN _ _ _ _
 have e1 := e1 _ (Nat.le_refl _)
 generalize rnD bs.length (zaq bs) inv (zaq bs).length = R0 at *
 refine ⟨by show (rnO ins bs R0 (zcf bs) (zcf bs).length).length = _; rw [zfL]; exact hlen, ?_⟩
 show ∀ i, i < bs.length → ((rnO ins bs R0 (zcf bs) (zcf bs).length).getD i Iv.zero).Mg 9000
 have e2 : ∀ k, k ≤ (zcf bs).length → ∀ i, i < bs.length → ((rnO ins bs R0 (zcf bs) k).getD i Iv.zero).Mg 9000 := fun k => by
  induction k with
  | zero => intro _; exact e1
  | succ k ih =>
   intro hk
   unfold rnO
   have hl := (zeH (h2 k (by omega))).1
   exact zb0 (P := fun a => Iv.Mg 9000 a) (by rw [zfL, hlen]; exact (o2 k (by omega)).2.1) (ih (by omega)) (hl.mono (by omega))
 exact e2 _ (Nat.le_refl _)
def InfOK (ins : List (Int × Int × Int)) (bs : List Blk) (m : Nat) (av : AV) : Prop := ∃ (inv : List Iv) (e : Int), av = .tup [.sl 6 (rws ivr inv), .v (eV e)] ∧ (e = 0 → inv.length = m ∧ ∀ k, k < m → (inv.getD k Iv.zero).Mg 9000) ∧ (m = 0 → (evB ins bs []).2 = 0 → e = 0 ∧ inv = [])
def ziX (rounds m : Nat) (y : Nat × List Iv) : Nat := (if y.1 ≤ rounds then (17 - y.1) * 20000 else 0) + muL y.2 m
theorem rn_Infer (ins : List (Int × Int × Int)) (bs : List Blk) (outs : List Int) (rounds : Nat) (hr1 : 1 ≤ rounds) (hr2 : rounds ≤ 16) (n m : Nat) (hn : bs.length = n) (h64 : n ≤ 64) (hz : dgE ins bs outs = 0) (D : List Int) (hD : zaq bs = D) (hm : D.length = m) (hmn : m ≤ n) (hd : ∀ k, k < m → 0 ≤ D.getD k 0 ∧ (D.getD k 0).toNat < n ∧ zav bs (D.getD k 0).toNat = 2) (hB : ∀ i, i < n → BlkOK ins.length n (bs.getD i Blk.zero)) (cb : zae zao) (cv : zae ivr) (cc : zae zaj) : CallX Tryz.prog gl 19 [AG ins bs outs, .v (.int .i64 rounds)] (InfOK ins bs m) := by
 refine okX 175 Tryz.call19 Tryz.func19 Tryz.ntmps19 Tryz.results19 ?_
 have hdg := zdB hz
 have c0 := zl7 ins bs outs hz
 have c1 := zcp ins bs outs hz
 have ev := fun inv h1 h2 => znH ins bs outs inv hz h1 h2
 have evm := fun inv h => evB_mg (ins := ins) (bs := bs) (outs := outs) (inv := inv) hdg h
 rw [hD, hm] at ev
 rw [hn] at evm
 rw [hD] at c1
 have hS : (staB bs).length = m := by unfold staB; rw [List.length_map, hD, hm]
 have hSM : ∀ k, k < m → Mg 62 ((staB bs).getD k Dy.zero) := fun k hk => by
  have e : (staB bs).getD k Dy.zero = zgK bs (D.getD k 0) := by
   unfold staB
   rw [hD, List.getD_eq_getElem?_getD, List.getElem?_map, List.getD_eq_getElem?_getD, List.getElem?_eq_getElem (by omega)]; rfl
  obtain ⟨q1, q2, q3⟩ := hd k hk
  rw [e]; exact zaP ((hB _ q2).val (.inr (.inl q3)))
 clear hz hD hdg
 generalize staB bs = S at *
 refine wkr hS ?_
 refine lL (α := Nat) (fun k => ⟨[(1, .v (.int .i64 rounds)), (2, .p 0 3 0 0), (8, .sl 1 (rws zad D)), (9, .ps 1 6 0 k), (49, .sl 3 (rws zaj S)), (50, .v (.int .i64 m)), (51, .v (.int .i64 k))], [(0, ⟨3, [[.sl 3 (rws zaD ins), .sl 6 (rws zao bs), .sl 1 (rws zad outs)]]⟩), (1, ⟨6, rws ivr ((S.take k).map Iv.pt)⟩)], 2⟩) (fun k => k ≤ m ∧ ∀ q, q < k → farI (Iv.pt (S.getD q Dy.zero)) = false) (fun k => m - k) (0) ?_ ?_ ?_
 ·exact ⟨Nat.zero_le _, fun q hq => absurd hq (Nat.not_lt_zero q)⟩
 ·exact zaI.trans (zaI.newnil 1 6 (Nat.le_refl _)) (Nat.le_of_ble_eq_true rfl) (by exact zah)
 rintro k ⟨hk, hg⟩
 by_cases hkm : k < m
 ·have rs := cg (l := S) (i := k) (by omega)
  have hMk := hSM k hkm
  have p1 := zcl _ _ _ _ (hMk.arg (by omega))
  have f1 := rn_far (Iv.pt (S.getD k Dy.zero)) (Iv.Mg.pt (hMk.mono (by omega)))
  have ms := zfo Iv.pt Dy.zero S (k := k) (by omega)
  have hL : ((S.take k).map Iv.pt).length = k := by rw [List.length_map, List.length_take]; omega
  by_cases hf : farI (Iv.pt (S.getD k Dy.zero)) = true
  ·rw [hf] at f1
   clear hg hSM ev evm
   generalize (S.take k).map Iv.pt = L at *
   generalize S.getD k Dy.zero = x at *
   repeat' (first | simp only [go_sem, seval, zab, hS, rs] | simp (disch := omega) only [wA] | (with_reducible first | refine cA ?_ | refine dA ?_) | refine aI ?_ | refine dI ?_ | refine dG ?_ | ((first | refine cC ?_ ?_ | refine gS ?_ ?_ | refine dS ?_ ?_) <;> intro hc <;> simp only [hc] <;> try simp only [dcA] at hc <;> try omega) | refine aP ?_ | refine dP ?_)
   all_goals exact ⟨.tup [.sl 6 (rws ivr []), .v (eV 22)], ⟨[], 22, rfl, fun h => absurd h (by decide), fun h => by omega⟩, zdk, zbQ trivial (Le.tup (.cons (Le.nil _) (.cons (.refl _) .nil)))⟩
  ·have hf : farI (Iv.pt (S.getD k Dy.zero)) = false := by simpa using hf
   have nx : ∀ q, q < k + 1 → farI (Iv.pt (S.getD q Dy.zero)) = false := fun q hq => by
    by_cases e : q = k
    ·rw [e]; exact hf
    ·exact hg q (by omega)
   rw [hf] at f1
   clear hg hSM ev evm
   generalize (S.take k).map Iv.pt = L at *
   generalize S.getD k Dy.zero = x at *
   have hlo : (rws ivr L).length = k := by rw [zab, hL]
   have e9 : (rws ivr L).take k ++ [[.v (.bool (sg (Iv.pt x).lo)), .sl 1 (u32s (Ax.ms (Iv.pt x).lo)), .v (.int .i64 (dn (Iv.pt x).lo)), .v (.bool (sg (Iv.pt x).hi)), .sl 1 (u32s (Ax.ms (Iv.pt x).hi)), .v (.int .i64 (dn (Iv.pt x).hi))]] = rws ivr (L ++ [Iv.pt x]) := zbV hL
   repeat' (first | simp only [go_sem, seval, zab, hS, rs, e9] | simp (disch := omega) only [wA] | (with_reducible first | refine cA ?_ | refine dA ?_) | (refine zas za1 rfl rfl rfl rfl ⟨rfl, by decide⟩ rfl ⟨trivial, by (try simp only [List.length_cons, List.length_nil, List.length_append, zaa, List.length_map, hlo]); omega, by (try simp only [List.length_cons, List.length_nil, List.length_append, zaa, List.length_map, hlo]); omega⟩ (fun _ => zbj) ?_) | (refine zar za1 rfl rfl rfl rfl rfl ⟨rfl, rfl, by decide, Nat.le_of_ble_eq_true rfl⟩ (fun h => by first | (cases h; done) | decide) rfl ⟨trivial, by (try simp only [List.length_cons, List.length_nil, List.length_append, zaa, List.length_map, hlo]); omega, by (try simp only [List.length_cons, List.length_nil, List.length_append, zaa, List.length_map, hlo]); omega, by (try simp only [List.length_cons, List.length_nil, List.length_append, zaa, List.length_map, hlo]); omega⟩ zbj zfC zfB ?_) | refine aI ?_ | refine dI ?_ | refine dG ?_ | ((first | refine cC ?_ ?_ | refine gS ?_ ?_ | refine dS ?_ ?_) <;> intro hc <;> simp only [hc] <;> try simp only [dcA] at hc <;> try omega) | refine aP ?_ | refine dP ?_)
   refine zac (α := Nat) (k + 1) ⟨?_, nx⟩ ?_ ?_
   ·show k + 1 ≤ m; omega
   ·show m - (k + 1) < m - k; omega
   rw [ms]
   exact zah
 obtain rfl : k = m := by omega
 have hL : ((S.take k).map Iv.pt).length = k := by rw [List.length_map, List.length_take]; omega
 have hN : ∀ q, q < k → znd (((S.take k).map Iv.pt).getD q Iv.zero) := fun q hq => by
  have e : ((S.take k).map Iv.pt).getD q Iv.zero = Iv.pt (S.getD q Dy.zero) := by
   rw [List.take_of_length_le (by omega), List.getD_eq_getElem?_getD, List.getElem?_map, List.getD_eq_getElem?_getD, List.getElem?_eq_getElem (by omega)]; rfl
  rw [e]; exact zoe (hg q hq)
 clear hg hSM hkm c0 c1
 generalize (S.take k).map Iv.pt = L at *
 refine wkr hS ?_
 refine lL (α := Nat × List Iv) (fun y => ⟨[(1, .v (.int .i64 rounds)), (2, .p 0 3 0 0), (8, .sl 1 (rws zad D)), (9, .sl 6 (rws ivr y.2)), (13, .v (.int .i64 y.1))], [(0, ⟨3, [[.sl 3 (rws zaD ins), .sl 6 (rws zao bs), .sl 1 (rws zad outs)]]⟩)], 1⟩) (fun y => (y.2.length = k ∧ ∀ q, q < k → znd (y.2.getD q Iv.zero)) ∧ 1 ≤ y.1 ∧ y.1 + ziX rounds k y ≤ 400000) (fun y => ziX rounds k y) ((1, L)) ?_ ?_ ?_
 ·refine ⟨⟨hL, hN⟩, Nat.le_refl _, ?_⟩
  have := zom L k
  unfold ziX
  show 1 + ((if 1 ≤ rounds then (17 - 1) * 20000 else 0) + muL L k) ≤ 400000
  rw [if_pos hr1]; omega
 ·have hlo : (rws ivr L).length = k := by rw [zab, hL]
  exact zaI.trans0 (zaI.frzA (s' := ⟨[(1, .v (.int .i64 rounds)), (2, .p 0 3 0 0), (8, .sl 1 (rws zad D)), (9, .sl 6 (rws ivr L)), (13, .v (.int .i64 1))], [(0, ⟨3, [[.sl 3 (rws zaD ins), .sl 6 (rws zao bs), .sl 1 (rws zad outs)]]⟩)], 60⟩) 1 _ k hlo (hn := Nat.le_of_ble_eq_true rfl)) (Nat.zero_lt_succ _) (by exact zah)
 rintro ⟨rd, inv⟩ ⟨⟨hI, hN⟩, hrd, hmu⟩
 have hI : inv.length = k := hI
 have hN : ∀ q, q < k → znd (inv.getD q Iv.zero) := hN
 have hrd : 1 ≤ rd := hrd
 have hmu : rd + ziX rounds k (rd, inv) ≤ 400000 := hmu
 have hMI : ∀ q, q < k → (inv.getD q Iv.zero).Mg 9000 := fun q hq => (hN q hq).mg
 have c1 := ev inv hI (fun q hq => (hMI q hq).mono (by omega))
 by_cases hz : (evB ins bs inv).2 = 0
 case neg =>
  clear hN hmu evm hL ev hMI
  have hm0 : k = 0 → inv = [] := fun h => List.length_eq_zero_iff.1 (by omega)
  generalize hE : evB ins bs inv = E at *
  obtain ⟨RR, z⟩ := E
  have hz : ¬ z = 0 := hz
  change CallOK _ _ _ _ (.tup [.sl 6 (rws ivr RR), .v (eV z)]) at c1
  rw [zcD hz] at c1
  repeat' (first | simp only [go_sem, seval] | simp (disch := omega) only [wA] | (with_reducible first | refine cA ?_ | refine dA ?_) | refine aI ?_ | refine dI ?_ | refine dG ?_ | ((first | refine cC ?_ ?_ | refine gS ?_ ?_ | refine dS ?_ ?_) <;> intro hc <;> simp only [hc] <;> try simp only [dcA] at hc <;> try omega) | refine aP ?_ | refine dP ?_)
  all_goals exact ⟨.tup [.sl 6 (rws ivr []), .v (eV z)], ⟨[], z, rfl, fun h => absurd h hz, fun h h2 => by rw [hm0 h] at hE; rw [hE] at h2; exact absurd h2 hz⟩, zdk, zbQ trivial (by rw [zcD hz]; exact Le.tup (.cons (Le.nil _) (.cons (.refl _) .nil)))⟩
 obtain ⟨r1, r2⟩ := evm inv hz
 rw [hz, zbg] at c1
 have hm0 : k = 0 → inv = [] := fun h => List.length_eq_zero_iff.1 (by omega)
 clear hz evm ev hL
 generalize (evB ins bs inv).1 = R at *
 refine wkr (zc2 hI hm) ?_
 refine lL (α := Nat) (fun j => ⟨[(1, .v (.int .i64 rounds)), (2, .p 0 3 0 0), (8, .sl 1 (rws zad D)), (9, .sl 6 (rws ivr inv)), (13, .v (.int .i64 rd)), (14, .sl 6 (rws ivr R)), (16, .v (.bool (chK bs D inv R j))), (17, .ps 1 6 0 k), (79, .sl 1 (rws zad D)), (80, .v (.int .i64 k)), (81, .v (.int .i64 j))], [(0, ⟨3, [[.sl 3 (rws zaD ins), .sl 6 (rws zao bs), .sl 1 (rws zad outs)]]⟩), (1, ⟨6, rws ivr (nxL (decide (rounds < rd)) bs D inv R k j)⟩)], 2⟩) (fun j => j ≤ k) (fun j => k - j) (0) ?_ ?_ ?_
 ·exact Nat.zero_le _
 ·exact zaI.trans (zaI.mle 1 ⟨6, rws ivr (List.replicate k Iv.zero)⟩ rfl (mle_i k)) (Nat.le_refl _) (by exact zah)
 rintro j hj
 by_cases hjk : j < k
 ·have rv := vg (l := inv) (i := j) (by omega)
  have rD := ig (l := D) (i := j) (by omega)
  obtain ⟨d1, d2, d3⟩ := hd j hjk
  have hix : ixB bs D j = (bs.getD (D.getD j 0).toNat Blk.zero).at 0 := rfl
  obtain ⟨p, hp⟩ : ∃ p : Nat, D.getD j 0 = (p : Int) := ⟨(D.getD j 0).toNat, by omega⟩
  rw [hp] at rD d2 d3 hix
  rw [Int.toNat_natCast] at d2 d3 hix
  have rb := bg (l := bs) (i := p) (by omega)
  obtain ⟨ha, hq⟩ := (hB p d2).a1 (.inl d3)
  have hMa := hMI j hjk
  have hMr := r2 ((bs.getD p Blk.zero).at 0) hq
  have est := nxL_step (late := decide (rounds < rd)) (bs := bs) (D := D) (inv := inv) (R := R) (m := k) (k := j) hMa (by rw [hix]; exact hMr)
  have ech : chK bs D inv R (j + 1) = (chK bs D inv R j || (lwB (inv.getD j Iv.zero) (R.getD (ixB bs D j) Iv.zero) || upB (inv.getD j Iv.zero) (R.getD (ixB bs D j) Iv.zero))) := rfl
  rw [hix] at est ech
  clear hix
  have e9 := est.symm
  clear est
  generalize hb0 : bs.getD p Blk.zero = b at *
  have rb : (rws zao bs).getD p [] = [.v (.int .i64 b.k), .sl 1 (rws zad b.a), .v (.int .i64 b.vn), .v (.int .i64 b.ve), .v (.int .i64 b.un), .v (.int .i64 b.ue)] := rb
  have hla : b.a.length = 1 := by rw [ha]; rfl
  have ra : (rws zad b.a).getD 0 [] = [.v (.int .i64 ((b.at 0 : Nat) : Int))] := by rw [ha]; rfl
  generalize b.at 0 = q at *
  have rr := vg (l := R) (i := q) (by omega)
  generalize inv.getD j Iv.zero = a at *
  generalize R.getD q Iv.zero = r at *
  have hu := zk4 _ _ _ _ _ _ _ _ _ (IArg.of hMa) _ _ _ _ _ _ _ _ _ (IArg.of hMr)
  have ro := iv_Round _ _ _ _ _ _ _ _ _ (IArg.of (hMa.hull hMr)) 64 (by omega) 9000 (hMa.hull hMr) (by omega)
  change CallOK _ _ _ [_, .v (.int .i64 64)] _ at ro
  have l1 := zj1 hMa hMr
  have l2 := zj4 hMa hMr
  have m1 := zb2 _ _ _ _ _ _ _ _ (l1.arg (by omega)) (hMa.1.arg (by omega))
  have m2 := zb2 _ _ _ _ _ _ _ _ (l2.arg (by omega)) (hMa.2.arg (by omega))
  have n1 := zfD _ _ _ _ (l1.arg (by omega))
  have u1 := rn_up _ l1.neg
  have n2 := zfD _ _ _ _ ((zni l1.neg).arg (by omega))
  have u2 := rn_up _ l2
  have hx : loN (decide (rounds < rd)) a r = if rounds < rd ∧ ¬ (loB a r).cmp a.lo = 0 then (upP (loB a r).neg).neg else loB a r := by
   unfold loN lwB; rw [← Bool.decide_and]; simp only [decide_eq_true_eq, ne_eq]
  have hy : hiN (decide (rounds < rd)) a r = if rounds < rd ∧ ¬ (hiB a r).cmp a.hi = 0 then upP (hiB a r) else hiB a r := by
   unfold hiN upB; rw [← Bool.decide_and]; simp only [decide_eq_true_eq, ne_eq]
  unfold lwB upB at ech
  clear hMI hN hB hd hMa hMr l1 l2 hmu r2 hb0 d3
  generalize loN (decide (rounds < rd)) a r = x at *
  generalize hiN (decide (rounds < rd)) a r = y at *
  unfold loB hiB at *
  generalize (a.hull r).lo.floor 64 = lo0 at *
  generalize (a.hull r).hi.ceil 64 = hi0 at *
  generalize lo0.cmp a.lo = z1 at *
  generalize hi0.cmp a.hi = z2 at *
  generalize chK bs D inv R j = ch at *
  have hlen : (nxL (decide (rounds < rd)) bs D inv R k j).length = k := ziT j
  generalize nxL (decide (rounds < rd)) bs D inv R k j = L at *
  have rl : ((rws ivr L).getD j []).length = 6 := by rw [vg (by omega)]; rfl
  have r6 : List.drop 6 ((rws ivr L).getD j []) = [] := List.drop_eq_nil_of_le (by rw [rl]; exact Nat.le_refl _)
  generalize upP hi0 = hi1 at *
  generalize upP lo0.neg = lo1 at *
  generalize lo0.neg = lo2 at *
  generalize lo1.neg = lo3 at *
  by_cases hl : rounds < rd <;> by_cases h1 : z1 = 0 <;> by_cases h2 : z2 = 0 <;> simp [hl, h1] at hx <;> simp [hl, h2] at hy <;> subst hx hy <;> cases ch
  all_goals
   refine wkr (zc13 hI hm hn rv rD rb ra rr hla hlen rl r6 e9) ?_
   refine zac (α := Nat) (j + 1) ?_ ?_ ?_
   ·show j + 1 ≤ k; omega
   ·show k - (j + 1) < k - j; omega
   rw [ech]
   simp only [h1, h2, ne_eq, not_true_eq_false, not_false_eq_true, decide_true, decide_false, Bool.or_false, Bool.or_true, Bool.false_or, Bool.true_or]
   exact zah
 obtain rfl : j = k := by omega
 have hlen : (nxL (decide (rounds < rd)) bs D inv R j j).length = j := ziT j
 cases hch : chK bs D inv R j with
 | false =>
  generalize nxL (decide (rounds < rd)) bs D inv R j j = L at *
  repeat' (first | simp only [go_sem, seval, zab, hI, hlen] | simp (disch := omega) only [wA] | refine aI ?_ | refine dI ?_ | refine dG ?_ | ((first | refine cC ?_ ?_ | refine gS ?_ ?_ | refine dS ?_ ?_) <;> intro hc <;> simp only [hc] <;> try simp only [dcA] at hc <;> try omega) | refine aP ?_ | refine dP ?_)
  all_goals exact ⟨.tup [.sl 6 (rws ivr inv), .v (eV 0)], ⟨inv, 0, rfl, fun _ => ⟨hI, hMI⟩, fun h _ => ⟨rfl, hm0 h⟩⟩, zdk, zal trivial rfl⟩
 | true =>
  have hget : ∀ q, q < j → (nxL (decide (rounds < rd)) bs D inv R j j).getD q Iv.zero = nxI (decide (rounds < rd)) bs D inv R q := fun q hq => zn8 (Nat.le_refl _) hq
  have hMr : ∀ q, q < j → (R.getD (ixB bs D q) Iv.zero).Mg 9000 := fun q hq => by
   obtain ⟨d1, d2, d3⟩ := hd q hq
   exact r2 _ ((hB _ d2).a1 (.inl d3)).2
  have hMx : ∀ q, q < j → ((nxL (decide (rounds < rd)) bs D inv R j j).getD q Iv.zero).Mg 300000 := fun q hq => by
   rw [hget q hq]
   exact (newI_mg _ (hMI q hq) (hMr q hq)).mono (by omega)
  have hmu2 : (∀ q, q < j → znd ((nxL (decide (rounds < rd)) bs D inv R j j).getD q Iv.zero)) → ziX rounds j (rd + 1, nxL (decide (rounds < rd)) bs D inv R j j) < ziX rounds j (rd, inv) := fun hn => by
   unfold ziX
   simp only
   have b1 := zom (nxL (decide (rounds < rd)) bs D inv R j j) j
   by_cases hl : rounds < rd
   ·have e : decide (rounds < rd) = true := decide_eq_true hl
    rw [e] at hget hn ⊢
    have := muL_lt (m := j) hMI hMr hget hn j (Nat.le_refl _)
    rw [hch, if_pos rfl] at this
    rw [if_neg (by omega), if_neg (by omega)]; omega
   ·rw [if_pos (show rd ≤ rounds by omega)]
    split <;> omega
  generalize nxL (decide (rounds < rd)) bs D inv R j j = L at *
  clear hget hMr hMI hN hB hd r2 hch
  refine wkr (zc2 hI hlen) ?_
  refine lL (α := Nat) (fun i => ⟨[(1, .v (.int .i64 rounds)), (2, .p 0 3 0 0), (8, .sl 1 (rws zad D)), (13, .v (.int .i64 rd)), (17, .ps 1 6 0 j), (164, .ps 1 6 0 j), (165, .v (.int .i64 j)), (166, .v (.int .i64 i))], [(0, ⟨3, [[.sl 3 (rws zaD ins), .sl 6 (rws zao bs), .sl 1 (rws zad outs)]]⟩), (1, ⟨6, rws ivr L⟩)], 2⟩) (fun i => i ≤ j ∧ ∀ q, q < i → znd (L.getD q Iv.zero)) (fun i => j - i) (0) ?_ ?_ ?_
  ·exact ⟨Nat.zero_le _, fun q hq => absurd hq (Nat.not_lt_zero q)⟩
  ·exact zah
  rintro i ⟨hi, hg⟩
  by_cases hij : i < j
  ·have rL := vg (l := L) (i := i) (by omega)
   have f1 := rn_far (L.getD i Iv.zero) (hMx i hij)
   have nf := zoe (a := L.getD i Iv.zero)
   by_cases hf : farI (L.getD i Iv.zero) = true
   ·rw [hf] at f1
    clear hg hMx hmu2 hmu nf
    generalize L.getD i Iv.zero = a at *
    repeat' (first | simp only [go_sem, seval, zab, hlen, rL] | simp (disch := omega) only [wA] | (with_reducible first | refine cA ?_ | refine dA ?_) | refine aI ?_ | refine dI ?_ | refine dG ?_ | ((first | refine cC ?_ ?_ | refine gS ?_ ?_ | refine dS ?_ ?_) <;> intro hc <;> simp only [hc] <;> try simp only [dcA] at hc <;> try omega) | refine aP ?_ | refine dP ?_)
    all_goals exact ⟨.tup [.sl 6 (rws ivr []), .v (eV 22)], ⟨[], 22, rfl, fun h => absurd h (by decide), fun h => by omega⟩, zdk, zbQ trivial (Le.tup (.cons (Le.nil _) (.cons (.refl _) .nil)))⟩
   ·have hf : farI (L.getD i Iv.zero) = false := by simpa using hf
    have nx : ∀ q, q < i + 1 → znd (L.getD q Iv.zero) := fun q hq => by
     by_cases e : q = i
     ·rw [e]; exact nf hf
     ·exact hg q (by omega)
    rw [hf] at f1
    clear hg hMx hmu2 hmu nf hf
    generalize L.getD i Iv.zero = a at *
    refine wkr (zc2 hlen rL) ?_
    refine zac (α := Nat) (i + 1) ⟨?_, nx⟩ ?_ ?_
    ·show i + 1 ≤ j; omega
    ·show j - (i + 1) < j - i; omega
    exact zah
  obtain rfl : i = j := by omega
  have hmu2 := hmu2 hg
  have hb : ziX rounds i (rd, inv) < 400000 := by omega
  clear hMx
  refine wkr hlen ?_
  refine zac (α := Nat × List Iv) (rd + 1, L) ⟨⟨hlen, hg⟩, ?_, ?_⟩ ?_ ?_
  ·show 1 ≤ rd + 1; omega
  ·show rd + 1 + ziX rounds i (rd + 1, L) ≤ 400000; omega
  ·exact hmu2
  have hlo : (rws ivr L).length = i := by rw [zab, hlen]
  exact zaI.trans0 (zaI.frzA (s' := ⟨[(1, .v (.int .i64 rounds)), (2, .p 0 3 0 0), (8, .sl 1 (rws zad D)), (9, .sl 6 (rws ivr L)), (13, .v (.int .i64 ((rd + 1 : Nat))))], [(0, ⟨3, [[.sl 3 (rws zaD ins), .sl 6 (rws zao bs), .sl 1 (rws zad outs)]]⟩)], 60⟩) 1 _ i hlo (hn := Nat.le_of_ble_eq_true rfl)) (Nat.zero_lt_succ _) (by exact zah)
set_option maxHeartbeats 4000000
theorem zlx (ins : List (Int × Int × Int)) (bs : List Blk) (outs : List Int) (R : List Iv) (n : Nat) (hn : bs.length = n) (h64 : n ≤ 64) (hR : R.length = n) (hz : dgE ins bs outs = 0) (hM : ∀ k, k < n → (R.getD k Iv.zero).Mg 9000) (cb : zae zao) (cv : zae ivr) : CallOK Tryz.prog gl 54 [AG ins bs outs, .sl 6 (rws ivr R)] (.v .nilIface) := by
 refine okC 31 Tryz.call54 Tryz.func54 Tryz.ntmps54 Tryz.results54 ?_
 have c1 := zfz ins bs outs
 rw [hz, zbg] at c1
 clear hz
 refine wkr (zc2 hn hR) ?_
 refine lL (α := Nat) (fun j => ⟨[(20, .sl 6 (rws ivr R)), (21, .v (.int .i64 n)), (22, .v (.int .i64 j))], [], 1⟩) (fun j => j ≤ n) (fun j => n - j) (0) ?_ ?_ ?_
 ·exact Nat.zero_le _
 ·exact zah
 rintro j hj
 by_cases hjn : j < n
 ·have rv := vg (l := R) (i := j) (by omega)
  have hMj := hM j hjn
  clear hM
  generalize R.getD j Iv.zero = a at *
  have v1 := zgw _ _ _ _ _ _ _ _ _ (IArg.of hMj)
  rw [decide_eq_true (ok_of a)] at v1
  refine wkr (zc2 hR rv) ?_
  refine zac (α := Nat) (j + 1) ?_ ?_ ?_
  ·show j + 1 ≤ n; omega
  ·show n - (j + 1) < n - j; omega
  exact zah
 ·clear hM
  exact wer hR
def wiB (a : Iv) (f : Nat) : Bool := decide ((a.mag.shift (f : Int)).cmp (Dy.int 1073741824) ≤ 0)
def chM (a : Iv) : Nat → Int
 | 0 => -1
 | g + 1 => if wiB a g = true then (g : Int) else chM a g
def chF (a : Iv) : Int := chM a 31
theorem chM_bd (a : Iv) : ∀ g, -1 ≤ chM a g ∧ chM a g < g
 | 0 => by simp [chM]
 | g + 1 => by have := chM_bd a g; unfold chM; split <;> omega
theorem chF_bd (a : Iv) : -1 ≤ chF a ∧ chF a ≤ 30 := by have := chM_bd a 31; unfold chF; omega
theorem zjD (a : Iv) (f : Nat) (hf : f ≤ 30) (hM : a.Mg 9000) : CallOK Tryz.prog gl 55 [.agg [.v (.bool (sg (a).lo)), .sl 1 (u32s (ms (a).lo)), .v (.int .i64 (dn (a).lo)), .v (.bool (sg (a).hi)), .sl 1 (u32s (ms (a).hi)), .v (.int .i64 (dn (a).hi))], .v (.int .i64 f), .v (.int .i64 1073741824)] (.v (.bool (wiB a f))) := by
 refine okC 15 Tryz.call55 Tryz.func55 Tryz.ntmps55 Tryz.results55 ?_
 have m1 := zge _ _ _ _ _ _ _ _ _ (IArg.of hM)
 have s1 := zaS _ _ _ (f : Int) _ (hM.mag.arg (by omega))
 have o1 := zeY 1073741824 (by decide)
 have g1 : Mg 20000 (a.mag.shift (f : Int)) := (hM.mag.shift (f : Int)).mono (by unfold zbe; omega)
 have c1 := zb2 _ _ _ _ _ _ _ _ (g1.arg (by omega)) (Arg.of (zcY (n := 1073741824) (by decide)) (by omega))
 unfold wiB
 generalize (a.mag.shift (f : Int)).cmp (Dy.int 1073741824) = c at *
 change CallOK _ _ _ _ (.agg [.v (.bool (sg (a.mag.shift (f : Int)))), .sl 1 (u32s (ms (a.mag.shift (f : Int)))), .v (.int .i64 (dn (a.mag.shift (f : Int))))]) at s1
 generalize a.mag.shift (f : Int) = y at *
 generalize Dy.int 1073741824 = y2 at *
 generalize a.mag = x at *
 repeat' (first | simp only [go_sem, seval] | simp (disch := omega) only [wA] | (with_reducible first | refine cA ?_ | refine dA ?_) | refine aI ?_ | refine dI ?_ | refine dG ?_ | ((first | refine cC ?_ ?_ | refine gS ?_ ?_ | refine dS ?_ ?_) <;> intro hc <;> simp only [hc] <;> try simp only [dcA] at hc <;> try omega) | refine aP ?_ | refine dP ?_)
 all_goals (refine zal trivial ?_; simp [one])
def chL (R : List Iv) : List Int := R.map chF
theorem zjE (ins : List (Int × Int × Int)) (bs : List Blk) (outs : List Int) (R : List Iv) (n : Nat) (hn : bs.length = n) (h64 : n ≤ 64) (hR : R.length = n) (hz : dgE ins bs outs = 0) (hM : ∀ k, k < n → (R.getD k Iv.zero).Mg 9000) (q : Nat) (hq : q < n) (hb : chF (R.getD q Iv.zero) < 0) (hg : ∀ i, i < q → 0 ≤ chF (R.getD i Iv.zero)) (cb : zae zao) (cv : zae ivr) : CallOK Tryz.prog gl 21 [AG ins bs outs, .sl 6 (rws ivr R)] (.tup [.v (.slice none 0 0), .v (.iface 71 (.int .i64 4))]) := by
 refine okC 42 Tryz.call21 Tryz.func21 Tryz.ntmps21 Tryz.results21 ?_
 have c0 := zlx ins bs outs R n hn h64 hR hz hM cb cv
 clear hz
 refine wkr hR ?_
 refine lL (α := Nat) (fun j => ⟨[(7, .ps 1 1 0 j), (17, .sl 6 (rws ivr R)), (18, .v (.int .i64 n)), (19, .v (.int .i64 j))], [(1, ⟨1, rws zad ((R.take j).map chF)⟩)], 2⟩) (fun j => j ≤ q) (fun j => q - j) (0) ?_ ?_ ?_
 ·exact Nat.zero_le _
 ·exact zaI.trans (zaI.newnil 1 1 (Nat.le_refl _)) (Nat.le_of_ble_eq_true rfl) (by exact zah)
 rintro j hj
 have rv := vg (l := R) (i := j) (by omega)
 have hMj := hM j (by omega)
 have hL : ((R.take j).map chF).length = j := by rw [List.length_map, List.length_take]; omega
 have ms := mapTk chF Iv.zero R (k := j) (by omega)
 have hgj : j < q → 0 ≤ chF (R.getD j Iv.zero) := hg j
 have hbj : ¬ j < q → chF (R.getD j Iv.zero) < 0 := fun h => by
  obtain rfl : j = q := by omega
  exact hb
 clear hM hg hb
 generalize (R.take j).map chF = L at *
 generalize R.getD j Iv.zero = a at *
 have wi := fun f hf => zjD a f hf hMj
 refine wkr (zc2 hR rv) ?_
 refine lL (α := Nat) (fun g => ⟨[(7, .ps 1 1 0 j), (9, .p 2 6 0 0), (10, .v (.int .i64 ((g : Int) - 1))), (17, .sl 6 (rws ivr R)), (18, .v (.int .i64 n)), (19, .v (.int .i64 j))], [(1, ⟨1, rws zad L⟩), (2, ⟨6, [ivr a]⟩)], 3⟩) (fun g => g ≤ 31 ∧ chM a g = chF a) (fun g => g) (31) ?_ ?_ ?_
 ·exact ⟨Nat.le_refl _, rfl⟩
 ·exact zah
 rintro g ⟨hg, hch⟩
 have hL : L.length = j := hL
 cases g with
 | zero =>
  have hcF : chF a = -1 := hch.symm
  clear wi
  have hn0 : ¬ j < q := fun h => by have := hgj h; omega
  exact wer hR
 | succ g =>
  have hcF : (if wiB a g = true then (g : Int) else chM a g) = chF a := hch
  have w1 := wi g (by omega)
  clear wi
  have eg : ((g + 1 : Nat) : Int) - 1 = (g : Int) := by omega
  cases hw : wiB a g with
  | true =>
   rw [hw, if_pos rfl] at hcF
   rw [hw] at w1
   by_cases hjq : j < q
   ·skip
    rw [← hcF] at ms
    have hlo : (rws zad L).length = j := by rw [zab, hL]
    have e9 : (rws zad L).take j ++ [[AV.v (.int .i64 (g : Int))]] = rws zad (L ++ [(g : Int)]) := zbV hL
    repeat' (first | simp only [go_sem, seval, zab, hR, rv, eg, e9] | simp (disch := omega) only [wA] | (with_reducible first | refine cA ?_ | refine dA ?_) | (refine zas za1 rfl rfl rfl rfl ⟨rfl, by decide⟩ rfl ⟨trivial, by (try simp only [List.length_cons, List.length_nil, List.length_append, zaa, List.length_map, hlo]); omega, by (try simp only [List.length_cons, List.length_nil, List.length_append, zaa, List.length_map, hlo]); omega⟩ (fun _ => zbj) ?_) | (refine zar za1 rfl rfl rfl rfl rfl ⟨rfl, rfl, by decide, Nat.le_of_ble_eq_true rfl⟩ (fun h => by first | (cases h; done) | decide) rfl ⟨trivial, by (try simp only [List.length_cons, List.length_nil, List.length_append, zaa, List.length_map, hlo]); omega, by (try simp only [List.length_cons, List.length_nil, List.length_append, zaa, List.length_map, hlo]); omega, by (try simp only [List.length_cons, List.length_nil, List.length_append, zaa, List.length_map, hlo]); omega⟩ zbj zfC zfB ?_) | refine aI ?_ | refine dI ?_ | refine dG ?_ | ((first | refine cC ?_ ?_ | refine gS ?_ ?_ | refine dS ?_ ?_) <;> intro hc <;> simp only [hc] <;> try simp only [dcA] at hc <;> try omega) | refine aP ?_ | refine dP ?_)
    refine zac (α := Nat) (j + 1) ?_ ?_ ?_
    ·show j + 1 ≤ q; omega
    ·show q - (j + 1) < q - j; omega
    rw [ms]
    exact zah
   ·have := hbj hjq; omega
  | false =>
   rw [hw, if_neg Bool.noConfusion] at hcF
   rw [hw] at w1
   refine wkr (zc3 hR rv eg) ?_
   refine zac (α := Nat) g ⟨?_, hcF⟩ ?_ ?_
   ·omega
   ·show g < g + 1; omega
   exact zah
theorem zns (ins : List (Int × Int × Int)) (bs : List Blk) (outs : List Int) (R : List Iv) (n : Nat) (hn : bs.length = n) (h64 : n ≤ 64) (hR : R.length = n) (hz : dgE ins bs outs = 0) (hM : ∀ k, k < n → (R.getD k Iv.zero).Mg 9000) (hg : ∀ i, i < n → 0 ≤ chF (R.getD i Iv.zero)) (cb : zae zao) (cv : zae ivr) :
  CallN Tryz.prog gl 21 [AG ins bs outs, .sl 6 (rws ivr R)] (.tup [.ps 1 1 0 n, .v .nilIface]) [(1, ⟨1, rws zad (chL R)⟩)] 1000 := by
 refine call_n (C := ⟨Tryz.prog, gl, ti, 42, false, false, []⟩) za1 zgl 3000 Tryz.call21 Tryz.func21 rfl Tryz.ntmps21 (by simp) zhN ?_
 rw [Tryz.results21]
 have c0 := zlx ins bs outs R n hn h64 hR hz hM cb cv
 clear hz
 refine wkr hR ?_
 refine lL (α := Nat) (fun j => ⟨[(7, .ps 1 1 0 j), (17, .sl 6 (rws ivr R)), (18, .v (.int .i64 n)), (19, .v (.int .i64 j))], [(1, ⟨1, rws zad ((R.take j).map chF)⟩)], 2⟩) (fun j => j ≤ n) (fun j => n - j) (0) ?_ ?_ ?_
 ·exact Nat.zero_le _
 ·exact zaI.trans (zaI.newnil 1 1 (Nat.le_refl _)) (Nat.le_of_ble_eq_true rfl) (by exact zah)
 rintro j hj
 by_cases hjn : j < n
 case neg =>
  obtain rfl : j = n := by omega
  rw [List.take_of_length_le (by omega)]
  clear hM hg
  repeat' (first | simp only [go_sem, seval, zab, hR] | simp (disch := omega) only [wA] | refine aI ?_ | refine dI ?_ | refine dG ?_ | ((first | refine cC ?_ ?_ | refine gS ?_ ?_ | refine dS ?_ ?_) <;> intro hc <;> simp only [hc] <;> try simp only [dcA] at hc <;> try omega) | refine aP ?_ | refine dP ?_)
  refine ⟨.inr rfl, ⟨_, _, rfl, ⟨trivial, trivial, trivial⟩, rfl⟩, fun b mm hb => ?_, Nat.le_of_ble_eq_true rfl⟩
  simp only [Ax.look] at hb
  split at hb
  ·rename_i h1
   injection hb with hb
   subst h1 hb; rfl
  ·cases hb
 have rv := vg (l := R) (i := j) (by omega)
 have hMj := hM j (by omega)
 have hL : ((R.take j).map chF).length = j := by rw [List.length_map, List.length_take]; omega
 have ms := mapTk chF Iv.zero R (k := j) (by omega)
 have hgj : 0 ≤ chF (R.getD j Iv.zero) := hg j hjn
 clear hM hg
 generalize (R.take j).map chF = L at *
 generalize R.getD j Iv.zero = a at *
 have wi := fun f hf => zjD a f hf hMj
 refine wkr (zc2 hR rv) ?_
 refine lL (α := Nat) (fun g => ⟨[(7, .ps 1 1 0 j), (9, .p 2 6 0 0), (10, .v (.int .i64 ((g : Int) - 1))), (17, .sl 6 (rws ivr R)), (18, .v (.int .i64 n)), (19, .v (.int .i64 j))], [(1, ⟨1, rws zad L⟩), (2, ⟨6, [ivr a]⟩)], 3⟩) (fun g => g ≤ 31 ∧ chM a g = chF a) (fun g => g) (31) ?_ ?_ ?_
 ·exact ⟨Nat.le_refl _, rfl⟩
 ·exact zah
 rintro g ⟨hg, hch⟩
 have hL : L.length = j := hL
 cases g with
 | zero =>
  have hcF : chF a = -1 := hch.symm
  clear wi
  omega
 | succ g =>
  have hcF : (if wiB a g = true then (g : Int) else chM a g) = chF a := hch
  have w1 := wi g (by omega)
  clear wi
  have eg : ((g + 1 : Nat) : Int) - 1 = (g : Int) := by omega
  cases hw : wiB a g with
  | true =>
   rw [hw, if_pos rfl] at hcF
   rw [hw] at w1
   by_cases hjq : j < n
   ·skip
    rw [← hcF] at ms
    have hlo : (rws zad L).length = j := by rw [zab, hL]
    have e9 : (rws zad L).take j ++ [[AV.v (.int .i64 (g : Int))]] = rws zad (L ++ [(g : Int)]) := zbV hL
    repeat' (first | simp only [go_sem, seval, zab, hR, rv, eg, e9] | simp (disch := omega) only [wA] | (with_reducible first | refine cA ?_ | refine dA ?_) | (refine zas za1 rfl rfl rfl rfl ⟨rfl, by decide⟩ rfl ⟨trivial, by (try simp only [List.length_cons, List.length_nil, List.length_append, zaa, List.length_map, hlo]); omega, by (try simp only [List.length_cons, List.length_nil, List.length_append, zaa, List.length_map, hlo]); omega⟩ (fun _ => zbj) ?_) | (refine zar za1 rfl rfl rfl rfl rfl ⟨rfl, rfl, by decide, Nat.le_of_ble_eq_true rfl⟩ (fun h => by first | (cases h; done) | decide) rfl ⟨trivial, by (try simp only [List.length_cons, List.length_nil, List.length_append, zaa, List.length_map, hlo]); omega, by (try simp only [List.length_cons, List.length_nil, List.length_append, zaa, List.length_map, hlo]); omega, by (try simp only [List.length_cons, List.length_nil, List.length_append, zaa, List.length_map, hlo]); omega⟩ zbj zfC zfB ?_) | refine aI ?_ | refine dI ?_ | refine dG ?_ | ((first | refine cC ?_ ?_ | refine gS ?_ ?_ | refine dS ?_ ?_) <;> intro hc <;> simp only [hc] <;> try simp only [dcA] at hc <;> try omega) | refine aP ?_ | refine dP ?_)
    refine zac (α := Nat) (j + 1) ?_ ?_ ?_
    ·show j + 1 ≤ n; omega
    ·show n - (j + 1) < n - j; omega
    rw [ms]
    exact zah
   ·omega
  | false =>
   rw [hw, if_neg Bool.noConfusion] at hcF
   rw [hw] at w1
   refine wkr (zc3 hR rv eg) ?_
   refine zac (α := Nat) g ⟨?_, hcF⟩ ?_ ?_
   ·omega
   ·show g < g + 1; omega
   exact zah
set_option maxHeartbeats 8000000
theorem zfw {p : Nat → Prop} [DecidablePred p] {n : Nat} (h : ¬ ∀ i, i < n → p i) : ∃ q, q < n ∧ ¬ p q ∧ ∀ i, i < q → p i := by
 induction n with
 | zero => exact absurd (fun i hi => absurd hi (Nat.not_lt_zero i)) h
 | succ n ih =>
  by_cases h1 : ∀ i, i < n → p i
  ·refine ⟨n, Nat.lt_succ_self n, fun hp => h fun i hi => ?_, h1⟩
   by_cases e : i = n
   ·rw [e]; exact hp
   ·exact h1 i (by omega)
  ·obtain ⟨q, hq, h2, h3⟩ := ih h1
   exact ⟨q, Nat.lt_succ_of_lt hq, h2, h3⟩
theorem zk1 {x y : Dy} (hx : lgD x = false) (hy : lgD y = false) : lgD (x.min y) = false := by unfold Dy.min; split <;> assumption
theorem zk2 {x y : Dy} (hx : lgD x = false) (hy : lgD y = false) : lgD (x.max y) = false := by unfold Dy.max; split <;> assumption
theorem lgI_hull {x : Iv} (h : lgI x = false) : lgI (x.hull x) = false := by
 obtain ⟨h1, h2⟩ := Bool.or_eq_false_iff.1 h
 exact Bool.or_eq_false_iff.2 ⟨zk1 (zk1 (zk1 h1 h2) h1) h2, zk2 (zk2 (zk2 h1 h2) h1) h2⟩
theorem lgI_zero : lgI Iv.zero = false := by
 have h : lgD Dy.zero = false := EOK.zero.lg
 exact Bool.or_eq_false_iff.2 ⟨h, h⟩
theorem evB_lg {ins : List (Int × Int × Int)} {bs : List Blk} {outs : List Int} {inv : List Iv} (hd : DgOK ins bs outs) (h : (evB ins bs inv).2 = 0) : ∀ i, i < bs.length → lgI ((evB ins bs inv).1.getD i Iv.zero) = false := by
 unfold evB at h ⊢
 by_cases h1 : ∀ q, q < (zaq bs).length → lgI (inv.getD q Iv.zero) = false
 case neg => rw [if_pos h1] at h; exact absurd h (by decide)
 rw [if_neg (fun g => g h1)] at h ⊢
 by_cases h2 : ∀ q, q < (zcf bs).length → lgI (rnV ins bs (rnD bs.length (zaq bs) inv (zaq bs).length) (zcf bs) q) = false
 case neg => rw [if_pos h2] at h; exact absurd h (by decide)
 rw [if_neg (fun g => g h2)]
 obtain ⟨o1, o2⟩ := zd7 hd
 have e1 : ∀ k, k ≤ (zaq bs).length → ∀ i, i < bs.length → lgI ((rnD bs.length (zaq bs) inv k).getD i Iv.zero) = false := fun k => by
  induction k with
  | zero =>
   intro _ i hi
   show lgI ((List.replicate bs.length Iv.zero).getD i Iv.zero) = false
   rw [show (List.replicate bs.length Iv.zero).getD i Iv.zero = Iv.zero by simp [List.getD, hi]]
   exact lgI_zero
  | succ k ih =>
   intro hk
   unfold rnD
   have hl := h1 k (by omega)
   exact zb0 (P := fun a => lgI a = false) (by rw [zeN]; exact (zdj (by omega)).2.1) (ih (by omega)) (lgI_hull hl)
 have hlen : (rnD bs.length (zaq bs) inv (zaq bs).length).length = bs.length := zeN _ _ _ _
 have e1 := e1 _ (Nat.le_refl _)
 generalize rnD bs.length (zaq bs) inv (zaq bs).length = R0 at *
 show ∀ i, i < bs.length → lgI ((rnO ins bs R0 (zcf bs) (zcf bs).length).getD i Iv.zero) = false
 have e2 : ∀ k, k ≤ (zcf bs).length → ∀ i, i < bs.length → lgI ((rnO ins bs R0 (zcf bs) k).getD i Iv.zero) = false := fun k => by
  induction k with
  | zero => intro _; exact e1
  | succ k ih =>
   intro hk
   unfold rnO
   exact zb0 (P := fun a => lgI a = false) (by rw [zfL, hlen]; exact (o2 k (by omega)).2.1) (ih (by omega)) (h2 k (by omega))
 exact e2 _ (Nat.le_refl _)
theorem mk_no (ins : List (Int × Int × Int)) (bs : List Blk) (outs : List Int) (rounds : Int) (z : Int) (hz : dgE ins bs outs = z) (h : ¬ z = 0) (cb : zae zao) : CallOK Tryz.prog gl 5 [AG ins bs outs, .v (.int .i64 rounds)] (.tup [.agg [.v (.slice none 0 0), .v (.slice none 0 0), .v (.slice none 0 0)], .v (.bool (false)), .v (eV z)]) := by
 refine okC 121 Tryz.call5 Tryz.func5 Tryz.ntmps5 Tryz.results5 ?_
 have c1 := zlc ins bs outs z hz h cb
 clear hz
 rw [zcD h] at c1 ⊢
 exact we zc0
structure Mk1 (ins : List (Int × Int × Int)) (bs : List Blk) : Prop where
 m : (zaq bs).length = 0
 ev : (evB ins bs []).2 = 0
 ch : ∀ i, i < bs.length → 0 ≤ chF ((evB ins bs []).1.getD i Iv.zero)
 far : ∀ k, k < (zcf bs).length → decide (0 < (erV ins bs (chL (evB ins bs []).1) (evB ins bs []).1 (zcf bs) (List.replicate bs.length Dy.zero) k).cmp (Dy.int 1099511627776)) = false
 vf : vfB ins bs (chL (evB ins bs []).1) (evB ins bs []).1 (erO ins bs (chL (evB ins bs []).1) (evB ins bs []).1 (zcf bs) (List.replicate bs.length Dy.zero) (zcf bs).length)
structure CrtOK (ins : List (Int × Int × Int)) (bs : List Blk) (R : List Iv) (fr : List Int) (E : List Dy) : Prop where
 lR : R.length = bs.length
 lf : fr.length = bs.length
 lE : E.length = bs.length
 hR : ∀ i, i < bs.length → lgI (R.getD i Iv.zero) = false
 hf : ∀ i, i < bs.length → 0 ≤ fr.getD i 0 ∧ fr.getD i 0 ≤ 30
 hE : ∀ i, i < bs.length → EOK (E.getD i Dy.zero)
 vf : vfB ins bs fr R E
 one : Mk1 ins bs → R = (evB ins bs []).1 ∧ fr = chL (evB ins bs []).1 ∧ E = erO ins bs (chL (evB ins bs []).1) (evB ins bs []).1 (zcf bs) (List.replicate bs.length Dy.zero) (zcf bs).length
def MakeOK (ins : List (Int × Int × Int)) (bs : List Blk) (res : AV) : Prop :=
 (∃ R fr E, res = .tup [.agg [.sl 1 (rws zad fr), .sl 6 (rws ivr R), .sl 3 (rws zaj E)], .v (.bool true), .v .nilIface] ∧ CrtOK ins bs R fr E) ∨ (¬ Mk1 ins bs ∧ res = .tup [.agg zz3, .v (.bool false), .v .nilIface])
structure MkI (ins : List (Int × Int × Int)) (bs : List Blk) (R : List Iv) (fr : List Int) : Prop where
 lR : R.length = bs.length
 lf : fr.length = bs.length
 hR : ∀ i, i < bs.length → lgI (R.getD i Iv.zero) = false
 hf : ∀ i, i < bs.length → 0 ≤ fr.getD i 0 ∧ fr.getD i 0 ≤ 30
 one : Mk1 ins bs → R = (evB ins bs []).1 ∧ fr = chL (evB ins bs []).1
def MkInv (ins : List (Int × Int × Int)) (bs : List Blk) (r : AV) (fr : List Int) : Prop := ∃ R, r = .sl 6 (rws ivr R) ∧ MkI ins bs R fr
theorem zoo (ins : List (Int × Int × Int)) (bs : List Blk) (outs : List Int) (rounds : Nat) (hr1 : 1 ≤ rounds) (hr2 : rounds ≤ 16) (hz : dgE ins bs outs = 0) :
  CallX Tryz.prog gl 5 [AG ins bs outs, .v (.int .i64 rounds)] (MakeOK ins bs) := by
 have cb := zaf
 have cv := zak
 have cc := zan
 have hdg := zdB hz
 refine zpA za1 zgl 20 19 3000 Tryz.call5 Tryz.func5 rfl Tryz.ntmps5 (by simp) zhN [.sl 3 (rws zaD ins), .sl 6 (rws zao bs), .sl 1 (rws zad outs)] (.sl 1 (rws zad (zcf bs))) (.sl 1 (rws zad (zaq bs))) bs.length (MkInv ins bs) (fun _ _ => ¬ Mk1 ins bs) ?_ (b0 := 0) (b1 := 1) (c1 := _) rfl 20 3 ?_ ?_ ?_
 ·rintro r fr ⟨R, rfl, h⟩
  refine ⟨h.lf, zdk, .sl (by decide) fun r hr a ha => ?_, zne.sl⟩
  obtain ⟨x, _, rfl⟩ := List.mem_map.1 hr
  simp only [ivr, List.mem_cons, List.not_mem_nil, or_false] at ha
  have pu : ∀ y : Dy, Pos (.sl 1 (u32s (ms y))) := fun y => .sl (by decide) fun r hr a ha => by
   obtain ⟨w, _, rfl⟩ := zgp hr
   simp only [u32, List.mem_cons, List.not_mem_nil, or_false] at ha
   subst ha
   exact .v _
  rcases ha with rfl | rfl | rfl | rfl | rfl | rfl <;> first | exact .v _ | exact pu _
 ·rw [Tryz.results5]
  simp only [zbd, List.cons_append, List.nil_append, List.take, its, List.map_cons, List.map_nil, entry, entryEnv]
  have o1 := zeC ins bs outs hz cb
  have d1 := zcp ins bs outs hz
  have inf := rn_Infer ins bs outs rounds hr1 hr2 bs.length (zaq bs).length rfl hdg.nB hz (zaq bs) rfl rfl (zgC bs) (fun k hk => zdj hk) hdg.blk cb cv cc
  refine wk zc0 ?_
  refine zhu inf ?_
  rintro _ ⟨inv, e, rfl, hI, hI0⟩
  clear o1 d1 inf
  by_cases he : e = 0
  case neg =>
   have hn : ¬ Mk1 ins bs := fun hm => he (hI0 hm.m hm.ev).1
   rw [zcD he]
   clear hI hI0
   repeat' (first | simp only [go_sem, seval] | simp (disch := omega) only [wA] | refine aI ?_ | refine dI ?_ | refine dG ?_ | ((first | refine cC ?_ ?_ | refine gS ?_ ?_ | refine dS ?_ ?_) <;> intro hc <;> simp only [hc] <;> try simp only [dcA] at hc <;> try omega) | refine aP ?_ | refine dP ?_)
   all_goals exact ⟨.tup [.agg [.v (.slice none 0 0), .v (.slice none 0 0), .v (.slice none 0 0)], .v (.bool false), .v .nilIface], .inr ⟨hn, rfl⟩, zdk, zal trivial rfl⟩
  subst he
  obtain ⟨hIl, hIm⟩ := hI rfl
  have v1 := znH ins bs outs inv hz hIl (fun k hk => (hIm k hk).mono (by omega))
  rw [zbg]
  by_cases hz2 : (evB ins bs inv).2 = 0
  case neg =>
   have hn : ¬ Mk1 ins bs := fun hm => hz2 (by rw [(hI0 hm.m hm.ev).2]; exact hm.ev)
   rw [zcD hz2] at v1
   clear hI hI0 hIm
   generalize (evB ins bs inv).2 = z at *
   generalize (evB ins bs inv).1 = R at *
   repeat' (first | simp only [go_sem, seval] | simp (disch := omega) only [wA] | (with_reducible first | refine cA ?_ | refine dA ?_) | refine aI ?_ | refine dI ?_ | refine dG ?_ | ((first | refine cC ?_ ?_ | refine gS ?_ ?_ | refine dS ?_ ?_) <;> intro hc <;> simp only [hc] <;> try simp only [dcA] at hc <;> try omega) | refine aP ?_ | refine dP ?_)
   all_goals exact ⟨.tup [.agg [.v (.slice none 0 0), .v (.slice none 0 0), .v (.slice none 0 0)], .v (.bool false), .v .nilIface], .inr ⟨hn, rfl⟩, zdk, zal trivial rfl⟩
  obtain ⟨hlR, hmg⟩ := evB_mg hdg hz2
  have hlg := evB_lg hdg hz2
  rw [hz2, zbg] at v1
  by_cases hc : ∀ i, i < bs.length → 0 ≤ chF ((evB ins bs inv).1.getD i Iv.zero)
  case neg =>
   have hn : ¬ Mk1 ins bs := fun hm => hc (by rw [(hI0 hm.m hm.ev).2]; exact hm.ch)
   obtain ⟨q, hq, hb, hg⟩ := zfw (p := fun i => 0 ≤ chF ((evB ins bs inv).1.getD i Iv.zero)) hc
   have c1 := zjE ins bs outs (evB ins bs inv).1 bs.length rfl hdg.nB hlR hz hmg q hq (by omega) hg cb cv
   clear hI hI0 hIm hlg hmg hb hg hc
   generalize (evB ins bs inv).1 = R at *
   repeat' (first | simp only [go_sem, seval] | simp (disch := omega) only [wA] | (with_reducible first | refine cA ?_ | refine dA ?_) | refine aI ?_ | refine dI ?_ | refine dG ?_ | ((first | refine cC ?_ ?_ | refine gS ?_ ?_ | refine dS ?_ ?_) <;> intro hc <;> simp only [hc] <;> try simp only [dcA] at hc <;> try omega) | refine aP ?_ | refine dP ?_)
   all_goals exact ⟨.tup [.agg [.v (.slice none 0 0), .v (.slice none 0 0), .v (.slice none 0 0)], .v (.bool false), .v .nilIface], .inr ⟨hn, rfl⟩, zdk, zal trivial rfl⟩
  have c1 := zns ins bs outs (evB ins bs inv).1 bs.length rfl hdg.nB hlR hz hmg hc cb cv
  have hi : MkInv ins bs (.sl 6 (rws ivr (evB ins bs inv).1)) (chL (evB ins bs inv).1) := ⟨_, rfl, hlR, by unfold chL; rw [List.length_map]; exact hlR, hlg, fun i hi => by
   have e : (chL (evB ins bs inv).1).getD i 0 = chF ((evB ins bs inv).1.getD i Iv.zero) := by
    unfold chL
    rw [zaB (by rw [List.length_map]; omega), zaB (by omega), List.getElem_map]
   rw [e]
   exact ⟨hc i hi, (chF_bd _).2⟩, fun hm => by rw [(hI0 hm.m hm.ev).2]; exact ⟨rfl, rfl⟩⟩
  clear hI hI0 hIm hlg hmg hc
  generalize (evB ins bs inv).1 = R at *
  refine wk zc0 ?_
  refine callF_o (zcT zbh _) (by exact .refl _) c1 ?_
  repeat' (first | simp only [go_sem, seval] | simp (disch := omega) only [wA] | refine aI ?_ | refine dI ?_ | refine dG ?_ | ((first | refine cC ?_ ?_ | refine gS ?_ ?_ | refine dS ?_ ?_) <;> intro hc <;> simp only [hc] <;> try simp only [dcA] at hc <;> try omega) | refine aP ?_ | refine dP ?_)
  exact ⟨_, chL R, none, 0, 0, hi, by unfold Go.Ax.stM zz3; exact zah⟩
 ·rintro r fr _ _ oa ln cp G' ⟨oa0, ln0, cp0, rfl⟩ ⟨oa1, ln1, cp1, rfl⟩ ⟨R, rfl, h⟩ hG h0 h1
  rw [Tryz.results5]
  simp only [zbd, List.cons_append, List.nil_append, List.take, its, List.map_cons, List.map_nil, stF, zz3]
  have e1 := (zo8 ins bs outs R fr oa ln cp (zcf bs) (zaq bs) bs.length (zaq bs).length (zcf bs).length hdg hdg.nB rfl h.lf h.lR (fun i hi => (zeH (h.hR i hi)).1.mono (by omega)) h.hf rfl (zgC bs) rfl (zd7 hdg).1 (fun k hk => ⟨(zdj hk).1, (zdj hk).2.1⟩) (fun k hk => ⟨((zd7 hdg).2 k hk).1, ((zd7 hdg).2 k hk).2.1⟩) cb cc cv).more hG
   (args' := [AG ins bs outs, .agg [.v (.slice oa0 ln0 cp0), .v (.slice oa1 ln1 cp1), .v (.slice oa ln cp)], .sl 1 (rws zad (zcf bs)), .sl 1 (rws zad (zaq bs))]) zhN (.cons (LeG.refl _) (.cons (LeG.agg (.cons h0 (.cons h1 (.cons (LeG.refl _) .nil)))) (.cons (LeG.refl _) (.cons (LeG.refl _) .nil))))
  refine wk zc0 ?_
  refine zhu e1 ?_
  rintro _ ⟨E, ok, rfl, hE, hone⟩
  clear e1
  cases ok
  ·have h2 : ¬ Mk1 ins bs := fun hm => by
    obtain ⟨rfl, rfl⟩ := h.one hm
    have := (hone hm.m hm.far).1
    cases this
   clear h hone hE h0 h1
   repeat' (first | simp only [go_sem, seval] | simp (disch := omega) only [wA] | refine aI ?_ | refine dI ?_ | refine dG ?_ | ((first | refine cC ?_ ?_ | refine gS ?_ ?_ | refine dS ?_ ?_) <;> intro hc <;> simp only [hc] <;> try simp only [dcA] at hc <;> try omega) | refine aP ?_ | refine dP ?_)
   exact ⟨h2, .v (.slice oa ln cp), zne.v, by exact zah⟩
  obtain ⟨hlE, hE⟩ := hE rfl
  by_cases hv : vfB ins bs fr R E
  ·have v1 := (zkk ins bs outs R fr E bs.length hz hdg.nB rfl hlE h.lf h.lR (fun i hi => (hE i hi).lg) (fun i hi => (hE i hi).nn) h.hR h.hf hv cb cc cv).more hG
    (args' := [AG ins bs outs, .agg [.v (.slice oa0 ln0 cp0), .v (.slice oa1 ln1 cp1), .sl 3 (rws zaj E)]]) zhN (.cons (LeG.refl _) (.cons (LeG.agg (.cons h0 (.cons h1 (.cons (LeG.refl _) .nil)))) .nil))
   have crt : CrtOK ins bs R fr E := ⟨h.lR, h.lf, hlE, h.hR, h.hf, hE, hv, fun hm => by
    obtain ⟨rfl, rfl⟩ := h.one hm
    exact ⟨rfl, rfl, (hone hm.m hm.far).2⟩⟩
   clear h hone hE h0 h1 hv
   repeat' (first | simp only [go_sem, seval] | simp (disch := omega) only [wA] | (with_reducible first | refine cA ?_ | refine dA ?_) | refine aI ?_ | refine dI ?_ | refine dG ?_ | ((first | refine cC ?_ ?_ | refine gS ?_ ?_ | refine dS ?_ ?_) <;> intro hc <;> simp only [hc] <;> try simp only [dcA] at hc <;> try omega) | refine aP ?_ | refine dP ?_)
   all_goals exact ⟨.sl 3 (rws zaj E), zdk, .inl ⟨R, fr, E, rfl, crt⟩, zal trivial rfl⟩
  ·obtain ⟨q, hq, hb, hg⟩ := zfw (p := fun i => lkB ins bs fr R E i = 0) hv
   have v1 := (zkl ins bs outs R fr E bs.length hz hdg.nB rfl hlE h.lf h.lR (fun i hi => (hE i hi).lg) (fun i hi => (hE i hi).nn) h.hR h.hf q hq hb hg cb cc cv).more hG
    (args' := [AG ins bs outs, .agg [.v (.slice oa0 ln0 cp0), .v (.slice oa1 ln1 cp1), .sl 3 (rws zaj E)]]) zhN (.cons (LeG.refl _) (.cons (LeG.agg (.cons h0 (.cons h1 (.cons (LeG.refl _) .nil)))) .nil))
   have h2 : ¬ Mk1 ins bs := fun hm => by
    obtain ⟨rfl, rfl⟩ := h.one hm
    obtain ⟨_, rfl⟩ := hone hm.m hm.far
    exact hv hm.vf
   clear h hone hE h0 h1 hv hg hb
   generalize lkB ins bs fr R E q = z at *
   repeat' (first | simp only [go_sem, seval] | simp (disch := omega) only [wA] | (with_reducible first | refine cA ?_ | refine dA ?_) | refine aI ?_ | refine dI ?_ | refine dG ?_ | ((first | refine cC ?_ ?_ | refine gS ?_ ?_ | refine dS ?_ ?_) <;> intro hc <;> simp only [hc] <;> try simp only [dcA] at hc <;> try omega) | refine aP ?_ | refine dP ?_)
   exact ⟨h2, .sl 3 (rws zaj E), zne.sl, by exact zah⟩
 ·rintro r fr oa ln cp ⟨R, rfl, h⟩ h2
  rw [Tryz.results5]
  simp only [zbd, List.cons_append, List.nil_append, List.drop, its, List.map_cons, List.map_nil, Go.Ax.stM, zz3]
  have h64 := hdg.nB
  generalize hNN : bs.length = N at *
  have hlf : fr.length = N := h.lf.trans hNN
  have hf0 := h.hf
  rw [hNN] at hf0
  refine wkr hlf ?_
  refine lL (α := Nat × List Int × Bool) (fun y => ⟨[(2, .p 0 3 0 0), (4, .p 1 3 0 0), (7, .sl 1 (rws zad (zcf bs))), (9, .sl 1 (rws zad (zaq bs))), (11, .p 2 3 0 0), (17, .v (.bool (y.2.2))), (101, .ps 3 1 0 N), (102, .v (.int .i64 N)), (103, .v (.int .i64 y.1))], [(0, ⟨3, [[.sl 3 (rws zaD ins), .sl 6 (rws zao bs), .sl 1 (rws zad outs)]]⟩), (1, ⟨3, [[.v (.slice none 0 0), .v (.slice none 0 0), .v (.slice none 0 0)]]⟩), (2, ⟨3, [[.ps 3 1 0 N, .sl 6 (rws ivr R), .v (.slice oa ln cp)]]⟩), (3, ⟨1, rws zad y.2.1⟩)], 4⟩) (fun y => (y.1 ≤ N ∧ y.2.1.length = N) ∧ (∀ i, i < N → 0 ≤ y.2.1.getD i 0 ∧ y.2.1.getD i 0 ≤ 30) ∧ (y.2.2 = true → zgq y.2.1 < zgq fr) ∧ (y.2.2 = false → y.2.1 = fr)) (fun y => N - y.1) ((0, fr, false)) ?_ ?_ ?_
  ·exact ⟨⟨Nat.zero_le _, hlf⟩, hf0, fun h => (by cases h), fun _ => rfl⟩
  ·exact zah
  rintro ⟨j, L, ch⟩ ⟨⟨hj, hlL⟩, hfL, hs1, hs0⟩
  have hj : j ≤ N := hj
  have hlL : L.length = N := hlL
  have hfL : ∀ i, i < N → 0 ≤ L.getD i 0 ∧ L.getD i 0 ≤ 30 := hfL
  have hs1 : ch = true → zgq L < zgq fr := hs1
  have hs0 : ch = false → L = fr := hs0
  by_cases hjN : j < N
  ·have ro := ig (l := L) (i := j) (by omega)
   obtain ⟨f1, f2⟩ := hfL j hjN
   by_cases hp : 0 < L.getD j 0
   ·have hset := zb0 (P := fun x : Int => 0 ≤ x ∧ x ≤ 30) (d := 0) (x := L.getD j 0 - 1) (show j < L.length by omega) hfL ⟨by omega, by omega⟩
    have hsm : zgq (L.set j (L.getD j 0 - 1)) < zgq L := sumN_set (by omega) (by omega)
    have hsf : zgq (L.set j (L.getD j 0 - 1)) < zgq fr := by
     cases ch
     ·rw [← hs0 rfl]; exact hsm
     ·exact Nat.lt_trans hsm (hs1 rfl)
    have hl2 : (L.set j (L.getD j 0 - 1)).length = N := by rw [List.length_set]; exact hlL
    have e9 : (rws zad L).set j [.v (.int .i64 (L.getD j 0 - 1))] = rws zad (L.set j (L.getD j 0 - 1)) := zba L j _
    clear hs0 hs1 hsm h hf0 hfL
    generalize L.getD j 0 = x at *
    refine wkr (zc3 hlL ro e9) ?_
    refine zac (α := Nat × List Int × Bool) (j + 1, L.set j (x - 1), true) ⟨⟨?_, hl2⟩, hset, fun _ => hsf, fun h => by cases h⟩ ?_ ?_
    ·show j + 1 ≤ N; omega
    ·show N - (j + 1) < N - j; omega
    exact zah
   ·clear h hf0
    generalize L.getD j 0 = x at *
    refine wkr (zc2 hlL ro) ?_
    refine zac (α := Nat × List Int × Bool) (j + 1, L, ch) ⟨⟨?_, hlL⟩, hfL, hs1, hs0⟩ ?_ ?_
    ·show j + 1 ≤ N; omega
    ·show N - (j + 1) < N - j; omega
    exact zah
  obtain rfl : j = N := by omega
  cases ch
  ·clear h hf0 hs1 hs0
   repeat' (first | simp only [go_sem, seval, zab, hlL] | simp (disch := omega) only [wA] | refine aI ?_ | refine dI ?_ | refine dG ?_ | ((first | refine cC ?_ ?_ | refine gS ?_ ?_ | refine dS ?_ ?_) <;> intro hc <;> simp only [hc] <;> try simp only [dcA] at hc <;> try omega) | refine aP ?_ | refine dP ?_)
   all_goals exact ⟨.tup [.agg [.v (.slice none 0 0), .v (.slice none 0 0), .v (.slice none 0 0)], .v (.bool false), .v .nilIface], .inr ⟨h2, rfl⟩, zdk, zal trivial rfl⟩
  ·have hi : MkInv ins bs (.sl 6 (rws ivr R)) L := ⟨R, rfl, ⟨h.lR, hlL.trans hNN.symm, h.hR, by rw [hNN]; exact hfL, fun hm => absurd hm h2⟩⟩
   have hlt := hs1 rfl
   clear h hf0 hs1 hs0
   repeat' (first | simp only [go_sem, seval, zab, hlL] | simp (disch := omega) only [wA] | refine aI ?_ | refine dI ?_ | refine dG ?_ | ((first | refine cC ?_ ?_ | refine gS ?_ ?_ | refine dS ?_ ?_) <;> intro hc <;> simp only [hc] <;> try simp only [dcA] at hc <;> try omega) | refine aP ?_ | refine dP ?_)
   exact ⟨L, hi, hlt, by exact zah⟩
set_option pp.maxSteps 100000
set_option pp.deepTerms true
set_option maxHeartbeats 8000000
def opOf (k : Int) : Int := if k = 3 then 3 else if k = 4 then 4 else if k = 8 then 8 else if k = 9 then 9 else if k = 5 then 5 else 10
theorem cp_op (k : Int) : CallOK Tryz.prog gl 25 [.v (.int .i64 k)] (.v (.int .i64 (opOf k))) := by
 refine okC 14 Tryz.call25 Tryz.func25 Tryz.ntmps25 Tryz.results25 ?_
 unfold opOf
 repeat' (first | simp only [go_sem, seval] | simp (disch := omega) only [wA] | refine aI ?_ | refine dI ?_ | refine dG ?_ | ((first | refine cC ?_ ?_ | refine gS ?_ ?_ | refine dS ?_ ?_) <;> intro hc <;> simp only [hc] <;> try simp only [dcA] at hc <;> try omega) | refine aP ?_ | refine dP ?_)
 all_goals (repeat' (first | rw [if_pos (by omega)] | rw [if_neg (by omega)])); exact zal trivial rfl
structure CpOK (ins : List (Int × Int × Int)) (bs : List Blk) (outs fr : List Int) : Prop where
 dg : DgOK ins bs outs
 lf : fr.length = bs.length
 hf : ∀ i, i < bs.length → 0 ≤ fr.getD i 0 ∧ fr.getD i 0 ≤ 30
 sc : ∀ i, i < bs.length → scB ins fr (fr.getD i 0) (bs.getD i Blk.zero) = true
def gV (bs : List Blk) (fr : List Int) (i : Nat) : Int := rawV (bs.getD i Blk.zero) (fr.getD i 0)
def gU (bs : List Blk) (fr : List Int) (i : Nat) : Int := rawU (bs.getD i Blk.zero) (fr.getD i 0)
def gI (bs : List Blk) (fr : List Int) (i : Nat) : Int := rawI (bs.getD i Blk.zero) (fr.getD i 0)
noncomputable def cpC : Cx := ⟨Tryz.prog, gl, ti, 500, false, false, []⟩
noncomputable def zbo (k : Nat) : Code := (zbd 60 (Tryz.f6.body.getD .skip)).getD k .skip
set_option pp.maxSteps 100000
set_option pp.deepTerms true
set_option maxHeartbeats 4000000
def cpS2 (ins : List (Int × Int × Int)) (bs : List Blk) (outs fr O : List Int) (n nP j : Nat) : AS := ⟨[(1, .sl 1 (rws zad fr)), (2, .p 0 3 0 0), (4, .p 1 4 0 0), (6, .sl 1 (rws zad O)), (11, .p 9 4 0 0), (12, .ps 12 1 0 n), (13, .ps 14 1 0 n), (14, .ps 16 1 0 n), (15, .ps 20 1 0 (dlK bs j).length), (16, .ps 21 1 0 (clK bs j).length), (84, .sl 6 (rws zao bs)), (85, .v (.int .i64 n)), (86, .v (.int .i64 j))], [(0, ⟨3, [[.sl 3 (rws zaD ins), .sl 6 (rws zao bs), .sl 1 (rws zad outs)]]⟩), (1, ⟨4, [[.v (.slice none 0 0), .v (.slice none 0 0), .v (.slice none 0 0), .v (.slice none 0 0)]]⟩), (9, ⟨4, [[.ps 5 3 0 nP, .ps 7 1 0 n, .v (.slice none 0 0), .v (.slice none 0 0)]]⟩), (5, ⟨3, rws zaD ins⟩), (7, ⟨1, rws zad (zaY (gI bs fr) n j)⟩), (12, ⟨1, rws zad (zaY (gV bs fr) n j)⟩), (14, ⟨1, rws zad (zaY (gU bs fr) n j)⟩), (16, ⟨1, rws zad (List.replicate n 0)⟩), (20, ⟨1, rws zad (dlK bs j)⟩), (21, ⟨1, rws zad (clK bs j)⟩)], 22⟩
theorem cp_L2 {m : Nat} {s : AS} {r : List It} {Q : Lab → AS → Prop} (ins : List (Int × Int × Int)) (bs : List Blk) (outs fr O : List Int) (n nP : Nat) (hn : bs.length = n) (H : CpOK ins bs outs fr) (cb : zae zao)
  (hw : zaI s (cpS2 ins bs outs fr O n nP 0)) (h : ∀ Q', QUp Q Q' → ex cpC (m + 192) r ⟨(87, .v (.bool false)) :: (cpS2 ins bs outs fr O n nP n).env, (cpS2 ins bs outs fr O n nP n).mem, 22⟩ Q') : ex cpC (m + 200) (.code (zbo 13) :: r) s Q := by
 have h64 := H.dg.nB
 rw [hn] at h64
 have hlf := H.lf
 rw [hn] at hlf
 unfold cpC at h ⊢
 simp only [zbo, zbd, Tryz.f6, Option.getD_some, List.cons_append, List.nil_append, List.getD_cons_succ, List.getD_cons_zero]
 refine wk zc0 ?_
 refine lL (α := Nat) (fun j => ⟨[(1, .sl 1 (rws zad fr)), (2, .p 0 3 0 0), (4, .p 1 4 0 0), (6, .sl 1 (rws zad O)), (11, .p 9 4 0 0), (12, .ps 12 1 0 n), (13, .ps 14 1 0 n), (14, .ps 16 1 0 n), (15, .ps 20 1 0 (dlK bs j).length), (16, .ps 21 1 0 (clK bs j).length), (84, .sl 6 (rws zao bs)), (85, .v (.int .i64 n)), (86, .v (.int .i64 j))], [(0, ⟨3, [[.sl 3 (rws zaD ins), .sl 6 (rws zao bs), .sl 1 (rws zad outs)]]⟩), (1, ⟨4, [[.v (.slice none 0 0), .v (.slice none 0 0), .v (.slice none 0 0), .v (.slice none 0 0)]]⟩), (9, ⟨4, [[.ps 5 3 0 nP, .ps 7 1 0 n, .v (.slice none 0 0), .v (.slice none 0 0)]]⟩), (5, ⟨3, rws zaD ins⟩), (7, ⟨1, rws zad (zaY (gI bs fr) n j)⟩), (12, ⟨1, rws zad (zaY (gV bs fr) n j)⟩), (14, ⟨1, rws zad (zaY (gU bs fr) n j)⟩), (16, ⟨1, rws zad (List.replicate n 0)⟩), (20, ⟨1, rws zad (dlK bs j)⟩), (21, ⟨1, rws zad (clK bs j)⟩)], 22⟩) (fun j => j ≤ n) (fun j => n - j) (0) ?_ ?_ ?_
 ·exact Nat.zero_le _
 ·exact hw
 rintro j hj
 by_cases hjn : j < n
 case neg =>
  obtain rfl : j = n := by omega
  clear H
  refine wkr hn ?_
  exact h _ (fun l s hl hq => .inr ⟨hl _, hq⟩)
 have rb := bg (l := bs) (i := j) (by omega)
 have rf := ig (l := fr) (i := j) (by omega)
 have bk := H.dg.blk j (by omega)
 have sc := H.sc j (by omega)
 have f1 := H.hf j (by omega)
 clear H
 obtain ⟨D, hD⟩ : ∃ D, dlK bs j = D := ⟨_, rfl⟩
 obtain ⟨mD, hmD⟩ : ∃ m, D.length = m := ⟨_, rfl⟩
 obtain ⟨L, hL⟩ : ∃ D, clK bs j = D := ⟨_, rfl⟩
 obtain ⟨mL, hmL⟩ : ∃ m, L.length = m := ⟨_, rfl⟩
 have dl := zma bs j
 have cl := clK_le bs j
 have d1 := zo0 (bs := bs) (k := j)
 have d2 := dlK_no (bs := bs) (k := j)
 have d3 := clK_yes (bs := bs) (k := j)
 have d4 := clK_no (bs := bs) (k := j)
 have hV := zgR (gV bs fr) hjn
 have hU := zgR (gU bs fr) hjn
 have hI := zgR (gI bs fr) hjn
 have lV := zaC (gV bs fr) n j
 have lU := zaC (gU bs fr) n j
 have lI := zaC (gI bs fr) n j
 have aV := ig (l := zaY (gV bs fr) n (j + 1)) (i := j) (by rw [zaC]; exact hjn)
 rw [zeu _ hjn, if_pos (by omega)] at aV
 have rV := ig (l := zaY (gV bs fr) n j) (i := j) (by rw [lV]; exact hjn)
 have rU := ig (l := zaY (gU bs fr) n j) (i := j) (by rw [lU]; exact hjn)
 have rI := ig (l := zaY (gI bs fr) n j) (i := j) (by rw [lI]; exact hjn)
 rw [zeu _ hjn, if_neg (Nat.lt_irrefl j)] at rV rU rI
 have sV := zfJ (gV bs fr) (n := n) (j := j)
 have sU := zfJ (gU bs fr) (n := n) (j := j)
 have sI := zfJ (gI bs fr) (n := n) (j := j)
 unfold zav at d1 d2
 have e1 : gV bs fr j = rawV (bs.getD j Blk.zero) (fr.getD j 0) := rfl
 have e2 : gU bs fr j = rawU (bs.getD j Blk.zero) (fr.getD j 0) := rfl
 have e3 : gI bs fr j = rawI (bs.getD j Blk.zero) (fr.getD j 0) := rfl
 generalize hbb : bs.getD j Blk.zero = b at *
 generalize fr.getD j 0 = f at *
 have rb : (rws zao bs).getD j [] = [.v (.int .i64 b.k), .sl 1 (rws zad b.a), .v (.int .i64 b.vn), .v (.int .i64 b.ve), .v (.int .i64 b.un), .v (.int .i64 b.ue)] := rb
 rw [hD] at d1 d2
 rw [hL] at d3 d4
 simp only [hD, hL, hmD, hmL]
 rw [hD, hmD] at dl
 rw [hL, hmL] at cl
 have hloD : (rws zad D).length = mD := by rw [zab, hmD]
 have hloL : (rws zad L).length = mL := by rw [zab, hmL]
 have eD : (rws zad D).take mD ++ [[AV.v (.int .i64 (j : Int))]] = rws zad (D ++ [(j : Int)]) := zbV hmD
 have eL : (rws zad L).take mL ++ [[AV.v (.int .i64 (j : Int))]] = rws zad (L ++ [(j : Int)]) := zbV hmL
 have eV : ∀ x, gV bs fr j = x → (rws zad (zaY (gV bs fr) n j)).set j [.v (.int .i64 x)] = rws zad (zaY (gV bs fr) n (j + 1)) := fun x hx => by rw [← hV, ← hx]; exact zba _ _ _
 have eU : ∀ x, gU bs fr j = x → (rws zad (zaY (gU bs fr) n j)).set j [.v (.int .i64 x)] = rws zad (zaY (gU bs fr) n (j + 1)) := fun x hx => by rw [← hU, ← hx]; exact zba _ _ _
 have eI : ∀ x, gI bs fr j = x → (rws zad (zaY (gI bs fr) n j)).set j [.v (.int .i64 x)] = rws zad (zaY (gI bs fr) n (j + 1)) := fun x hx => by rw [← hI, ← hx]; exact zba _ _ _
 clear hV hU hI hD hL
 unfold rawV at e1
 unfold rawU at e2
 unfold rawI at e3
 unfold scB at sc
 simp only [] at sc
 by_cases k11 : b.k = 11
 ·rw [if_pos (.inl k11)] at e1
  rw [if_pos k11] at e2
  rw [if_neg (by omega)] at e3
  repeat rw [if_neg (by omega)] at sc
  rw [if_pos k11, Bool.and_eq_true, Bool.and_eq_true] at sc
  have r1 := zeh b.vn b.ve f (bk.val (.inr (.inr (.inr k11)))) f1 sc.1.2
  have r2 := zeh b.un b.ue f (bk.upp k11) f1 sc.2
  have eV := eV _ e1
  have eU := eU _ e2
  have sI := sI e3
  have d2 := d2 (by omega)
  have d3 := d3 k11
  generalize (zdW b.vn b.ve f).toInt = x at *
  generalize (zdW b.un b.ue f).toInt = y at *
  clear bk sc d1 d4 eI sV sU aV eD e1 e2 e3 hbb
  rw [k11] at rb
  repeat' (first | simp only [go_sem, seval, zab, hn, hlf, rb, rf, eV, eU, eL, lV, lU, lI, rV, rU, rI] | simp (disch := omega) only [wA] | (with_reducible first | refine cA ?_ | refine dA ?_) | (refine zas za1 rfl rfl rfl rfl ⟨rfl, by decide⟩ rfl ⟨trivial, by (try simp only [List.length_cons, List.length_nil, List.length_append, zaa, List.length_map, hloL]); omega, by (try simp only [List.length_cons, List.length_nil, List.length_append, zaa, List.length_map, hloL]); omega⟩ (fun _ => zbj) ?_) | (refine zar za1 rfl rfl rfl rfl rfl ⟨rfl, rfl, by decide, Nat.le_of_ble_eq_true rfl⟩ (fun h => by first | (cases h; done) | decide) rfl ⟨trivial, by (try simp only [List.length_cons, List.length_nil, List.length_append, zaa, List.length_map, hloL]); omega, by (try simp only [List.length_cons, List.length_nil, List.length_append, zaa, List.length_map, hloL]); omega, by (try simp only [List.length_cons, List.length_nil, List.length_append, zaa, List.length_map, hloL]); omega⟩ zbj zfC zfB ?_) | refine aI ?_ | refine dI ?_ | refine dG ?_ | ((first | refine cC ?_ ?_ | refine gS ?_ ?_ | refine dS ?_ ?_) <;> intro hc <;> simp only [hc] <;> try simp only [dcA] at hc <;> try omega) | refine aP ?_ | refine dP ?_)
  refine zac (α := Nat) (j + 1) ?_ ?_ ?_
  ·show j + 1 ≤ n; omega
  ·show n - (j + 1) < n - j; omega
  rw [d2, d3, sI, List.length_append, hmL, hmD]
  exact zah
 by_cases k1 : b.k = 1
 ·rw [if_pos (.inr (.inl k1))] at e1
  rw [if_neg (by omega)] at e2
  rw [if_neg (by omega)] at e3
  rw [if_neg (by omega), if_pos k1] at sc
  have r1 := zeh b.vn b.ve f (bk.val (.inl k1)) f1 sc
  have eV := eV _ e1
  have sU := sU e2
  have sI := sI e3
  have d2 := d2 (by omega)
  have d4 := d4 (by omega)
  generalize (zdW b.vn b.ve f).toInt = x at *
  clear bk sc d1 d3 eI eU sV aV eD eL e1 e2 e3 hbb
  rw [k1] at rb
  refine wkr (zc11 hn hlf rb rf eV lV lU lI rV rU rI) ?_
  refine zac (α := Nat) (j + 1) ?_ ?_ ?_
  ·show j + 1 ≤ n; omega
  ·show n - (j + 1) < n - j; omega
  rw [d2, d4, sI, sU, hmL, hmD]
  exact zah
 by_cases k2 : b.k = 2
 ·rw [if_pos (.inr (.inr k2))] at e1
  rw [if_neg (by omega)] at e2
  rw [if_pos k2] at e3
  repeat rw [if_neg (by omega)] at sc
  rw [if_pos k2, Bool.and_eq_true] at sc
  have r1 := zeh b.vn b.ve f (bk.val (.inr (.inl k2))) f1 sc.2
  have eV := eV _ e1
  have sU := sU e2
  have eI := eI _ e3
  have d1 := d1 k2
  have d4 := d4 (by omega)
  rw [e1] at aV
  have lV1 := zaC (gV bs fr) n (j + 1)
  generalize (zdW b.vn b.ve f).toInt = x at *
  clear bk sc d2 d3 eU sV sI eL e1 e2 e3 hbb
  rw [k2] at rb
  repeat' (first | simp only [go_sem, seval, zab, hn, hlf, rb, rf, eV, eI, eD, aV, lV, lV1, lU, lI, rV, rU, rI] | simp (disch := omega) only [wA] | (with_reducible first | refine cA ?_ | refine dA ?_) | (refine zas za1 rfl rfl rfl rfl ⟨rfl, by decide⟩ rfl ⟨trivial, by (try simp only [List.length_cons, List.length_nil, List.length_append, zaa, List.length_map, hloD]); omega, by (try simp only [List.length_cons, List.length_nil, List.length_append, zaa, List.length_map, hloD]); omega⟩ (fun _ => zbj) ?_) | (refine zar za1 rfl rfl rfl rfl rfl ⟨rfl, rfl, by decide, Nat.le_of_ble_eq_true rfl⟩ (fun h => by first | (cases h; done) | decide) rfl ⟨trivial, by (try simp only [List.length_cons, List.length_nil, List.length_append, zaa, List.length_map, hloD]); omega, by (try simp only [List.length_cons, List.length_nil, List.length_append, zaa, List.length_map, hloD]); omega, by (try simp only [List.length_cons, List.length_nil, List.length_append, zaa, List.length_map, hloD]); omega⟩ zbj zfC zfB ?_) | refine aI ?_ | refine dI ?_ | refine dG ?_ | ((first | refine cC ?_ ?_ | refine gS ?_ ?_ | refine dS ?_ ?_) <;> intro hc <;> simp only [hc] <;> try simp only [dcA] at hc <;> try omega) | refine aP ?_ | refine dP ?_)
  refine zac (α := Nat) (j + 1) ?_ ?_ ?_
  ·show j + 1 ≤ n; omega
  ·show n - (j + 1) < n - j; omega
  rw [d1, d4, sU, List.length_append, hmL, hmD]
  exact zah
 rw [if_neg (show ¬ (b.k = 11 ∨ b.k = 1 ∨ b.k = 2) by omega)] at e1
 rw [if_neg k11] at e2
 rw [if_neg k2] at e3
 have sV := sV e1
 have sU := sU e2
 have sI := sI e3
 have d2n := d2 k2
 have d4n := d4 k11
 clear bk sc d1 d2 d3 d4 eU eV eI eD eL aV e1 e2 e3 hbb
 generalize b.k = kk at *
 refine wkr (zc10 hn hlf rb rf lV lU lI rV rU rI) ?_
 refine zac (α := Nat) (j + 1) ?_ ?_ ?_
 ·show j + 1 ≤ n; omega
 ·show n - (j + 1) < n - j; omega
 rw [d2n, d4n, sV, sU, sI, hmL, hmD]
 exact zah
set_option maxHeartbeats 4000000
def cpS3 (ins : List (Int × Int × Int)) (bs : List Blk) (outs fr O D L V U I0 : List Int) (n nP m mc k : Nat) : AS := ⟨[(1, .sl 1 (rws zad fr)), (2, .p 0 3 0 0), (4, .p 1 4 0 0), (6, .sl 1 (rws zad O)), (11, .p 9 4 0 0), (12, .ps 12 1 0 n), (13, .ps 14 1 0 n), (14, .ps 16 1 0 n), (15, .ps 20 1 0 m), (16, .ps 21 1 0 mc), (160, .ps 20 1 0 m), (161, .v (.int .i64 m)), (162, .v (.int .i64 k))], [(0, ⟨3, [[.sl 3 (rws zaD ins), .sl 6 (rws zao bs), .sl 1 (rws zad outs)]]⟩), (1, ⟨4, [[.v (.slice none 0 0), .v (.slice none 0 0), .v (.slice none 0 0), .v (.slice none 0 0)]]⟩), (9, ⟨4, [[.ps 5 3 0 nP, .ps 7 1 0 (n + k), .v (.slice none 0 0), .v (.slice none 0 0)]]⟩), (5, ⟨3, rws zaD ins⟩), (7, ⟨1, rws zad (I0 ++ List.replicate k 0)⟩), (12, ⟨1, rws zad V⟩), (14, ⟨1, rws zad U⟩), (16, ⟨1, rws zad (zdS n D k)⟩), (20, ⟨1, rws zad D⟩), (21, ⟨1, rws zad L⟩)], 22⟩
theorem cp_L3 {q : Nat} {s : AS} {r : List It} {Q : Lab → AS → Prop} (ins : List (Int × Int × Int)) (bs : List Blk) (outs fr O D L V U I0 : List Int) (n nP m mc : Nat) (h64 : n ≤ 64) (hmn : m ≤ n) (hD : D.length = m) (hI : I0.length = n) (hd : ∀ k, k < m → 0 ≤ D.getD k 0 ∧ (D.getD k 0).toNat < n) (cb : zae zao)
  (hw : zaI s (cpS3 ins bs outs fr O D L V U I0 n nP m mc 0)) (h : ∀ Q', QUp Q Q' → ex cpC (q + 192) r ⟨(163, .v (.bool false)) :: (cpS3 ins bs outs fr O D L V U I0 n nP m mc m).env, (cpS3 ins bs outs fr O D L V U I0 n nP m mc m).mem, 22⟩ Q') : ex cpC (q + 200) (.code (zbo 15) :: r) s Q := by
 unfold cpC at h ⊢
 simp only [zbo, zbd, Tryz.f6, Option.getD_some, List.cons_append, List.nil_append, List.getD_cons_succ, List.getD_cons_zero]
 refine wk zc0 ?_
 refine lL (α := Nat) (fun k => ⟨[(1, .sl 1 (rws zad fr)), (2, .p 0 3 0 0), (4, .p 1 4 0 0), (6, .sl 1 (rws zad O)), (11, .p 9 4 0 0), (12, .ps 12 1 0 n), (13, .ps 14 1 0 n), (14, .ps 16 1 0 n), (15, .ps 20 1 0 m), (16, .ps 21 1 0 mc), (160, .ps 20 1 0 m), (161, .v (.int .i64 m)), (162, .v (.int .i64 k))], [(0, ⟨3, [[.sl 3 (rws zaD ins), .sl 6 (rws zao bs), .sl 1 (rws zad outs)]]⟩), (1, ⟨4, [[.v (.slice none 0 0), .v (.slice none 0 0), .v (.slice none 0 0), .v (.slice none 0 0)]]⟩), (9, ⟨4, [[.ps 5 3 0 nP, .ps 7 1 0 (n + k), .v (.slice none 0 0), .v (.slice none 0 0)]]⟩), (5, ⟨3, rws zaD ins⟩), (7, ⟨1, rws zad (I0 ++ List.replicate k 0)⟩), (12, ⟨1, rws zad V⟩), (14, ⟨1, rws zad U⟩), (16, ⟨1, rws zad (zdS n D k)⟩), (20, ⟨1, rws zad D⟩), (21, ⟨1, rws zad L⟩)], 22⟩) (fun k => k ≤ m) (fun k => m - k) (0) ?_ ?_ ?_
 ·exact Nat.zero_le _
 ·exact hw
 rintro k hk
 by_cases hkm : k < m
 case neg =>
  obtain rfl : k = m := by omega
  refine wkr hD ?_
  exact h _ (fun l s hl hq => .inr ⟨hl _, hq⟩)
 clear h hw
 have rd := ig (l := D) (i := k) (by omega)
 obtain ⟨d1, d2⟩ := hd k hkm
 clear hd
 have e1 : zdS n D (k + 1) = (zdS n D k).set (D.getD k 0).toNat ((n + k : Nat) : Int) := rfl
 obtain ⟨p, hp⟩ : ∃ p : Nat, D.getD k 0 = (p : Int) := ⟨(D.getD k 0).toNat, by omega⟩
 rw [hp] at rd d2 e1
 rw [Int.toNat_natCast] at d2 e1
 have lc := zcs n D k
 have e2 : (rws zad (zdS n D k)).set p [.v (.int .i64 ((n + k : Nat) : Int))] = rws zad (zdS n D (k + 1)) := by rw [e1]; exact zba _ _ _
 have rc := ig (l := zdS n D k) (i := p) (by omega)
 generalize zdS n D k = C at *
 have lI : (I0 ++ List.replicate k (0 : Int)).length = n + k := by rw [List.length_append, List.length_replicate, hI]
 have e3 : (rws zad (I0 ++ List.replicate k 0)).take (n + k) ++ [[AV.v (.int .i64 0)]] = rws zad (I0 ++ List.replicate (k + 1) 0) := by
  rw [List.replicate_succ', ← List.append_assoc]
  exact zbV (x := (0 : Int)) lI
 generalize I0 ++ List.replicate k (0 : Int) = I1 at *
 have hlo : (rws zad I1).length = n + k := by rw [zab, lI]
 repeat' (first | simp only [go_sem, seval, zab, hD, rd, rc, lc, e2, e3] | simp (disch := omega) only [wA] | refine dAp ?_ | refine aAp ?_ | refine aI ?_ | refine dI ?_ | refine dG ?_ | ((first | refine cC ?_ ?_ | refine gS ?_ ?_ | refine dS ?_ ?_) <;> intro hc <;> simp only [hc] <;> try simp only [dcA] at hc <;> try omega) | refine aP ?_ | refine dP ?_)
 refine zac (α := Nat) (k + 1) ?_ ?_ ?_
 ·show k + 1 ≤ m; omega
 ·show m - (k + 1) < m - k; omega
 rw [show n + k + 1 = n + (k + 1) by omega]
 exact zaI.map [(0, 0), (1, 1), (5, 5), (7, 22), (9, 9), (12, 12), (14, 14), (16, 16), (20, 20), (21, 21)] rfl (by decide) (by decide) zml znc
set_option maxHeartbeats 4000000
def cpS4 (ins : List (Int × Int × Int)) (bs : List Blk) (outs fr O D L V U I1 C0 : List Int) (n nP m mc k : Nat) : AS := ⟨[(1, .sl 1 (rws zad fr)), (2, .p 0 3 0 0), (4, .p 1 4 0 0), (6, .sl 1 (rws zad O)), (11, .p 9 4 0 0), (12, .ps 12 1 0 n), (13, .ps 14 1 0 n), (14, .ps 16 1 0 n), (15, .ps 20 1 0 m), (178, .ps 21 1 0 mc), (179, .v (.int .i64 mc)), (180, .v (.int .i64 k))], [(0, ⟨3, [[.sl 3 (rws zaD ins), .sl 6 (rws zao bs), .sl 1 (rws zad outs)]]⟩), (1, ⟨4, [[.v (.slice none 0 0), .v (.slice none 0 0), .v (.slice none 0 0), .v (.slice none 0 0)]]⟩), (9, ⟨4, [[.ps 5 3 0 nP, .ps 7 1 0 (n + m + 2 * k), .v (.slice none 0 0), .v (.slice none 0 0)]]⟩), (5, ⟨3, rws zaD ins⟩), (7, ⟨1, rws zad (zic I1 V U L k)⟩), (12, ⟨1, rws zad V⟩), (14, ⟨1, rws zad U⟩), (16, ⟨1, rws zad (zd1 n m C0 L k)⟩), (20, ⟨1, rws zad D⟩), (21, ⟨1, rws zad L⟩)], 22⟩
theorem cp_L4 {q : Nat} {s : AS} {r : List It} {Q : Lab → AS → Prop} (ins : List (Int × Int × Int)) (bs : List Blk) (outs fr O D L V U I1 C0 : List Int) (n nP m mc : Nat) (h64 : n ≤ 64) (hmn : m ≤ n) (hmc : mc ≤ n) (hL : L.length = mc) (hI : I1.length = n + m) (hC : C0.length = n) (hV : V.length = n) (hU : U.length = n) (hd : ∀ k, k < mc → 0 ≤ L.getD k 0 ∧ (L.getD k 0).toNat < n) (cb : zae zao)
  (hw : zaI s (cpS4 ins bs outs fr O D L V U I1 C0 n nP m mc 0)) (h : ∀ Q', QUp Q Q' → ex cpC (q + 192) r ⟨(181, .v (.bool false)) :: (cpS4 ins bs outs fr O D L V U I1 C0 n nP m mc mc).env, (cpS4 ins bs outs fr O D L V U I1 C0 n nP m mc mc).mem, 22⟩ Q') : ex cpC (q + 200) (.code (zbo 17) :: r) s Q := by
 unfold cpC at h ⊢
 simp only [zbo, zbd, Tryz.f6, Option.getD_some, List.cons_append, List.nil_append, List.getD_cons_succ, List.getD_cons_zero]
 refine wk zc0 ?_
 refine lL (α := Nat) (fun k => ⟨[(1, .sl 1 (rws zad fr)), (2, .p 0 3 0 0), (4, .p 1 4 0 0), (6, .sl 1 (rws zad O)), (11, .p 9 4 0 0), (12, .ps 12 1 0 n), (13, .ps 14 1 0 n), (14, .ps 16 1 0 n), (15, .ps 20 1 0 m), (178, .ps 21 1 0 mc), (179, .v (.int .i64 mc)), (180, .v (.int .i64 k))], [(0, ⟨3, [[.sl 3 (rws zaD ins), .sl 6 (rws zao bs), .sl 1 (rws zad outs)]]⟩), (1, ⟨4, [[.v (.slice none 0 0), .v (.slice none 0 0), .v (.slice none 0 0), .v (.slice none 0 0)]]⟩), (9, ⟨4, [[.ps 5 3 0 nP, .ps 7 1 0 (n + m + 2 * k), .v (.slice none 0 0), .v (.slice none 0 0)]]⟩), (5, ⟨3, rws zaD ins⟩), (7, ⟨1, rws zad (zic I1 V U L k)⟩), (12, ⟨1, rws zad V⟩), (14, ⟨1, rws zad U⟩), (16, ⟨1, rws zad (zd1 n m C0 L k)⟩), (20, ⟨1, rws zad D⟩), (21, ⟨1, rws zad L⟩)], 22⟩) (fun k => k ≤ mc) (fun k => mc - k) (0) ?_ ?_ ?_
 ·exact Nat.zero_le _
 ·exact hw
 rintro k hk
 by_cases hkm : k < mc
 case neg =>
  obtain rfl : k = mc := by omega
  refine wkr hL ?_
  exact h _ (fun l s hl hq => .inr ⟨hl _, hq⟩)
 clear h hw
 have rd := ig (l := L) (i := k) (by omega)
 obtain ⟨d1, d2⟩ := hd k hkm
 clear hd
 have e1 : zd1 n m C0 L (k + 1) = (zd1 n m C0 L k).set (L.getD k 0).toNat ((n + m + 2 * k : Nat) : Int) := rfl
 have i1 : zic I1 V U L (k + 1) = zic I1 V U L k ++ [V.getD (L.getD k 0).toNat 0, U.getD (L.getD k 0).toNat 0] := rfl
 obtain ⟨p, hp⟩ : ∃ p : Nat, L.getD k 0 = (p : Int) := ⟨(L.getD k 0).toNat, by omega⟩
 rw [hp] at rd d2 e1 i1
 rw [Int.toNat_natCast] at d2 e1 i1
 have lc := zek n m C0 L k
 rw [hC] at lc
 have e2 : (rws zad (zd1 n m C0 L k)).set p [.v (.int .i64 ((n + m + 2 * k : Nat) : Int))] = rws zad (zd1 n m C0 L (k + 1)) := by rw [e1]; exact zba _ _ _
 have rc := ig (l := zd1 n m C0 L k) (i := p) (by omega)
 have rV := ig (l := V) (i := p) (by omega)
 have rU := ig (l := U) (i := p) (by omega)
 generalize zd1 n m C0 L k = C at *
 have lI : (zic I1 V U L k).length = n + m + 2 * k := by rw [zey, hI]
 have e3 : (rws zad (zic I1 V U L k)).take (n + m + 2 * k) ++ [[AV.v (.int .i64 (V.getD p 0))], [AV.v (.int .i64 (U.getD p 0))]] = rws zad (zic I1 V U L (k + 1)) := by
  rw [i1]
  exact zjG lI
 clear e1 i1
 generalize V.getD p 0 = x at *
 generalize U.getD p 0 = y at *
 generalize zic I1 V U L k = I2 at *
 repeat' (first | simp only [go_sem, seval, zab, hL, lI, rd, rc, lc, hV, hU, rV, rU, e2, e3] | simp (disch := omega) only [wA] | refine dAp ?_ | refine aAp ?_ | refine aI ?_ | refine dI ?_ | refine dG ?_ | ((first | refine cC ?_ ?_ | refine gS ?_ ?_ | refine dS ?_ ?_) <;> intro hc <;> simp only [hc] <;> try simp only [dcA] at hc <;> try omega) | refine aP ?_ | refine dP ?_)
 refine zac (α := Nat) (k + 1) ?_ ?_ ?_
 ·show k + 1 ≤ mc; omega
 ·show mc - (k + 1) < mc - k; omega
 rw [show n + m + 2 * k + 2 = n + m + 2 * (k + 1) by omega]
 exact zaI.map [(0, 0), (1, 1), (5, 5), (7, 33), (9, 9), (12, 12), (14, 14), (16, 16), (20, 20), (21, 21)] rfl (by decide) (by decide) zml znc
set_option maxHeartbeats 8000000
def cpS5 (ins : List (Int × Int × Int)) (bs : List Blk) (outs fr O D V C I2 : List Int) (n nP nC m oL k : Nat) : AS := ⟨[(1, .sl 1 (rws zad fr)), (2, .p 0 3 0 0), (4, .p 1 4 0 0), (11, .p 9 4 0 0), (12, .ps 12 1 0 n), (14, .ps 16 1 0 n), (15, .ps 20 1 0 m), (204, .sl 1 (rws zad O)), (205, .v (.int .i64 oL)), (206, .v (.int .i64 k))], [(0, ⟨3, [[.sl 3 (rws zaD ins), .sl 6 (rws zao bs), .sl 1 (rws zad outs)]]⟩), (1, ⟨4, [[.v (.slice none 0 0), .v (.slice none 0 0), .v (.slice none 0 0), .v (.slice none 0 0)]]⟩), (9, ⟨4, [[.ps 5 3 0 nP, .ps 7 1 0 nC, .ps 22 7 0 (zbr ins bs fr C V O k).length, .v (.slice none 0 0)]]⟩), (5, ⟨3, rws zaD ins⟩), (7, ⟨1, rws zad I2⟩), (12, ⟨1, rws zad V⟩), (16, ⟨1, rws zad C⟩), (20, ⟨1, rws zad D⟩), (22, ⟨7, rws zbn (zbr ins bs fr C V O k)⟩)], 23⟩
theorem snoc1 {L : List Ins} {q : Nat} (hL : L.length = q) {x : Ins} {l : List AV} (hl : l = zbn x) : (rws zbn L).take q ++ [l] = rws zbn (L ++ [x]) := by
 subst hl; exact zbV hL
theorem snoc2 {L : List Ins} {q : Nat} (hL : L.length = q) {x y : Ins} {l l' : List AV} (hl : l = zbn x) (hl' : l' = zbn y) : (rws zbn L).take q ++ [l, l'] = rws zbn (L ++ [x, y]) := by
 subst hl; subst hl'; exact zjG hL
theorem cp_L5 {q : Nat} {s : AS} {r : List It} {Q : Lab → AS → Prop} (ins : List (Int × Int × Int)) (bs : List Blk) (outs fr O D V C I2 : List Int) (n nP nC m oL : Nat) (hn : bs.length = n) (H : CpOK ins bs outs fr) (hoL : O.length = oL) (hon : oL ≤ n) (ho : ∀ k, k < oL → 0 ≤ O.getD k 0 ∧ (O.getD k 0).toNat < n ∧ (bs.getD (O.getD k 0).toNat Blk.zero).k ≠ 2) (hV : V.length = n) (hC : C.length = n) (hC0 : ∀ i, i < n → 0 ≤ C.getD i 0 ∧ C.getD i 0 ≤ 1000) (cb : zae zao) (ci : zae zbn)
  (hw : zaI s (cpS5 ins bs outs fr O D V C I2 n nP nC m oL 0)) (h : ∀ Q', QUp Q Q' → ex cpC (q + 192) r ⟨(207, .v (.bool false)) :: (cpS5 ins bs outs fr O D V C I2 n nP nC m oL oL).env, (cpS5 ins bs outs fr O D V C I2 n nP nC m oL oL).mem, 23⟩ Q') : ex cpC (q + 200) (.code (zbo 19) :: r) s Q := by
 have h64 := H.dg.nB
 rw [hn] at h64
 have hlf := H.lf
 rw [hn] at hlf
 unfold cpC at h ⊢
 simp only [zbo, zbd, Tryz.f6, Option.getD_some, List.cons_append, List.nil_append, List.getD_cons_succ, List.getD_cons_zero]
 refine wk zc0 ?_
 refine lL (α := Nat) (fun k => ⟨[(1, .sl 1 (rws zad fr)), (2, .p 0 3 0 0), (4, .p 1 4 0 0), (11, .p 9 4 0 0), (12, .ps 12 1 0 n), (14, .ps 16 1 0 n), (15, .ps 20 1 0 m), (204, .sl 1 (rws zad O)), (205, .v (.int .i64 oL)), (206, .v (.int .i64 k))], [(0, ⟨3, [[.sl 3 (rws zaD ins), .sl 6 (rws zao bs), .sl 1 (rws zad outs)]]⟩), (1, ⟨4, [[.v (.slice none 0 0), .v (.slice none 0 0), .v (.slice none 0 0), .v (.slice none 0 0)]]⟩), (9, ⟨4, [[.ps 5 3 0 nP, .ps 7 1 0 nC, .ps 22 7 0 (zbr ins bs fr C V O k).length, .v (.slice none 0 0)]]⟩), (5, ⟨3, rws zaD ins⟩), (7, ⟨1, rws zad I2⟩), (12, ⟨1, rws zad V⟩), (16, ⟨1, rws zad C⟩), (20, ⟨1, rws zad D⟩), (22, ⟨7, rws zbn (zbr ins bs fr C V O k)⟩)], 23⟩) (fun k => k ≤ oL ∧ (zbr ins bs fr C V O k).length ≤ 2 * k) (fun k => oL - k) (0) ?_ ?_ ?_
 ·exact ⟨Nat.zero_le _, Nat.le_refl _⟩
 ·exact hw
 rintro k ⟨hk, hlq⟩
 by_cases hkm : k < oL
 case neg =>
  obtain rfl : k = oL := by omega
  clear H
  refine wkr hoL ?_
  exact h _ (fun l s hl hq => .inr ⟨hl _, hq⟩)
 clear h hw
 have rd := ig (l := O) (i := k) (by omega)
 obtain ⟨d1, d2, d3⟩ := ho k hkm
 clear ho
 have e1 : zbr ins bs fr C V O (k + 1) = zbr ins bs fr C V O k ++ zib ins fr C V (O.getD k 0).toNat (bs.getD (O.getD k 0).toNat Blk.zero) := rfl
 obtain ⟨i, hi⟩ : ∃ p : Nat, O.getD k 0 = (p : Int) := ⟨(O.getD k 0).toNat, by omega⟩
 rw [hi] at rd d2 d3 e1
 rw [Int.toNat_natCast] at d2 d3 e1
 have rb := bg (l := bs) (i := i) (by omega)
 have rf := ig (l := fr) (i := i) (by omega)
 have rV := ig (l := V) (i := i) (by omega)
 have rC := ig (l := C) (i := i) (by omega)
 have bk := H.dg.blk i (by omega)
 have f1 := H.hf i (by omega)
 have c1 := hC0 i d2
 have hF := H.hf
 have hP := H.dg.ports
 have sc := H.sc i (by omega)
 clear H hC0
 rw [hn] at bk hF
 generalize hbb : bs.getD i Blk.zero = b at *
 have rb : (rws zao bs).getD i [] = [.v (.int .i64 b.k), .sl 1 (rws zad b.a), .v (.int .i64 b.vn), .v (.int .i64 b.ve), .v (.int .i64 b.un), .v (.int .i64 b.ue)] := rb
 obtain ⟨lq, hlq2⟩ : ∃ lq, (zbr ins bs fr C V O k).length = lq := ⟨_, rfl⟩
 simp only [hlq2]
 rw [hlq2] at hlq
 have hle : (zbr ins bs fr C V O (k + 1)).length ≤ 2 * (k + 1) := by
  rw [e1, List.length_append, hlq2]
  have : (zib ins fr C V i b).length ≤ 2 := by
   unfold zib
   simp only []
   repeat' split
   all_goals simp
  omega
 generalize zbr ins bs fr C V O k = L at *
 have hlo : (rws zbn L).length = lq := by rw [zab, hlq2]
 have e2 : ∀ x l, zib ins fr C V i b = [x] → l = zbn x → (rws zbn L).take lq ++ [l] = rws zbn (zbr ins bs fr C V O (k + 1)) := fun x l hx hl => by rw [e1, hx]; exact snoc1 hlq2 hl
 have e3 : ∀ x y l l', zib ins fr C V i b = [x, y] → l = zbn x → l' = zbn y → (rws zbn L).take lq ++ [l, l'] = rws zbn (zbr ins bs fr C V O (k + 1)) := fun x y l l' hx hl hl' => by rw [e1, hx]; exact snoc2 hlq2 hl hl'
 have e4 : ∀ x, zib ins fr C V i b = [x] → (zbr ins bs fr C V O (k + 1)).length = lq + 1 := fun x hx => by rw [e1, hx, List.length_append, hlq2]; rfl
 have e5 : ∀ x y, zib ins fr C V i b = [x, y] → (zbr ins bs fr C V O (k + 1)).length = lq + 2 := fun x y hx => by rw [e1, hx, List.length_append, hlq2]; rfl
 clear e1 hbb
 have kd := bk.kind
 have vs := bk.val
 unfold zib at e2 e3 e4 e5
 simp only [] at e2 e3 e4 e5
 unfold scB at sc
 simp only [] at sc
 obtain ⟨L', hL'⟩ : ∃ L', zbr ins bs fr C V O (k + 1) = L' := ⟨_, rfl⟩
 rw [hL'] at hle
 simp only [hL'] at e2 e3 e4 e5
 by_cases k0 : b.k = 0
 ·obtain ⟨hp, hpe⟩ := bk.inp k0
  have ha := bk.ai k0
  rw [if_pos k0] at e2 e4
  clear e3 e5 sc
  have e6 := e4 _ rfl
  clear e4
  generalize b.at 0 = p at *
  have rp := pg (l := ins) (i := p) hp
  have hpo := hP p hp
  rw [ha, k0] at rb
  clear bk vs hP hF
  generalize ins.getD p (0, 0, 0) = pt at *
  obtain ⟨p1, p2, p3⟩ := pt
  change (rws zaD ins).getD p [] = [.v (.int .i64 p1), .v (.int .i64 p2), .v (.int .i64 p3)] at rp
  obtain ⟨_, _, hpo⟩ := hpo
  have hpo : 0 ≤ p3 ∧ p3 ≤ 30 := hpo
  generalize fr.getD i 0 = f at *
  have e7 := e2 _ [.v (.int .i64 0), .v (.int .i64 i), .v (.int .i64 p), .v (.int .i64 0), .v (.int .i64 (f - p3)), .v (.int .i64 0), .v (.int .i64 0)] rfl rfl
  have a0 : (rws zad [(p : Int)]).getD 0 [] = [.v (.int .i64 p)] := rfl
  repeat' (first | simp only [go_sem, seval, zab, hn, hoL, hlf, rd, rb, rf, rp, hlq2, a0, e7] | simp (disch := omega) only [wA] | refine dAp ?_ | refine aAp ?_ | refine aI ?_ | refine dI ?_ | refine dG ?_ | ((first | refine cC ?_ ?_ | refine gS ?_ ?_ | refine dS ?_ ?_) <;> intro hc <;> simp only [hc] <;> try simp only [dcA] at hc <;> try omega) | refine aP ?_ | refine dP ?_)
  refine zac (α := Nat) (k + 1) ⟨?_, by show (zbr ins bs fr C V O (k + 1)).length ≤ 2 * (k + 1); rw [hL']; exact hle⟩ ?_ ?_
  ·show k + 1 ≤ oL; omega
  ·show oL - (k + 1) < oL - k; omega
  simp only [hL']
  rw [e6]
  exact zaI.map [(0, 0), (1, 1), (5, 5), (7, 7), (9, 9), (12, 12), (16, 16), (20, 20), (22, 47)] rfl (by decide) (by decide) zml znc
 rw [if_neg k0] at e2 e3 e4 e5
 by_cases k1 : b.k = 1
 ·have ha := bk.a0 k1
  rw [if_pos k1] at e2 e4
  clear e3 e5 sc
  have e6 := e4 _ rfl
  clear e4
  rw [ha, k1] at rb
  clear bk vs hP hF
  generalize fr.getD i 0 = f at *
  generalize V.getD i 0 = v at *
  have e7 := e2 _ [.v (.int .i64 1), .v (.int .i64 i), .v (.int .i64 0), .v (.int .i64 0), .v (.int .i64 0), .v (.int .i64 0), .v (.int .i64 v)] rfl rfl
  repeat' (first | simp only [go_sem, seval, zab, hn, hoL, hlf, rd, rb, rf, rV, hV, hlq2, e7] | simp (disch := omega) only [wA] | refine dAp ?_ | refine aAp ?_ | refine aI ?_ | refine dI ?_ | refine dG ?_ | ((first | refine cC ?_ ?_ | refine gS ?_ ?_ | refine dS ?_ ?_) <;> intro hc <;> simp only [hc] <;> try simp only [dcA] at hc <;> try omega) | refine aP ?_ | refine dP ?_)
  refine zac (α := Nat) (k + 1) ⟨?_, by show (zbr ins bs fr C V O (k + 1)).length ≤ 2 * (k + 1); rw [hL']; exact hle⟩ ?_ ?_
  ·show k + 1 ≤ oL; omega
  ·show oL - (k + 1) < oL - k; omega
  simp only [hL']
  rw [e6]
  exact zaI.map [(0, 0), (1, 1), (5, 5), (7, 7), (9, 9), (12, 12), (16, 16), (20, 20), (22, 33)] rfl (by decide) (by decide) zml znc
 rw [if_neg k1] at e2 e3 e4 e5
 by_cases k6 : b.k = 6
 ·obtain ⟨ha, hp⟩ := bk.a1 (by omega)
  have vs := vs (by omega)
  rw [if_pos k6] at e2 e4
  clear e3 e5 sc
  have e6 := e4 _ rfl
  clear e4
  generalize b.at 0 = p at *
  have rp := ig (l := fr) (i := p) (by omega)
  have f2 := hF p hp
  rw [ha, k6] at rb
  clear bk hP hF
  generalize fr.getD p 0 = fp at *
  generalize fr.getD i 0 = f at *
  unfold zbO at vs
  have e7 := e2 _ [.v (.int .i64 6), .v (.int .i64 i), .v (.int .i64 p), .v (.int .i64 0), .v (.int .i64 (f - fp + b.ve)), .v (.int .i64 0), .v (.int .i64 b.vn)] rfl rfl
  have a0 : (rws zad [(p : Int)]).getD 0 [] = [.v (.int .i64 p)] := rfl
  repeat' (first | simp only [go_sem, seval, zab, hn, hoL, hlf, rd, rb, rf, rp, hlq2, a0, e7] | simp (disch := omega) only [wA] | refine dAp ?_ | refine aAp ?_ | refine aI ?_ | refine dI ?_ | refine dG ?_ | ((first | refine cC ?_ ?_ | refine gS ?_ ?_ | refine dS ?_ ?_) <;> intro hc <;> simp only [hc] <;> try simp only [dcA] at hc <;> try omega) | refine aP ?_ | refine dP ?_)
  refine zac (α := Nat) (k + 1) ⟨?_, by show (zbr ins bs fr C V O (k + 1)).length ≤ 2 * (k + 1); rw [hL']; exact hle⟩ ?_ ?_
  ·show k + 1 ≤ oL; omega
  ·show oL - (k + 1) < oL - k; omega
  simp only [hL']
  rw [e6]
  exact zaI.map [(0, 0), (1, 1), (5, 5), (7, 7), (9, 9), (12, 12), (16, 16), (20, 20), (22, 52)] rfl (by decide) (by decide) zml znc
 rw [if_neg k6] at e2 e3 e4 e5
 by_cases k7 : b.k = 7
 ·obtain ⟨ha, hp, hq⟩ := bk.a2 (by omega)
  rw [if_pos k7] at e2 e4
  clear e3 e5 sc
  have e6 := e4 _ rfl
  clear e4
  generalize b.at 0 = p at *
  generalize b.at 1 = q at *
  have rp := ig (l := fr) (i := p) (by omega)
  have f2 := hF p hp
  have rq := ig (l := fr) (i := q) (by omega)
  have f3 := hF q hq
  rw [ha, k7] at rb
  clear bk hP hF vs
  generalize fr.getD p 0 = fp at *
  generalize fr.getD q 0 = fq at *
  generalize fr.getD i 0 = f at *
  have e7 := e2 _ [.v (.int .i64 7), .v (.int .i64 i), .v (.int .i64 p), .v (.int .i64 q), .v (.int .i64 (f - fp - fq)), .v (.int .i64 0), .v (.int .i64 0)] rfl rfl
  have a0 : (rws zad [(p : Int), (q : Int)]).getD 0 [] = [.v (.int .i64 p)] := rfl
  have a1 : (rws zad [(p : Int), (q : Int)]).getD 1 [] = [.v (.int .i64 q)] := rfl
  repeat' (first | simp only [go_sem, seval, zab, hn, hoL, hlf, rd, rb, rf, rp, rq, hlq2, a0, a1, e7] | simp (disch := omega) only [wA] | refine dAp ?_ | refine aAp ?_ | refine aI ?_ | refine dI ?_ | refine dG ?_ | ((first | refine cC ?_ ?_ | refine gS ?_ ?_ | refine dS ?_ ?_) <;> intro hc <;> simp only [hc] <;> try simp only [dcA] at hc <;> try omega) | refine aP ?_ | refine dP ?_)
  refine zac (α := Nat) (k + 1) ⟨?_, by show (zbr ins bs fr C V O (k + 1)).length ≤ 2 * (k + 1); rw [hL']; exact hle⟩ ?_ ?_
  ·show k + 1 ≤ oL; omega
  ·show oL - (k + 1) < oL - k; omega
  simp only [hL']
  rw [e6]
  exact zaI.map [(0, 0), (1, 1), (5, 5), (7, 7), (9, 9), (12, 12), (16, 16), (20, 20), (22, 57)] rfl (by decide) (by decide) zml znc
 rw [if_neg k7] at e2 e3 e4 e5
 by_cases k11 : b.k = 11
 ·obtain ⟨ha, hp⟩ := bk.a1 (by omega)
  rw [if_pos k11] at e3 e5
  clear e2 e4 sc vs
  have e6 := e5 _ _ rfl
  clear e5
  generalize b.at 0 = p at *
  have rp := ig (l := fr) (i := p) (by omega)
  have f2 := hF p hp
  rw [ha, k11] at rb
  clear bk hP hF
  generalize fr.getD p 0 = fp at *
  generalize fr.getD i 0 = f at *
  generalize C.getD i 0 = c at *
  have e7 := e3 _ _ [.v (.int .i64 9), .v (.int .i64 i), .v (.int .i64 p), .v (.int .i64 c), .v (.int .i64 (f - fp)), .v (.int .i64 0), .v (.int .i64 0)] [.v (.int .i64 8), .v (.int .i64 i), .v (.int .i64 i), .v (.int .i64 (c + 1)), .v (.int .i64 0), .v (.int .i64 0), .v (.int .i64 0)] rfl rfl rfl
  have a0 : (rws zad [(p : Int)]).getD 0 [] = [.v (.int .i64 p)] := rfl
  repeat' (first | simp only [go_sem, seval, zab, hn, hoL, hlf, rd, rb, rf, rp, rC, hC, hlq2, a0, e7] | simp (disch := omega) only [wA] | refine dAp ?_ | refine aAp ?_ | refine aI ?_ | refine dI ?_ | refine dG ?_ | ((first | refine cC ?_ ?_ | refine gS ?_ ?_ | refine dS ?_ ?_) <;> intro hc <;> simp only [hc] <;> try simp only [dcA] at hc <;> try omega) | refine aP ?_ | refine dP ?_)
  refine zac (α := Nat) (k + 1) ⟨?_, by show (zbr ins bs fr C V O (k + 1)).length ≤ 2 * (k + 1); rw [hL']; exact hle⟩ ?_ ?_
  ·show k + 1 ≤ oL; omega
  ·show oL - (k + 1) < oL - k; omega
  simp only [hL']
  rw [e6]
  exact zaI.map [(0, 0), (1, 1), (5, 5), (7, 7), (9, 9), (12, 12), (16, 16), (20, 20), (22, 57)] rfl (by decide) (by decide) zml znc
 rw [if_neg k11] at e2 e3 e4 e5
 by_cases k5 : b.k = 5
 ·obtain ⟨ha, hp⟩ := bk.a1 (by omega)
  rw [if_pos k5] at e2 e4
  clear e3 e5 sc vs
  have e6 := e4 _ rfl
  clear e4
  generalize b.at 0 = p at *
  have rp := ig (l := fr) (i := p) (by omega)
  have f2 := hF p hp
  rw [ha, k5] at rb
  clear bk hP hF
  generalize fr.getD p 0 = fp at *
  generalize fr.getD i 0 = f at *
  have op := cp_op 5
  rw [show opOf 5 = 5 from rfl] at op
  have e7 := e2 _ [.v (.int .i64 5), .v (.int .i64 i), .v (.int .i64 p), .v (.int .i64 0), .v (.int .i64 (f - fp)), .v (.int .i64 0), .v (.int .i64 0)] rfl rfl
  have a0 : (rws zad [(p : Int)]).getD 0 [] = [.v (.int .i64 p)] := rfl
  repeat' (first | simp only [go_sem, seval, zab, hn, hoL, hlf, rd, rb, rf, rp, hlq2, a0, e7] | simp (disch := omega) only [wA] | (with_reducible first | refine cA ?_ | refine dA ?_) | refine dAp ?_ | refine aAp ?_ | refine aI ?_ | refine dI ?_ | refine dG ?_ | ((first | refine cC ?_ ?_ | refine gS ?_ ?_ | refine dS ?_ ?_) <;> intro hc <;> simp only [hc] <;> try simp only [dcA] at hc <;> try omega) | refine aP ?_ | refine dP ?_)
  refine zac (α := Nat) (k + 1) ⟨?_, by show (zbr ins bs fr C V O (k + 1)).length ≤ 2 * (k + 1); rw [hL']; exact hle⟩ ?_ ?_
  ·show k + 1 ≤ oL; omega
  ·show oL - (k + 1) < oL - k; omega
  simp only [hL']
  rw [e6]
  exact zaI.map [(0, 0), (1, 1), (5, 5), (7, 7), (9, 9), (12, 12), (16, 16), (20, 20), (22, 47)] rfl (by decide) (by decide) zml znc
 rw [if_neg k5] at e2 e3 e4 e5
 by_cases k10 : b.k = 10
 ·obtain ⟨ha, hp⟩ := bk.a1 (by omega)
  rw [if_pos k10] at e2 e4
  clear e3 e5 sc vs
  have e6 := e4 _ rfl
  clear e4
  generalize b.at 0 = p at *
  have rp := ig (l := fr) (i := p) (by omega)
  have f2 := hF p hp
  rw [ha, k10] at rb
  clear bk hP hF
  generalize fr.getD p 0 = fp at *
  generalize fr.getD i 0 = f at *
  have op := cp_op 10
  rw [show opOf 10 = 10 from rfl] at op
  have e7 := e2 _ [.v (.int .i64 10), .v (.int .i64 i), .v (.int .i64 p), .v (.int .i64 0), .v (.int .i64 (f - fp)), .v (.int .i64 0), .v (.int .i64 0)] rfl rfl
  have a0 : (rws zad [(p : Int)]).getD 0 [] = [.v (.int .i64 p)] := rfl
  repeat' (first | simp only [go_sem, seval, zab, hn, hoL, hlf, rd, rb, rf, rp, hlq2, a0, e7] | simp (disch := omega) only [wA] | (with_reducible first | refine cA ?_ | refine dA ?_) | refine dAp ?_ | refine aAp ?_ | refine aI ?_ | refine dI ?_ | refine dG ?_ | ((first | refine cC ?_ ?_ | refine gS ?_ ?_ | refine dS ?_ ?_) <;> intro hc <;> simp only [hc] <;> try simp only [dcA] at hc <;> try omega) | refine aP ?_ | refine dP ?_)
  refine zac (α := Nat) (k + 1) ⟨?_, by show (zbr ins bs fr C V O (k + 1)).length ≤ 2 * (k + 1); rw [hL']; exact hle⟩ ?_ ?_
  ·show k + 1 ≤ oL; omega
  ·show oL - (k + 1) < oL - k; omega
  simp only [hL']
  rw [e6]
  exact zaI.map [(0, 0), (1, 1), (5, 5), (7, 7), (9, 9), (12, 12), (16, 16), (20, 20), (22, 47)] rfl (by decide) (by decide) zml znc
 rw [if_neg k10] at e2 e3 e4 e5
 have kk : b.k = 3 ∨ b.k = 4 ∨ b.k = 8 ∨ b.k = 9 := by omega
 obtain ⟨ha, hp, hq⟩ := bk.a2 (by omega)
 clear e3 e5 sc vs
 have e6 := e4 _ rfl
 clear e4
 generalize b.at 0 = p at *
 generalize b.at 1 = q at *
 have rp := ig (l := fr) (i := p) (by omega)
 have f2 := hF p hp
 have rq := ig (l := fr) (i := q) (by omega)
 have f3 := hF q hq
 have op := cp_op b.k
 rw [show opOf b.k = b.k by unfold opOf; rcases kk with h | h | h | h <;> rw [h] <;> rfl] at op
 rw [ha] at rb
 clear bk hP hF ha k0 k1 k6 k7 k11 k5 k10
 generalize fr.getD p 0 = fp at *
 generalize fr.getD q 0 = fq at *
 generalize fr.getD i 0 = f at *
 generalize b.k = bk at *
 have e7 := e2 _ [.v (.int .i64 bk), .v (.int .i64 i), .v (.int .i64 p), .v (.int .i64 q), .v (.int .i64 (f - fp)), .v (.int .i64 (f - fq)), .v (.int .i64 0)] rfl rfl
 have a0 : (rws zad [(p : Int), (q : Int)]).getD 0 [] = [.v (.int .i64 p)] := rfl
 have a1 : (rws zad [(p : Int), (q : Int)]).getD 1 [] = [.v (.int .i64 q)] := rfl
 repeat' (first | simp only [go_sem, seval, zab, hn, hoL, hlf, rd, rb, rf, rp, rq, hlq2, a0, a1, e7] | simp (disch := omega) only [wA] | (with_reducible first | refine cA ?_ | refine dA ?_) | refine dAp ?_ | refine aAp ?_ | refine aI ?_ | refine dI ?_ | refine dG ?_ | ((first | refine cC ?_ ?_ | refine gS ?_ ?_ | refine dS ?_ ?_) <;> intro hc <;> simp only [hc] <;> try simp only [dcA] at hc <;> try omega) | refine aP ?_ | refine dP ?_)
 refine zac (α := Nat) (k + 1) ⟨?_, by show (zbr ins bs fr C V O (k + 1)).length ≤ 2 * (k + 1); rw [hL']; exact hle⟩ ?_ ?_
 ·show k + 1 ≤ oL; omega
 ·show oL - (k + 1) < oL - k; omega
 simp only [hL']
 rw [e6]
 exact zaI.map [(0, 0), (1, 1), (5, 5), (7, 7), (9, 9), (12, 12), (16, 16), (20, 20), (22, 67)] rfl (by decide) (by decide) zml znc
end Go.Proofs.YtcpmeibfggoebaaGreatDoor
