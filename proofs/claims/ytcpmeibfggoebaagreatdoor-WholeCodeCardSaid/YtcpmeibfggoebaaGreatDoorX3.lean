/- What the functions that the statement reaches compute. -/
import Derived.Test.YtcpmeibfggoebaaGreatDoorX2
import Derived.Test.YtcpmeibfggoebaaGreatDoorV3
import Derived.Test.YtcpmeibfggoebaaGreatDoorX1
import Derived.Test.YtcpmeibfggoebaaGreatDoorV4
set_option linter.unusedSimpArgs false
set_option linter.unusedVariables false
set_option linter.deprecated false
namespace Go.Proofs.YtcpmeibfggoebaaGreatDoor
open Go Go.Ax
set_option maxRecDepth 100000
set_option maxHeartbeats 4000000
theorem zeU (ki : Int) (k : Nat) (hki : ki = (k : Int)) (a : List Int) (kk vn ve un ue f : Int) (R : List Iv) (fr : List Int) (oa : Option Addr) (ln cp : Nat) (er : List Dy) (u : Dy) (N m p : Nat) (hN : er.length = N) (h0 : 0 < N) (hf : fr.length = N) (hm : a.length = m) (hk : k < m) (ha : a.getD k 0 = (p : Int)) (hp : p < N) (hE : Mg 9000 (er.getD p Dy.zero)) (hu : Mg 9000 u) (cc : zae zaj) (cv : zae ivr) : CallW Tryz.prog gl 97 [.v (.int .i64 ki), .rp [.v (.int .i64 kk), .sl 1 (rws zad a), .v (.int .i64 vn), .v (.int .i64 ve), .v (.int .i64 un), .v (.int .i64 ue)], .rp [.v (.int .i64 f)], .rp [.sl 1 (rws zad fr), .sl 6 (rws ivr R), .v (.slice oa ln cp)], .rp [.ps 0 3 0 N], .rp [.v (.bool (sg u)), .sl 1 (u32s (ms u)), .v (.int .i64 (dn u))]] ⟨3, rws zaj er⟩ (.agg [.v (.bool (sg (mvd f (fr.getD p 0) u (er.getD p Dy.zero)))), .sl 1 (u32s (ms (mvd f (fr.getD p 0) u (er.getD p Dy.zero)))), .v (.int .i64 (dn (mvd f (fr.getD p 0) u (er.getD p Dy.zero))))]) ⟨3, rws zaj er⟩ := by
 refine okW 31 Tryz.call97 Tryz.func97 Tryz.ntmps97 Tryz.results97 ?_
 subst hki
 have ra := ig (l := a) (i := k) (by omega)
 rw [ha] at ra
 have rf := ig (l := fr) (i := p) (by omega)
 have rv := cg (l := er) (i := p) (by omega)
 have r := zbT _ _ _ _ _ _ _ _ (hE.arg (by omega)) (hu.arg (by omega))
 unfold mvd
 generalize (er.getD p Dy.zero).add u = z at *
 generalize er.getD p Dy.zero = x at *
 generalize fr.getD p 0 = g at *
 clear hE hu
 by_cases h : g ≤ f
 ·rw [if_pos h]
  exact wfr (zc6 hN hm hf ra rv rf)
 ·rw [if_neg h]
  exact wfr (zc6 hN hm hf ra rv rf)
theorem cl_b0 (ins : List (Int × Int × Int)) (bs : List Blk) (outs : List Int) (vn ve un ue : Int) (R : List Iv) (fr : List Int) (oa : Option Addr) (ln cp : Nat) (er : List Dy) (N : Nat) (hN : er.length = N) (h0 : 0 < N) (hf : fr.length = N) (hR : R.length = N) (hM : ∀ i, i < N → Mg 9000 (er.getD i Dy.zero)) (hF : ∀ i, i < N → 0 ≤ fr.getD i 0 ∧ fr.getD i 0 ≤ 30) (cb : zae zao) (cc : zae zaj) (cv : zae ivr) (p nP : Nat) (hP : ins.length = nP) (hp : p < nP) (i : Nat) (hB : bs.length = N) (hi : i < N) (hb : bs.getD i Blk.zero = ⟨0, [(p : Int)], vn, ve, un, ue⟩) : CallW Tryz.prog gl 57 [AG ins bs outs, .agg [.sl 1 (rws zad fr), .sl 6 (rws ivr R), .v (.slice oa ln cp)], .ps 0 3 0 N, .v (.int .i64 i)] ⟨3, rws zaj er⟩ (.agg [.v (.bool (sg (inx (decide (fr.getD i 0 < (ins.getD p (0, 0, 0)).2.2)) (zai (fr.getD i 0))))), .sl 1 (u32s (ms (inx (decide (fr.getD i 0 < (ins.getD p (0, 0, 0)).2.2)) (zai (fr.getD i 0))))), .v (.int .i64 (dn (inx (decide (fr.getD i 0 < (ins.getD p (0, 0, 0)).2.2)) (zai (fr.getD i 0)))))]) ⟨3, rws zaj er⟩ := by
 refine okW 200 Tryz.call57 Tryz.func57 Tryz.ntmps57 Tryz.results57 ?_
 have rb := bg (l := bs) (i := i) (by omega)
 rw [hb] at rb
 have rb : (rws zao bs).getD i [] = [.v (.int .i64 0), .sl 1 (rws zad [(p : Int)]), .v (.int .i64 vn), .v (.int .i64 ve), .v (.int .i64 un), .v (.int .i64 ue)] := rb
 have fi := hF i hi
 have rf := ig (l := fr) (i := i) (by omega)
 have u0 : Mg 9000 (zai (fr.getD i 0)) := (za5 _ fi.1).mono (by omega)
 have u1 := zaM (fr.getD i 0) (by omega)
 have rp := pg (l := ins) (i := p) (by omega)
 have rp : (rws zaD ins).getD p [] = [.v (.int .i64 (ins.getD p (0, 0, 0)).1), .v (.int .i64 (ins.getD p (0, 0, 0)).2.1), .v (.int .i64 (ins.getD p (0, 0, 0)).2.2)] := rp
 generalize ins.getD p (0, 0, 0) = P at *
 obtain ⟨P1, P2, P3⟩ := P
 simp only at rp ⊢
 have ix := zdY (decide (fr.getD i 0 < P3)) (zai (fr.getD i 0))
 clear hM u0 hF
 generalize zai (fr.getD i 0) = u at *
 generalize fr.getD i 0 = f at *
 generalize inx (decide (f < P3)) u = z at *
 exact wflt [5, 6, 2, 3, 7] (zc8 hN hf hR hB rb rf hP rp)
theorem cl_b1 (ins : List (Int × Int × Int)) (bs : List Blk) (outs : List Int) (vn ve un ue : Int) (R : List Iv) (fr : List Int) (oa : Option Addr) (ln cp : Nat) (er : List Dy) (N : Nat) (hN : er.length = N) (h0 : 0 < N) (hf : fr.length = N) (hR : R.length = N) (hM : ∀ i, i < N → Mg 9000 (er.getD i Dy.zero)) (hF : ∀ i, i < N → 0 ≤ fr.getD i 0 ∧ fr.getD i 0 ≤ 30) (cb : zae zao) (cc : zae zaj) (cv : zae ivr) (h : zbO vn ve) (i : Nat) (hB : bs.length = N) (hi : i < N) (hb : bs.getD i Blk.zero = ⟨1, [], vn, ve, un, ue⟩) : CallW Tryz.prog gl 57 [AG ins bs outs, .agg [.sl 1 (rws zad fr), .sl 6 (rws ivr R), .v (.slice oa ln cp)], .ps 0 3 0 N, .v (.int .i64 i)] ⟨3, rws zaj er⟩ (.agg [.v (.bool (sg (inx (!zbp (scN vn ve) (fr.getD i 0)) (zai (fr.getD i 0))))), .sl 1 (u32s (ms (inx (!zbp (scN vn ve) (fr.getD i 0)) (zai (fr.getD i 0))))), .v (.int .i64 (dn (inx (!zbp (scN vn ve) (fr.getD i 0)) (zai (fr.getD i 0)))))]) ⟨3, rws zaj er⟩ := by
 refine okW 200 Tryz.call57 Tryz.func57 Tryz.ntmps57 Tryz.results57 ?_
 have rb := bg (l := bs) (i := i) (by omega)
 rw [hb] at rb
 have rb : (rws zao bs).getD i [] = [.v (.int .i64 1), .sl 1 (rws zad []), .v (.int .i64 vn), .v (.int .i64 ve), .v (.int .i64 un), .v (.int .i64 ue)] := rb
 have fi := hF i hi
 have rf := ig (l := fr) (i := i) (by omega)
 have u0 : Mg 9000 (zai (fr.getD i 0)) := (za5 _ fi.1).mono (by omega)
 have u1 := zaM (fr.getD i 0) (by omega)
 have w := zdc vn ve (fr.getD i 0) h
 have ix := zdY (!zbp (scN vn ve) (fr.getD i 0)) (zai (fr.getD i 0))
 clear h
 clear hM u0 hF
 generalize zai (fr.getD i 0) = u at *
 generalize fr.getD i 0 = f at *
 generalize zbp (scN vn ve) f = b at *
 generalize inx (!b) u = z at *
 exact wflt [5, 6, 2, 3, 7] (zc6 hN hf hR hB rb rf)
theorem cl_b3 (ins : List (Int × Int × Int)) (bs : List Blk) (outs : List Int) (vn ve un ue : Int) (R : List Iv) (fr : List Int) (oa : Option Addr) (ln cp : Nat) (er : List Dy) (N : Nat) (hN : er.length = N) (h0 : 0 < N) (hf : fr.length = N) (hR : R.length = N) (hM : ∀ i, i < N → Mg 9000 (er.getD i Dy.zero)) (hF : ∀ i, i < N → 0 ≤ fr.getD i 0 ∧ fr.getD i 0 ≤ 30) (cb : zae zao) (cc : zae zaj) (cv : zae ivr) (p : Nat) (hp : p < N) (q : Nat) (hq : q < N) (i : Nat) (hB : bs.length = N) (hi : i < N) (hb : bs.getD i Blk.zero = ⟨3, [(p : Int), (q : Int)], vn, ve, un, ue⟩) : CallW Tryz.prog gl 57 [AG ins bs outs, .agg [.sl 1 (rws zad fr), .sl 6 (rws ivr R), .v (.slice oa ln cp)], .ps 0 3 0 N, .v (.int .i64 i)] ⟨3, rws zaj er⟩ (.agg [.v (.bool (sg ((mvd (fr.getD i 0) (fr.getD p 0) (zai (fr.getD i 0)) (er.getD p Dy.zero)).add (mvd (fr.getD i 0) (fr.getD q 0) (zai (fr.getD i 0)) (er.getD q Dy.zero))))), .sl 1 (u32s (ms ((mvd (fr.getD i 0) (fr.getD p 0) (zai (fr.getD i 0)) (er.getD p Dy.zero)).add (mvd (fr.getD i 0) (fr.getD q 0) (zai (fr.getD i 0)) (er.getD q Dy.zero))))), .v (.int .i64 (dn ((mvd (fr.getD i 0) (fr.getD p 0) (zai (fr.getD i 0)) (er.getD p Dy.zero)).add (mvd (fr.getD i 0) (fr.getD q 0) (zai (fr.getD i 0)) (er.getD q Dy.zero)))))]) ⟨3, rws zaj er⟩ := by
 refine okW 200 Tryz.call57 Tryz.func57 Tryz.ntmps57 Tryz.results57 ?_
 have rb := bg (l := bs) (i := i) (by omega)
 rw [hb] at rb
 have rb : (rws zao bs).getD i [] = [.v (.int .i64 3), .sl 1 (rws zad [(p : Int), (q : Int)]), .v (.int .i64 vn), .v (.int .i64 ve), .v (.int .i64 un), .v (.int .i64 ue)] := rb
 have fi := hF i hi
 have rf := ig (l := fr) (i := i) (by omega)
 have u0 : Mg 9000 (zai (fr.getD i 0)) := (za5 _ fi.1).mono (by omega)
 have u1 := zaM (fr.getD i 0) (by omega)
 have e0 := zeU 0 0 rfl [(p : Int), (q : Int)] 3 vn ve un ue (fr.getD i 0) R fr oa ln cp er (zai (fr.getD i 0)) N 2 p hN h0 hf rfl (by decide) rfl hp (hM p hp) u0 cc cv
 have m0 : Mg 9001 (mvd (fr.getD i 0) (fr.getD p 0) (zai (fr.getD i 0)) (er.getD p Dy.zero)) := zaW (hM p hp) u0
 have e1 := zeU 1 1 rfl [(p : Int), (q : Int)] 3 vn ve un ue (fr.getD i 0) R fr oa ln cp er (zai (fr.getD i 0)) N 2 q hN h0 hf rfl (by decide) rfl hq (hM q hq) u0 cc cv
 have m1 : Mg 9001 (mvd (fr.getD i 0) (fr.getD q 0) (zai (fr.getD i 0)) (er.getD q Dy.zero)) := zaW (hM q hq) u0
 have r := zbT _ _ _ _ _ _ _ _ (m0.arg (by omega)) (m1.arg (by omega))
 generalize (mvd (fr.getD i 0) (fr.getD p 0) (zai (fr.getD i 0)) (er.getD p Dy.zero)).add (mvd (fr.getD i 0) (fr.getD q 0) (zai (fr.getD i 0)) (er.getD q Dy.zero)) = z at *
 generalize mvd (fr.getD i 0) (fr.getD p 0) (zai (fr.getD i 0)) (er.getD p Dy.zero) = x0 at *
 generalize mvd (fr.getD i 0) (fr.getD q 0) (zai (fr.getD i 0)) (er.getD q Dy.zero) = x1 at *
 clear hM u0 hF m0 m1
 generalize zai (fr.getD i 0) = u at *
 generalize fr.getD i 0 = f at *
 exact zjw [5, 6, 2, 3, 7] 0 e0 e1 (zc6 hN hf hR hB rb rf)
theorem cl_b4 (ins : List (Int × Int × Int)) (bs : List Blk) (outs : List Int) (vn ve un ue : Int) (R : List Iv) (fr : List Int) (oa : Option Addr) (ln cp : Nat) (er : List Dy) (N : Nat) (hN : er.length = N) (h0 : 0 < N) (hf : fr.length = N) (hR : R.length = N) (hM : ∀ i, i < N → Mg 9000 (er.getD i Dy.zero)) (hF : ∀ i, i < N → 0 ≤ fr.getD i 0 ∧ fr.getD i 0 ≤ 30) (cb : zae zao) (cc : zae zaj) (cv : zae ivr) (p : Nat) (hp : p < N) (q : Nat) (hq : q < N) (i : Nat) (hB : bs.length = N) (hi : i < N) (hb : bs.getD i Blk.zero = ⟨4, [(p : Int), (q : Int)], vn, ve, un, ue⟩) : CallW Tryz.prog gl 57 [AG ins bs outs, .agg [.sl 1 (rws zad fr), .sl 6 (rws ivr R), .v (.slice oa ln cp)], .ps 0 3 0 N, .v (.int .i64 i)] ⟨3, rws zaj er⟩ (.agg [.v (.bool (sg ((mvd (fr.getD i 0) (fr.getD p 0) (zai (fr.getD i 0)) (er.getD p Dy.zero)).add (mvd (fr.getD i 0) (fr.getD q 0) (zai (fr.getD i 0)) (er.getD q Dy.zero))))), .sl 1 (u32s (ms ((mvd (fr.getD i 0) (fr.getD p 0) (zai (fr.getD i 0)) (er.getD p Dy.zero)).add (mvd (fr.getD i 0) (fr.getD q 0) (zai (fr.getD i 0)) (er.getD q Dy.zero))))), .v (.int .i64 (dn ((mvd (fr.getD i 0) (fr.getD p 0) (zai (fr.getD i 0)) (er.getD p Dy.zero)).add (mvd (fr.getD i 0) (fr.getD q 0) (zai (fr.getD i 0)) (er.getD q Dy.zero)))))]) ⟨3, rws zaj er⟩ := by
 refine okW 200 Tryz.call57 Tryz.func57 Tryz.ntmps57 Tryz.results57 ?_
 have rb := bg (l := bs) (i := i) (by omega)
 rw [hb] at rb
 have rb : (rws zao bs).getD i [] = [.v (.int .i64 4), .sl 1 (rws zad [(p : Int), (q : Int)]), .v (.int .i64 vn), .v (.int .i64 ve), .v (.int .i64 un), .v (.int .i64 ue)] := rb
 have fi := hF i hi
 have rf := ig (l := fr) (i := i) (by omega)
 have u0 : Mg 9000 (zai (fr.getD i 0)) := (za5 _ fi.1).mono (by omega)
 have u1 := zaM (fr.getD i 0) (by omega)
 have e0 := zeU 0 0 rfl [(p : Int), (q : Int)] 4 vn ve un ue (fr.getD i 0) R fr oa ln cp er (zai (fr.getD i 0)) N 2 p hN h0 hf rfl (by decide) rfl hp (hM p hp) u0 cc cv
 have m0 : Mg 9001 (mvd (fr.getD i 0) (fr.getD p 0) (zai (fr.getD i 0)) (er.getD p Dy.zero)) := zaW (hM p hp) u0
 have e1 := zeU 1 1 rfl [(p : Int), (q : Int)] 4 vn ve un ue (fr.getD i 0) R fr oa ln cp er (zai (fr.getD i 0)) N 2 q hN h0 hf rfl (by decide) rfl hq (hM q hq) u0 cc cv
 have m1 : Mg 9001 (mvd (fr.getD i 0) (fr.getD q 0) (zai (fr.getD i 0)) (er.getD q Dy.zero)) := zaW (hM q hq) u0
 have r := zbT _ _ _ _ _ _ _ _ (m0.arg (by omega)) (m1.arg (by omega))
 generalize (mvd (fr.getD i 0) (fr.getD p 0) (zai (fr.getD i 0)) (er.getD p Dy.zero)).add (mvd (fr.getD i 0) (fr.getD q 0) (zai (fr.getD i 0)) (er.getD q Dy.zero)) = z at *
 generalize mvd (fr.getD i 0) (fr.getD p 0) (zai (fr.getD i 0)) (er.getD p Dy.zero) = x0 at *
 generalize mvd (fr.getD i 0) (fr.getD q 0) (zai (fr.getD i 0)) (er.getD q Dy.zero) = x1 at *
 clear hM u0 hF m0 m1
 generalize zai (fr.getD i 0) = u at *
 generalize fr.getD i 0 = f at *
 exact zjw [5, 6, 2, 3, 7] 0 e0 e1 (zc6 hN hf hR hB rb rf)
theorem cl_b8 (ins : List (Int × Int × Int)) (bs : List Blk) (outs : List Int) (vn ve un ue : Int) (R : List Iv) (fr : List Int) (oa : Option Addr) (ln cp : Nat) (er : List Dy) (N : Nat) (hN : er.length = N) (h0 : 0 < N) (hf : fr.length = N) (hR : R.length = N) (hM : ∀ i, i < N → Mg 9000 (er.getD i Dy.zero)) (hF : ∀ i, i < N → 0 ≤ fr.getD i 0 ∧ fr.getD i 0 ≤ 30) (cb : zae zao) (cc : zae zaj) (cv : zae ivr) (p : Nat) (hp : p < N) (q : Nat) (hq : q < N) (i : Nat) (hB : bs.length = N) (hi : i < N) (hb : bs.getD i Blk.zero = ⟨8, [(p : Int), (q : Int)], vn, ve, un, ue⟩) : CallW Tryz.prog gl 57 [AG ins bs outs, .agg [.sl 1 (rws zad fr), .sl 6 (rws ivr R), .v (.slice oa ln cp)], .ps 0 3 0 N, .v (.int .i64 i)] ⟨3, rws zaj er⟩ (.agg [.v (.bool (sg ((mvd (fr.getD i 0) (fr.getD p 0) (zai (fr.getD i 0)) (er.getD p Dy.zero)).max (mvd (fr.getD i 0) (fr.getD q 0) (zai (fr.getD i 0)) (er.getD q Dy.zero))))), .sl 1 (u32s (ms ((mvd (fr.getD i 0) (fr.getD p 0) (zai (fr.getD i 0)) (er.getD p Dy.zero)).max (mvd (fr.getD i 0) (fr.getD q 0) (zai (fr.getD i 0)) (er.getD q Dy.zero))))), .v (.int .i64 (dn ((mvd (fr.getD i 0) (fr.getD p 0) (zai (fr.getD i 0)) (er.getD p Dy.zero)).max (mvd (fr.getD i 0) (fr.getD q 0) (zai (fr.getD i 0)) (er.getD q Dy.zero)))))]) ⟨3, rws zaj er⟩ := by
 refine okW 200 Tryz.call57 Tryz.func57 Tryz.ntmps57 Tryz.results57 ?_
 have rb := bg (l := bs) (i := i) (by omega)
 rw [hb] at rb
 have rb : (rws zao bs).getD i [] = [.v (.int .i64 8), .sl 1 (rws zad [(p : Int), (q : Int)]), .v (.int .i64 vn), .v (.int .i64 ve), .v (.int .i64 un), .v (.int .i64 ue)] := rb
 have fi := hF i hi
 have rf := ig (l := fr) (i := i) (by omega)
 have u0 : Mg 9000 (zai (fr.getD i 0)) := (za5 _ fi.1).mono (by omega)
 have u1 := zaM (fr.getD i 0) (by omega)
 have e0 := zeU 0 0 rfl [(p : Int), (q : Int)] 8 vn ve un ue (fr.getD i 0) R fr oa ln cp er (zai (fr.getD i 0)) N 2 p hN h0 hf rfl (by decide) rfl hp (hM p hp) u0 cc cv
 have m0 : Mg 9001 (mvd (fr.getD i 0) (fr.getD p 0) (zai (fr.getD i 0)) (er.getD p Dy.zero)) := zaW (hM p hp) u0
 have e1 := zeU 1 1 rfl [(p : Int), (q : Int)] 8 vn ve un ue (fr.getD i 0) R fr oa ln cp er (zai (fr.getD i 0)) N 2 q hN h0 hf rfl (by decide) rfl hq (hM q hq) u0 cc cv
 have m1 : Mg 9001 (mvd (fr.getD i 0) (fr.getD q 0) (zai (fr.getD i 0)) (er.getD q Dy.zero)) := zaW (hM q hq) u0
 have r := zct _ _ _ _ _ _ _ _ (m0.arg (by omega)) (m1.arg (by omega))
 generalize (mvd (fr.getD i 0) (fr.getD p 0) (zai (fr.getD i 0)) (er.getD p Dy.zero)).max (mvd (fr.getD i 0) (fr.getD q 0) (zai (fr.getD i 0)) (er.getD q Dy.zero)) = z at *
 generalize mvd (fr.getD i 0) (fr.getD p 0) (zai (fr.getD i 0)) (er.getD p Dy.zero) = x0 at *
 generalize mvd (fr.getD i 0) (fr.getD q 0) (zai (fr.getD i 0)) (er.getD q Dy.zero) = x1 at *
 clear hM u0 hF m0 m1
 generalize zai (fr.getD i 0) = u at *
 generalize fr.getD i 0 = f at *
 exact zjw [5, 6, 2, 3, 7] 0 e0 e1 (zc6 hN hf hR hB rb rf)
theorem cl_b9 (ins : List (Int × Int × Int)) (bs : List Blk) (outs : List Int) (vn ve un ue : Int) (R : List Iv) (fr : List Int) (oa : Option Addr) (ln cp : Nat) (er : List Dy) (N : Nat) (hN : er.length = N) (h0 : 0 < N) (hf : fr.length = N) (hR : R.length = N) (hM : ∀ i, i < N → Mg 9000 (er.getD i Dy.zero)) (hF : ∀ i, i < N → 0 ≤ fr.getD i 0 ∧ fr.getD i 0 ≤ 30) (cb : zae zao) (cc : zae zaj) (cv : zae ivr) (p : Nat) (hp : p < N) (q : Nat) (hq : q < N) (i : Nat) (hB : bs.length = N) (hi : i < N) (hb : bs.getD i Blk.zero = ⟨9, [(p : Int), (q : Int)], vn, ve, un, ue⟩) : CallW Tryz.prog gl 57 [AG ins bs outs, .agg [.sl 1 (rws zad fr), .sl 6 (rws ivr R), .v (.slice oa ln cp)], .ps 0 3 0 N, .v (.int .i64 i)] ⟨3, rws zaj er⟩ (.agg [.v (.bool (sg ((mvd (fr.getD i 0) (fr.getD p 0) (zai (fr.getD i 0)) (er.getD p Dy.zero)).max (mvd (fr.getD i 0) (fr.getD q 0) (zai (fr.getD i 0)) (er.getD q Dy.zero))))), .sl 1 (u32s (ms ((mvd (fr.getD i 0) (fr.getD p 0) (zai (fr.getD i 0)) (er.getD p Dy.zero)).max (mvd (fr.getD i 0) (fr.getD q 0) (zai (fr.getD i 0)) (er.getD q Dy.zero))))), .v (.int .i64 (dn ((mvd (fr.getD i 0) (fr.getD p 0) (zai (fr.getD i 0)) (er.getD p Dy.zero)).max (mvd (fr.getD i 0) (fr.getD q 0) (zai (fr.getD i 0)) (er.getD q Dy.zero)))))]) ⟨3, rws zaj er⟩ := by
 refine okW 200 Tryz.call57 Tryz.func57 Tryz.ntmps57 Tryz.results57 ?_
 have rb := bg (l := bs) (i := i) (by omega)
 rw [hb] at rb
 have rb : (rws zao bs).getD i [] = [.v (.int .i64 9), .sl 1 (rws zad [(p : Int), (q : Int)]), .v (.int .i64 vn), .v (.int .i64 ve), .v (.int .i64 un), .v (.int .i64 ue)] := rb
 have fi := hF i hi
 have rf := ig (l := fr) (i := i) (by omega)
 have u0 : Mg 9000 (zai (fr.getD i 0)) := (za5 _ fi.1).mono (by omega)
 have u1 := zaM (fr.getD i 0) (by omega)
 have e0 := zeU 0 0 rfl [(p : Int), (q : Int)] 9 vn ve un ue (fr.getD i 0) R fr oa ln cp er (zai (fr.getD i 0)) N 2 p hN h0 hf rfl (by decide) rfl hp (hM p hp) u0 cc cv
 have m0 : Mg 9001 (mvd (fr.getD i 0) (fr.getD p 0) (zai (fr.getD i 0)) (er.getD p Dy.zero)) := zaW (hM p hp) u0
 have e1 := zeU 1 1 rfl [(p : Int), (q : Int)] 9 vn ve un ue (fr.getD i 0) R fr oa ln cp er (zai (fr.getD i 0)) N 2 q hN h0 hf rfl (by decide) rfl hq (hM q hq) u0 cc cv
 have m1 : Mg 9001 (mvd (fr.getD i 0) (fr.getD q 0) (zai (fr.getD i 0)) (er.getD q Dy.zero)) := zaW (hM q hq) u0
 have r := zct _ _ _ _ _ _ _ _ (m0.arg (by omega)) (m1.arg (by omega))
 generalize (mvd (fr.getD i 0) (fr.getD p 0) (zai (fr.getD i 0)) (er.getD p Dy.zero)).max (mvd (fr.getD i 0) (fr.getD q 0) (zai (fr.getD i 0)) (er.getD q Dy.zero)) = z at *
 generalize mvd (fr.getD i 0) (fr.getD p 0) (zai (fr.getD i 0)) (er.getD p Dy.zero) = x0 at *
 generalize mvd (fr.getD i 0) (fr.getD q 0) (zai (fr.getD i 0)) (er.getD q Dy.zero) = x1 at *
 clear hM u0 hF m0 m1
 generalize zai (fr.getD i 0) = u at *
 generalize fr.getD i 0 = f at *
 exact zjw [5, 6, 2, 3, 7] 0 e0 e1 (zc6 hN hf hR hB rb rf)
theorem cl_b5 (ins : List (Int × Int × Int)) (bs : List Blk) (outs : List Int) (vn ve un ue : Int) (R : List Iv) (fr : List Int) (oa : Option Addr) (ln cp : Nat) (er : List Dy) (N : Nat) (hN : er.length = N) (h0 : 0 < N) (hf : fr.length = N) (hR : R.length = N) (hM : ∀ i, i < N → Mg 9000 (er.getD i Dy.zero)) (hF : ∀ i, i < N → 0 ≤ fr.getD i 0 ∧ fr.getD i 0 ≤ 30) (cb : zae zao) (cc : zae zaj) (cv : zae ivr) (p : Nat) (hp : p < N) (i : Nat) (hB : bs.length = N) (hi : i < N) (hb : bs.getD i Blk.zero = ⟨5, [(p : Int)], vn, ve, un, ue⟩) : CallW Tryz.prog gl 57 [AG ins bs outs, .agg [.sl 1 (rws zad fr), .sl 6 (rws ivr R), .v (.slice oa ln cp)], .ps 0 3 0 N, .v (.int .i64 i)] ⟨3, rws zaj er⟩ (.agg [.v (.bool (sg (mvd (fr.getD i 0) (fr.getD p 0) (zai (fr.getD i 0)) (er.getD p Dy.zero)))), .sl 1 (u32s (ms (mvd (fr.getD i 0) (fr.getD p 0) (zai (fr.getD i 0)) (er.getD p Dy.zero)))), .v (.int .i64 (dn (mvd (fr.getD i 0) (fr.getD p 0) (zai (fr.getD i 0)) (er.getD p Dy.zero))))]) ⟨3, rws zaj er⟩ := by
 refine okW 200 Tryz.call57 Tryz.func57 Tryz.ntmps57 Tryz.results57 ?_
 have rb := bg (l := bs) (i := i) (by omega)
 rw [hb] at rb
 have rb : (rws zao bs).getD i [] = [.v (.int .i64 5), .sl 1 (rws zad [(p : Int)]), .v (.int .i64 vn), .v (.int .i64 ve), .v (.int .i64 un), .v (.int .i64 ue)] := rb
 have fi := hF i hi
 have rf := ig (l := fr) (i := i) (by omega)
 have u0 : Mg 9000 (zai (fr.getD i 0)) := (za5 _ fi.1).mono (by omega)
 have u1 := zaM (fr.getD i 0) (by omega)
 have e0 := zeU 0 0 rfl [(p : Int)] 5 vn ve un ue (fr.getD i 0) R fr oa ln cp er (zai (fr.getD i 0)) N 1 p hN h0 hf rfl (by decide) rfl hp (hM p hp) u0 cc cv
 have m0 : Mg 9001 (mvd (fr.getD i 0) (fr.getD p 0) (zai (fr.getD i 0)) (er.getD p Dy.zero)) := zaW (hM p hp) u0
 generalize mvd (fr.getD i 0) (fr.getD p 0) (zai (fr.getD i 0)) (er.getD p Dy.zero) = x0 at *
 clear hM u0 hF m0
 generalize zai (fr.getD i 0) = u at *
 generalize fr.getD i 0 = f at *
 exact zjw [5, 6, 2, 3, 7] 0 e0 e0 (zc6 hN hf hR hB rb rf)
theorem cl_b10 (ins : List (Int × Int × Int)) (bs : List Blk) (outs : List Int) (vn ve un ue : Int) (R : List Iv) (fr : List Int) (oa : Option Addr) (ln cp : Nat) (er : List Dy) (N : Nat) (hN : er.length = N) (h0 : 0 < N) (hf : fr.length = N) (hR : R.length = N) (hM : ∀ i, i < N → Mg 9000 (er.getD i Dy.zero)) (hF : ∀ i, i < N → 0 ≤ fr.getD i 0 ∧ fr.getD i 0 ≤ 30) (cb : zae zao) (cc : zae zaj) (cv : zae ivr) (p : Nat) (hp : p < N) (i : Nat) (hB : bs.length = N) (hi : i < N) (hb : bs.getD i Blk.zero = ⟨10, [(p : Int)], vn, ve, un, ue⟩) : CallW Tryz.prog gl 57 [AG ins bs outs, .agg [.sl 1 (rws zad fr), .sl 6 (rws ivr R), .v (.slice oa ln cp)], .ps 0 3 0 N, .v (.int .i64 i)] ⟨3, rws zaj er⟩ (.agg [.v (.bool (sg (mvd (fr.getD i 0) (fr.getD p 0) (zai (fr.getD i 0)) (er.getD p Dy.zero)))), .sl 1 (u32s (ms (mvd (fr.getD i 0) (fr.getD p 0) (zai (fr.getD i 0)) (er.getD p Dy.zero)))), .v (.int .i64 (dn (mvd (fr.getD i 0) (fr.getD p 0) (zai (fr.getD i 0)) (er.getD p Dy.zero))))]) ⟨3, rws zaj er⟩ := by
 refine okW 200 Tryz.call57 Tryz.func57 Tryz.ntmps57 Tryz.results57 ?_
 have rb := bg (l := bs) (i := i) (by omega)
 rw [hb] at rb
 have rb : (rws zao bs).getD i [] = [.v (.int .i64 10), .sl 1 (rws zad [(p : Int)]), .v (.int .i64 vn), .v (.int .i64 ve), .v (.int .i64 un), .v (.int .i64 ue)] := rb
 have fi := hF i hi
 have rf := ig (l := fr) (i := i) (by omega)
 have u0 : Mg 9000 (zai (fr.getD i 0)) := (za5 _ fi.1).mono (by omega)
 have u1 := zaM (fr.getD i 0) (by omega)
 have e0 := zeU 0 0 rfl [(p : Int)] 10 vn ve un ue (fr.getD i 0) R fr oa ln cp er (zai (fr.getD i 0)) N 1 p hN h0 hf rfl (by decide) rfl hp (hM p hp) u0 cc cv
 have m0 : Mg 9001 (mvd (fr.getD i 0) (fr.getD p 0) (zai (fr.getD i 0)) (er.getD p Dy.zero)) := zaW (hM p hp) u0
 generalize mvd (fr.getD i 0) (fr.getD p 0) (zai (fr.getD i 0)) (er.getD p Dy.zero) = x0 at *
 clear hM u0 hF m0
 generalize zai (fr.getD i 0) = u at *
 generalize fr.getD i 0 = f at *
 exact zjw [5, 6, 2, 3, 7] 0 e0 e0 (zc6 hN hf hR hB rb rf)
theorem cl_b6 (ins : List (Int × Int × Int)) (bs : List Blk) (outs : List Int) (vn ve un ue : Int) (R : List Iv) (fr : List Int) (oa : Option Addr) (ln cp : Nat) (er : List Dy) (N : Nat) (hN : er.length = N) (h0 : 0 < N) (hf : fr.length = N) (hR : R.length = N) (hM : ∀ i, i < N → Mg 9000 (er.getD i Dy.zero)) (hF : ∀ i, i < N → 0 ≤ fr.getD i 0 ∧ fr.getD i 0 ≤ 30) (cb : zae zao) (cc : zae zaj) (cv : zae ivr) (p : Nat) (hp : p < N) (h : zbO vn ve) (i : Nat) (hB : bs.length = N) (hi : i < N) (hb : bs.getD i Blk.zero = ⟨6, [(p : Int)], vn, ve, un, ue⟩) : CallW Tryz.prog gl 57 [AG ins bs outs, .agg [.sl 1 (rws zad fr), .sl 6 (rws ivr R), .v (.slice oa ln cp)], .ps 0 3 0 N, .v (.int .i64 i)] ⟨3, rws zaj er⟩ (.agg [.v (.bool (sg (((scN vn ve).abs.mul (er.getD p Dy.zero)).add (inx (decide (fr.getD i 0 - fr.getD p 0 + ve < 0)) (zai (fr.getD i 0)))))), .sl 1 (u32s (ms (((scN vn ve).abs.mul (er.getD p Dy.zero)).add (inx (decide (fr.getD i 0 - fr.getD p 0 + ve < 0)) (zai (fr.getD i 0)))))), .v (.int .i64 (dn (((scN vn ve).abs.mul (er.getD p Dy.zero)).add (inx (decide (fr.getD i 0 - fr.getD p 0 + ve < 0)) (zai (fr.getD i 0))))))]) ⟨3, rws zaj er⟩ := by
 refine okW 200 Tryz.call57 Tryz.func57 Tryz.ntmps57 Tryz.results57 ?_
 have rb := bg (l := bs) (i := i) (by omega)
 rw [hb] at rb
 have rb : (rws zao bs).getD i [] = [.v (.int .i64 6), .sl 1 (rws zad [(p : Int)]), .v (.int .i64 vn), .v (.int .i64 ve), .v (.int .i64 un), .v (.int .i64 ue)] := rb
 have fi := hF i hi
 have rf := ig (l := fr) (i := i) (by omega)
 have u0 : Mg 9000 (zai (fr.getD i 0)) := (za5 _ fi.1).mono (by omega)
 have u1 := zaM (fr.getD i 0) (by omega)
 have e0 := zeU 0 0 rfl [(p : Int)] 6 vn ve un ue (fr.getD i 0) R fr oa ln cp er (zai (fr.getD i 0)) N 1 p hN h0 hf rfl (by decide) rfl hp (hM p hp) u0 cc cv
 have m0 : Mg 9001 (mvd (fr.getD i 0) (fr.getD p 0) (zai (fr.getD i 0)) (er.getD p Dy.zero)) := zaW (hM p hp) u0
 have rp := ig (l := fr) (i := p) (by omega)
 have re := cg (l := er) (i := p) (by omega)
 have fp := hF p hp
 have c := zcq vn ve h
 have a1 := zit _ _ _ _ ((zaP h).arg (by omega))
 have r1 := zdd _ _ _ _ _ _ _ _ ((zaP h).abs.arg (by omega)) ((hM p hp).arg (by omega))
 have ix := zdY (decide (fr.getD i 0 - fr.getD p 0 + ve < 0)) (zai (fr.getD i 0))
 have r2 := zbT _ _ _ _ _ _ _ _ (((zaP h).abs.mul (hM p hp)).arg (by omega)) ((zc1 (b := decide (fr.getD i 0 - fr.getD p 0 + ve < 0)) u0).arg (by omega))
 have hv := h
 unfold zbO at hv
 clear h
 generalize ((scN vn ve).abs.mul (er.getD p Dy.zero)).add (inx (decide (fr.getD i 0 - fr.getD p 0 + ve < 0)) (zai (fr.getD i 0))) = z at *
 generalize (scN vn ve).abs.mul (er.getD p Dy.zero) = z1 at *
 generalize (scN vn ve).abs = z2 at *
 generalize scN vn ve = z3 at *
 generalize er.getD p Dy.zero = z4 at *
 clear hM u0 hF m0
 generalize zai (fr.getD i 0) = u at *
 clear e0
 generalize fr.getD i 0 = f at *
 generalize fr.getD p 0 = g at *
 generalize inx (decide (f - g + ve < 0)) u = z5 at *
 exact wflt [5, 6, 2, 3, 7] (zc8 hN hf hR hB rb rf rp re)
theorem cl_b7 (ins : List (Int × Int × Int)) (bs : List Blk) (outs : List Int) (vn ve un ue : Int) (R : List Iv) (fr : List Int) (oa : Option Addr) (ln cp : Nat) (er : List Dy) (N : Nat) (hN : er.length = N) (h0 : 0 < N) (hf : fr.length = N) (hR : R.length = N) (hM : ∀ i, i < N → Mg 9000 (er.getD i Dy.zero)) (hF : ∀ i, i < N → 0 ≤ fr.getD i 0 ∧ fr.getD i 0 ≤ 30) (cb : zae zao) (cc : zae zaj) (cv : zae ivr) (p : Nat) (hp : p < N) (q : Nat) (hq : q < N) (hV : ∀ i, i < N → (R.getD i Iv.zero).Mg 9000) (i : Nat) (hB : bs.length = N) (hi : i < N) (hb : bs.getD i Blk.zero = ⟨7, [(p : Int), (q : Int)], vn, ve, un, ue⟩) : CallW Tryz.prog gl 57 [AG ins bs outs, .agg [.sl 1 (rws zad fr), .sl 6 (rws ivr R), .v (.slice oa ln cp)], .ps 0 3 0 N, .v (.int .i64 i)] ⟨3, rws zaj er⟩ (.agg [.v (.bool (sg ((((((R.getD p Iv.zero).mag).mul (er.getD q Dy.zero)).add (((R.getD q Iv.zero).mag).mul (er.getD p Dy.zero))).add ((er.getD p Dy.zero).mul (er.getD q Dy.zero))).add (inx (decide (fr.getD i 0 - fr.getD p 0 - fr.getD q 0 < 0)) (zai (fr.getD i 0)))))), .sl 1 (u32s (ms ((((((R.getD p Iv.zero).mag).mul (er.getD q Dy.zero)).add (((R.getD q Iv.zero).mag).mul (er.getD p Dy.zero))).add ((er.getD p Dy.zero).mul (er.getD q Dy.zero))).add (inx (decide (fr.getD i 0 - fr.getD p 0 - fr.getD q 0 < 0)) (zai (fr.getD i 0)))))), .v (.int .i64 (dn ((((((R.getD p Iv.zero).mag).mul (er.getD q Dy.zero)).add (((R.getD q Iv.zero).mag).mul (er.getD p Dy.zero))).add ((er.getD p Dy.zero).mul (er.getD q Dy.zero))).add (inx (decide (fr.getD i 0 - fr.getD p 0 - fr.getD q 0 < 0)) (zai (fr.getD i 0))))))]) ⟨3, rws zaj er⟩ := by
 refine okW 200 Tryz.call57 Tryz.func57 Tryz.ntmps57 Tryz.results57 ?_
 have rb := bg (l := bs) (i := i) (by omega)
 rw [hb] at rb
 have rb : (rws zao bs).getD i [] = [.v (.int .i64 7), .sl 1 (rws zad [(p : Int), (q : Int)]), .v (.int .i64 vn), .v (.int .i64 ve), .v (.int .i64 un), .v (.int .i64 ue)] := rb
 have fi := hF i hi
 have rf := ig (l := fr) (i := i) (by omega)
 have u0 : Mg 9000 (zai (fr.getD i 0)) := (za5 _ fi.1).mono (by omega)
 have u1 := zaM (fr.getD i 0) (by omega)
 have e0 := zeU 0 0 rfl [(p : Int), (q : Int)] 7 vn ve un ue (fr.getD i 0) R fr oa ln cp er (zai (fr.getD i 0)) N 2 p hN h0 hf rfl (by decide) rfl hp (hM p hp) u0 cc cv
 have m0 : Mg 9001 (mvd (fr.getD i 0) (fr.getD p 0) (zai (fr.getD i 0)) (er.getD p Dy.zero)) := zaW (hM p hp) u0
 have e1 := zeU 1 1 rfl [(p : Int), (q : Int)] 7 vn ve un ue (fr.getD i 0) R fr oa ln cp er (zai (fr.getD i 0)) N 2 q hN h0 hf rfl (by decide) rfl hq (hM q hq) u0 cc cv
 have m1 : Mg 9001 (mvd (fr.getD i 0) (fr.getD q 0) (zai (fr.getD i 0)) (er.getD q Dy.zero)) := zaW (hM q hq) u0
 have rp := ig (l := fr) (i := p) (by omega)
 have rq := ig (l := fr) (i := q) (by omega)
 have re := cg (l := er) (i := p) (by omega)
 have rg := cg (l := er) (i := q) (by omega)
 have rv := vg (l := R) (i := p) (by omega)
 have rw' := vg (l := R) (i := q) (by omega)
 have fp := hF p hp
 have fq := hF q hq
 have a1 := zge _ _ _ _ _ _ _ _ _ (IArg.of (hV p hp) (by omega))
 have a2 := zge _ _ _ _ _ _ _ _ _ (IArg.of (hV q hq) (by omega))
 have q1 := (hV p hp).mag.mul (hM q hq)
 have q2 := (hV q hq).mag.mul (hM p hp)
 have q3 := (hM p hp).mul (hM q hq)
 have r1 := zdd _ _ _ _ _ _ _ _ ((hV p hp).mag.arg (by omega)) ((hM q hq).arg (by omega))
 have r2 := zdd _ _ _ _ _ _ _ _ ((hV q hq).mag.arg (by omega)) ((hM p hp).arg (by omega))
 have r3 := zdd _ _ _ _ _ _ _ _ ((hM p hp).arg (by omega)) ((hM q hq).arg (by omega))
 have r4 := zbT _ _ _ _ _ _ _ _ (q1.arg (by omega)) (q2.arg (by omega))
 have r5 := zbT _ _ _ _ _ _ _ _ ((q1.add q2).arg (by omega)) (q3.arg (by omega))
 have ix := zdY (decide (fr.getD i 0 - fr.getD p 0 - fr.getD q 0 < 0)) (zai (fr.getD i 0))
 have r6 := zbT _ _ _ _ _ _ _ _ (((q1.add q2).add (q3.mono (by omega))).arg (by omega)) ((zc1 (b := decide (fr.getD i 0 - fr.getD p 0 - fr.getD q 0 < 0)) u0).arg (by omega))
 clear hV q1 q2 q3 e0 e1
 generalize (((((R.getD p Iv.zero).mag).mul (er.getD q Dy.zero)).add (((R.getD q Iv.zero).mag).mul (er.getD p Dy.zero))).add ((er.getD p Dy.zero).mul (er.getD q Dy.zero))).add (inx (decide (fr.getD i 0 - fr.getD p 0 - fr.getD q 0 < 0)) (zai (fr.getD i 0))) = z at *
 generalize ((((R.getD p Iv.zero).mag).mul (er.getD q Dy.zero)).add (((R.getD q Iv.zero).mag).mul (er.getD p Dy.zero))).add ((er.getD p Dy.zero).mul (er.getD q Dy.zero)) = z1 at *
 generalize (((R.getD p Iv.zero).mag).mul (er.getD q Dy.zero)).add (((R.getD q Iv.zero).mag).mul (er.getD p Dy.zero)) = z2 at *
 generalize ((R.getD p Iv.zero).mag).mul (er.getD q Dy.zero) = z3 at *
 generalize ((R.getD q Iv.zero).mag).mul (er.getD p Dy.zero) = z4 at *
 generalize (er.getD p Dy.zero).mul (er.getD q Dy.zero) = z5 at *
 generalize (R.getD p Iv.zero).mag = z6 at *
 generalize (R.getD q Iv.zero).mag = z7 at *
 generalize R.getD p Iv.zero = z8 at *
 generalize R.getD q Iv.zero = z9 at *
 generalize er.getD p Dy.zero = y1 at *
 generalize er.getD q Dy.zero = y2 at *
 clear hM u0 hF m0 m1
 generalize zai (fr.getD i 0) = u at *
 generalize fr.getD i 0 = f at *
 generalize fr.getD p 0 = g at *
 generalize fr.getD q 0 = h at *
 generalize inx (decide (f - g - h < 0)) u = z5' at *
 exact wflt [5, 6, 2, 3, 7] (zc12 hN hf hR hB rb rf rp rq re rg rv rw')
theorem cl_b11 (ins : List (Int × Int × Int)) (bs : List Blk) (outs : List Int) (vn ve un ue : Int) (R : List Iv) (fr : List Int) (oa : Option Addr) (ln cp : Nat) (er : List Dy) (N : Nat) (hN : er.length = N) (h0 : 0 < N) (hf : fr.length = N) (hR : R.length = N) (hM : ∀ i, i < N → Mg 9000 (er.getD i Dy.zero)) (hF : ∀ i, i < N → 0 ≤ fr.getD i 0 ∧ fr.getD i 0 ≤ 30) (cb : zae zao) (cc : zae zaj) (cv : zae ivr) (p : Nat) (hp : p < N) (h : zbO vn ve) (h' : zbO un ue) (i : Nat) (hB : bs.length = N) (hi : i < N) (hb : bs.getD i Blk.zero = ⟨11, [(p : Int)], vn, ve, un, ue⟩) : CallW Tryz.prog gl 57 [AG ins bs outs, .agg [.sl 1 (rws zad fr), .sl 6 (rws ivr R), .v (.slice oa ln cp)], .ps 0 3 0 N, .v (.int .i64 i)] ⟨3, rws zaj er⟩ (.agg [.v (.bool (sg ((mvd (fr.getD i 0) (fr.getD p 0) (zai (fr.getD i 0)) (er.getD p Dy.zero)).max (inx (or (!zbp (scN vn ve) (fr.getD i 0)) (!zbp (scN un ue) (fr.getD i 0))) (zai (fr.getD i 0)))))), .sl 1 (u32s (ms ((mvd (fr.getD i 0) (fr.getD p 0) (zai (fr.getD i 0)) (er.getD p Dy.zero)).max (inx (or (!zbp (scN vn ve) (fr.getD i 0)) (!zbp (scN un ue) (fr.getD i 0))) (zai (fr.getD i 0)))))), .v (.int .i64 (dn ((mvd (fr.getD i 0) (fr.getD p 0) (zai (fr.getD i 0)) (er.getD p Dy.zero)).max (inx (or (!zbp (scN vn ve) (fr.getD i 0)) (!zbp (scN un ue) (fr.getD i 0))) (zai (fr.getD i 0))))))]) ⟨3, rws zaj er⟩ := by
 refine okW 200 Tryz.call57 Tryz.func57 Tryz.ntmps57 Tryz.results57 ?_
 have rb := bg (l := bs) (i := i) (by omega)
 rw [hb] at rb
 have rb : (rws zao bs).getD i [] = [.v (.int .i64 11), .sl 1 (rws zad [(p : Int)]), .v (.int .i64 vn), .v (.int .i64 ve), .v (.int .i64 un), .v (.int .i64 ue)] := rb
 have fi := hF i hi
 have rf := ig (l := fr) (i := i) (by omega)
 have u0 : Mg 9000 (zai (fr.getD i 0)) := (za5 _ fi.1).mono (by omega)
 have u1 := zaM (fr.getD i 0) (by omega)
 have e0 := zeU 0 0 rfl [(p : Int)] 11 vn ve un ue (fr.getD i 0) R fr oa ln cp er (zai (fr.getD i 0)) N 1 p hN h0 hf rfl (by decide) rfl hp (hM p hp) u0 cc cv
 have m0 : Mg 9001 (mvd (fr.getD i 0) (fr.getD p 0) (zai (fr.getD i 0)) (er.getD p Dy.zero)) := zaW (hM p hp) u0
 have w1 := zdc vn ve (fr.getD i 0) h
 have w2 := zdc un ue (fr.getD i 0) h'
 have ix := zdY (or (!zbp (scN vn ve) (fr.getD i 0)) (!zbp (scN un ue) (fr.getD i 0))) (zai (fr.getD i 0))
 have r := zct _ _ _ _ _ _ _ _ (m0.arg (by omega)) ((zc1 (b := or (!zbp (scN vn ve) (fr.getD i 0)) (!zbp (scN un ue) (fr.getD i 0))) u0).arg (by omega))
 clear h h'
 generalize (mvd (fr.getD i 0) (fr.getD p 0) (zai (fr.getD i 0)) (er.getD p Dy.zero)).max (inx (or (!zbp (scN vn ve) (fr.getD i 0)) (!zbp (scN un ue) (fr.getD i 0))) (zai (fr.getD i 0))) = z at *
 generalize mvd (fr.getD i 0) (fr.getD p 0) (zai (fr.getD i 0)) (er.getD p Dy.zero) = x0 at *
 clear hM u0 hF m0
 generalize zai (fr.getD i 0) = u at *
 generalize fr.getD i 0 = f at *
 generalize zbp (scN vn ve) f = b at *
 generalize zbp (scN un ue) f = b' at *
 generalize inx (or (!b) (!b')) u = z' at *
 cases b <;> cases b'
 all_goals
  try simp only [Bool.not_true, Bool.not_false, Bool.or_false, Bool.or_true] at ix
  exact zjw [5, 6, 2, 3, 7] 0 e0 e0 (zc6 hN hf hR hB rb rf)
theorem cl_b2 (ins : List (Int × Int × Int)) (bs : List Blk) (outs : List Int) (vn ve un ue : Int) (R : List Iv) (fr : List Int) (oa : Option Addr) (ln cp : Nat) (er : List Dy) (N : Nat) (hN : er.length = N) (h0 : 0 < N) (hf : fr.length = N) (hR : R.length = N) (hM : ∀ i, i < N → Mg 9000 (er.getD i Dy.zero)) (hF : ∀ i, i < N → 0 ≤ fr.getD i 0 ∧ fr.getD i 0 ≤ 30) (cb : zae zao) (cc : zae zaj) (cv : zae ivr) (p : Nat) (hp : p < N) (h : zbO vn ve) (i : Nat) (hB : bs.length = N) (hi : i < N) (hb : bs.getD i Blk.zero = ⟨2, [(p : Int)], vn, ve, un, ue⟩) : CallW Tryz.prog gl 57 [AG ins bs outs, .agg [.sl 1 (rws zad fr), .sl 6 (rws ivr R), .v (.slice oa ln cp)], .ps 0 3 0 N, .v (.int .i64 i)] ⟨3, rws zaj er⟩ (.agg [.v (.bool (sg ((mvd (fr.getD i 0) (fr.getD p 0) (zai (fr.getD i 0)) (er.getD p Dy.zero)).max (inx (!zbp (scN vn ve) (fr.getD i 0)) (zai (fr.getD i 0)))))), .sl 1 (u32s (ms ((mvd (fr.getD i 0) (fr.getD p 0) (zai (fr.getD i 0)) (er.getD p Dy.zero)).max (inx (!zbp (scN vn ve) (fr.getD i 0)) (zai (fr.getD i 0)))))), .v (.int .i64 (dn ((mvd (fr.getD i 0) (fr.getD p 0) (zai (fr.getD i 0)) (er.getD p Dy.zero)).max (inx (!zbp (scN vn ve) (fr.getD i 0)) (zai (fr.getD i 0))))))]) ⟨3, rws zaj er⟩ := by
 refine okW 200 Tryz.call57 Tryz.func57 Tryz.ntmps57 Tryz.results57 ?_
 have rb := bg (l := bs) (i := i) (by omega)
 rw [hb] at rb
 have rb : (rws zao bs).getD i [] = [.v (.int .i64 2), .sl 1 (rws zad [(p : Int)]), .v (.int .i64 vn), .v (.int .i64 ve), .v (.int .i64 un), .v (.int .i64 ue)] := rb
 have fi := hF i hi
 have rf := ig (l := fr) (i := i) (by omega)
 have u0 : Mg 9000 (zai (fr.getD i 0)) := (za5 _ fi.1).mono (by omega)
 have u1 := zaM (fr.getD i 0) (by omega)
 have e0 := zeU 0 0 rfl [(p : Int)] 2 vn ve un ue (fr.getD i 0) R fr oa ln cp er (zai (fr.getD i 0)) N 1 p hN h0 hf rfl (by decide) rfl hp (hM p hp) u0 cc cv
 have m0 : Mg 9001 (mvd (fr.getD i 0) (fr.getD p 0) (zai (fr.getD i 0)) (er.getD p Dy.zero)) := zaW (hM p hp) u0
 have w1 := zdc vn ve (fr.getD i 0) h
 have ix := zdY (!zbp (scN vn ve) (fr.getD i 0)) (zai (fr.getD i 0))
 have r := zct _ _ _ _ _ _ _ _ (m0.arg (by omega)) ((zc1 (b := !zbp (scN vn ve) (fr.getD i 0)) u0).arg (by omega))
 clear h
 generalize (mvd (fr.getD i 0) (fr.getD p 0) (zai (fr.getD i 0)) (er.getD p Dy.zero)).max (inx (!zbp (scN vn ve) (fr.getD i 0)) (zai (fr.getD i 0))) = z at *
 generalize mvd (fr.getD i 0) (fr.getD p 0) (zai (fr.getD i 0)) (er.getD p Dy.zero) = x0 at *
 clear hM u0 hF m0
 generalize zai (fr.getD i 0) = u at *
 generalize fr.getD i 0 = f at *
 generalize zbp (scN vn ve) f = b at *
 generalize inx (!b) u = z' at *
 exact zjw [5, 6, 2, 3, 7] 0 e0 e0 (zc6 hN hf hR hB rb rf)
set_option maxHeartbeats 4000000
theorem znO (n e f : Int) (h : zbO n e) (hf : 0 ≤ f ∧ f ≤ 30) : Mg 92 ((Dy.int n).shift (e + f)) ∧ Mg 93 (zdW n e f) := by
 unfold zbO at h
 have h1 : Mg 92 ((Dy.int n).shift (e + f)) := ((zfm (n := n) (by omega)).shift (e + f)).mono (by unfold zbe; omega)
 exact ⟨h1, h1.floor⟩
theorem zeh (n e f : Int) (h : zbO n e) (hf : 0 ≤ f ∧ f ≤ 30) (hr : zb5 n e f = true) : CallOK Tryz.prog gl 24 [.agg [.v (.int .i64 n), .v (.int .i64 e)], .v (.int .i64 f)] (.tup [.v (.int .i64 ((zdW n e f).toInt)), .v .nilIface]) := by
 refine okC 69 Tryz.call24 Tryz.func24 Tryz.ntmps24 Tryz.results24 ?_
 obtain ⟨m1, m2⟩ := znO n e f h hf
 have o1 := zeY n (ze9 h)
 have s1 := zaS _ _ _ (e + f) _ ((zcY (ze9 h)).arg (by omega))
 have f1 := zgH _ _ _ 0 _ (m1.arg (by omega)) (by omega)
 change CallOK _ _ _ [_, .v (.int .i64 0)] _ at f1
 have i1 := Int_ok _ _ _ _ (m2.arg (by omega))
 unfold zb5 at hr
 rw [Bool.and_eq_true] at hr
 obtain ⟨r1, r2⟩ := hr
 have r2 := of_decide_eq_true r2
 rw [r1] at i1
 unfold zdW at *
 unfold zbO at h
 clear m1 m2 r1
 generalize (((Dy.int n).shift (e + f)).floor 0).toInt = v at *
 generalize ((Dy.int n).shift (e + f)).floor 0 = z at *
 generalize (Dy.int n).shift (e + f) = z1 at *
 generalize Dy.int n = z2 at *
 exact we zc0
theorem zpa (n e f : Int) (h : zbO n e) (hf : 0 ≤ f ∧ f ≤ 30) (hr : zb5 n e f = false) : CallOK Tryz.prog gl 24 [.agg [.v (.int .i64 n), .v (.int .i64 e)], .v (.int .i64 f)] (.tup [.v (.int .i64 0), .v (.iface 71 (.int .i64 13))]) := by
 refine okC 69 Tryz.call24 Tryz.func24 Tryz.ntmps24 Tryz.results24 ?_
 obtain ⟨m1, m2⟩ := znO n e f h hf
 have o1 := zeY n (ze9 h)
 have s1 := zaS _ _ _ (e + f) _ ((zcY (ze9 h)).arg (by omega))
 have f1 := zgH _ _ _ 0 _ (m1.arg (by omega)) (by omega)
 change CallOK _ _ _ [_, .v (.int .i64 0)] _ at f1
 have i1 := Int_ok _ _ _ _ (m2.arg (by omega))
 unfold zb5 at hr
 unfold zdW at *
 unfold zbO at h
 clear m1 m2
 generalize (((Dy.int n).shift (e + f)).floor 0).toInt = v at *
 generalize (((Dy.int n).shift (e + f)).floor 0).fits = w at *
 generalize ((Dy.int n).shift (e + f)).floor 0 = z at *
 generalize (Dy.int n).shift (e + f) = z1 at *
 generalize Dy.int n = z2 at *
 cases w with
 | false =>
  exact we zc0
 | true =>
  rw [Bool.true_and] at hr
  have hr := of_decide_eq_false hr
  exact we zc0
theorem zbv (n : Int) : CallOK Tryz.prog gl 119 [.v (.int .i64 n)] (.v (.bool (zcg n))) := by
 refine okC 9 Tryz.call119 Tryz.func119 Tryz.ntmps119 Tryz.results119 ?_
 unfold zcg
 by_cases h1 : n ≤ 30
 ·have e1 := decide_eq_true h1
  by_cases h : -62 ≤ n
  ·rw [decide_eq_true ⟨h, h1⟩]
   exact we e1
  ·rw [decide_eq_false (fun q => h q.1)]
   exact we e1
 ·have e1 := decide_eq_false h1
  rw [decide_eq_false (fun q => h1 q.2)]
  exact we e1
theorem zmd (n e f : Int) (h : zbO n e) (hf : 0 ≤ f ∧ f ≤ 30) : CallOK Tryz.prog gl 120 [.agg [.v (.int .i64 n), .v (.int .i64 e)], .rp [.v (.int .i64 f)]] (.v (.bool (zb5 n e f))) := by
 refine okC 14 Tryz.call120 Tryz.func120 Tryz.ntmps120 Tryz.results120 ?_
 cases hr : zb5 n e f with
 | true =>
  have c := zeh n e f h hf hr
  clear h
  generalize (zdW n e f).toInt = v at *
  exact we zc0
 | false =>
  have c := zpa n e f h hf hr
  clear h
  exact we zc0
theorem zcP (ki : Int) (p : Nat) (hki : ki = (p : Int)) (R : List Iv) (fr : List Int) (er : List Dy) (N : Nat) (hN : fr.length = N) (hp : p < N) (hF : 0 ≤ fr.getD p 0 ∧ fr.getD p 0 ≤ 30) (cc : zae zaj) (cv : zae ivr) : CallOK Tryz.prog gl 118 [.v (.int .i64 ki), .rp [.sl 1 (rws zad fr), .sl 6 (rws ivr R), .sl 3 (rws zaj er)]] (.v (.bool (false))) := by
 refine okC 18 Tryz.call118 Tryz.func118 Tryz.ntmps118 Tryz.results118 ?_
 subst hki
 have rf := ig (l := fr) (i := p) (by omega)
 generalize fr.getD p 0 = x at *
 have e1 : decide (30 < x) = false := decide_eq_false (by omega)
 exact wer (zc3 hN rf e1)
theorem sl_index (g : FuncId) (caps : List AV) (a : List Int) (n : Nat) (hn : a.length = n) (hn2 : n ≤ 1099511627776) (hcaps : ∀ c ∈ caps, Cl c)
  (hg : ∀ j, j < n → CallOK Tryz.prog gl g (.v (.int .i64 (a.getD j 0)) :: caps) (.v (.bool false))) :
  CallOK Tryz.prog gl 123 [.sl 1 (rws zad a), .fn g caps] (.v (.int .i64 (-1))) := by
 refine zll (C := ⟨Tryz.prog, gl, ti, 19, false, false, []⟩) za1 zgl 3000 Tryz.call123 Tryz.func123 rfl Tryz.ntmps123 (by simp) (by
  intro x hx
  simp only [List.mem_cons, List.not_mem_nil, or_false] at hx
  rcases hx with rfl | rfl
  ·exact Cl.rws zbh
  ·exact Cl.fn hcaps) zdk ?_
 rw [Tryz.results123]
 have hfn : Cl (.fn g caps) := Cl.fn hcaps
 refine wkr hn ?_
 refine lL (α := Nat) (fun j => ⟨[(0, .sl 1 (rws zad a)), (1, .fn g caps), (7, .v (.int .i64 n)), (8, .v (.int .i64 j))], [], 0⟩) (fun j => j ≤ n) (fun j => n - j) (0) ?_ ?_ ?_
 ·exact Nat.zero_le _
 ·exact zah
 rintro j hj
 by_cases hjn : j < n
 ·have ra := ig (l := a) (i := j) (by omega)
  have c := hg j hjn
  clear hg
  generalize a.getD j 0 = x at *
  refine wkr (zc2 hn ra) ?_
  refine zac (α := Nat) (j + 1) (by show j + 1 ≤ n; omega) (by show n - (j + 1) < n - j; omega) ?_
  exact zah
 ·clear hg
  exact wer hn
theorem zbf (g : FuncId) (caps : List AV) (a : List Int) (n : Nat) (hn : a.length = n) (hn2 : n ≤ 1099511627776) (hcaps : ∀ c ∈ caps, Cl c)
  (hg : ∀ j, j < n → CallOK Tryz.prog gl g (.v (.int .i64 (a.getD j 0)) :: caps) (.v (.bool false))) :
  CallOK Tryz.prog gl 117 [.sl 1 (rws zad a), .fn g caps] (.v (.bool false)) := by
 refine zll (C := ⟨Tryz.prog, gl, ti, 9, false, false, []⟩) za1 zgl 3000 Tryz.call117 Tryz.func117 rfl Tryz.ntmps117 (by simp) (by
  intro x hx
  simp only [List.mem_cons, List.not_mem_nil, or_false] at hx
  rcases hx with rfl | rfl
  ·exact Cl.rws zbh
  ·exact Cl.fn hcaps) zdk ?_
 rw [Tryz.results117]
 have hfn : Cl (.fn g caps) := Cl.fn hcaps
 have c := sl_index g caps a n hn hn2 hcaps hg
 clear hg
 exact we zc0
set_option maxHeartbeats 4000000
theorem sc_b0 (ins : List (Int × Int × Int)) (bs : List Blk) (outs : List Int) (vn ve un ue : Int) (R : List Iv) (fr : List Int) (er : List Dy) (N : Nat) (h0 : 0 < N) (hf : fr.length = N) (hF : ∀ i, i < N → 0 ≤ fr.getD i 0 ∧ fr.getD i 0 ≤ 30) (cb : zae zao) (cc : zae zaj) (cv : zae ivr) (p nP : Nat) (hP : ins.length = nP) (hp : p < nP) (hI : ∀ i, i < nP → zbu (ins.getD i (0, 0, 0))) (i : Nat) (hB : bs.length = N) (hi : i < N) (hb : bs.getD i Blk.zero = ⟨0, [(p : Int)], vn, ve, un, ue⟩) : CallOK Tryz.prog gl 102 [AG ins bs outs, .agg [.sl 1 (rws zad fr), .sl 6 (rws ivr R), .sl 3 (rws zaj er)], .v (.int .i64 i)] (.v (.bool (zcg (fr.getD i 0 - (ins.getD p (0, 0, 0)).2.2)))) := by
 refine okC 167 Tryz.call102 Tryz.func102 Tryz.ntmps102 Tryz.results102 ?_
 have rb := bg (l := bs) (i := i) (by omega)
 rw [hb] at rb
 have rb : (rws zao bs).getD i [] = [.v (.int .i64 0), .sl 1 (rws zad [(p : Int)]), .v (.int .i64 vn), .v (.int .i64 ve), .v (.int .i64 un), .v (.int .i64 ue)] := rb
 have fi := hF i hi
 have rf := ig (l := fr) (i := i) (by omega)
 have rp := pg (l := ins) (i := p) (by omega)
 have rp : (rws zaD ins).getD p [] = [.v (.int .i64 (ins.getD p (0, 0, 0)).1), .v (.int .i64 (ins.getD p (0, 0, 0)).2.1), .v (.int .i64 (ins.getD p (0, 0, 0)).2.2)] := rp
 have hF3 := hI p (by omega)
 unfold zbu at hF3
 generalize ins.getD p (0, 0, 0) = P at *
 obtain ⟨P1, P2, P3⟩ := P
 simp only at rp hF3 ⊢
 have c0 := zbv (fr.getD i 0 - P3)
 clear hI
 generalize zcg (fr.getD i 0 - P3) = s0 at *
 clear hF
 generalize fr.getD i 0 = f at *
 cases s0
 all_goals
  repeat' (first | simp only [go_sem, seval, zab, List.length_cons, List.length_nil, hf, hB, rb, rf, hP, rp] | simp (disch := omega) only [wA] | (with_reducible first | refine cF c0 ?_ | refine dF c0 ?_) | (refine zbi 3 _ rfl ?_) | refine tW [1] ?_ | refine tW [2] ?_ | refine aI ?_ | refine dI ?_ | refine dG ?_ | ((first | refine cC ?_ ?_ | refine gS ?_ ?_ | refine dS ?_ ?_) <;> intro hc <;> simp only [hc] <;> try simp only [dcA] at hc <;> try omega) | refine aP ?_ | refine dP ?_)
  all_goals exact zal trivial rfl
theorem sc_b1 (ins : List (Int × Int × Int)) (bs : List Blk) (outs : List Int) (vn ve un ue : Int) (R : List Iv) (fr : List Int) (er : List Dy) (N : Nat) (h0 : 0 < N) (hf : fr.length = N) (hF : ∀ i, i < N → 0 ≤ fr.getD i 0 ∧ fr.getD i 0 ≤ 30) (cb : zae zao) (cc : zae zaj) (cv : zae ivr) (h : zbO vn ve) (i : Nat) (hB : bs.length = N) (hi : i < N) (hb : bs.getD i Blk.zero = ⟨1, [], vn, ve, un, ue⟩) : CallOK Tryz.prog gl 102 [AG ins bs outs, .agg [.sl 1 (rws zad fr), .sl 6 (rws ivr R), .sl 3 (rws zaj er)], .v (.int .i64 i)] (.v (.bool (zb5 vn ve (fr.getD i 0)))) := by
 refine okC 167 Tryz.call102 Tryz.func102 Tryz.ntmps102 Tryz.results102 ?_
 have rb := bg (l := bs) (i := i) (by omega)
 rw [hb] at rb
 have rb : (rws zao bs).getD i [] = [.v (.int .i64 1), .sl 1 (rws zad []), .v (.int .i64 vn), .v (.int .i64 ve), .v (.int .i64 un), .v (.int .i64 ue)] := rb
 have fi := hF i hi
 have rf := ig (l := fr) (i := i) (by omega)
 have cn := zbf 118 [.rp [.sl 1 (rws zad fr), .sl 6 (rws ivr R), .sl 3 (rws zaj er)]] [] 0 rfl (by omega) (by intro c hc; simp only [List.mem_cons, List.not_mem_nil, or_false] at hc; subst hc; exact zdk) (fun j hj => by
  match j, hj with
  | j, hj => exact absurd hj (Nat.not_lt_zero j)
)
 have c0 := zmd vn ve (fr.getD i 0) h fi
 clear h
 generalize zb5 vn ve (fr.getD i 0) = w0 at *
 clear hF
 generalize fr.getD i 0 = f at *
 cases w0
 all_goals
  repeat' (first | simp only [go_sem, seval, zab, List.length_cons, List.length_nil, hf, hB, rb, rf] | simp (disch := omega) only [wA] | (with_reducible first | refine cA ?_ | refine dA ?_ | refine cF c0 ?_ | refine dF c0 ?_) | (refine zbi 3 _ rfl ?_) | refine tW [1] ?_ | refine tW [2] ?_ | refine aI ?_ | refine dI ?_ | refine dG ?_ | ((first | refine cC ?_ ?_ | refine gS ?_ ?_ | refine dS ?_ ?_) <;> intro hc <;> simp only [hc] <;> try simp only [dcA] at hc <;> try omega) | refine aP ?_ | refine dP ?_)
  all_goals exact zal trivial rfl
theorem sc_b6 (ins : List (Int × Int × Int)) (bs : List Blk) (outs : List Int) (vn ve un ue : Int) (R : List Iv) (fr : List Int) (er : List Dy) (N : Nat) (h0 : 0 < N) (hf : fr.length = N) (hF : ∀ i, i < N → 0 ≤ fr.getD i 0 ∧ fr.getD i 0 ≤ 30) (cb : zae zao) (cc : zae zaj) (cv : zae ivr) (p : Nat) (hp : p < N) (h : zbO vn ve) (i : Nat) (hB : bs.length = N) (hi : i < N) (hb : bs.getD i Blk.zero = ⟨6, [(p : Int)], vn, ve, un, ue⟩) : CallOK Tryz.prog gl 102 [AG ins bs outs, .agg [.sl 1 (rws zad fr), .sl 6 (rws ivr R), .sl 3 (rws zaj er)], .v (.int .i64 i)] (.v (.bool (zcg (fr.getD i 0 - fr.getD p 0 + ve)))) := by
 refine okC 167 Tryz.call102 Tryz.func102 Tryz.ntmps102 Tryz.results102 ?_
 have rb := bg (l := bs) (i := i) (by omega)
 rw [hb] at rb
 have rb : (rws zao bs).getD i [] = [.v (.int .i64 6), .sl 1 (rws zad [(p : Int)]), .v (.int .i64 vn), .v (.int .i64 ve), .v (.int .i64 un), .v (.int .i64 ue)] := rb
 have fi := hF i hi
 have rf := ig (l := fr) (i := i) (by omega)
 have cn := zbf 118 [.rp [.sl 1 (rws zad fr), .sl 6 (rws ivr R), .sl 3 (rws zaj er)]] [(p : Int)] 1 rfl (by omega) (by intro c hc; simp only [List.mem_cons, List.not_mem_nil, or_false] at hc; subst hc; exact zdk) (fun j hj => by
  match j, hj with
  | 0, _ => exact zcP _ p rfl R fr er N hf hp (hF p hp) cc cv
)
 have rp := ig (l := fr) (i := p) (by omega)
 have fp := hF p hp
 have c0 := zbv (fr.getD i 0 - fr.getD p 0 + ve)
 unfold zbO at h
 generalize zcg (fr.getD i 0 - fr.getD p 0 + ve) = s0 at *
 clear hF
 generalize fr.getD i 0 = f at *
 generalize fr.getD p 0 = g at *
 cases s0
 all_goals
  repeat' (first | simp only [go_sem, seval, zab, List.length_cons, List.length_nil, hf, hB, rb, rf, rp] | simp (disch := omega) only [wA] | (with_reducible first | refine cA ?_ | refine dA ?_ | refine cF c0 ?_ | refine dF c0 ?_) | (refine zbi 3 _ rfl ?_) | refine tW [1] ?_ | refine tW [2] ?_ | refine aI ?_ | refine dI ?_ | refine dG ?_ | ((first | refine cC ?_ ?_ | refine gS ?_ ?_ | refine dS ?_ ?_) <;> intro hc <;> simp only [hc] <;> try simp only [dcA] at hc <;> try omega) | refine aP ?_ | refine dP ?_)
  all_goals exact zal trivial rfl
theorem sc_b7 (ins : List (Int × Int × Int)) (bs : List Blk) (outs : List Int) (vn ve un ue : Int) (R : List Iv) (fr : List Int) (er : List Dy) (N : Nat) (h0 : 0 < N) (hf : fr.length = N) (hF : ∀ i, i < N → 0 ≤ fr.getD i 0 ∧ fr.getD i 0 ≤ 30) (cb : zae zao) (cc : zae zaj) (cv : zae ivr) (p : Nat) (hp : p < N) (q : Nat) (hq : q < N) (i : Nat) (hB : bs.length = N) (hi : i < N) (hb : bs.getD i Blk.zero = ⟨7, [(p : Int), (q : Int)], vn, ve, un, ue⟩) : CallOK Tryz.prog gl 102 [AG ins bs outs, .agg [.sl 1 (rws zad fr), .sl 6 (rws ivr R), .sl 3 (rws zaj er)], .v (.int .i64 i)] (.v (.bool (zcg (fr.getD i 0 - fr.getD p 0 - fr.getD q 0)))) := by
 refine okC 167 Tryz.call102 Tryz.func102 Tryz.ntmps102 Tryz.results102 ?_
 have rb := bg (l := bs) (i := i) (by omega)
 rw [hb] at rb
 have rb : (rws zao bs).getD i [] = [.v (.int .i64 7), .sl 1 (rws zad [(p : Int), (q : Int)]), .v (.int .i64 vn), .v (.int .i64 ve), .v (.int .i64 un), .v (.int .i64 ue)] := rb
 have fi := hF i hi
 have rf := ig (l := fr) (i := i) (by omega)
 have cn := zbf 118 [.rp [.sl 1 (rws zad fr), .sl 6 (rws ivr R), .sl 3 (rws zaj er)]] [(p : Int), (q : Int)] 2 rfl (by omega) (by intro c hc; simp only [List.mem_cons, List.not_mem_nil, or_false] at hc; subst hc; exact zdk) (fun j hj => by
  match j, hj with
  | 0, _ => exact zcP _ p rfl R fr er N hf hp (hF p hp) cc cv
  | 1, _ => exact zcP _ q rfl R fr er N hf hq (hF q hq) cc cv
)
 have rp := ig (l := fr) (i := p) (by omega)
 have fp := hF p hp
 have rq := ig (l := fr) (i := q) (by omega)
 have fq := hF q hq
 have c0 := zbv (fr.getD i 0 - fr.getD p 0 - fr.getD q 0)
 generalize zcg (fr.getD i 0 - fr.getD p 0 - fr.getD q 0) = s0 at *
 clear hF
 generalize fr.getD i 0 = f at *
 generalize fr.getD p 0 = g at *
 generalize fr.getD q 0 = g' at *
 cases s0
 all_goals
  repeat' (first | simp only [go_sem, seval, zab, List.length_cons, List.length_nil, hf, hB, rb, rf, rp, rq] | simp (disch := omega) only [wA] | (with_reducible first | refine cA ?_ | refine dA ?_ | refine cF c0 ?_ | refine dF c0 ?_) | (refine zbi 3 _ rfl ?_) | refine tW [1] ?_ | refine tW [2] ?_ | refine aI ?_ | refine dI ?_ | refine dG ?_ | ((first | refine cC ?_ ?_ | refine gS ?_ ?_ | refine dS ?_ ?_) <;> intro hc <;> simp only [hc] <;> try simp only [dcA] at hc <;> try omega) | refine aP ?_ | refine dP ?_)
  all_goals exact zal trivial rfl
theorem sc_b2 (ins : List (Int × Int × Int)) (bs : List Blk) (outs : List Int) (vn ve un ue : Int) (R : List Iv) (fr : List Int) (er : List Dy) (N : Nat) (h0 : 0 < N) (hf : fr.length = N) (hF : ∀ i, i < N → 0 ≤ fr.getD i 0 ∧ fr.getD i 0 ≤ 30) (cb : zae zao) (cc : zae zaj) (cv : zae ivr) (p : Nat) (hp : p < N) (h : zbO vn ve) (i : Nat) (hB : bs.length = N) (hi : i < N) (hb : bs.getD i Blk.zero = ⟨2, [(p : Int)], vn, ve, un, ue⟩) : CallOK Tryz.prog gl 102 [AG ins bs outs, .agg [.sl 1 (rws zad fr), .sl 6 (rws ivr R), .sl 3 (rws zaj er)], .v (.int .i64 i)] (.v (.bool (zcg (fr.getD i 0 - fr.getD p 0) && zb5 vn ve (fr.getD i 0)))) := by
 refine okC 167 Tryz.call102 Tryz.func102 Tryz.ntmps102 Tryz.results102 ?_
 have rb := bg (l := bs) (i := i) (by omega)
 rw [hb] at rb
 have rb : (rws zao bs).getD i [] = [.v (.int .i64 2), .sl 1 (rws zad [(p : Int)]), .v (.int .i64 vn), .v (.int .i64 ve), .v (.int .i64 un), .v (.int .i64 ue)] := rb
 have fi := hF i hi
 have rf := ig (l := fr) (i := i) (by omega)
 have cn := zbf 118 [.rp [.sl 1 (rws zad fr), .sl 6 (rws ivr R), .sl 3 (rws zaj er)]] [(p : Int)] 1 rfl (by omega) (by intro c hc; simp only [List.mem_cons, List.not_mem_nil, or_false] at hc; subst hc; exact zdk) (fun j hj => by
  match j, hj with
  | 0, _ => exact zcP _ p rfl R fr er N hf hp (hF p hp) cc cv
)
 have rp := ig (l := fr) (i := p) (by omega)
 have fp := hF p hp
 have c0 := zbv (fr.getD i 0 - fr.getD p 0)
 have c1 := zmd vn ve (fr.getD i 0) h fi
 clear h
 generalize zcg (fr.getD i 0 - fr.getD p 0) = s0 at *
 generalize zb5 vn ve (fr.getD i 0) = w0 at *
 clear hF
 generalize fr.getD i 0 = f at *
 generalize fr.getD p 0 = g at *
 cases s0 <;> cases w0
 all_goals
  repeat' (first | simp only [go_sem, seval, zab, List.length_cons, List.length_nil, hf, hB, rb, rf, rp] | simp (disch := omega) only [wA] | (with_reducible first | refine cA ?_ | refine dA ?_ | refine cF c0 ?_ | refine dF c0 ?_) | (refine zbi 3 _ rfl ?_) | refine tW [1] ?_ | refine tW [2] ?_ | refine aI ?_ | refine dI ?_ | refine dG ?_ | ((first | refine cC ?_ ?_ | refine gS ?_ ?_ | refine dS ?_ ?_) <;> intro hc <;> simp only [hc] <;> try simp only [dcA] at hc <;> try omega) | refine aP ?_ | refine dP ?_)
  all_goals exact zal trivial rfl
theorem sc_b11 (ins : List (Int × Int × Int)) (bs : List Blk) (outs : List Int) (vn ve un ue : Int) (R : List Iv) (fr : List Int) (er : List Dy) (N : Nat) (h0 : 0 < N) (hf : fr.length = N) (hF : ∀ i, i < N → 0 ≤ fr.getD i 0 ∧ fr.getD i 0 ≤ 30) (cb : zae zao) (cc : zae zaj) (cv : zae ivr) (p : Nat) (hp : p < N) (h : zbO vn ve) (h' : zbO un ue) (i : Nat) (hB : bs.length = N) (hi : i < N) (hb : bs.getD i Blk.zero = ⟨11, [(p : Int)], vn, ve, un, ue⟩) : CallOK Tryz.prog gl 102 [AG ins bs outs, .agg [.sl 1 (rws zad fr), .sl 6 (rws ivr R), .sl 3 (rws zaj er)], .v (.int .i64 i)] (.v (.bool (zcg (fr.getD i 0 - fr.getD p 0) && zb5 vn ve (fr.getD i 0) && zb5 un ue (fr.getD i 0)))) := by
 refine okC 167 Tryz.call102 Tryz.func102 Tryz.ntmps102 Tryz.results102 ?_
 have rb := bg (l := bs) (i := i) (by omega)
 rw [hb] at rb
 have rb : (rws zao bs).getD i [] = [.v (.int .i64 11), .sl 1 (rws zad [(p : Int)]), .v (.int .i64 vn), .v (.int .i64 ve), .v (.int .i64 un), .v (.int .i64 ue)] := rb
 have fi := hF i hi
 have rf := ig (l := fr) (i := i) (by omega)
 have cn := zbf 118 [.rp [.sl 1 (rws zad fr), .sl 6 (rws ivr R), .sl 3 (rws zaj er)]] [(p : Int)] 1 rfl (by omega) (by intro c hc; simp only [List.mem_cons, List.not_mem_nil, or_false] at hc; subst hc; exact zdk) (fun j hj => by
  match j, hj with
  | 0, _ => exact zcP _ p rfl R fr er N hf hp (hF p hp) cc cv
)
 have rp := ig (l := fr) (i := p) (by omega)
 have fp := hF p hp
 have c0 := zbv (fr.getD i 0 - fr.getD p 0)
 have c1 := zmd vn ve (fr.getD i 0) h fi
 have c2 := zmd un ue (fr.getD i 0) h' fi
 clear h h'
 generalize zcg (fr.getD i 0 - fr.getD p 0) = s0 at *
 generalize zb5 vn ve (fr.getD i 0) = w0 at *
 generalize zb5 un ue (fr.getD i 0) = w1 at *
 clear hF
 generalize fr.getD i 0 = f at *
 generalize fr.getD p 0 = g at *
 cases s0 <;> cases w0 <;> cases w1
 all_goals
  repeat' (first | simp only [go_sem, seval, zab, List.length_cons, List.length_nil, hf, hB, rb, rf, rp] | simp (disch := omega) only [wA] | (with_reducible first | refine cA ?_ | refine dA ?_ | refine cF c0 ?_ | refine dF c0 ?_ | refine cF c2 ?_ | refine dF c2 ?_) | (refine zbi 3 _ rfl ?_) | refine tW [1] ?_ | refine tW [2] ?_ | refine aI ?_ | refine dI ?_ | refine dG ?_ | ((first | refine cC ?_ ?_ | refine gS ?_ ?_ | refine dS ?_ ?_) <;> intro hc <;> simp only [hc] <;> try simp only [dcA] at hc <;> try omega) | refine aP ?_ | refine dP ?_)
  all_goals exact zal trivial rfl
theorem sc_b5 (ins : List (Int × Int × Int)) (bs : List Blk) (outs : List Int) (vn ve un ue : Int) (R : List Iv) (fr : List Int) (er : List Dy) (N : Nat) (h0 : 0 < N) (hf : fr.length = N) (hF : ∀ i, i < N → 0 ≤ fr.getD i 0 ∧ fr.getD i 0 ≤ 30) (cb : zae zao) (cc : zae zaj) (cv : zae ivr) (p : Nat) (hp : p < N) (i : Nat) (hB : bs.length = N) (hi : i < N) (hb : bs.getD i Blk.zero = ⟨5, [(p : Int)], vn, ve, un, ue⟩) : CallOK Tryz.prog gl 102 [AG ins bs outs, .agg [.sl 1 (rws zad fr), .sl 6 (rws ivr R), .sl 3 (rws zaj er)], .v (.int .i64 i)] (.v (.bool (zcg (fr.getD i 0 - fr.getD p 0)))) := by
 refine okC 167 Tryz.call102 Tryz.func102 Tryz.ntmps102 Tryz.results102 ?_
 have rb := bg (l := bs) (i := i) (by omega)
 rw [hb] at rb
 have rb : (rws zao bs).getD i [] = [.v (.int .i64 5), .sl 1 (rws zad [(p : Int)]), .v (.int .i64 vn), .v (.int .i64 ve), .v (.int .i64 un), .v (.int .i64 ue)] := rb
 have fi := hF i hi
 have rf := ig (l := fr) (i := i) (by omega)
 have cn := zbf 118 [.rp [.sl 1 (rws zad fr), .sl 6 (rws ivr R), .sl 3 (rws zaj er)]] [(p : Int)] 1 rfl (by omega) (by intro c hc; simp only [List.mem_cons, List.not_mem_nil, or_false] at hc; subst hc; exact zdk) (fun j hj => by
  match j, hj with
  | 0, _ => exact zcP _ p rfl R fr er N hf hp (hF p hp) cc cv
)
 have rp := ig (l := fr) (i := p) (by omega)
 have fp := hF p hp
 have c0 := zbv (fr.getD i 0 - fr.getD p 0)
 generalize zcg (fr.getD i 0 - fr.getD p 0) = s0 at *
 clear hF
 generalize fr.getD i 0 = f at *
 generalize fr.getD p 0 = g at *
 cases s0
 all_goals
  repeat' (first | simp only [go_sem, seval, zab, List.length_cons, List.length_nil, hf, hB, rb, rf, rp] | simp (disch := omega) only [wA] | (with_reducible first | refine cA ?_ | refine dA ?_ | refine cF c0 ?_ | refine dF c0 ?_) | (refine zbi 3 _ rfl ?_) | refine tW [1] ?_ | refine tW [2] ?_ | refine aI ?_ | refine dI ?_ | refine dG ?_ | ((first | refine cC ?_ ?_ | refine gS ?_ ?_ | refine dS ?_ ?_) <;> intro hc <;> simp only [hc] <;> try simp only [dcA] at hc <;> try omega) | refine aP ?_ | refine dP ?_)
  all_goals exact zal trivial rfl
theorem sc_b10 (ins : List (Int × Int × Int)) (bs : List Blk) (outs : List Int) (vn ve un ue : Int) (R : List Iv) (fr : List Int) (er : List Dy) (N : Nat) (h0 : 0 < N) (hf : fr.length = N) (hF : ∀ i, i < N → 0 ≤ fr.getD i 0 ∧ fr.getD i 0 ≤ 30) (cb : zae zao) (cc : zae zaj) (cv : zae ivr) (p : Nat) (hp : p < N) (i : Nat) (hB : bs.length = N) (hi : i < N) (hb : bs.getD i Blk.zero = ⟨10, [(p : Int)], vn, ve, un, ue⟩) : CallOK Tryz.prog gl 102 [AG ins bs outs, .agg [.sl 1 (rws zad fr), .sl 6 (rws ivr R), .sl 3 (rws zaj er)], .v (.int .i64 i)] (.v (.bool (zcg (fr.getD i 0 - fr.getD p 0)))) := by
 refine okC 167 Tryz.call102 Tryz.func102 Tryz.ntmps102 Tryz.results102 ?_
 have rb := bg (l := bs) (i := i) (by omega)
 rw [hb] at rb
 have rb : (rws zao bs).getD i [] = [.v (.int .i64 10), .sl 1 (rws zad [(p : Int)]), .v (.int .i64 vn), .v (.int .i64 ve), .v (.int .i64 un), .v (.int .i64 ue)] := rb
 have fi := hF i hi
 have rf := ig (l := fr) (i := i) (by omega)
 have cn := zbf 118 [.rp [.sl 1 (rws zad fr), .sl 6 (rws ivr R), .sl 3 (rws zaj er)]] [(p : Int)] 1 rfl (by omega) (by intro c hc; simp only [List.mem_cons, List.not_mem_nil, or_false] at hc; subst hc; exact zdk) (fun j hj => by
  match j, hj with
  | 0, _ => exact zcP _ p rfl R fr er N hf hp (hF p hp) cc cv
)
 have rp := ig (l := fr) (i := p) (by omega)
 have fp := hF p hp
 have c0 := zbv (fr.getD i 0 - fr.getD p 0)
 generalize zcg (fr.getD i 0 - fr.getD p 0) = s0 at *
 clear hF
 generalize fr.getD i 0 = f at *
 generalize fr.getD p 0 = g at *
 cases s0
 all_goals
  repeat' (first | simp only [go_sem, seval, zab, List.length_cons, List.length_nil, hf, hB, rb, rf, rp] | simp (disch := omega) only [wA] | (with_reducible first | refine cA ?_ | refine dA ?_ | refine cF c0 ?_ | refine dF c0 ?_) | (refine zbi 3 _ rfl ?_) | refine tW [1] ?_ | refine tW [2] ?_ | refine aI ?_ | refine dI ?_ | refine dG ?_ | ((first | refine cC ?_ ?_ | refine gS ?_ ?_ | refine dS ?_ ?_) <;> intro hc <;> simp only [hc] <;> try simp only [dcA] at hc <;> try omega) | refine aP ?_ | refine dP ?_)
  all_goals exact zal trivial rfl
theorem sc_b3 (ins : List (Int × Int × Int)) (bs : List Blk) (outs : List Int) (vn ve un ue : Int) (R : List Iv) (fr : List Int) (er : List Dy) (N : Nat) (h0 : 0 < N) (hf : fr.length = N) (hF : ∀ i, i < N → 0 ≤ fr.getD i 0 ∧ fr.getD i 0 ≤ 30) (cb : zae zao) (cc : zae zaj) (cv : zae ivr) (p : Nat) (hp : p < N) (q : Nat) (hq : q < N) (i : Nat) (hB : bs.length = N) (hi : i < N) (hb : bs.getD i Blk.zero = ⟨3, [(p : Int), (q : Int)], vn, ve, un, ue⟩) : CallOK Tryz.prog gl 102 [AG ins bs outs, .agg [.sl 1 (rws zad fr), .sl 6 (rws ivr R), .sl 3 (rws zaj er)], .v (.int .i64 i)] (.v (.bool (zcg (fr.getD i 0 - fr.getD p 0) && zcg (fr.getD i 0 - fr.getD q 0)))) := by
 refine okC 167 Tryz.call102 Tryz.func102 Tryz.ntmps102 Tryz.results102 ?_
 have rb := bg (l := bs) (i := i) (by omega)
 rw [hb] at rb
 have rb : (rws zao bs).getD i [] = [.v (.int .i64 3), .sl 1 (rws zad [(p : Int), (q : Int)]), .v (.int .i64 vn), .v (.int .i64 ve), .v (.int .i64 un), .v (.int .i64 ue)] := rb
 have fi := hF i hi
 have rf := ig (l := fr) (i := i) (by omega)
 have cn := zbf 118 [.rp [.sl 1 (rws zad fr), .sl 6 (rws ivr R), .sl 3 (rws zaj er)]] [(p : Int), (q : Int)] 2 rfl (by omega) (by intro c hc; simp only [List.mem_cons, List.not_mem_nil, or_false] at hc; subst hc; exact zdk) (fun j hj => by
  match j, hj with
  | 0, _ => exact zcP _ p rfl R fr er N hf hp (hF p hp) cc cv
  | 1, _ => exact zcP _ q rfl R fr er N hf hq (hF q hq) cc cv
)
 have rp := ig (l := fr) (i := p) (by omega)
 have fp := hF p hp
 have rq := ig (l := fr) (i := q) (by omega)
 have fq := hF q hq
 have c0 := zbv (fr.getD i 0 - fr.getD p 0)
 have c1 := zbv (fr.getD i 0 - fr.getD q 0)
 generalize zcg (fr.getD i 0 - fr.getD p 0) = s0 at *
 generalize zcg (fr.getD i 0 - fr.getD q 0) = s1 at *
 clear hF
 generalize fr.getD i 0 = f at *
 generalize fr.getD p 0 = g at *
 generalize fr.getD q 0 = g' at *
 cases s0 <;> cases s1
 all_goals
  repeat' (first | simp only [go_sem, seval, zab, List.length_cons, List.length_nil, hf, hB, rb, rf, rp, rq] | simp (disch := omega) only [wA] | (with_reducible first | refine cA ?_ | refine dA ?_ | refine cF c0 ?_ | refine dF c0 ?_) | (refine zbi 3 _ rfl ?_) | refine tW [1] ?_ | refine tW [2] ?_ | refine aI ?_ | refine dI ?_ | refine dG ?_ | ((first | refine cC ?_ ?_ | refine gS ?_ ?_ | refine dS ?_ ?_) <;> intro hc <;> simp only [hc] <;> try simp only [dcA] at hc <;> try omega) | refine aP ?_ | refine dP ?_)
  all_goals exact zal trivial rfl
theorem sc_b4 (ins : List (Int × Int × Int)) (bs : List Blk) (outs : List Int) (vn ve un ue : Int) (R : List Iv) (fr : List Int) (er : List Dy) (N : Nat) (h0 : 0 < N) (hf : fr.length = N) (hF : ∀ i, i < N → 0 ≤ fr.getD i 0 ∧ fr.getD i 0 ≤ 30) (cb : zae zao) (cc : zae zaj) (cv : zae ivr) (p : Nat) (hp : p < N) (q : Nat) (hq : q < N) (i : Nat) (hB : bs.length = N) (hi : i < N) (hb : bs.getD i Blk.zero = ⟨4, [(p : Int), (q : Int)], vn, ve, un, ue⟩) : CallOK Tryz.prog gl 102 [AG ins bs outs, .agg [.sl 1 (rws zad fr), .sl 6 (rws ivr R), .sl 3 (rws zaj er)], .v (.int .i64 i)] (.v (.bool (zcg (fr.getD i 0 - fr.getD p 0) && zcg (fr.getD i 0 - fr.getD q 0)))) := by
 refine okC 167 Tryz.call102 Tryz.func102 Tryz.ntmps102 Tryz.results102 ?_
 have rb := bg (l := bs) (i := i) (by omega)
 rw [hb] at rb
 have rb : (rws zao bs).getD i [] = [.v (.int .i64 4), .sl 1 (rws zad [(p : Int), (q : Int)]), .v (.int .i64 vn), .v (.int .i64 ve), .v (.int .i64 un), .v (.int .i64 ue)] := rb
 have fi := hF i hi
 have rf := ig (l := fr) (i := i) (by omega)
 have cn := zbf 118 [.rp [.sl 1 (rws zad fr), .sl 6 (rws ivr R), .sl 3 (rws zaj er)]] [(p : Int), (q : Int)] 2 rfl (by omega) (by intro c hc; simp only [List.mem_cons, List.not_mem_nil, or_false] at hc; subst hc; exact zdk) (fun j hj => by
  match j, hj with
  | 0, _ => exact zcP _ p rfl R fr er N hf hp (hF p hp) cc cv
  | 1, _ => exact zcP _ q rfl R fr er N hf hq (hF q hq) cc cv
)
 have rp := ig (l := fr) (i := p) (by omega)
 have fp := hF p hp
 have rq := ig (l := fr) (i := q) (by omega)
 have fq := hF q hq
 have c0 := zbv (fr.getD i 0 - fr.getD p 0)
 have c1 := zbv (fr.getD i 0 - fr.getD q 0)
 generalize zcg (fr.getD i 0 - fr.getD p 0) = s0 at *
 generalize zcg (fr.getD i 0 - fr.getD q 0) = s1 at *
 clear hF
 generalize fr.getD i 0 = f at *
 generalize fr.getD p 0 = g at *
 generalize fr.getD q 0 = g' at *
 cases s0 <;> cases s1
 all_goals
  repeat' (first | simp only [go_sem, seval, zab, List.length_cons, List.length_nil, hf, hB, rb, rf, rp, rq] | simp (disch := omega) only [wA] | (with_reducible first | refine cA ?_ | refine dA ?_ | refine cF c0 ?_ | refine dF c0 ?_) | (refine zbi 3 _ rfl ?_) | refine tW [1] ?_ | refine tW [2] ?_ | refine aI ?_ | refine dI ?_ | refine dG ?_ | ((first | refine cC ?_ ?_ | refine gS ?_ ?_ | refine dS ?_ ?_) <;> intro hc <;> simp only [hc] <;> try simp only [dcA] at hc <;> try omega) | refine aP ?_ | refine dP ?_)
  all_goals exact zal trivial rfl
theorem sc_b8 (ins : List (Int × Int × Int)) (bs : List Blk) (outs : List Int) (vn ve un ue : Int) (R : List Iv) (fr : List Int) (er : List Dy) (N : Nat) (h0 : 0 < N) (hf : fr.length = N) (hF : ∀ i, i < N → 0 ≤ fr.getD i 0 ∧ fr.getD i 0 ≤ 30) (cb : zae zao) (cc : zae zaj) (cv : zae ivr) (p : Nat) (hp : p < N) (q : Nat) (hq : q < N) (i : Nat) (hB : bs.length = N) (hi : i < N) (hb : bs.getD i Blk.zero = ⟨8, [(p : Int), (q : Int)], vn, ve, un, ue⟩) : CallOK Tryz.prog gl 102 [AG ins bs outs, .agg [.sl 1 (rws zad fr), .sl 6 (rws ivr R), .sl 3 (rws zaj er)], .v (.int .i64 i)] (.v (.bool (zcg (fr.getD i 0 - fr.getD p 0) && zcg (fr.getD i 0 - fr.getD q 0)))) := by
 refine okC 167 Tryz.call102 Tryz.func102 Tryz.ntmps102 Tryz.results102 ?_
 have rb := bg (l := bs) (i := i) (by omega)
 rw [hb] at rb
 have rb : (rws zao bs).getD i [] = [.v (.int .i64 8), .sl 1 (rws zad [(p : Int), (q : Int)]), .v (.int .i64 vn), .v (.int .i64 ve), .v (.int .i64 un), .v (.int .i64 ue)] := rb
 have fi := hF i hi
 have rf := ig (l := fr) (i := i) (by omega)
 have cn := zbf 118 [.rp [.sl 1 (rws zad fr), .sl 6 (rws ivr R), .sl 3 (rws zaj er)]] [(p : Int), (q : Int)] 2 rfl (by omega) (by intro c hc; simp only [List.mem_cons, List.not_mem_nil, or_false] at hc; subst hc; exact zdk) (fun j hj => by
  match j, hj with
  | 0, _ => exact zcP _ p rfl R fr er N hf hp (hF p hp) cc cv
  | 1, _ => exact zcP _ q rfl R fr er N hf hq (hF q hq) cc cv
)
 have rp := ig (l := fr) (i := p) (by omega)
 have fp := hF p hp
 have rq := ig (l := fr) (i := q) (by omega)
 have fq := hF q hq
 have c0 := zbv (fr.getD i 0 - fr.getD p 0)
 have c1 := zbv (fr.getD i 0 - fr.getD q 0)
 generalize zcg (fr.getD i 0 - fr.getD p 0) = s0 at *
 generalize zcg (fr.getD i 0 - fr.getD q 0) = s1 at *
 clear hF
 generalize fr.getD i 0 = f at *
 generalize fr.getD p 0 = g at *
 generalize fr.getD q 0 = g' at *
 cases s0 <;> cases s1
 all_goals
  repeat' (first | simp only [go_sem, seval, zab, List.length_cons, List.length_nil, hf, hB, rb, rf, rp, rq] | simp (disch := omega) only [wA] | (with_reducible first | refine cA ?_ | refine dA ?_ | refine cF c0 ?_ | refine dF c0 ?_) | (refine zbi 3 _ rfl ?_) | refine tW [1] ?_ | refine tW [2] ?_ | refine aI ?_ | refine dI ?_ | refine dG ?_ | ((first | refine cC ?_ ?_ | refine gS ?_ ?_ | refine dS ?_ ?_) <;> intro hc <;> simp only [hc] <;> try simp only [dcA] at hc <;> try omega) | refine aP ?_ | refine dP ?_)
  all_goals exact zal trivial rfl
theorem sc_b9 (ins : List (Int × Int × Int)) (bs : List Blk) (outs : List Int) (vn ve un ue : Int) (R : List Iv) (fr : List Int) (er : List Dy) (N : Nat) (h0 : 0 < N) (hf : fr.length = N) (hF : ∀ i, i < N → 0 ≤ fr.getD i 0 ∧ fr.getD i 0 ≤ 30) (cb : zae zao) (cc : zae zaj) (cv : zae ivr) (p : Nat) (hp : p < N) (q : Nat) (hq : q < N) (i : Nat) (hB : bs.length = N) (hi : i < N) (hb : bs.getD i Blk.zero = ⟨9, [(p : Int), (q : Int)], vn, ve, un, ue⟩) : CallOK Tryz.prog gl 102 [AG ins bs outs, .agg [.sl 1 (rws zad fr), .sl 6 (rws ivr R), .sl 3 (rws zaj er)], .v (.int .i64 i)] (.v (.bool (zcg (fr.getD i 0 - fr.getD p 0) && zcg (fr.getD i 0 - fr.getD q 0)))) := by
 refine okC 167 Tryz.call102 Tryz.func102 Tryz.ntmps102 Tryz.results102 ?_
 have rb := bg (l := bs) (i := i) (by omega)
 rw [hb] at rb
 have rb : (rws zao bs).getD i [] = [.v (.int .i64 9), .sl 1 (rws zad [(p : Int), (q : Int)]), .v (.int .i64 vn), .v (.int .i64 ve), .v (.int .i64 un), .v (.int .i64 ue)] := rb
 have fi := hF i hi
 have rf := ig (l := fr) (i := i) (by omega)
 have cn := zbf 118 [.rp [.sl 1 (rws zad fr), .sl 6 (rws ivr R), .sl 3 (rws zaj er)]] [(p : Int), (q : Int)] 2 rfl (by omega) (by intro c hc; simp only [List.mem_cons, List.not_mem_nil, or_false] at hc; subst hc; exact zdk) (fun j hj => by
  match j, hj with
  | 0, _ => exact zcP _ p rfl R fr er N hf hp (hF p hp) cc cv
  | 1, _ => exact zcP _ q rfl R fr er N hf hq (hF q hq) cc cv
)
 have rp := ig (l := fr) (i := p) (by omega)
 have fp := hF p hp
 have rq := ig (l := fr) (i := q) (by omega)
 have fq := hF q hq
 have c0 := zbv (fr.getD i 0 - fr.getD p 0)
 have c1 := zbv (fr.getD i 0 - fr.getD q 0)
 generalize zcg (fr.getD i 0 - fr.getD p 0) = s0 at *
 generalize zcg (fr.getD i 0 - fr.getD q 0) = s1 at *
 clear hF
 generalize fr.getD i 0 = f at *
 generalize fr.getD p 0 = g at *
 generalize fr.getD q 0 = g' at *
 cases s0 <;> cases s1
 all_goals
  repeat' (first | simp only [go_sem, seval, zab, List.length_cons, List.length_nil, hf, hB, rb, rf, rp, rq] | simp (disch := omega) only [wA] | (with_reducible first | refine cA ?_ | refine dA ?_ | refine cF c0 ?_ | refine dF c0 ?_) | (refine zbi 3 _ rfl ?_) | refine tW [1] ?_ | refine tW [2] ?_ | refine aI ?_ | refine dI ?_ | refine dG ?_ | ((first | refine cC ?_ ?_ | refine gS ?_ ?_ | refine dS ?_ ?_) <;> intro hc <;> simp only [hc] <;> try simp only [dcA] at hc <;> try omega) | refine aP ?_ | refine dP ?_)
  all_goals exact zal trivial rfl
set_option maxHeartbeats 4000000
theorem cl_bound (ins : List (Int × Int × Int)) (bs : List Blk) (outs : List Int) (R : List Iv) (fr : List Int) (oa : Option Addr) (ln cp : Nat) (er : List Dy) (N : Nat) (i : Nat) (b : Blk) (hbe : bs.getD i Blk.zero = b) (hb : BlkOK ins.length N b) (hB : bs.length = N) (hi : i < N) (h0 : 0 < N) (hN : er.length = N) (hf : fr.length = N) (hR : R.length = N) (hM : ∀ i, i < N → Mg 9000 (er.getD i Dy.zero)) (hV : ∀ i, i < N → (R.getD i Iv.zero).Mg 9000) (hF : ∀ i, i < N → 0 ≤ fr.getD i 0 ∧ fr.getD i 0 ≤ 30) (hP : ∀ i, i < ins.length → zbu (ins.getD i (0, 0, 0))) :
  CallW Tryz.prog gl 57 [AG ins bs outs, .agg [.sl 1 (rws zad fr), .sl 6 (rws ivr R), .v (.slice oa ln cp)], .ps 0 3 0 N, .v (.int .i64 i)] ⟨3, rws zaj er⟩ (.agg [.v (.bool (sg (bdB ins fr R er (fr.getD i 0) b))), .sl 1 (u32s (ms (bdB ins fr R er (fr.getD i 0) b))), .v (.int .i64 (dn (bdB ins fr R er (fr.getD i 0) b)))]) ⟨3, rws zaj er⟩ := by
 have hk1 := hb.kind
 have hval := hb.val
 have hupp := hb.upp
 have hcs : b.k = 0 ∨ b.k = 1 ∨ b.k = 2 ∨ b.k = 3 ∨ b.k = 4 ∨ b.k = 5 ∨ b.k = 6 ∨ b.k = 7 ∨ b.k = 8 ∨ b.k = 9 ∨ b.k = 10 ∨ b.k = 11 := by omega
 rcases hcs with h | h | h | h | h | h | h | h | h | h | h | h
 ·have hbb : b = ⟨b.k, b.a, b.vn, b.ve, b.un, b.ue⟩ := rfl
  have ha := hb.ai h
  rw [h, ha] at hbb
  rw [← hbe] at hbb
  have c := cl_b0 ins bs outs b.vn b.ve b.un b.ue R fr oa ln cp er N hN h0 hf hR hM hF zaf zan zak (b.at 0) ins.length rfl (hb.inp h).1 i hB hi (by rw [hbe] at hbb ⊢; exact hbb)
  have e : bdB ins fr R er (fr.getD i 0) b = (inx (decide (fr.getD i 0 < (ins.getD (b.at 0) (0, 0, 0)).2.2)) (zai (fr.getD i 0))) := by unfold bdB; simp only []; rw [if_pos (show b.k = 0 by omega)]; try rfl
  rw [e]; exact c
 ·have hbb : b = ⟨b.k, b.a, b.vn, b.ve, b.un, b.ue⟩ := rfl
  have ha := hb.a0 h
  rw [h, ha] at hbb
  rw [← hbe] at hbb
  have c := cl_b1 ins bs outs b.vn b.ve b.un b.ue R fr oa ln cp er N hN h0 hf hR hM hF zaf zan zak (hval (by omega)) i hB hi (by rw [hbe] at hbb ⊢; exact hbb)
  have e : bdB ins fr R er (fr.getD i 0) b = (inx (!zbp (scN b.vn b.ve) (fr.getD i 0)) (zai (fr.getD i 0))) := by unfold bdB; simp only []; rw [if_neg (show ¬ (b.k = 0) by omega), if_pos (show b.k = 1 by omega)]; try rfl
  rw [e]; exact c
 ·have hbb : b = ⟨b.k, b.a, b.vn, b.ve, b.un, b.ue⟩ := rfl
  obtain ⟨ha, hp⟩ := hb.a1 (by omega)
  rw [h, ha] at hbb
  rw [← hbe] at hbb
  have c := cl_b2 ins bs outs b.vn b.ve b.un b.ue R fr oa ln cp er N hN h0 hf hR hM hF zaf zan zak (b.at 0) hp (hval (by omega)) i hB hi (by rw [hbe] at hbb ⊢; exact hbb)
  have e : bdB ins fr R er (fr.getD i 0) b = ((mvd (fr.getD i 0) (fr.getD (b.at 0) 0) (zai (fr.getD i 0)) (er.getD (b.at 0) Dy.zero)).max (inx (!zbp (scN b.vn b.ve) (fr.getD i 0)) (zai (fr.getD i 0)))) := by unfold bdB; simp only []; rw [if_neg (show ¬ (b.k = 0) by omega), if_neg (show ¬ (b.k = 1) by omega), if_neg (show ¬ (b.k = 3 ∨ b.k = 4) by omega), if_neg (show ¬ (b.k = 5 ∨ b.k = 10) by omega), if_neg (show ¬ (b.k = 8 ∨ b.k = 9) by omega), if_neg (show ¬ (b.k = 6) by omega), if_neg (show ¬ (b.k = 7) by omega), if_neg (show ¬ (b.k = 11) by omega)]; try rfl
  rw [e]; exact c
 ·have hbb : b = ⟨b.k, b.a, b.vn, b.ve, b.un, b.ue⟩ := rfl
  obtain ⟨ha, hp, hq⟩ := hb.a2 (by omega)
  rw [h, ha] at hbb
  rw [← hbe] at hbb
  have c := cl_b3 ins bs outs b.vn b.ve b.un b.ue R fr oa ln cp er N hN h0 hf hR hM hF zaf zan zak (b.at 0) hp (b.at 1) hq i hB hi (by rw [hbe] at hbb ⊢; exact hbb)
  have e : bdB ins fr R er (fr.getD i 0) b = ((mvd (fr.getD i 0) (fr.getD (b.at 0) 0) (zai (fr.getD i 0)) (er.getD (b.at 0) Dy.zero)).add (mvd (fr.getD i 0) (fr.getD (b.at 1) 0) (zai (fr.getD i 0)) (er.getD (b.at 1) Dy.zero))) := by unfold bdB; simp only []; rw [if_neg (show ¬ (b.k = 0) by omega), if_neg (show ¬ (b.k = 1) by omega), if_pos (show b.k = 3 ∨ b.k = 4 by omega)]; try rfl
  rw [e]; exact c
 ·have hbb : b = ⟨b.k, b.a, b.vn, b.ve, b.un, b.ue⟩ := rfl
  obtain ⟨ha, hp, hq⟩ := hb.a2 (by omega)
  rw [h, ha] at hbb
  rw [← hbe] at hbb
  have c := cl_b4 ins bs outs b.vn b.ve b.un b.ue R fr oa ln cp er N hN h0 hf hR hM hF zaf zan zak (b.at 0) hp (b.at 1) hq i hB hi (by rw [hbe] at hbb ⊢; exact hbb)
  have e : bdB ins fr R er (fr.getD i 0) b = ((mvd (fr.getD i 0) (fr.getD (b.at 0) 0) (zai (fr.getD i 0)) (er.getD (b.at 0) Dy.zero)).add (mvd (fr.getD i 0) (fr.getD (b.at 1) 0) (zai (fr.getD i 0)) (er.getD (b.at 1) Dy.zero))) := by unfold bdB; simp only []; rw [if_neg (show ¬ (b.k = 0) by omega), if_neg (show ¬ (b.k = 1) by omega), if_pos (show b.k = 3 ∨ b.k = 4 by omega)]; try rfl
  rw [e]; exact c
 ·have hbb : b = ⟨b.k, b.a, b.vn, b.ve, b.un, b.ue⟩ := rfl
  obtain ⟨ha, hp⟩ := hb.a1 (by omega)
  rw [h, ha] at hbb
  rw [← hbe] at hbb
  have c := cl_b5 ins bs outs b.vn b.ve b.un b.ue R fr oa ln cp er N hN h0 hf hR hM hF zaf zan zak (b.at 0) hp i hB hi (by rw [hbe] at hbb ⊢; exact hbb)
  have e : bdB ins fr R er (fr.getD i 0) b = (mvd (fr.getD i 0) (fr.getD (b.at 0) 0) (zai (fr.getD i 0)) (er.getD (b.at 0) Dy.zero)) := by unfold bdB; simp only []; rw [if_neg (show ¬ (b.k = 0) by omega), if_neg (show ¬ (b.k = 1) by omega), if_neg (show ¬ (b.k = 3 ∨ b.k = 4) by omega), if_pos (show b.k = 5 ∨ b.k = 10 by omega)]; try rfl
  rw [e]; exact c
 ·have hbb : b = ⟨b.k, b.a, b.vn, b.ve, b.un, b.ue⟩ := rfl
  obtain ⟨ha, hp⟩ := hb.a1 (by omega)
  rw [h, ha] at hbb
  rw [← hbe] at hbb
  have c := cl_b6 ins bs outs b.vn b.ve b.un b.ue R fr oa ln cp er N hN h0 hf hR hM hF zaf zan zak (b.at 0) hp (hval (by omega)) i hB hi (by rw [hbe] at hbb ⊢; exact hbb)
  have e : bdB ins fr R er (fr.getD i 0) b = (((scN b.vn b.ve).abs.mul (er.getD (b.at 0) Dy.zero)).add (inx (decide (fr.getD i 0 - fr.getD (b.at 0) 0 + b.ve < 0)) (zai (fr.getD i 0)))) := by unfold bdB; simp only []; rw [if_neg (show ¬ (b.k = 0) by omega), if_neg (show ¬ (b.k = 1) by omega), if_neg (show ¬ (b.k = 3 ∨ b.k = 4) by omega), if_neg (show ¬ (b.k = 5 ∨ b.k = 10) by omega), if_neg (show ¬ (b.k = 8 ∨ b.k = 9) by omega), if_pos (show b.k = 6 by omega)]; try rfl
  rw [e]; exact c
 ·have hbb : b = ⟨b.k, b.a, b.vn, b.ve, b.un, b.ue⟩ := rfl
  obtain ⟨ha, hp, hq⟩ := hb.a2 (by omega)
  rw [h, ha] at hbb
  rw [← hbe] at hbb
  have c := cl_b7 ins bs outs b.vn b.ve b.un b.ue R fr oa ln cp er N hN h0 hf hR hM hF zaf zan zak (b.at 0) hp (b.at 1) hq hV i hB hi (by rw [hbe] at hbb ⊢; exact hbb)
  have e : bdB ins fr R er (fr.getD i 0) b = ((((((R.getD (b.at 0) Iv.zero).mag).mul (er.getD (b.at 1) Dy.zero)).add (((R.getD (b.at 1) Iv.zero).mag).mul (er.getD (b.at 0) Dy.zero))).add ((er.getD (b.at 0) Dy.zero).mul (er.getD (b.at 1) Dy.zero))).add (inx (decide (fr.getD i 0 - fr.getD (b.at 0) 0 - fr.getD (b.at 1) 0 < 0)) (zai (fr.getD i 0)))) := by unfold bdB; simp only []; rw [if_neg (show ¬ (b.k = 0) by omega), if_neg (show ¬ (b.k = 1) by omega), if_neg (show ¬ (b.k = 3 ∨ b.k = 4) by omega), if_neg (show ¬ (b.k = 5 ∨ b.k = 10) by omega), if_neg (show ¬ (b.k = 8 ∨ b.k = 9) by omega), if_neg (show ¬ (b.k = 6) by omega), if_pos (show b.k = 7 by omega)]; try rfl
  rw [e]; exact c
 ·have hbb : b = ⟨b.k, b.a, b.vn, b.ve, b.un, b.ue⟩ := rfl
  obtain ⟨ha, hp, hq⟩ := hb.a2 (by omega)
  rw [h, ha] at hbb
  rw [← hbe] at hbb
  have c := cl_b8 ins bs outs b.vn b.ve b.un b.ue R fr oa ln cp er N hN h0 hf hR hM hF zaf zan zak (b.at 0) hp (b.at 1) hq i hB hi (by rw [hbe] at hbb ⊢; exact hbb)
  have e : bdB ins fr R er (fr.getD i 0) b = ((mvd (fr.getD i 0) (fr.getD (b.at 0) 0) (zai (fr.getD i 0)) (er.getD (b.at 0) Dy.zero)).max (mvd (fr.getD i 0) (fr.getD (b.at 1) 0) (zai (fr.getD i 0)) (er.getD (b.at 1) Dy.zero))) := by unfold bdB; simp only []; rw [if_neg (show ¬ (b.k = 0) by omega), if_neg (show ¬ (b.k = 1) by omega), if_neg (show ¬ (b.k = 3 ∨ b.k = 4) by omega), if_neg (show ¬ (b.k = 5 ∨ b.k = 10) by omega), if_pos (show b.k = 8 ∨ b.k = 9 by omega)]; try rfl
  rw [e]; exact c
 ·have hbb : b = ⟨b.k, b.a, b.vn, b.ve, b.un, b.ue⟩ := rfl
  obtain ⟨ha, hp, hq⟩ := hb.a2 (by omega)
  rw [h, ha] at hbb
  rw [← hbe] at hbb
  have c := cl_b9 ins bs outs b.vn b.ve b.un b.ue R fr oa ln cp er N hN h0 hf hR hM hF zaf zan zak (b.at 0) hp (b.at 1) hq i hB hi (by rw [hbe] at hbb ⊢; exact hbb)
  have e : bdB ins fr R er (fr.getD i 0) b = ((mvd (fr.getD i 0) (fr.getD (b.at 0) 0) (zai (fr.getD i 0)) (er.getD (b.at 0) Dy.zero)).max (mvd (fr.getD i 0) (fr.getD (b.at 1) 0) (zai (fr.getD i 0)) (er.getD (b.at 1) Dy.zero))) := by unfold bdB; simp only []; rw [if_neg (show ¬ (b.k = 0) by omega), if_neg (show ¬ (b.k = 1) by omega), if_neg (show ¬ (b.k = 3 ∨ b.k = 4) by omega), if_neg (show ¬ (b.k = 5 ∨ b.k = 10) by omega), if_pos (show b.k = 8 ∨ b.k = 9 by omega)]; try rfl
  rw [e]; exact c
 ·have hbb : b = ⟨b.k, b.a, b.vn, b.ve, b.un, b.ue⟩ := rfl
  obtain ⟨ha, hp⟩ := hb.a1 (by omega)
  rw [h, ha] at hbb
  rw [← hbe] at hbb
  have c := cl_b10 ins bs outs b.vn b.ve b.un b.ue R fr oa ln cp er N hN h0 hf hR hM hF zaf zan zak (b.at 0) hp i hB hi (by rw [hbe] at hbb ⊢; exact hbb)
  have e : bdB ins fr R er (fr.getD i 0) b = (mvd (fr.getD i 0) (fr.getD (b.at 0) 0) (zai (fr.getD i 0)) (er.getD (b.at 0) Dy.zero)) := by unfold bdB; simp only []; rw [if_neg (show ¬ (b.k = 0) by omega), if_neg (show ¬ (b.k = 1) by omega), if_neg (show ¬ (b.k = 3 ∨ b.k = 4) by omega), if_pos (show b.k = 5 ∨ b.k = 10 by omega)]; try rfl
  rw [e]; exact c
 ·have hbb : b = ⟨b.k, b.a, b.vn, b.ve, b.un, b.ue⟩ := rfl
  obtain ⟨ha, hp⟩ := hb.a1 (by omega)
  rw [h, ha] at hbb
  rw [← hbe] at hbb
  have c := cl_b11 ins bs outs b.vn b.ve b.un b.ue R fr oa ln cp er N hN h0 hf hR hM hF zaf zan zak (b.at 0) hp (hval (by omega)) (hupp h) i hB hi (by rw [hbe] at hbb ⊢; exact hbb)
  have e : bdB ins fr R er (fr.getD i 0) b = ((mvd (fr.getD i 0) (fr.getD (b.at 0) 0) (zai (fr.getD i 0)) (er.getD (b.at 0) Dy.zero)).max (inx (or (!zbp (scN b.vn b.ve) (fr.getD i 0)) (!zbp (scN b.un b.ue) (fr.getD i 0))) (zai (fr.getD i 0)))) := by unfold bdB; simp only []; rw [if_neg (show ¬ (b.k = 0) by omega), if_neg (show ¬ (b.k = 1) by omega), if_neg (show ¬ (b.k = 3 ∨ b.k = 4) by omega), if_neg (show ¬ (b.k = 5 ∨ b.k = 10) by omega), if_neg (show ¬ (b.k = 8 ∨ b.k = 9) by omega), if_neg (show ¬ (b.k = 6) by omega), if_neg (show ¬ (b.k = 7) by omega), if_pos (show b.k = 11 by omega)]; try rfl
  rw [e]; exact c
theorem cb_bound (ins : List (Int × Int × Int)) (bs : List Blk) (outs : List Int) (R : List Iv) (fr : List Int) (c3 : List Dy) (er : List Dy) (N : Nat) (i : Nat) (b : Blk) (hbe : bs.getD i Blk.zero = b) (hb : BlkOK ins.length N b) (hB : bs.length = N) (hi : i < N) (h0 : 0 < N) (hN : er.length = N) (hf : fr.length = N) (hR : R.length = N) (hM : ∀ i, i < N → Mg 9000 (er.getD i Dy.zero)) (hV : ∀ i, i < N → (R.getD i Iv.zero).Mg 9000) (hF : ∀ i, i < N → 0 ≤ fr.getD i 0 ∧ fr.getD i 0 ≤ 30) (hP : ∀ i, i < ins.length → zbu (ins.getD i (0, 0, 0))) :
  CallOK Tryz.prog gl 57 [AG ins bs outs, .agg [.sl 1 (rws zad fr), .sl 6 (rws ivr R), .sl 3 (rws zaj c3)], .sl 3 (rws zaj er), .v (.int .i64 i)] (.agg [.v (.bool (sg (bdB ins fr R er (fr.getD i 0) b))), .sl 1 (u32s (ms (bdB ins fr R er (fr.getD i 0) b))), .v (.int .i64 (dn (bdB ins fr R er (fr.getD i 0) b)))]) := by
 have hk1 := hb.kind
 have hval := hb.val
 have hupp := hb.upp
 have hcs : b.k = 0 ∨ b.k = 1 ∨ b.k = 2 ∨ b.k = 3 ∨ b.k = 4 ∨ b.k = 5 ∨ b.k = 6 ∨ b.k = 7 ∨ b.k = 8 ∨ b.k = 9 ∨ b.k = 10 ∨ b.k = 11 := by omega
 rcases hcs with h | h | h | h | h | h | h | h | h | h | h | h
 ·have hbb : b = ⟨b.k, b.a, b.vn, b.ve, b.un, b.ue⟩ := rfl
  have ha := hb.ai h
  rw [h, ha] at hbb
  rw [← hbe] at hbb
  have c := cb_b0 ins bs outs b.vn b.ve b.un b.ue R fr c3 er N hN h0 hf hR hM hF zaf zan zak (b.at 0) ins.length rfl (hb.inp h).1 i hB hi (by rw [hbe] at hbb ⊢; exact hbb)
  have e : bdB ins fr R er (fr.getD i 0) b = (inx (decide (fr.getD i 0 < (ins.getD (b.at 0) (0, 0, 0)).2.2)) (zai (fr.getD i 0))) := by unfold bdB; simp only []; rw [if_pos (show b.k = 0 by omega)]; try rfl
  rw [e]; exact c
 ·have hbb : b = ⟨b.k, b.a, b.vn, b.ve, b.un, b.ue⟩ := rfl
  have ha := hb.a0 h
  rw [h, ha] at hbb
  rw [← hbe] at hbb
  have c := cb_b1 ins bs outs b.vn b.ve b.un b.ue R fr c3 er N hN h0 hf hR hM hF zaf zan zak (hval (by omega)) i hB hi (by rw [hbe] at hbb ⊢; exact hbb)
  have e : bdB ins fr R er (fr.getD i 0) b = (inx (!zbp (scN b.vn b.ve) (fr.getD i 0)) (zai (fr.getD i 0))) := by unfold bdB; simp only []; rw [if_neg (show ¬ (b.k = 0) by omega), if_pos (show b.k = 1 by omega)]; try rfl
  rw [e]; exact c
 ·have hbb : b = ⟨b.k, b.a, b.vn, b.ve, b.un, b.ue⟩ := rfl
  obtain ⟨ha, hp⟩ := hb.a1 (by omega)
  rw [h, ha] at hbb
  rw [← hbe] at hbb
  have c := cb_b2 ins bs outs b.vn b.ve b.un b.ue R fr c3 er N hN h0 hf hR hM hF zaf zan zak (b.at 0) hp (hval (by omega)) i hB hi (by rw [hbe] at hbb ⊢; exact hbb)
  have e : bdB ins fr R er (fr.getD i 0) b = ((mvd (fr.getD i 0) (fr.getD (b.at 0) 0) (zai (fr.getD i 0)) (er.getD (b.at 0) Dy.zero)).max (inx (!zbp (scN b.vn b.ve) (fr.getD i 0)) (zai (fr.getD i 0)))) := by unfold bdB; simp only []; rw [if_neg (show ¬ (b.k = 0) by omega), if_neg (show ¬ (b.k = 1) by omega), if_neg (show ¬ (b.k = 3 ∨ b.k = 4) by omega), if_neg (show ¬ (b.k = 5 ∨ b.k = 10) by omega), if_neg (show ¬ (b.k = 8 ∨ b.k = 9) by omega), if_neg (show ¬ (b.k = 6) by omega), if_neg (show ¬ (b.k = 7) by omega), if_neg (show ¬ (b.k = 11) by omega)]; try rfl
  rw [e]; exact c
 ·have hbb : b = ⟨b.k, b.a, b.vn, b.ve, b.un, b.ue⟩ := rfl
  obtain ⟨ha, hp, hq⟩ := hb.a2 (by omega)
  rw [h, ha] at hbb
  rw [← hbe] at hbb
  have c := cb_b3 ins bs outs b.vn b.ve b.un b.ue R fr c3 er N hN h0 hf hR hM hF zaf zan zak (b.at 0) hp (b.at 1) hq i hB hi (by rw [hbe] at hbb ⊢; exact hbb)
  have e : bdB ins fr R er (fr.getD i 0) b = ((mvd (fr.getD i 0) (fr.getD (b.at 0) 0) (zai (fr.getD i 0)) (er.getD (b.at 0) Dy.zero)).add (mvd (fr.getD i 0) (fr.getD (b.at 1) 0) (zai (fr.getD i 0)) (er.getD (b.at 1) Dy.zero))) := by unfold bdB; simp only []; rw [if_neg (show ¬ (b.k = 0) by omega), if_neg (show ¬ (b.k = 1) by omega), if_pos (show b.k = 3 ∨ b.k = 4 by omega)]; try rfl
  rw [e]; exact c
 ·have hbb : b = ⟨b.k, b.a, b.vn, b.ve, b.un, b.ue⟩ := rfl
  obtain ⟨ha, hp, hq⟩ := hb.a2 (by omega)
  rw [h, ha] at hbb
  rw [← hbe] at hbb
  have c := cb_b4 ins bs outs b.vn b.ve b.un b.ue R fr c3 er N hN h0 hf hR hM hF zaf zan zak (b.at 0) hp (b.at 1) hq i hB hi (by rw [hbe] at hbb ⊢; exact hbb)
  have e : bdB ins fr R er (fr.getD i 0) b = ((mvd (fr.getD i 0) (fr.getD (b.at 0) 0) (zai (fr.getD i 0)) (er.getD (b.at 0) Dy.zero)).add (mvd (fr.getD i 0) (fr.getD (b.at 1) 0) (zai (fr.getD i 0)) (er.getD (b.at 1) Dy.zero))) := by unfold bdB; simp only []; rw [if_neg (show ¬ (b.k = 0) by omega), if_neg (show ¬ (b.k = 1) by omega), if_pos (show b.k = 3 ∨ b.k = 4 by omega)]; try rfl
  rw [e]; exact c
 ·have hbb : b = ⟨b.k, b.a, b.vn, b.ve, b.un, b.ue⟩ := rfl
  obtain ⟨ha, hp⟩ := hb.a1 (by omega)
  rw [h, ha] at hbb
  rw [← hbe] at hbb
  have c := cb_b5 ins bs outs b.vn b.ve b.un b.ue R fr c3 er N hN h0 hf hR hM hF zaf zan zak (b.at 0) hp i hB hi (by rw [hbe] at hbb ⊢; exact hbb)
  have e : bdB ins fr R er (fr.getD i 0) b = (mvd (fr.getD i 0) (fr.getD (b.at 0) 0) (zai (fr.getD i 0)) (er.getD (b.at 0) Dy.zero)) := by unfold bdB; simp only []; rw [if_neg (show ¬ (b.k = 0) by omega), if_neg (show ¬ (b.k = 1) by omega), if_neg (show ¬ (b.k = 3 ∨ b.k = 4) by omega), if_pos (show b.k = 5 ∨ b.k = 10 by omega)]; try rfl
  rw [e]; exact c
 ·have hbb : b = ⟨b.k, b.a, b.vn, b.ve, b.un, b.ue⟩ := rfl
  obtain ⟨ha, hp⟩ := hb.a1 (by omega)
  rw [h, ha] at hbb
  rw [← hbe] at hbb
  have c := cb_b6 ins bs outs b.vn b.ve b.un b.ue R fr c3 er N hN h0 hf hR hM hF zaf zan zak (b.at 0) hp (hval (by omega)) i hB hi (by rw [hbe] at hbb ⊢; exact hbb)
  have e : bdB ins fr R er (fr.getD i 0) b = (((scN b.vn b.ve).abs.mul (er.getD (b.at 0) Dy.zero)).add (inx (decide (fr.getD i 0 - fr.getD (b.at 0) 0 + b.ve < 0)) (zai (fr.getD i 0)))) := by unfold bdB; simp only []; rw [if_neg (show ¬ (b.k = 0) by omega), if_neg (show ¬ (b.k = 1) by omega), if_neg (show ¬ (b.k = 3 ∨ b.k = 4) by omega), if_neg (show ¬ (b.k = 5 ∨ b.k = 10) by omega), if_neg (show ¬ (b.k = 8 ∨ b.k = 9) by omega), if_pos (show b.k = 6 by omega)]; try rfl
  rw [e]; exact c
 ·have hbb : b = ⟨b.k, b.a, b.vn, b.ve, b.un, b.ue⟩ := rfl
  obtain ⟨ha, hp, hq⟩ := hb.a2 (by omega)
  rw [h, ha] at hbb
  rw [← hbe] at hbb
  have c := cb_b7 ins bs outs b.vn b.ve b.un b.ue R fr c3 er N hN h0 hf hR hM hF zaf zan zak (b.at 0) hp (b.at 1) hq hV i hB hi (by rw [hbe] at hbb ⊢; exact hbb)
  have e : bdB ins fr R er (fr.getD i 0) b = ((((((R.getD (b.at 0) Iv.zero).mag).mul (er.getD (b.at 1) Dy.zero)).add (((R.getD (b.at 1) Iv.zero).mag).mul (er.getD (b.at 0) Dy.zero))).add ((er.getD (b.at 0) Dy.zero).mul (er.getD (b.at 1) Dy.zero))).add (inx (decide (fr.getD i 0 - fr.getD (b.at 0) 0 - fr.getD (b.at 1) 0 < 0)) (zai (fr.getD i 0)))) := by unfold bdB; simp only []; rw [if_neg (show ¬ (b.k = 0) by omega), if_neg (show ¬ (b.k = 1) by omega), if_neg (show ¬ (b.k = 3 ∨ b.k = 4) by omega), if_neg (show ¬ (b.k = 5 ∨ b.k = 10) by omega), if_neg (show ¬ (b.k = 8 ∨ b.k = 9) by omega), if_neg (show ¬ (b.k = 6) by omega), if_pos (show b.k = 7 by omega)]; try rfl
  rw [e]; exact c
 ·have hbb : b = ⟨b.k, b.a, b.vn, b.ve, b.un, b.ue⟩ := rfl
  obtain ⟨ha, hp, hq⟩ := hb.a2 (by omega)
  rw [h, ha] at hbb
  rw [← hbe] at hbb
  have c := cb_b8 ins bs outs b.vn b.ve b.un b.ue R fr c3 er N hN h0 hf hR hM hF zaf zan zak (b.at 0) hp (b.at 1) hq i hB hi (by rw [hbe] at hbb ⊢; exact hbb)
  have e : bdB ins fr R er (fr.getD i 0) b = ((mvd (fr.getD i 0) (fr.getD (b.at 0) 0) (zai (fr.getD i 0)) (er.getD (b.at 0) Dy.zero)).max (mvd (fr.getD i 0) (fr.getD (b.at 1) 0) (zai (fr.getD i 0)) (er.getD (b.at 1) Dy.zero))) := by unfold bdB; simp only []; rw [if_neg (show ¬ (b.k = 0) by omega), if_neg (show ¬ (b.k = 1) by omega), if_neg (show ¬ (b.k = 3 ∨ b.k = 4) by omega), if_neg (show ¬ (b.k = 5 ∨ b.k = 10) by omega), if_pos (show b.k = 8 ∨ b.k = 9 by omega)]; try rfl
  rw [e]; exact c
 ·have hbb : b = ⟨b.k, b.a, b.vn, b.ve, b.un, b.ue⟩ := rfl
  obtain ⟨ha, hp, hq⟩ := hb.a2 (by omega)
  rw [h, ha] at hbb
  rw [← hbe] at hbb
  have c := cb_b9 ins bs outs b.vn b.ve b.un b.ue R fr c3 er N hN h0 hf hR hM hF zaf zan zak (b.at 0) hp (b.at 1) hq i hB hi (by rw [hbe] at hbb ⊢; exact hbb)
  have e : bdB ins fr R er (fr.getD i 0) b = ((mvd (fr.getD i 0) (fr.getD (b.at 0) 0) (zai (fr.getD i 0)) (er.getD (b.at 0) Dy.zero)).max (mvd (fr.getD i 0) (fr.getD (b.at 1) 0) (zai (fr.getD i 0)) (er.getD (b.at 1) Dy.zero))) := by unfold bdB; simp only []; rw [if_neg (show ¬ (b.k = 0) by omega), if_neg (show ¬ (b.k = 1) by omega), if_neg (show ¬ (b.k = 3 ∨ b.k = 4) by omega), if_neg (show ¬ (b.k = 5 ∨ b.k = 10) by omega), if_pos (show b.k = 8 ∨ b.k = 9 by omega)]; try rfl
  rw [e]; exact c
 ·have hbb : b = ⟨b.k, b.a, b.vn, b.ve, b.un, b.ue⟩ := rfl
  obtain ⟨ha, hp⟩ := hb.a1 (by omega)
  rw [h, ha] at hbb
  rw [← hbe] at hbb
  have c := cb_b10 ins bs outs b.vn b.ve b.un b.ue R fr c3 er N hN h0 hf hR hM hF zaf zan zak (b.at 0) hp i hB hi (by rw [hbe] at hbb ⊢; exact hbb)
  have e : bdB ins fr R er (fr.getD i 0) b = (mvd (fr.getD i 0) (fr.getD (b.at 0) 0) (zai (fr.getD i 0)) (er.getD (b.at 0) Dy.zero)) := by unfold bdB; simp only []; rw [if_neg (show ¬ (b.k = 0) by omega), if_neg (show ¬ (b.k = 1) by omega), if_neg (show ¬ (b.k = 3 ∨ b.k = 4) by omega), if_pos (show b.k = 5 ∨ b.k = 10 by omega)]; try rfl
  rw [e]; exact c
 ·have hbb : b = ⟨b.k, b.a, b.vn, b.ve, b.un, b.ue⟩ := rfl
  obtain ⟨ha, hp⟩ := hb.a1 (by omega)
  rw [h, ha] at hbb
  rw [← hbe] at hbb
  have c := cb_b11 ins bs outs b.vn b.ve b.un b.ue R fr c3 er N hN h0 hf hR hM hF zaf zan zak (b.at 0) hp (hval (by omega)) (hupp h) i hB hi (by rw [hbe] at hbb ⊢; exact hbb)
  have e : bdB ins fr R er (fr.getD i 0) b = ((mvd (fr.getD i 0) (fr.getD (b.at 0) 0) (zai (fr.getD i 0)) (er.getD (b.at 0) Dy.zero)).max (inx (or (!zbp (scN b.vn b.ve) (fr.getD i 0)) (!zbp (scN b.un b.ue) (fr.getD i 0))) (zai (fr.getD i 0)))) := by unfold bdB; simp only []; rw [if_neg (show ¬ (b.k = 0) by omega), if_neg (show ¬ (b.k = 1) by omega), if_neg (show ¬ (b.k = 3 ∨ b.k = 4) by omega), if_neg (show ¬ (b.k = 5 ∨ b.k = 10) by omega), if_neg (show ¬ (b.k = 8 ∨ b.k = 9) by omega), if_neg (show ¬ (b.k = 6) by omega), if_neg (show ¬ (b.k = 7) by omega), if_pos (show b.k = 11 by omega)]; try rfl
  rw [e]; exact c
theorem zo4 (ins : List (Int × Int × Int)) (bs : List Blk) (outs : List Int) (R : List Iv) (fr : List Int) (er : List Dy) (N : Nat) (i : Nat) (b : Blk) (hbe : bs.getD i Blk.zero = b) (hb : BlkOK ins.length N b) (hB : bs.length = N) (hi : i < N) (h0 : 0 < N) (hR : R.length = N) (hM : ∀ i, i < N → (R.getD i Iv.zero).Mg 9000) (hP : ∀ i, i < ins.length → zbu (ins.getD i (0, 0, 0))) :
  CallOK Tryz.prog gl 103 [AG ins bs outs, .agg [.sl 1 (rws zad fr), .sl 6 (rws ivr R), .sl 3 (rws zaj er)], .v (.int .i64 i)] (.v (.bool (rgB ins R i b))) := by
 have hk1 := hb.kind
 have hval := hb.val
 have hupp := hb.upp
 have hcs : b.k = 0 ∨ b.k = 1 ∨ b.k = 2 ∨ b.k = 3 ∨ b.k = 4 ∨ b.k = 5 ∨ b.k = 6 ∨ b.k = 7 ∨ b.k = 8 ∨ b.k = 9 ∨ b.k = 10 ∨ b.k = 11 := by omega
 rcases hcs with h | h | h | h | h | h | h | h | h | h | h | h
 ·have hbb : b = ⟨b.k, b.a, b.vn, b.ve, b.un, b.ue⟩ := rfl
  have ha := hb.ai h
  rw [h, ha] at hbb
  rw [← hbe] at hbb
  have c := ct_rg0 ins bs outs b.vn b.ve b.un b.ue R N hR h0 hM zaf zak (b.at 0) ins.length rfl (hb.inp h).1 hP fr er zan i hB hi (by rw [hbe] at hbb ⊢; exact hbb)
  have e : rgB ins R i b = (((Iv.sp2 (Dy.int (ins.getD (b.at 0) (0, 0, 0)).1) (Dy.int (ins.getD (b.at 0) (0, 0, 0)).2.1)).mul (Iv.pt ((Dy.int 1).shift (-(ins.getD (b.at 0) (0, 0, 0)).2.2)))).ins (R.getD i Iv.zero)) := by unfold rgB rnB; rw [if_neg (show ¬ b.k = 2 by omega)]; simp only []; rw [if_pos (show b.k = 0 by omega)]; try rfl
  rw [e]; exact c
 ·have hbb : b = ⟨b.k, b.a, b.vn, b.ve, b.un, b.ue⟩ := rfl
  have ha := hb.a0 h
  rw [h, ha] at hbb
  rw [← hbe] at hbb
  have c := ct_rg1 ins bs outs b.vn b.ve b.un b.ue R N hR h0 hM zaf zak (hval (by omega)) fr er zan i hB hi (by rw [hbe] at hbb ⊢; exact hbb)
  have e : rgB ins R i b = ((Iv.pt (scN b.vn b.ve)).ins (R.getD i Iv.zero)) := by unfold rgB rnB; rw [if_neg (show ¬ b.k = 2 by omega)]; simp only []; rw [if_neg (show ¬ (b.k = 0) by omega), if_pos (show b.k = 1 by omega)]; try rfl
  rw [e]; exact c
 ·have hbb : b = ⟨b.k, b.a, b.vn, b.ve, b.un, b.ue⟩ := rfl
  obtain ⟨ha, hp⟩ := hb.a1 (by omega)
  rw [h, ha] at hbb
  rw [← hbe] at hbb
  have c := ct_rg2 ins bs outs b.vn b.ve b.un b.ue R N hR h0 hM zaf zak (b.at 0) hp (hval (by omega)) fr er zan i hB hi (by rw [hbe] at hbb ⊢; exact hbb)
  have e : rgB ins R i b = (((Iv.pt (scN b.vn b.ve)).hull (R.getD (b.at 0) Iv.zero)).ins (R.getD i Iv.zero)) := by unfold rgB; rw [if_pos h]; rfl
  rw [e]; exact c
 ·have hbb : b = ⟨b.k, b.a, b.vn, b.ve, b.un, b.ue⟩ := rfl
  obtain ⟨ha, hp, hq⟩ := hb.a2 (by omega)
  rw [h, ha] at hbb
  rw [← hbe] at hbb
  have c := ct_rg3 ins bs outs b.vn b.ve b.un b.ue R N hR h0 hM zaf zak (b.at 0) hp (b.at 1) hq fr er zan i hB hi (by rw [hbe] at hbb ⊢; exact hbb)
  have e : rgB ins R i b = (((R.getD (b.at 0) Iv.zero).add (R.getD (b.at 1) Iv.zero)).ins (R.getD i Iv.zero)) := by unfold rgB rnB; rw [if_neg (show ¬ b.k = 2 by omega)]; simp only []; rw [if_neg (show ¬ (b.k = 0) by omega), if_neg (show ¬ (b.k = 1) by omega), if_pos (show b.k = 3 by omega)]; try rfl
  rw [e]; exact c
 ·have hbb : b = ⟨b.k, b.a, b.vn, b.ve, b.un, b.ue⟩ := rfl
  obtain ⟨ha, hp, hq⟩ := hb.a2 (by omega)
  rw [h, ha] at hbb
  rw [← hbe] at hbb
  have c := ct_rg4 ins bs outs b.vn b.ve b.un b.ue R N hR h0 hM zaf zak (b.at 0) hp (b.at 1) hq fr er zan i hB hi (by rw [hbe] at hbb ⊢; exact hbb)
  have e : rgB ins R i b = (((R.getD (b.at 0) Iv.zero).sub (R.getD (b.at 1) Iv.zero)).ins (R.getD i Iv.zero)) := by unfold rgB rnB; rw [if_neg (show ¬ b.k = 2 by omega)]; simp only []; rw [if_neg (show ¬ (b.k = 0) by omega), if_neg (show ¬ (b.k = 1) by omega), if_neg (show ¬ (b.k = 3) by omega), if_pos (show b.k = 4 by omega)]; try rfl
  rw [e]; exact c
 ·have hbb : b = ⟨b.k, b.a, b.vn, b.ve, b.un, b.ue⟩ := rfl
  obtain ⟨ha, hp⟩ := hb.a1 (by omega)
  rw [h, ha] at hbb
  rw [← hbe] at hbb
  have c := ct_rg5 ins bs outs b.vn b.ve b.un b.ue R N hR h0 hM zaf zak (b.at 0) hp fr er zan i hB hi (by rw [hbe] at hbb ⊢; exact hbb)
  have e : rgB ins R i b = (((R.getD (b.at 0) Iv.zero).neg).ins (R.getD i Iv.zero)) := by unfold rgB rnB; rw [if_neg (show ¬ b.k = 2 by omega)]; simp only []; rw [if_neg (show ¬ (b.k = 0) by omega), if_neg (show ¬ (b.k = 1) by omega), if_neg (show ¬ (b.k = 3) by omega), if_neg (show ¬ (b.k = 4) by omega), if_neg (show ¬ (b.k = 7) by omega), if_pos (show b.k = 5 by omega)]; try rfl
  rw [e]; exact c
 ·have hbb : b = ⟨b.k, b.a, b.vn, b.ve, b.un, b.ue⟩ := rfl
  obtain ⟨ha, hp⟩ := hb.a1 (by omega)
  rw [h, ha] at hbb
  rw [← hbe] at hbb
  have c := ct_rg6 ins bs outs b.vn b.ve b.un b.ue R N hR h0 hM zaf zak (b.at 0) hp (hval (by omega)) fr er zan i hB hi (by rw [hbe] at hbb ⊢; exact hbb)
  have e : rgB ins R i b = (((R.getD (b.at 0) Iv.zero).mul (Iv.pt (scN b.vn b.ve))).ins (R.getD i Iv.zero)) := by unfold rgB rnB; rw [if_neg (show ¬ b.k = 2 by omega)]; simp only []; rw [if_neg (show ¬ (b.k = 0) by omega), if_neg (show ¬ (b.k = 1) by omega), if_neg (show ¬ (b.k = 3) by omega), if_neg (show ¬ (b.k = 4) by omega), if_neg (show ¬ (b.k = 7) by omega), if_neg (show ¬ (b.k = 5) by omega), if_neg (show ¬ (b.k = 10) by omega), if_pos (show b.k = 6 by omega)]; try rfl
  rw [e]; exact c
 ·have hbb : b = ⟨b.k, b.a, b.vn, b.ve, b.un, b.ue⟩ := rfl
  obtain ⟨ha, hp, hq⟩ := hb.a2 (by omega)
  rw [h, ha] at hbb
  rw [← hbe] at hbb
  have c := ct_rg7 ins bs outs b.vn b.ve b.un b.ue R N hR h0 hM zaf zak (b.at 0) hp (b.at 1) hq fr er zan i hB hi (by rw [hbe] at hbb ⊢; exact hbb)
  have e : rgB ins R i b = (((R.getD (b.at 0) Iv.zero).mul (R.getD (b.at 1) Iv.zero)).ins (R.getD i Iv.zero)) := by unfold rgB rnB; rw [if_neg (show ¬ b.k = 2 by omega)]; simp only []; rw [if_neg (show ¬ (b.k = 0) by omega), if_neg (show ¬ (b.k = 1) by omega), if_neg (show ¬ (b.k = 3) by omega), if_neg (show ¬ (b.k = 4) by omega), if_pos (show b.k = 7 by omega)]; try rfl
  rw [e]; exact c
 ·have hbb : b = ⟨b.k, b.a, b.vn, b.ve, b.un, b.ue⟩ := rfl
  obtain ⟨ha, hp, hq⟩ := hb.a2 (by omega)
  rw [h, ha] at hbb
  rw [← hbe] at hbb
  have c := ct_rg8 ins bs outs b.vn b.ve b.un b.ue R N hR h0 hM zaf zak (b.at 0) hp (b.at 1) hq fr er zan i hB hi (by rw [hbe] at hbb ⊢; exact hbb)
  have e : rgB ins R i b = (((R.getD (b.at 0) Iv.zero).min (R.getD (b.at 1) Iv.zero)).ins (R.getD i Iv.zero)) := by unfold rgB rnB; rw [if_neg (show ¬ b.k = 2 by omega)]; simp only []; rw [if_neg (show ¬ (b.k = 0) by omega), if_neg (show ¬ (b.k = 1) by omega), if_neg (show ¬ (b.k = 3) by omega), if_neg (show ¬ (b.k = 4) by omega), if_neg (show ¬ (b.k = 7) by omega), if_neg (show ¬ (b.k = 5) by omega), if_neg (show ¬ (b.k = 10) by omega), if_neg (show ¬ (b.k = 6) by omega), if_pos (show b.k = 8 by omega)]; try rfl
  rw [e]; exact c
 ·have hbb : b = ⟨b.k, b.a, b.vn, b.ve, b.un, b.ue⟩ := rfl
  obtain ⟨ha, hp, hq⟩ := hb.a2 (by omega)
  rw [h, ha] at hbb
  rw [← hbe] at hbb
  have c := ct_rg9 ins bs outs b.vn b.ve b.un b.ue R N hR h0 hM zaf zak (b.at 0) hp (b.at 1) hq fr er zan i hB hi (by rw [hbe] at hbb ⊢; exact hbb)
  have e : rgB ins R i b = (((R.getD (b.at 0) Iv.zero).max (R.getD (b.at 1) Iv.zero)).ins (R.getD i Iv.zero)) := by unfold rgB rnB; rw [if_neg (show ¬ b.k = 2 by omega)]; simp only []; rw [if_neg (show ¬ (b.k = 0) by omega), if_neg (show ¬ (b.k = 1) by omega), if_neg (show ¬ (b.k = 3) by omega), if_neg (show ¬ (b.k = 4) by omega), if_neg (show ¬ (b.k = 7) by omega), if_neg (show ¬ (b.k = 5) by omega), if_neg (show ¬ (b.k = 10) by omega), if_neg (show ¬ (b.k = 6) by omega), if_neg (show ¬ (b.k = 8) by omega), if_pos (show b.k = 9 by omega)]; try rfl
  rw [e]; exact c
 ·have hbb : b = ⟨b.k, b.a, b.vn, b.ve, b.un, b.ue⟩ := rfl
  obtain ⟨ha, hp⟩ := hb.a1 (by omega)
  rw [h, ha] at hbb
  rw [← hbe] at hbb
  have c := ct_rg10 ins bs outs b.vn b.ve b.un b.ue R N hR h0 hM zaf zak (b.at 0) hp fr er zan i hB hi (by rw [hbe] at hbb ⊢; exact hbb)
  have e : rgB ins R i b = (((R.getD (b.at 0) Iv.zero).abs).ins (R.getD i Iv.zero)) := by unfold rgB rnB; rw [if_neg (show ¬ b.k = 2 by omega)]; simp only []; rw [if_neg (show ¬ (b.k = 0) by omega), if_neg (show ¬ (b.k = 1) by omega), if_neg (show ¬ (b.k = 3) by omega), if_neg (show ¬ (b.k = 4) by omega), if_neg (show ¬ (b.k = 7) by omega), if_neg (show ¬ (b.k = 5) by omega), if_pos (show b.k = 10 by omega)]; try rfl
  rw [e]; exact c
 ·have hbb : b = ⟨b.k, b.a, b.vn, b.ve, b.un, b.ue⟩ := rfl
  obtain ⟨ha, hp⟩ := hb.a1 (by omega)
  rw [h, ha] at hbb
  rw [← hbe] at hbb
  have c := ct_rg11 ins bs outs b.vn b.ve b.un b.ue R N hR h0 hM zaf zak (b.at 0) hp (hval (by omega)) (hupp h) (hb.ord h) fr er zan i hB hi (by rw [hbe] at hbb ⊢; exact hbb)
  have e : rgB ins R i b = ((((R.getD (b.at 0) Iv.zero).max (Iv.pt (scN b.vn b.ve))).min (Iv.pt (scN b.un b.ue))).ins (R.getD i Iv.zero)) := by unfold rgB rnB; rw [if_neg (show ¬ b.k = 2 by omega)]; simp only []; rw [if_neg (show ¬ (b.k = 0) by omega), if_neg (show ¬ (b.k = 1) by omega), if_neg (show ¬ (b.k = 3) by omega), if_neg (show ¬ (b.k = 4) by omega), if_neg (show ¬ (b.k = 7) by omega), if_neg (show ¬ (b.k = 5) by omega), if_neg (show ¬ (b.k = 10) by omega), if_neg (show ¬ (b.k = 6) by omega), if_neg (show ¬ (b.k = 8) by omega), if_neg (show ¬ (b.k = 9) by omega)]; try rfl
  rw [e]; exact c
theorem zo3 (ins : List (Int × Int × Int)) (bs : List Blk) (outs : List Int) (R : List Iv) (fr : List Int) (er : List Dy) (N : Nat) (i : Nat) (b : Blk) (hbe : bs.getD i Blk.zero = b) (hb : BlkOK ins.length N b) (hB : bs.length = N) (hi : i < N) (h0 : 0 < N) (hf : fr.length = N) (hF : ∀ i, i < N → 0 ≤ fr.getD i 0 ∧ fr.getD i 0 ≤ 30) (hP : ∀ i, i < ins.length → zbu (ins.getD i (0, 0, 0))) :
  CallOK Tryz.prog gl 102 [AG ins bs outs, .agg [.sl 1 (rws zad fr), .sl 6 (rws ivr R), .sl 3 (rws zaj er)], .v (.int .i64 i)] (.v (.bool (scB ins fr (fr.getD i 0) b))) := by
 have hk1 := hb.kind
 have hval := hb.val
 have hupp := hb.upp
 have hcs : b.k = 0 ∨ b.k = 1 ∨ b.k = 2 ∨ b.k = 3 ∨ b.k = 4 ∨ b.k = 5 ∨ b.k = 6 ∨ b.k = 7 ∨ b.k = 8 ∨ b.k = 9 ∨ b.k = 10 ∨ b.k = 11 := by omega
 rcases hcs with h | h | h | h | h | h | h | h | h | h | h | h
 ·have hbb : b = ⟨b.k, b.a, b.vn, b.ve, b.un, b.ue⟩ := rfl
  have ha := hb.ai h
  rw [h, ha] at hbb
  rw [← hbe] at hbb
  have c := sc_b0 ins bs outs b.vn b.ve b.un b.ue R fr er N h0 hf hF zaf zan zak (b.at 0) ins.length rfl (hb.inp h).1 hP i hB hi (by rw [hbe] at hbb ⊢; exact hbb)
  have e : scB ins fr (fr.getD i 0) b = (zcg (fr.getD i 0 - (ins.getD (b.at 0) (0, 0, 0)).2.2)) := by unfold scB; simp only []; rw [if_pos (show b.k = 0 by omega)]; try rfl
  rw [e]; exact c
 ·have hbb : b = ⟨b.k, b.a, b.vn, b.ve, b.un, b.ue⟩ := rfl
  have ha := hb.a0 h
  rw [h, ha] at hbb
  rw [← hbe] at hbb
  have c := sc_b1 ins bs outs b.vn b.ve b.un b.ue R fr er N h0 hf hF zaf zan zak (hval (by omega)) i hB hi (by rw [hbe] at hbb ⊢; exact hbb)
  have e : scB ins fr (fr.getD i 0) b = (zb5 b.vn b.ve (fr.getD i 0)) := by unfold scB; simp only []; rw [if_neg (show ¬ (b.k = 0) by omega), if_pos (show b.k = 1 by omega)]; try rfl
  rw [e]; exact c
 ·have hbb : b = ⟨b.k, b.a, b.vn, b.ve, b.un, b.ue⟩ := rfl
  obtain ⟨ha, hp⟩ := hb.a1 (by omega)
  rw [h, ha] at hbb
  rw [← hbe] at hbb
  have c := sc_b2 ins bs outs b.vn b.ve b.un b.ue R fr er N h0 hf hF zaf zan zak (b.at 0) hp (hval (by omega)) i hB hi (by rw [hbe] at hbb ⊢; exact hbb)
  have e : scB ins fr (fr.getD i 0) b = (zcg (fr.getD i 0 - fr.getD (b.at 0) 0) && zb5 b.vn b.ve (fr.getD i 0)) := by unfold scB; simp only []; rw [if_neg (show ¬ (b.k = 0) by omega), if_neg (show ¬ (b.k = 1) by omega), if_neg (show ¬ (b.k = 6) by omega), if_neg (show ¬ (b.k = 7) by omega), if_pos (show b.k = 2 by omega)]; try rfl
  rw [e]; exact c
 ·have hbb : b = ⟨b.k, b.a, b.vn, b.ve, b.un, b.ue⟩ := rfl
  obtain ⟨ha, hp, hq⟩ := hb.a2 (by omega)
  rw [h, ha] at hbb
  rw [← hbe] at hbb
  have c := sc_b3 ins bs outs b.vn b.ve b.un b.ue R fr er N h0 hf hF zaf zan zak (b.at 0) hp (b.at 1) hq i hB hi (by rw [hbe] at hbb ⊢; exact hbb)
  have e : scB ins fr (fr.getD i 0) b = (zcg (fr.getD i 0 - fr.getD (b.at 0) 0) && zcg (fr.getD i 0 - fr.getD (b.at 1) 0)) := by unfold scB; simp only []; rw [if_neg (show ¬ (b.k = 0) by omega), if_neg (show ¬ (b.k = 1) by omega), if_neg (show ¬ (b.k = 6) by omega), if_neg (show ¬ (b.k = 7) by omega), if_neg (show ¬ (b.k = 2) by omega), if_neg (show ¬ (b.k = 11) by omega), if_neg (show ¬ (b.k = 5 ∨ b.k = 10) by omega)]; try rfl
  rw [e]; exact c
 ·have hbb : b = ⟨b.k, b.a, b.vn, b.ve, b.un, b.ue⟩ := rfl
  obtain ⟨ha, hp, hq⟩ := hb.a2 (by omega)
  rw [h, ha] at hbb
  rw [← hbe] at hbb
  have c := sc_b4 ins bs outs b.vn b.ve b.un b.ue R fr er N h0 hf hF zaf zan zak (b.at 0) hp (b.at 1) hq i hB hi (by rw [hbe] at hbb ⊢; exact hbb)
  have e : scB ins fr (fr.getD i 0) b = (zcg (fr.getD i 0 - fr.getD (b.at 0) 0) && zcg (fr.getD i 0 - fr.getD (b.at 1) 0)) := by unfold scB; simp only []; rw [if_neg (show ¬ (b.k = 0) by omega), if_neg (show ¬ (b.k = 1) by omega), if_neg (show ¬ (b.k = 6) by omega), if_neg (show ¬ (b.k = 7) by omega), if_neg (show ¬ (b.k = 2) by omega), if_neg (show ¬ (b.k = 11) by omega), if_neg (show ¬ (b.k = 5 ∨ b.k = 10) by omega)]; try rfl
  rw [e]; exact c
 ·have hbb : b = ⟨b.k, b.a, b.vn, b.ve, b.un, b.ue⟩ := rfl
  obtain ⟨ha, hp⟩ := hb.a1 (by omega)
  rw [h, ha] at hbb
  rw [← hbe] at hbb
  have c := sc_b5 ins bs outs b.vn b.ve b.un b.ue R fr er N h0 hf hF zaf zan zak (b.at 0) hp i hB hi (by rw [hbe] at hbb ⊢; exact hbb)
  have e : scB ins fr (fr.getD i 0) b = (zcg (fr.getD i 0 - fr.getD (b.at 0) 0)) := by unfold scB; simp only []; rw [if_neg (show ¬ (b.k = 0) by omega), if_neg (show ¬ (b.k = 1) by omega), if_neg (show ¬ (b.k = 6) by omega), if_neg (show ¬ (b.k = 7) by omega), if_neg (show ¬ (b.k = 2) by omega), if_neg (show ¬ (b.k = 11) by omega), if_pos (show b.k = 5 ∨ b.k = 10 by omega)]; try rfl
  rw [e]; exact c
 ·have hbb : b = ⟨b.k, b.a, b.vn, b.ve, b.un, b.ue⟩ := rfl
  obtain ⟨ha, hp⟩ := hb.a1 (by omega)
  rw [h, ha] at hbb
  rw [← hbe] at hbb
  have c := sc_b6 ins bs outs b.vn b.ve b.un b.ue R fr er N h0 hf hF zaf zan zak (b.at 0) hp (hval (by omega)) i hB hi (by rw [hbe] at hbb ⊢; exact hbb)
  have e : scB ins fr (fr.getD i 0) b = (zcg (fr.getD i 0 - fr.getD (b.at 0) 0 + b.ve)) := by unfold scB; simp only []; rw [if_neg (show ¬ (b.k = 0) by omega), if_neg (show ¬ (b.k = 1) by omega), if_pos (show b.k = 6 by omega)]; try rfl
  rw [e]; exact c
 ·have hbb : b = ⟨b.k, b.a, b.vn, b.ve, b.un, b.ue⟩ := rfl
  obtain ⟨ha, hp, hq⟩ := hb.a2 (by omega)
  rw [h, ha] at hbb
  rw [← hbe] at hbb
  have c := sc_b7 ins bs outs b.vn b.ve b.un b.ue R fr er N h0 hf hF zaf zan zak (b.at 0) hp (b.at 1) hq i hB hi (by rw [hbe] at hbb ⊢; exact hbb)
  have e : scB ins fr (fr.getD i 0) b = (zcg (fr.getD i 0 - fr.getD (b.at 0) 0 - fr.getD (b.at 1) 0)) := by unfold scB; simp only []; rw [if_neg (show ¬ (b.k = 0) by omega), if_neg (show ¬ (b.k = 1) by omega), if_neg (show ¬ (b.k = 6) by omega), if_pos (show b.k = 7 by omega)]; try rfl
  rw [e]; exact c
 ·have hbb : b = ⟨b.k, b.a, b.vn, b.ve, b.un, b.ue⟩ := rfl
  obtain ⟨ha, hp, hq⟩ := hb.a2 (by omega)
  rw [h, ha] at hbb
  rw [← hbe] at hbb
  have c := sc_b8 ins bs outs b.vn b.ve b.un b.ue R fr er N h0 hf hF zaf zan zak (b.at 0) hp (b.at 1) hq i hB hi (by rw [hbe] at hbb ⊢; exact hbb)
  have e : scB ins fr (fr.getD i 0) b = (zcg (fr.getD i 0 - fr.getD (b.at 0) 0) && zcg (fr.getD i 0 - fr.getD (b.at 1) 0)) := by unfold scB; simp only []; rw [if_neg (show ¬ (b.k = 0) by omega), if_neg (show ¬ (b.k = 1) by omega), if_neg (show ¬ (b.k = 6) by omega), if_neg (show ¬ (b.k = 7) by omega), if_neg (show ¬ (b.k = 2) by omega), if_neg (show ¬ (b.k = 11) by omega), if_neg (show ¬ (b.k = 5 ∨ b.k = 10) by omega)]; try rfl
  rw [e]; exact c
 ·have hbb : b = ⟨b.k, b.a, b.vn, b.ve, b.un, b.ue⟩ := rfl
  obtain ⟨ha, hp, hq⟩ := hb.a2 (by omega)
  rw [h, ha] at hbb
  rw [← hbe] at hbb
  have c := sc_b9 ins bs outs b.vn b.ve b.un b.ue R fr er N h0 hf hF zaf zan zak (b.at 0) hp (b.at 1) hq i hB hi (by rw [hbe] at hbb ⊢; exact hbb)
  have e : scB ins fr (fr.getD i 0) b = (zcg (fr.getD i 0 - fr.getD (b.at 0) 0) && zcg (fr.getD i 0 - fr.getD (b.at 1) 0)) := by unfold scB; simp only []; rw [if_neg (show ¬ (b.k = 0) by omega), if_neg (show ¬ (b.k = 1) by omega), if_neg (show ¬ (b.k = 6) by omega), if_neg (show ¬ (b.k = 7) by omega), if_neg (show ¬ (b.k = 2) by omega), if_neg (show ¬ (b.k = 11) by omega), if_neg (show ¬ (b.k = 5 ∨ b.k = 10) by omega)]; try rfl
  rw [e]; exact c
 ·have hbb : b = ⟨b.k, b.a, b.vn, b.ve, b.un, b.ue⟩ := rfl
  obtain ⟨ha, hp⟩ := hb.a1 (by omega)
  rw [h, ha] at hbb
  rw [← hbe] at hbb
  have c := sc_b10 ins bs outs b.vn b.ve b.un b.ue R fr er N h0 hf hF zaf zan zak (b.at 0) hp i hB hi (by rw [hbe] at hbb ⊢; exact hbb)
  have e : scB ins fr (fr.getD i 0) b = (zcg (fr.getD i 0 - fr.getD (b.at 0) 0)) := by unfold scB; simp only []; rw [if_neg (show ¬ (b.k = 0) by omega), if_neg (show ¬ (b.k = 1) by omega), if_neg (show ¬ (b.k = 6) by omega), if_neg (show ¬ (b.k = 7) by omega), if_neg (show ¬ (b.k = 2) by omega), if_neg (show ¬ (b.k = 11) by omega), if_pos (show b.k = 5 ∨ b.k = 10 by omega)]; try rfl
  rw [e]; exact c
 ·have hbb : b = ⟨b.k, b.a, b.vn, b.ve, b.un, b.ue⟩ := rfl
  obtain ⟨ha, hp⟩ := hb.a1 (by omega)
  rw [h, ha] at hbb
  rw [← hbe] at hbb
  have c := sc_b11 ins bs outs b.vn b.ve b.un b.ue R fr er N h0 hf hF zaf zan zak (b.at 0) hp (hval (by omega)) (hupp h) i hB hi (by rw [hbe] at hbb ⊢; exact hbb)
  have e : scB ins fr (fr.getD i 0) b = (zcg (fr.getD i 0 - fr.getD (b.at 0) 0) && zb5 b.vn b.ve (fr.getD i 0) && zb5 b.un b.ue (fr.getD i 0)) := by unfold scB; simp only []; rw [if_neg (show ¬ (b.k = 0) by omega), if_neg (show ¬ (b.k = 1) by omega), if_neg (show ¬ (b.k = 6) by omega), if_neg (show ¬ (b.k = 7) by omega), if_neg (show ¬ (b.k = 2) by omega), if_pos (show b.k = 11 by omega)]; try rfl
  rw [e]; exact c
end Go.Proofs.YtcpmeibfggoebaaGreatDoor
