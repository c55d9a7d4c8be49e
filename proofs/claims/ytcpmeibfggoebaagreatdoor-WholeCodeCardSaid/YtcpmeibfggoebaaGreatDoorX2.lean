/- What the functions that the statement reaches compute. -/
import Derived.Test.YtcpmeibfggoebaaGreatDoorX1
import Derived.Test.YtcpmeibfggoebaaGreatDoorV3
import Derived.Test.YtcpmeibfggoebaaGreatDoorV4
set_option linter.unusedSimpArgs false
set_option linter.unusedVariables false
set_option linter.deprecated false
namespace Go.Proofs.YtcpmeibfggoebaaGreatDoor
open Go Go.Ax
set_option maxRecDepth 100000
set_option maxHeartbeats 4000000
theorem zi3 (n e : Int) (h : zbO n e) : CallOK Tryz.prog gl 66 [.agg [.v (.int .i64 n), .v (.int .i64 e)]] (.tup [.agg [.v (.bool (sg (scN n e))), .sl 1 (u32s (ms (scN n e))), .v (.int .i64 (dn (scN n e)))], .v .nilIface]) := by
 refine okC 30 Tryz.call66 Tryz.func66 Tryz.ntmps66 Tryz.results66 ?_
 have hn := ze9 h
 have o1 := zeY n hn
 have s1 := zaS _ _ _ e _ (Arg.of (zcY hn) (by omega))
 change CallOK _ _ _ _ (.agg [.v (.bool (sg (scN n e))), .sl 1 (u32s (ms (scN n e))), .v (.int .i64 (dn (scN n e)))]) at s1
 generalize scN n e = z at *
 generalize Dy.int n = y at *
 unfold zbO at h
 exact we zc0
theorem zed (n e : Int) (h : zbO n e) : CallOK Tryz.prog gl 27 [.agg [.v (.int .i64 n), .v (.int .i64 e)]] (.agg [.v (.bool (sg (scN n e))), .sl 1 (u32s (ms (scN n e))), .v (.int .i64 (dn (scN n e)))]) := by
 refine okC 11 Tryz.call27 Tryz.func27 Tryz.ntmps27 Tryz.results27 ?_
 have c := zi3 n e h
 generalize scN n e = z at *
 exact we zc0
theorem zff (n e : Int) (h : zbO n e) : CallOK Tryz.prog gl 87 [.agg [.v (.int .i64 n), .v (.int .i64 e)]] (.agg [.v (.bool (sg (scN n e))), .sl 1 (u32s (ms (scN n e))), .v (.int .i64 (dn (scN n e)))]) := by
 refine okC 11 Tryz.call87 Tryz.func87 Tryz.ntmps87 Tryz.results87 ?_
 have c := zi3 n e h
 generalize scN n e = z at *
 exact we zc0
theorem zcq (n e : Int) (h : zbO n e) : CallOK Tryz.prog gl 100 [.agg [.v (.int .i64 n), .v (.int .i64 e)]] (.agg [.v (.bool (sg (scN n e))), .sl 1 (u32s (ms (scN n e))), .v (.int .i64 (dn (scN n e)))]) := by
 refine okC 11 Tryz.call100 Tryz.func100 Tryz.ntmps100 Tryz.results100 ?_
 have c := zi3 n e h
 generalize scN n e = z at *
 exact we zc0
theorem zdb (ki : Int) (k : Nat) (hki : ki = (k : Int)) (a : List Int) (kk vn ve un ue : Int) (vals : List Dy) (N m p : Nat) (hN : vals.length = N) (hm : a.length = m) (hk : k < m) (ha : a.getD k 0 = (p : Int)) (hp : p < N) (cc : zae zaj) : CallW Tryz.prog gl 68 [.v (.int .i64 ki), .rp [.ps 0 3 0 N], .rp [.v (.int .i64 kk), .sl 1 (rws zad a), .v (.int .i64 vn), .v (.int .i64 ve), .v (.int .i64 un), .v (.int .i64 ue)]] ⟨3, rws zaj vals⟩ (.agg [.v (.bool (sg (vals.getD p Dy.zero))), .sl 1 (u32s (ms (vals.getD p Dy.zero))), .v (.int .i64 (dn (vals.getD p Dy.zero)))]) ⟨3, rws zaj vals⟩ := by
 refine okW 13 Tryz.call68 Tryz.func68 Tryz.ntmps68 Tryz.results68 ?_
 subst hki
 have ra := ig (l := a) (i := k) (by omega)
 rw [ha] at ra
 have rv := cg (l := vals) (i := p) (by omega)
 generalize vals.getD p Dy.zero = x at *
 exact wfr (zc4 hN hm ra rv)
set_option maxHeartbeats 4000000
theorem zgw (s1 : Bool) (w1 : List Nat) (d1 : Int) (t1 : Bool) (u1 : List Nat) (e1 : Int) (x1 y1 : Dy) (a1 : Iv) (h1 : IArg s1 w1 d1 t1 u1 e1 x1 y1 a1) : CallOK Tryz.prog gl 51 [.agg [.v (.bool s1), .sl 1 (u32s w1), .v (.int .i64 d1), .v (.bool t1), .sl 1 (u32s u1), .v (.int .i64 e1)]] (.v (.bool ((decide (okI s1 w1 d1 t1 u1 e1 x1 y1))))) := by
 refine okC 19 Tryz.call51 Tryz.func51 Tryz.ntmps51 Tryz.results51 ?_
 have v1 := zdT s1 w1 d1 (by have := h1.px.len; omega)
 have v2 := zdT t1 u1 e1 (by have := h1.py.len; omega)
 have c1 := zb2 _ _ _ _ _ _ _ _ h1.px h1.py
 have q := zcr x1 y1
 obtain ⟨z, hz⟩ : ∃ z, decide (okI s1 w1 d1 t1 u1 e1 x1 y1) = z := ⟨_, rfl⟩
 rw [hz]
 unfold okI at hz
 simp only [← q] at hz
 clear q h1
 generalize x1.cmp y1 = c at *
 generalize zcJ s1 w1 d1 = b1 at *
 generalize zcJ t1 u1 e1 = b2 at *
 cases b1 <;> cases b2 <;> subst hz
 ·
  repeat' (first | simp only [go_sem, seval] | simp (disch := omega) only [wA] | (with_reducible first | refine cA ?_ | refine dA ?_) | refine aI ?_ | refine dI ?_ | refine dG ?_ | ((first | refine cC ?_ ?_ | refine gS ?_ ?_ | refine dS ?_ ?_) <;> intro hc <;> simp only [hc] <;> try simp only [dcA] at hc <;> try omega) | refine aP ?_ | refine dP ?_)
  all_goals (refine zal trivial ?_; simp [one])
 ·
  repeat' (first | simp only [go_sem, seval] | simp (disch := omega) only [wA] | (with_reducible first | refine cA ?_ | refine dA ?_) | refine aI ?_ | refine dI ?_ | refine dG ?_ | ((first | refine cC ?_ ?_ | refine gS ?_ ?_ | refine dS ?_ ?_) <;> intro hc <;> simp only [hc] <;> try simp only [dcA] at hc <;> try omega) | refine aP ?_ | refine dP ?_)
  all_goals (refine zal trivial ?_; simp [one])
 ·
  repeat' (first | simp only [go_sem, seval] | simp (disch := omega) only [wA] | (with_reducible first | refine cA ?_ | refine dA ?_) | refine aI ?_ | refine dI ?_ | refine dG ?_ | ((first | refine cC ?_ ?_ | refine gS ?_ ?_ | refine dS ?_ ?_) <;> intro hc <;> simp only [hc] <;> try simp only [dcA] at hc <;> try omega) | refine aP ?_ | refine dP ?_)
  all_goals (refine zal trivial ?_; simp [one])
 ·
  repeat' (first | simp only [go_sem, seval] | simp (disch := omega) only [wA] | (with_reducible first | refine cA ?_ | refine dA ?_) | refine aI ?_ | refine dI ?_ | refine dG ?_ | ((first | refine cC ?_ ?_ | refine gS ?_ ?_ | refine dS ?_ ?_) <;> intro hc <;> simp only [hc] <;> try simp only [dcA] at hc <;> try omega) | refine aP ?_ | refine dP ?_)
  all_goals (refine zal trivial ?_; simp [one])
theorem zk3 (s1 : Bool) (w1 : List Nat) (d1 : Int) (x1 : Dy) (h1 : Arg s1 w1 d1 x1) : CallOK Tryz.prog gl 78 [.agg [.v (.bool s1), .sl 1 (u32s w1), .v (.int .i64 d1)]] (.agg [.v (.bool (sg (x1))), .sl 1 (u32s (ms (x1))), .v (.int .i64 (dn (x1)))]) := by
 refine okC 5 Tryz.call78 Tryz.func78 Tryz.ntmps78 Tryz.results78 ?_
 have p := zaS _ _ _ 0 _ h1
 rw [zcF] at p
 exact we zc0
theorem zcl (s1 : Bool) (w1 : List Nat) (d1 : Int) (x1 : Dy) (h1 : Arg s1 w1 d1 x1) : CallOK Tryz.prog gl 45 [.agg [.v (.bool s1), .sl 1 (u32s w1), .v (.int .i64 d1)]] (.agg [.v (.bool (sg (Iv.pt x1).lo)), .sl 1 (u32s (ms (Iv.pt x1).lo)), .v (.int .i64 (dn (Iv.pt x1).lo)), .v (.bool (sg (Iv.pt x1).hi)), .sl 1 (u32s (ms (Iv.pt x1).hi)), .v (.int .i64 (dn (Iv.pt x1).hi))]) := by
 refine okC 8 Tryz.call45 Tryz.func45 Tryz.ntmps45 Tryz.results45 ?_
 have zz0 := zk3 _ _ _ _ h1
 exact we zc0
theorem zcL (s1 : Bool) (w1 : List Nat) (d1 : Int) (t1 : Bool) (u1 : List Nat) (e1 : Int) (x1 y1 : Dy) (a1 : Iv) (h1 : IArg s1 w1 d1 t1 u1 e1 x1 y1 a1) : CallOK Tryz.prog gl 77 [.agg [.v (.bool s1), .sl 1 (u32s w1), .v (.int .i64 d1), .v (.bool t1), .sl 1 (u32s u1), .v (.int .i64 e1)]] (.agg [.v (.bool (sg (a1).lo)), .sl 1 (u32s (ms (a1).lo)), .v (.int .i64 (dn (a1).lo)), .v (.bool (sg (a1).hi)), .sl 1 (u32s (ms (a1).hi)), .v (.int .i64 (dn (a1).hi))]) := by
 refine okC 14 Tryz.call77 Tryz.func77 Tryz.ntmps77 Tryz.results77 ?_
 have v := zgw _ _ _ _ _ _ _ _ _ h1
 rcases h1.is with ⟨ho, q1, q2⟩ | ⟨ho, q1⟩
 ·rw [decide_eq_true ho] at v
  have p1 := zk3 _ _ _ _ h1.px
  have p2 := zk3 _ _ _ _ h1.py
  rw [q1, q2]
  exact we zc0
 ·rw [decide_eq_false ho] at v
  rw [q1]
  repeat' (first | simp only [go_sem, seval] | simp (disch := omega) only [wA] | (with_reducible first | refine cA ?_ | refine dA ?_) | refine aI ?_ | refine dI ?_ | refine dG ?_ | ((first | refine cC ?_ ?_ | refine gS ?_ ?_ | refine dS ?_ ?_) <;> intro hc <;> simp only [hc] <;> try simp only [dcA] at hc <;> try omega) | refine aP ?_ | refine dP ?_)
  exact zbQ trivial Le.iv0
theorem zlZ (s1 : Bool) (w1 : List Nat) (d1 : Int) (x1 : Dy) (h1 : Arg s1 w1 d1 x1) (s2 : Bool) (w2 : List Nat) (d2 : Int) (x2 : Dy) (h2 : Arg s2 w2 d2 x2) : CallOK Tryz.prog gl 83 [.sl 3 [[.v (.bool s1), .sl 1 (u32s w1), .v (.int .i64 d1)], [.v (.bool s2), .sl 1 (u32s w2), .v (.int .i64 d2)]]] (.agg [.v (.bool (sg (Iv.sp2 x1 x2).lo)), .sl 1 (u32s (ms (Iv.sp2 x1 x2).lo)), .v (.int .i64 (dn (Iv.sp2 x1 x2).lo)), .v (.bool (sg (Iv.sp2 x1 x2).hi)), .sl 1 (u32s (ms (Iv.sp2 x1 x2).hi)), .v (.int .i64 (dn (Iv.sp2 x1 x2).hi))]) := by
 refine okC 29 Tryz.call83 Tryz.func83 Tryz.ntmps83 Tryz.results83 ?_
 have p1 := zcl _ _ _ _ h1
 have c1 := h1.can
 have m1 := zgj _ _ _ _ _ _ _ _ c1 h2
 have k1 := zct _ _ _ _ _ _ _ _ c1 h2
 unfold Iv.sp2
 unfold Iv.pt at p1
 dsimp only at p1 ⊢
 generalize x1.min x2 = z1 at *
 generalize x1.max x2 = z2 at *
 repeat' (first | simp only [go_sem, seval] | simp (disch := omega) only [wA] | (with_reducible first | refine cA ?_ | refine dA ?_) | (refine zbi 3 _ rfl ?_) | refine aI ?_ | refine dI ?_ | refine dG ?_ | ((first | refine cC ?_ ?_ | refine gS ?_ ?_ | refine dS ?_ ?_) <;> intro hc <;> simp only [hc] <;> try simp only [dcA] at hc <;> try omega) | refine aP ?_ | refine dP ?_)
 exact zal trivial rfl
theorem zlY (s1 : Bool) (w1 : List Nat) (d1 : Int) (x1 : Dy) (h1 : Arg s1 w1 d1 x1) (s2 : Bool) (w2 : List Nat) (d2 : Int) (x2 : Dy) (h2 : Arg s2 w2 d2 x2) (s3 : Bool) (w3 : List Nat) (d3 : Int) (x3 : Dy) (h3 : Arg s3 w3 d3 x3) (s4 : Bool) (w4 : List Nat) (d4 : Int) (x4 : Dy) (h4 : Arg s4 w4 d4 x4) : CallOK Tryz.prog gl 83 [.sl 3 [[.v (.bool s1), .sl 1 (u32s w1), .v (.int .i64 d1)], [.v (.bool s2), .sl 1 (u32s w2), .v (.int .i64 d2)], [.v (.bool s3), .sl 1 (u32s w3), .v (.int .i64 d3)], [.v (.bool s4), .sl 1 (u32s w4), .v (.int .i64 d4)]]] (.agg [.v (.bool (sg (Iv.sp4 x1 x2 x3 x4).lo)), .sl 1 (u32s (ms (Iv.sp4 x1 x2 x3 x4).lo)), .v (.int .i64 (dn (Iv.sp4 x1 x2 x3 x4).lo)), .v (.bool (sg (Iv.sp4 x1 x2 x3 x4).hi)), .sl 1 (u32s (ms (Iv.sp4 x1 x2 x3 x4).hi)), .v (.int .i64 (dn (Iv.sp4 x1 x2 x3 x4).hi))]) := by
 refine okC 29 Tryz.call83 Tryz.func83 Tryz.ntmps83 Tryz.results83 ?_
 have p1 := zcl _ _ _ _ h1
 have c1 := h1.can
 have m1 := zgj _ _ _ _ _ _ _ _ c1 h2
 have k1 := zct _ _ _ _ _ _ _ _ c1 h2
 have g1 := c1.cmin h2.can
 have g2 := c1.cmax h2.can
 have m2 := zgj _ _ _ _ _ _ _ _ g1 h3
 have k2 := zct _ _ _ _ _ _ _ _ g2 h3
 have g3 := g1.cmin h3.can
 have g4 := g2.cmax h3.can
 have m3 := zgj _ _ _ _ _ _ _ _ g3 h4
 have k3 := zct _ _ _ _ _ _ _ _ g4 h4
 unfold Iv.sp4
 unfold Iv.pt at p1
 dsimp only at p1 ⊢
 clear g1 g2 g3 g4
 generalize ((x1.min x2).min x3).min x4 = z5 at *
 generalize ((x1.max x2).max x3).max x4 = z6 at *
 generalize (x1.min x2).min x3 = z3 at *
 generalize (x1.max x2).max x3 = z4 at *
 generalize x1.min x2 = z1 at *
 generalize x1.max x2 = z2 at *
 repeat' (first | simp only [go_sem, seval] | simp (disch := omega) only [wA] | (with_reducible first | refine cA ?_ | refine dA ?_) | (refine zbi 5 _ rfl ?_) | refine aI ?_ | refine dI ?_ | refine dG ?_ | ((first | refine cC ?_ ?_ | refine gS ?_ ?_ | refine dS ?_ ?_) <;> intro hc <;> simp only [hc] <;> try simp only [dcA] at hc <;> try omega) | refine aP ?_ | refine dP ?_)
 exact zal trivial rfl
set_option maxHeartbeats 4000000
theorem zoB (s1 : Bool) (w1 : List Nat) (d1 : Int) (t1 : Bool) (u1 : List Nat) (e1 : Int) (x1 y1 : Dy) (a1 : Iv) (h1 : IArg s1 w1 d1 t1 u1 e1 x1 y1 a1) : CallOK Tryz.prog gl 91 [.agg [.v (.bool s1), .sl 1 (u32s w1), .v (.int .i64 d1), .v (.bool t1), .sl 1 (u32s u1), .v (.int .i64 e1)]] (.agg [.v (.bool (sg (a1.neg).lo)), .sl 1 (u32s (ms (a1.neg).lo)), .v (.int .i64 (dn (a1.neg).lo)), .v (.bool (sg (a1.neg).hi)), .sl 1 (u32s (ms (a1.neg).hi)), .v (.int .i64 (dn (a1.neg).hi))]) := by
 refine okC 12 Tryz.call91 Tryz.func91 Tryz.ntmps91 Tryz.results91 ?_
 have r1 := zcL _ _ _ _ _ _ _ _ _ h1
 have p1 := zfD _ _ _ _ h1.lo
 have p2 := zfD _ _ _ _ h1.hi
 exact we zc0
theorem zoH (s1 : Bool) (w1 : List Nat) (d1 : Int) (t1 : Bool) (u1 : List Nat) (e1 : Int) (x1 y1 : Dy) (a1 : Iv) (h1 : IArg s1 w1 d1 t1 u1 e1 x1 y1 a1) (s2 : Bool) (w2 : List Nat) (d2 : Int) (t2 : Bool) (u2 : List Nat) (e2 : Int) (x2 y2 : Dy) (a2 : Iv) (h2 : IArg s2 w2 d2 t2 u2 e2 x2 y2 a2) : CallOK Tryz.prog gl 88 [.agg [.v (.bool s1), .sl 1 (u32s w1), .v (.int .i64 d1), .v (.bool t1), .sl 1 (u32s u1), .v (.int .i64 e1)], .agg [.v (.bool s2), .sl 1 (u32s w2), .v (.int .i64 d2), .v (.bool t2), .sl 1 (u32s u2), .v (.int .i64 e2)]] (.agg [.v (.bool (sg (a1.add a2).lo)), .sl 1 (u32s (ms (a1.add a2).lo)), .v (.int .i64 (dn (a1.add a2).lo)), .v (.bool (sg (a1.add a2).hi)), .sl 1 (u32s (ms (a1.add a2).hi)), .v (.int .i64 (dn (a1.add a2).hi))]) := by
 refine okC 20 Tryz.call88 Tryz.func88 Tryz.ntmps88 Tryz.results88 ?_
 have r1 := zcL _ _ _ _ _ _ _ _ _ h1
 have r2 := zcL _ _ _ _ _ _ _ _ _ h2
 have p1 := zbT _ _ _ _ _ _ _ _ h1.lo h2.lo
 have p2 := zbT _ _ _ _ _ _ _ _ h1.hi h2.hi
 exact we zc0
theorem iv_Sub (s1 : Bool) (w1 : List Nat) (d1 : Int) (t1 : Bool) (u1 : List Nat) (e1 : Int) (x1 y1 : Dy) (a1 : Iv) (h1 : IArg s1 w1 d1 t1 u1 e1 x1 y1 a1) (s2 : Bool) (w2 : List Nat) (d2 : Int) (t2 : Bool) (u2 : List Nat) (e2 : Int) (x2 y2 : Dy) (a2 : Iv) (h2 : IArg s2 w2 d2 t2 u2 e2 x2 y2 a2) : CallOK Tryz.prog gl 89 [.agg [.v (.bool s1), .sl 1 (u32s w1), .v (.int .i64 d1), .v (.bool t1), .sl 1 (u32s u1), .v (.int .i64 e1)], .agg [.v (.bool s2), .sl 1 (u32s w2), .v (.int .i64 d2), .v (.bool t2), .sl 1 (u32s u2), .v (.int .i64 e2)]] (.agg [.v (.bool (sg (a1.sub a2).lo)), .sl 1 (u32s (ms (a1.sub a2).lo)), .v (.int .i64 (dn (a1.sub a2).lo)), .v (.bool (sg (a1.sub a2).hi)), .sl 1 (u32s (ms (a1.sub a2).hi)), .v (.int .i64 (dn (a1.sub a2).hi))]) := by
 refine okC 9 Tryz.call89 Tryz.func89 Tryz.ntmps89 Tryz.results89 ?_
 have p1 := zoB _ _ _ _ _ _ _ _ _ h2
 have p2 := zoH _ _ _ _ _ _ _ _ _ h1 _ _ _ _ _ _ _ _ _ h2.cneg
 exact we zc0
theorem zoC (s1 : Bool) (w1 : List Nat) (d1 : Int) (t1 : Bool) (u1 : List Nat) (e1 : Int) (x1 y1 : Dy) (a1 : Iv) (h1 : IArg s1 w1 d1 t1 u1 e1 x1 y1 a1) (s2 : Bool) (w2 : List Nat) (d2 : Int) (t2 : Bool) (u2 : List Nat) (e2 : Int) (x2 y2 : Dy) (a2 : Iv) (h2 : IArg s2 w2 d2 t2 u2 e2 x2 y2 a2) (k l : Nat) (g1 : a1.Mg k) (g2 : a2.Mg l) (hk : k + l ≤ 1099511627775) : CallOK Tryz.prog gl 90 [.agg [.v (.bool s1), .sl 1 (u32s w1), .v (.int .i64 d1), .v (.bool t1), .sl 1 (u32s u1), .v (.int .i64 e1)], .agg [.v (.bool s2), .sl 1 (u32s w2), .v (.int .i64 d2), .v (.bool t2), .sl 1 (u32s u2), .v (.int .i64 e2)]] (.agg [.v (.bool (sg (a1.mul a2).lo)), .sl 1 (u32s (ms (a1.mul a2).lo)), .v (.int .i64 (dn (a1.mul a2).lo)), .v (.bool (sg (a1.mul a2).hi)), .sl 1 (u32s (ms (a1.mul a2).hi)), .v (.int .i64 (dn (a1.mul a2).hi))]) := by
 refine okC 31 Tryz.call90 Tryz.func90 Tryz.ntmps90 Tryz.results90 ?_
 have r1 := zcL _ _ _ _ _ _ _ _ _ h1
 have r2 := zcL _ _ _ _ _ _ _ _ _ h2
 have p1 := zdd _ _ _ _ _ _ _ _ h1.lo h2.lo
 have p2 := zdd _ _ _ _ _ _ _ _ h1.lo h2.hi
 have p3 := zdd _ _ _ _ _ _ _ _ h1.hi h2.lo
 have p4 := zdd _ _ _ _ _ _ _ _ h1.hi h2.hi
 have p5 := zlY _ _ _ _ (Arg.of (g1.1.mul g2.1) (by omega)) _ _ _ _ (Arg.of (g1.1.mul g2.2) (by omega)) _ _ _ _ (Arg.of (g1.2.mul g2.1) (by omega)) _ _ _ _ (Arg.of (g1.2.mul g2.2) (by omega))
 change CallOK _ _ _ _ (.agg [.v (.bool (sg (a1.mul a2).lo)), .sl 1 (u32s (ms (a1.mul a2).lo)), .v (.int .i64 (dn (a1.mul a2).lo)), .v (.bool (sg (a1.mul a2).hi)), .sl 1 (u32s (ms (a1.mul a2).hi)), .v (.int .i64 (dn (a1.mul a2).hi))]) at p5
 generalize a1.mul a2 = z at *
 generalize a1.lo.mul a2.lo = z1 at *
 generalize a1.lo.mul a2.hi = z2 at *
 generalize a1.hi.mul a2.lo = z3 at *
 generalize a1.hi.mul a2.hi = z4 at *
 exact we zc0
theorem zgx (s1 : Bool) (w1 : List Nat) (d1 : Int) (t1 : Bool) (u1 : List Nat) (e1 : Int) (x1 y1 : Dy) (a1 : Iv) (h1 : IArg s1 w1 d1 t1 u1 e1 x1 y1 a1) (s2 : Bool) (w2 : List Nat) (d2 : Int) (x2 : Dy) (h2 : Arg s2 w2 d2 x2) (k l : Nat) (g1 : a1.Mg k) (g2 : Mg l x2) (hk : k + l ≤ 1099511627775) : CallOK Tryz.prog gl 85 [.agg [.v (.bool s1), .sl 1 (u32s w1), .v (.int .i64 d1), .v (.bool t1), .sl 1 (u32s u1), .v (.int .i64 e1)], .agg [.v (.bool s2), .sl 1 (u32s w2), .v (.int .i64 d2)]] (.agg [.v (.bool (sg (a1.mul (Iv.pt x2)).lo)), .sl 1 (u32s (ms (a1.mul (Iv.pt x2)).lo)), .v (.int .i64 (dn (a1.mul (Iv.pt x2)).lo)), .v (.bool (sg (a1.mul (Iv.pt x2)).hi)), .sl 1 (u32s (ms (a1.mul (Iv.pt x2)).hi)), .v (.int .i64 (dn (a1.mul (Iv.pt x2)).hi))]) := by
 refine okC 9 Tryz.call85 Tryz.func85 Tryz.ntmps85 Tryz.results85 ?_
 have p1 := zcl _ _ _ _ h2
 have p2 := zoC _ _ _ _ _ _ _ _ _ h1 _ _ _ _ _ _ _ _ _ (IArg.of (Iv.Mg.pt g2)) k l g1 (Iv.Mg.pt g2) hk
 exact we zc0
theorem zoD (s1 : Bool) (w1 : List Nat) (d1 : Int) (t1 : Bool) (u1 : List Nat) (e1 : Int) (x1 y1 : Dy) (a1 : Iv) (h1 : IArg s1 w1 d1 t1 u1 e1 x1 y1 a1) (s2 : Bool) (w2 : List Nat) (d2 : Int) (t2 : Bool) (u2 : List Nat) (e2 : Int) (x2 y2 : Dy) (a2 : Iv) (h2 : IArg s2 w2 d2 t2 u2 e2 x2 y2 a2) : CallOK Tryz.prog gl 93 [.agg [.v (.bool s1), .sl 1 (u32s w1), .v (.int .i64 d1), .v (.bool t1), .sl 1 (u32s u1), .v (.int .i64 e1)], .agg [.v (.bool s2), .sl 1 (u32s w2), .v (.int .i64 d2), .v (.bool t2), .sl 1 (u32s u2), .v (.int .i64 e2)]] (.agg [.v (.bool (sg (a1.min a2).lo)), .sl 1 (u32s (ms (a1.min a2).lo)), .v (.int .i64 (dn (a1.min a2).lo)), .v (.bool (sg (a1.min a2).hi)), .sl 1 (u32s (ms (a1.min a2).hi)), .v (.int .i64 (dn (a1.min a2).hi))]) := by
 refine okC 20 Tryz.call93 Tryz.func93 Tryz.ntmps93 Tryz.results93 ?_
 have r1 := zcL _ _ _ _ _ _ _ _ _ h1
 have r2 := zcL _ _ _ _ _ _ _ _ _ h2
 have p1 := zgj _ _ _ _ _ _ _ _ h1.lo h2.lo
 have p2 := zgj _ _ _ _ _ _ _ _ h1.hi h2.hi
 exact we zc0
theorem zoE (s1 : Bool) (w1 : List Nat) (d1 : Int) (t1 : Bool) (u1 : List Nat) (e1 : Int) (x1 y1 : Dy) (a1 : Iv) (h1 : IArg s1 w1 d1 t1 u1 e1 x1 y1 a1) (s2 : Bool) (w2 : List Nat) (d2 : Int) (t2 : Bool) (u2 : List Nat) (e2 : Int) (x2 y2 : Dy) (a2 : Iv) (h2 : IArg s2 w2 d2 t2 u2 e2 x2 y2 a2) : CallOK Tryz.prog gl 94 [.agg [.v (.bool s1), .sl 1 (u32s w1), .v (.int .i64 d1), .v (.bool t1), .sl 1 (u32s u1), .v (.int .i64 e1)], .agg [.v (.bool s2), .sl 1 (u32s w2), .v (.int .i64 d2), .v (.bool t2), .sl 1 (u32s u2), .v (.int .i64 e2)]] (.agg [.v (.bool (sg (a1.max a2).lo)), .sl 1 (u32s (ms (a1.max a2).lo)), .v (.int .i64 (dn (a1.max a2).lo)), .v (.bool (sg (a1.max a2).hi)), .sl 1 (u32s (ms (a1.max a2).hi)), .v (.int .i64 (dn (a1.max a2).hi))]) := by
 refine okC 20 Tryz.call94 Tryz.func94 Tryz.ntmps94 Tryz.results94 ?_
 have r1 := zcL _ _ _ _ _ _ _ _ _ h1
 have r2 := zcL _ _ _ _ _ _ _ _ _ h2
 have p1 := zct _ _ _ _ _ _ _ _ h1.lo h2.lo
 have p2 := zct _ _ _ _ _ _ _ _ h1.hi h2.hi
 exact we zc0
theorem zk4 (s1 : Bool) (w1 : List Nat) (d1 : Int) (t1 : Bool) (u1 : List Nat) (e1 : Int) (x1 y1 : Dy) (a1 : Iv) (h1 : IArg s1 w1 d1 t1 u1 e1 x1 y1 a1) (s2 : Bool) (w2 : List Nat) (d2 : Int) (t2 : Bool) (u2 : List Nat) (e2 : Int) (x2 y2 : Dy) (a2 : Iv) (h2 : IArg s2 w2 d2 t2 u2 e2 x2 y2 a2) : CallOK Tryz.prog gl 49 [.agg [.v (.bool s1), .sl 1 (u32s w1), .v (.int .i64 d1), .v (.bool t1), .sl 1 (u32s u1), .v (.int .i64 e1)], .agg [.v (.bool s2), .sl 1 (u32s w2), .v (.int .i64 d2), .v (.bool t2), .sl 1 (u32s u2), .v (.int .i64 e2)]] (.agg [.v (.bool (sg (a1.hull a2).lo)), .sl 1 (u32s (ms (a1.hull a2).lo)), .v (.int .i64 (dn (a1.hull a2).lo)), .v (.bool (sg (a1.hull a2).hi)), .sl 1 (u32s (ms (a1.hull a2).hi)), .v (.int .i64 (dn (a1.hull a2).hi))]) := by
 refine okC 19 Tryz.call49 Tryz.func49 Tryz.ntmps49 Tryz.results49 ?_
 have r1 := zcL _ _ _ _ _ _ _ _ _ h1
 have r2 := zcL _ _ _ _ _ _ _ _ _ h2
 have p1 := zlY _ _ _ _ h1.lo _ _ _ _ h1.hi _ _ _ _ h2.lo _ _ _ _ h2.hi
 exact we zc0
set_option maxHeartbeats 4000000
theorem zoI (s1 : Bool) (w1 : List Nat) (d1 : Int) (t1 : Bool) (u1 : List Nat) (e1 : Int) (x1 y1 : Dy) (a1 : Iv) (h1 : IArg s1 w1 d1 t1 u1 e1 x1 y1 a1) : CallOK Tryz.prog gl 92 [.agg [.v (.bool s1), .sl 1 (u32s w1), .v (.int .i64 d1), .v (.bool t1), .sl 1 (u32s u1), .v (.int .i64 e1)]] (.agg [.v (.bool (sg (a1.abs).lo)), .sl 1 (u32s (ms (a1.abs).lo)), .v (.int .i64 (dn (a1.abs).lo)), .v (.bool (sg (a1.abs).hi)), .sl 1 (u32s (ms (a1.abs).hi)), .v (.int .i64 (dn (a1.abs).hi))]) := by
 refine okC 27 Tryz.call92 Tryz.func92 Tryz.ntmps92 Tryz.results92 ?_
 have r1 := zcL _ _ _ _ _ _ _ _ _ h1
 have p1 := zit _ _ _ _ h1.lo
 have p2 := zit _ _ _ _ h1.hi
 have p3 := zlZ _ _ _ _ h1.lo.cabs _ _ _ _ h1.hi.cabs
 have q1 := zf3 _ _ _ _ h1.lo
 have q2 := zf3 _ _ _ _ h1.hi
 have j1 := ziE a1.lo
 have j2 := sign_gt0 a1.hi
 unfold Iv.abs
 unfold Iv.sp2 at p3 ⊢
 dsimp only at p3
 by_cases c1 : a1.lo.v < 0
 ·have k1 := j1.2 c1
  by_cases c2 : 0 < a1.hi.v
  ·have k2 := j2.2 c2
   rw [if_pos ⟨c1, c2⟩]
   clear c1 c2 j1 j2
   generalize a1.lo.sign = n1 at *
   generalize a1.hi.sign = n2 at *
   dsimp only
   generalize a1.lo.abs.min a1.hi.abs = z1 at *
   generalize a1.lo.abs.max a1.hi.abs = z2 at *
   repeat' (first | simp only [go_sem, seval] | simp (disch := omega) only [wA] | (with_reducible first | refine cA ?_ | refine dA ?_) | refine aI ?_ | refine dI ?_ | refine dG ?_ | ((first | refine cC ?_ ?_ | refine gS ?_ ?_ | refine dS ?_ ?_) <;> intro hc <;> simp only [hc] <;> try simp only [dcA] at hc <;> try omega) | refine aP ?_ | refine dP ?_)
   all_goals exact zbQ trivial Le.lo0
  ·have k2 : ¬ 0 < a1.hi.sign := fun h => c2 (j2.1 h)
   rw [if_neg (fun h => c2 h.2)]
   clear c1 c2 j1 j2
   generalize a1.lo.sign = n1 at *
   generalize a1.hi.sign = n2 at *
   dsimp only
   generalize a1.lo.abs.min a1.hi.abs = z1 at *
   generalize a1.lo.abs.max a1.hi.abs = z2 at *
   exact we zc0
 ·have k1 : ¬ a1.lo.sign < 0 := fun h => c1 (j1.1 h)
  rw [if_neg (fun h => c1 h.1)]
  clear c1 j1 j2
  generalize a1.lo.sign = n1 at *
  generalize a1.hi.sign = n2 at *
  dsimp only
  generalize a1.lo.abs.min a1.hi.abs = z1 at *
  generalize a1.lo.abs.max a1.hi.abs = z2 at *
  exact we zc0
theorem zoF (m n : Int) (hm : -9223372036854775808 ≤ m ∧ m ≤ 9223372036854775807) (hn : -9223372036854775808 ≤ n ∧ n ≤ 9223372036854775807) : CallOK Tryz.prog gl 86 [.v (.int .i64 m), .v (.int .i64 n)] (.agg [.v (.bool (sg (Iv.sp2 (Dy.int m) (Dy.int n)).lo)), .sl 1 (u32s (ms (Iv.sp2 (Dy.int m) (Dy.int n)).lo)), .v (.int .i64 (dn (Iv.sp2 (Dy.int m) (Dy.int n)).lo)), .v (.bool (sg (Iv.sp2 (Dy.int m) (Dy.int n)).hi)), .sl 1 (u32s (ms (Iv.sp2 (Dy.int m) (Dy.int n)).hi)), .v (.int .i64 (dn (Iv.sp2 (Dy.int m) (Dy.int n)).hi))]) := by
 refine okC 11 Tryz.call86 Tryz.func86 Tryz.ntmps86 Tryz.results86 ?_
 have p1 := zeY m hm
 have p2 := zeY n hn
 have p3 := zlZ _ _ _ _ (Arg.of (zcY hm) (by omega)) _ _ _ _ (Arg.of (zcY hn) (by omega))
 generalize Iv.sp2 (Dy.int m) (Dy.int n) = z at *
 generalize Dy.int m = z1 at *
 generalize Dy.int n = z2 at *
 exact we zc0
theorem zoG (s1 : Bool) (w1 : List Nat) (d1 : Int) (t1 : Bool) (u1 : List Nat) (e1 : Int) (x1 y1 : Dy) (a1 : Iv) (h1 : IArg s1 w1 d1 t1 u1 e1 x1 y1 a1) (s2 : Bool) (w2 : List Nat) (d2 : Int) (x2 : Dy) (h2 : Arg s2 w2 d2 x2) (s3 : Bool) (w3 : List Nat) (d3 : Int) (x3 : Dy) (h3 : Arg s3 w3 d3 x3) (hle : x2.v ≤ x3.v) : CallOK Tryz.prog gl 95 [.agg [.v (.bool s1), .sl 1 (u32s w1), .v (.int .i64 d1), .v (.bool t1), .sl 1 (u32s u1), .v (.int .i64 e1)], .agg [.v (.bool s2), .sl 1 (u32s w2), .v (.int .i64 d2)], .agg [.v (.bool s3), .sl 1 (u32s w3), .v (.int .i64 d3)]] (.tup [.agg [.v (.bool (sg ((a1.max (Iv.pt x2)).min (Iv.pt x3)).lo)), .sl 1 (u32s (ms ((a1.max (Iv.pt x2)).min (Iv.pt x3)).lo)), .v (.int .i64 (dn ((a1.max (Iv.pt x2)).min (Iv.pt x3)).lo)), .v (.bool (sg ((a1.max (Iv.pt x2)).min (Iv.pt x3)).hi)), .sl 1 (u32s (ms ((a1.max (Iv.pt x2)).min (Iv.pt x3)).hi)), .v (.int .i64 (dn ((a1.max (Iv.pt x2)).min (Iv.pt x3)).hi))], .v .nilIface]) := by
 refine okC 21 Tryz.call95 Tryz.func95 Tryz.ntmps95 Tryz.results95 ?_
 have c1 := zb2 _ _ _ _ _ _ _ _ h2 h3
 have k := (zcr x2 x3).2 hle
 have p1 := zcl _ _ _ _ h2
 have p2 := zcl _ _ _ _ h3
 have p3 := zoE _ _ _ _ _ _ _ _ _ h1 _ _ _ _ _ _ _ _ _ h2.cpt
 have p4 := zoD _ _ _ _ _ _ _ _ _ (h1.cmax h2.cpt) _ _ _ _ _ _ _ _ _ h3.cpt
 clear hle
 generalize x2.cmp x3 = n at *
 generalize (a1.max (Iv.pt x2)).min (Iv.pt x3) = z4 at *
 generalize a1.max (Iv.pt x2) = z3 at *
 generalize Iv.pt x2 = z2 at *
 generalize Iv.pt x3 = z1 at *
 exact we zc0
theorem iv_Round (s1 : Bool) (w1 : List Nat) (d1 : Int) (t1 : Bool) (u1 : List Nat) (e1 : Int) (x1 y1 : Dy) (a1 : Iv) (h1 : IArg s1 w1 d1 t1 u1 e1 x1 y1 a1) (den : Nat) (hd : den ≤ 65536) (k : Nat) (g : a1.Mg k) (hk : k ≤ 1099511627775) : CallOK Tryz.prog gl 48 [.agg [.v (.bool s1), .sl 1 (u32s w1), .v (.int .i64 d1), .v (.bool t1), .sl 1 (u32s u1), .v (.int .i64 e1)], .v (.int .i64 den)] (.tup [.agg [.v (.bool (sg (a1.lo.floor den))), .sl 1 (u32s (ms (a1.lo.floor den))), .v (.int .i64 (dn (a1.lo.floor den))), .v (.bool (sg (a1.hi.ceil den))), .sl 1 (u32s (ms (a1.hi.ceil den))), .v (.int .i64 (dn (a1.hi.ceil den)))], .v .nilIface]) := by
 refine okC 36 Tryz.call48 Tryz.func48 Tryz.ntmps48 Tryz.results48 ?_
 have r1 := zcL _ _ _ _ _ _ _ _ _ h1
 have p1 := zgH _ _ _ den _ h1.lo hd
 have p2 := zpQ _ _ _ den _ k h1.hi g.2 (by omega) hd
 exact we zc0
theorem zbq (s1 : Bool) (w1 : List Nat) (d1 : Int) (t1 : Bool) (u1 : List Nat) (e1 : Int) (x1 y1 : Dy) (a1 : Iv) (h1 : IArg s1 w1 d1 t1 u1 e1 x1 y1 a1) (s2 : Bool) (w2 : List Nat) (d2 : Int) (t2 : Bool) (u2 : List Nat) (e2 : Int) (x2 y2 : Dy) (a2 : Iv) (h2 : IArg s2 w2 d2 t2 u2 e2 x2 y2 a2) : CallOK Tryz.prog gl 44 [.agg [.v (.bool s1), .sl 1 (u32s w1), .v (.int .i64 d1), .v (.bool t1), .sl 1 (u32s u1), .v (.int .i64 e1)], .agg [.v (.bool s2), .sl 1 (u32s w2), .v (.int .i64 d2), .v (.bool t2), .sl 1 (u32s u2), .v (.int .i64 e2)]] (.v (.bool (a1.ins a2))) := by
 refine okC 23 Tryz.call44 Tryz.func44 Tryz.ntmps44 Tryz.results44 ?_
 have r1 := zcL _ _ _ _ _ _ _ _ _ h1
 have r2 := zcL _ _ _ _ _ _ _ _ _ h2
 have p1 := zb2 _ _ _ _ _ _ _ _ h2.lo h1.lo
 have p2 := zb2 _ _ _ _ _ _ _ _ h1.hi h2.hi
 have e1 := zcr a2.lo a1.lo
 have e2 := zcr a1.hi a2.hi
 unfold Iv.ins
 simp only [← e1, ← e2]
 clear e1 e2
 generalize a2.lo.cmp a1.lo = m at *
 generalize a1.hi.cmp a2.hi = n at *
 repeat' (first | simp only [go_sem, seval] | simp (disch := omega) only [wA] | (with_reducible first | refine cA ?_ | refine dA ?_) | refine aI ?_ | refine dI ?_ | refine dG ?_ | ((first | refine cC ?_ ?_ | refine gS ?_ ?_ | refine dS ?_ ?_) <;> intro hc <;> simp only [hc] <;> try simp only [dcA] at hc <;> try omega) | refine aP ?_ | refine dP ?_)
 all_goals (refine zal trivial ?_; simp [one, *])
theorem zk5 (s1 : Bool) (w1 : List Nat) (d1 : Int) (t1 : Bool) (u1 : List Nat) (e1 : Int) (x1 y1 : Dy) (a1 : Iv) (h1 : IArg s1 w1 d1 t1 u1 e1 x1 y1 a1) (s2 : Bool) (w2 : List Nat) (d2 : Int) (x2 : Dy) (h2 : Arg s2 w2 d2 x2) : CallOK Tryz.prog gl 17 [.agg [.v (.bool s1), .sl 1 (u32s w1), .v (.int .i64 d1), .v (.bool t1), .sl 1 (u32s u1), .v (.int .i64 e1)], .agg [.v (.bool s2), .sl 1 (u32s w2), .v (.int .i64 d2)]] (.v (.bool (a1.has x2))) := by
 refine okC 9 Tryz.call17 Tryz.func17 Tryz.ntmps17 Tryz.results17 ?_
 have p1 := zcl _ _ _ _ h2
 have p2 := zbq _ _ _ _ _ _ _ _ _ h2.cpt _ _ _ _ _ _ _ _ _ h1
 rw [Iv.has_pt] at p2
 exact we zc0
theorem zge (s1 : Bool) (w1 : List Nat) (d1 : Int) (t1 : Bool) (u1 : List Nat) (e1 : Int) (x1 y1 : Dy) (a1 : Iv) (h1 : IArg s1 w1 d1 t1 u1 e1 x1 y1 a1) : CallOK Tryz.prog gl 80 [.agg [.v (.bool s1), .sl 1 (u32s w1), .v (.int .i64 d1), .v (.bool t1), .sl 1 (u32s u1), .v (.int .i64 e1)]] (.agg [.v (.bool (sg (a1.mag))), .sl 1 (u32s (ms (a1.mag))), .v (.int .i64 (dn (a1.mag)))]) := by
 refine okC 6 Tryz.call80 Tryz.func80 Tryz.ntmps80 Tryz.results80 ?_
 have p1 := zoI _ _ _ _ _ _ _ _ _ h1
 exact we zc0
set_option maxHeartbeats 4000000
theorem zcW (ki : Int) (k : Nat) (hki : ki = (k : Int)) (a : List Int) (kk vn ve un ue : Int) (R : List Iv) (N m p : Nat) (hN : R.length = N) (hm : a.length = m) (hk : k < m) (ha : a.getD k 0 = (p : Int)) (hp : p < N) (cv : zae ivr) : CallW Tryz.prog gl 84 [.v (.int .i64 ki), .rp [.ps 0 6 0 N], .rp [.v (.int .i64 kk), .sl 1 (rws zad a), .v (.int .i64 vn), .v (.int .i64 ve), .v (.int .i64 un), .v (.int .i64 ue)]] ⟨6, rws ivr R⟩ (.agg [.v (.bool (sg (R.getD p Iv.zero).lo)), .sl 1 (u32s (ms (R.getD p Iv.zero).lo)), .v (.int .i64 (dn (R.getD p Iv.zero).lo)), .v (.bool (sg (R.getD p Iv.zero).hi)), .sl 1 (u32s (ms (R.getD p Iv.zero).hi)), .v (.int .i64 (dn (R.getD p Iv.zero).hi))]) ⟨6, rws ivr R⟩ := by
 refine okW 13 Tryz.call84 Tryz.func84 Tryz.ntmps84 Tryz.results84 ?_
 subst hki
 have ra := ig (l := a) (i := k) (by omega)
 rw [ha] at ra
 have rv := vg (l := R) (i := p) (by omega)
 generalize R.getD p Iv.zero = x at *
 exact wfr (zc4 hN hm ra rv)
set_option maxHeartbeats 4000000
theorem zen (w : Nat) : zf1 w = zeE w := rfl
theorem znF (a : Iv) (hM : a.Mg 30000) : CallOK Tryz.prog gl 52 [.agg [.v (.bool (sg (a).lo)), .sl 1 (u32s (ms (a).lo)), .v (.int .i64 (dn (a).lo)), .v (.bool (sg (a).hi)), .sl 1 (u32s (ms (a).hi)), .v (.int .i64 (dn (a).hi))]] (.v (.bool (lgI a))) := by
 refine okC 17 Tryz.call52 Tryz.func52 Tryz.ntmps52 Tryz.results52 ?_
 have b1 := zf5 _ _ _ _ (hM.1.arg (by omega))
 have b2 := zf5 _ _ _ _ (hM.2.arg (by omega))
 rw [zen] at b1 b2
 obtain ⟨z, hz⟩ : ∃ z, lgI a = z := ⟨_, rfl⟩
 rw [hz]
 unfold lgI lgD at hz
 have p1 : ((zeE a.lo.n.natAbs : Nat) : Int) ≤ 9223372036854775807 := by have := zdl (zcv.1 hM.1); have := a.lo.ok.1; omega
 have p2 : ((zeE a.hi.n.natAbs : Nat) : Int) ≤ 9223372036854775807 := by have := zdl (zcv.1 hM.2); have := a.hi.ok.1; omega
 clear hM
 generalize ((zeE a.lo.n.natAbs : Nat) : Int) = x1 at *
 generalize ((zeE a.hi.n.natAbs : Nat) : Int) = x2 at *
 generalize dn a.lo = y1 at *
 generalize dn a.hi = y2 at *
 subst hz
 repeat' (first | simp only [go_sem, seval] | simp (disch := omega) only [wA] | (with_reducible first | refine cA ?_ | refine dA ?_) | refine aI ?_ | refine dI ?_ | refine dG ?_ | ((first | refine cC ?_ ?_ | refine gS ?_ ?_ | refine dS ?_ ?_) <;> intro hc <;> simp only [hc] <;> try simp only [dcA] at hc <;> try omega) | refine aP ?_ | refine dP ?_)
 all_goals (refine zal trivial ?_; simp [one]; try (rw [← Bool.decide_or]; exact decide_eq_decide.2 (by omega)))
theorem zfe (k : Int) (hk : -100000 ≤ k ∧ k ≤ 100000) : CallOK Tryz.prog gl 81 [.v (.int .i64 k)] (.agg [.v (.bool (sg ((Dy.int 1).shift k))), .sl 1 (u32s (ms ((Dy.int 1).shift k))), .v (.int .i64 (dn ((Dy.int 1).shift k)))]) := by
 refine okC 6 Tryz.call81 Tryz.func81 Tryz.ntmps81 Tryz.results81 ?_
 have o1 := zeY 1 (by decide)
 have s1 := zaS _ _ _ k _ (Arg.of (zcY (n := 1) (by decide)) (by omega))
 change CallOK _ _ _ _ (.agg [.v (.bool (sg ((Dy.int 1).shift k))), .sl 1 (u32s (ms ((Dy.int 1).shift k))), .v (.int .i64 (dn ((Dy.int 1).shift k)))]) at s1
 generalize (Dy.int 1).shift k = z at *
 generalize Dy.int 1 = y at *
 exact we zc0
def farI (a : Iv) : Bool := decide (0 < a.mag.cmp ((Dy.int 1).shift 40))
theorem zjN {k : Int} (hk : -100000 ≤ k ∧ k ≤ 100000) : Mg 100001 ((Dy.int 1).shift k) := by
 have h1 : Mg 1 (Dy.int 1) := Mg.int (by decide)
 exact (h1.shift k).mono (by unfold zbe; omega)
theorem rn_far (a : Iv) (hM : a.Mg 300000) : CallOK Tryz.prog gl 47 [.agg [.v (.bool (sg (a).lo)), .sl 1 (u32s (ms (a).lo)), .v (.int .i64 (dn (a).lo)), .v (.bool (sg (a).hi)), .sl 1 (u32s (ms (a).hi)), .v (.int .i64 (dn (a).hi))]] (.v (.bool (farI a))) := by
 refine okC 8 Tryz.call47 Tryz.func47 Tryz.ntmps47 Tryz.results47 ?_
 have m1 := zge _ _ _ _ _ _ _ _ _ (IArg.of hM)
 have c1 := zb2 _ _ _ _ _ _ _ _ (Arg.of hM.mag (by omega)) (Arg.of (zjN (k := 40) (by omega)) (by omega))
 have p1 := zfe 40 (by omega)
 unfold farI
 generalize a.mag.cmp ((Dy.int 1).shift 40) = c at *
 generalize (Dy.int 1).shift 40 = y at *
 generalize a.mag = x at *
 repeat' (first | simp only [go_sem, seval] | simp (disch := omega) only [wA] | (with_reducible first | refine cA ?_ | refine dA ?_) | refine aI ?_ | refine dI ?_ | refine dG ?_ | ((first | refine cC ?_ ?_ | refine gS ?_ ?_ | refine dS ?_ ?_) <;> intro hc <;> simp only [hc] <;> try simp only [dcA] at hc <;> try omega) | refine aP ?_ | refine dP ?_)
 all_goals (refine zal trivial ?_; simp [one])
set_option maxHeartbeats 4000000
theorem zlh (f : Int) (hf : -100 ≤ f ∧ f ≤ 100) : CallOK Tryz.prog gl 96 [.v (.int .i64 f)] (.agg [.v (.bool (sg ((Dy.int 1).shift (0 - f)))), .sl 1 (u32s (ms ((Dy.int 1).shift (0 - f)))), .v (.int .i64 (dn ((Dy.int 1).shift (0 - f))))]) := by
 refine okC 7 Tryz.call96 Tryz.func96 Tryz.ntmps96 Tryz.results96 ?_
 have o1 := zeY 1 (by omega)
 have s1 := zaS _ _ _ (0 - f) _ ((Mg.int (k := 1) (n := 1) (by decide)).arg (by omega))
 generalize (Dy.int 1).shift (0 - f) = z at *
 generalize Dy.int 1 = y at *
 exact we zc0
theorem zbZ (ki : Int) (k : Nat) (hki : ki = (k : Int)) (a : List Int) (kk vn ve un ue : Int) (R : List Iv) (fr : List Int) (er : List Dy) (N m p : Nat) (hN : R.length = N) (hm : a.length = m) (hk : k < m) (ha : a.getD k 0 = (p : Int)) (hp : p < N) (cc : zae zaj) (cv : zae ivr) : CallOK Tryz.prog gl 121 [.v (.int .i64 ki), .rp [.sl 1 (rws zad fr), .sl 6 (rws ivr R), .sl 3 (rws zaj er)], .rp [.v (.int .i64 kk), .sl 1 (rws zad a), .v (.int .i64 vn), .v (.int .i64 ve), .v (.int .i64 un), .v (.int .i64 ue)]] (.agg [.v (.bool (sg (R.getD p Iv.zero).lo)), .sl 1 (u32s (ms (R.getD p Iv.zero).lo)), .v (.int .i64 (dn (R.getD p Iv.zero).lo)), .v (.bool (sg (R.getD p Iv.zero).hi)), .sl 1 (u32s (ms (R.getD p Iv.zero).hi)), .v (.int .i64 (dn (R.getD p Iv.zero).hi))]) := by
 refine okC 14 Tryz.call121 Tryz.func121 Tryz.ntmps121 Tryz.results121 ?_
 subst hki
 have ra := ig (l := a) (i := k) (by omega)
 rw [ha] at ra
 have rv := vg (l := R) (i := p) (by omega)
 generalize R.getD p Iv.zero = x at *
 exact wer (zc4 hN hm ra rv)
set_option maxHeartbeats 4000000
theorem zaM (f : Int) (hf : -100 ≤ f ∧ f ≤ 100) : CallOK Tryz.prog gl 96 [.v (.int .i64 f)] (.agg [.v (.bool (sg (zai f))), .sl 1 (u32s (ms (zai f))), .v (.int .i64 (dn (zai f)))]) := zlh f hf
theorem zdc (n e f : Int) (h : zbO n e) : CallOK Tryz.prog gl 99 [.agg [.v (.int .i64 n), .v (.int .i64 e)], .v (.int .i64 f)] (.v (.bool (zbp (scN n e) f))) := by
 refine okC 13 Tryz.call99 Tryz.func99 Tryz.ntmps99 Tryz.results99 ?_
 have c := zcq n e h
 have s := zaS _ _ _ f _ ((zaP h).arg (by omega))
 unfold zbp
 generalize (scN n e).shift f = z at *
 generalize scN n e = y at *
 clear h
 exact we zc0
theorem zdY (b : Bool) (u : Dy) : CallOK Tryz.prog gl 98 [.v (.bool (b)), .rp [.v (.bool (sg u)), .sl 1 (u32s (ms u)), .v (.int .i64 (dn u))]] (.agg [.v (.bool (sg (inx b u))), .sl 1 (u32s (ms (inx b u))), .v (.int .i64 (dn (inx b u)))]) := by
 refine okC 7 Tryz.call98 Tryz.func98 Tryz.ntmps98 Tryz.results98 ?_
 unfold inx
 cases b with
 | true =>
  rw [if_pos rfl]
  exact we zc0
 | false =>
  rw [if_neg Bool.noConfusion]
  repeat' (first | simp only [go_sem, seval] | simp (disch := omega) only [wA] | refine aI ?_ | refine dI ?_ | refine dG ?_ | ((first | refine cC ?_ ?_ | refine gS ?_ ?_ | refine dS ?_ ?_) <;> intro hc <;> simp only [hc] <;> try simp only [dcA] at hc <;> try omega) | refine aP ?_ | refine dP ?_)
  all_goals exact zbQ trivial Le.dy0
set_option maxHeartbeats 4000000
def upC (x : Dy) : Dy := x.ceil 62
theorem ct_up (x : Dy) (hM : Mg 30000 x) : CallOK Tryz.prog gl 56 [.agg [.v (.bool (sg (x))), .sl 1 (u32s (ms (x))), .v (.int .i64 (dn (x)))]] (.agg [.v (.bool (sg (upC x))), .sl 1 (u32s (ms (upC x))), .v (.int .i64 (dn (upC x)))]) := by
 refine okC 11 Tryz.call56 Tryz.func56 Tryz.ntmps56 Tryz.results56 ?_
 have c1 := zpQ _ _ _ 62 _ 30000 (hM.arg (by omega)) hM (by omega) (by omega)
 change CallOK _ _ _ [_, .v (.int .i64 62)] (.tup [.agg [.v (.bool (sg (upC x))), .sl 1 (u32s (ms (upC x))), .v (.int .i64 (dn (upC x)))], .v .nilIface]) at c1
 generalize upC x = y at *
 exact we zc0
def farC (x : Dy) : Bool := decide (0 < x.cmp (Dy.int 1099511627776))
theorem zo7 (x : Dy) (hM : Mg 300000 x) : CallOK Tryz.prog gl 58 [.agg [.v (.bool (sg (x))), .sl 1 (u32s (ms (x))), .v (.int .i64 (dn (x)))]] (.v (.bool (farC x))) := by
 refine okC 7 Tryz.call58 Tryz.func58 Tryz.ntmps58 Tryz.results58 ?_
 have o1 := zeY 1099511627776 (by decide)
 have c1 := zb2 _ _ _ _ _ _ _ _ (hM.arg (by omega)) (Arg.of (zcY (n := 1099511627776) (by decide)) (by omega))
 unfold farC
 generalize x.cmp (Dy.int 1099511627776) = c at *
 generalize Dy.int 1099511627776 = y at *
 repeat' (first | simp only [go_sem, seval] | simp (disch := omega) only [wA] | (with_reducible first | refine cA ?_ | refine dA ?_) | refine aI ?_ | refine dI ?_ | refine dG ?_ | ((first | refine cC ?_ ?_ | refine gS ?_ ?_ | refine dS ?_ ?_) <;> intro hc <;> simp only [hc] <;> try simp only [dcA] at hc <;> try omega) | refine aP ?_ | refine dP ?_)
 all_goals (refine zal trivial ?_; simp [one])
theorem zli (x : Dy) (hM : Mg 300000 x) : CallOK Tryz.prog gl 101 [.agg [.v (.bool (sg (x))), .sl 1 (u32s (ms (x))), .v (.int .i64 (dn (x)))]] (.v (.bool (lgD x))) := by
 refine okC 9 Tryz.call101 Tryz.func101 Tryz.ntmps101 Tryz.results101 ?_
 have b1 := zf5 _ _ _ _ (hM.arg (by omega))
 rw [zen] at b1
 have p1 : ((zeE x.n.natAbs : Nat) : Int) ≤ 9223372036854775807 := by have := zdl (zcv.1 hM); have := x.ok.1; omega
 unfold lgD
 clear hM
 generalize ((zeE x.n.natAbs : Nat) : Int) = x1 at *
 generalize dn x = y1 at *
 repeat' (first | simp only [go_sem, seval] | simp (disch := omega) only [wA] | (with_reducible first | refine cA ?_ | refine dA ?_) | refine aI ?_ | refine dI ?_ | refine dG ?_ | ((first | refine cC ?_ ?_ | refine gS ?_ ?_ | refine dS ?_ ?_) <;> intro hc <;> simp only [hc] <;> try simp only [dcA] at hc <;> try omega) | refine aP ?_ | refine dP ?_)
 all_goals (refine zal trivial ?_; simp [one])
set_option maxHeartbeats 4000000
theorem ct_rg0 (ins : List (Int × Int × Int)) (bs : List Blk) (outs : List Int) (vn ve un ue : Int) (R : List Iv) (N : Nat) (hN : R.length = N) (h0 : 0 < N) (hM : ∀ i, i < N → (R.getD i Iv.zero).Mg 9000) (cb : zae zao) (cv : zae ivr) (p nP : Nat) (hP : ins.length = nP) (hp : p < nP) (hI : ∀ i, i < nP → zbu (ins.getD i (0, 0, 0))) (fr : List Int) (er : List Dy) (cc : zae zaj) (i : Nat) (hB : bs.length = N) (hi : i < N) (hb : bs.getD i Blk.zero = ⟨0, [(p : Int)], vn, ve, un, ue⟩) : CallOK Tryz.prog gl 103 [AG ins bs outs, .agg [.sl 1 (rws zad fr), .sl 6 (rws ivr R), .sl 3 (rws zaj er)], .v (.int .i64 i)] (.v (.bool (((Iv.sp2 (Dy.int (ins.getD p (0, 0, 0)).1) (Dy.int (ins.getD p (0, 0, 0)).2.1)).mul (Iv.pt ((Dy.int 1).shift (-(ins.getD p (0, 0, 0)).2.2)))).ins (R.getD i Iv.zero)))) := by
 refine okC 125 Tryz.call103 Tryz.func103 Tryz.ntmps103 Tryz.results103 ?_
 have rb := bg (l := bs) (i := i) (by omega)
 rw [hb] at rb
 have rb : (rws zao bs).getD i [] = [.v (.int .i64 0), .sl 1 (rws zad [(p : Int)]), .v (.int .i64 vn), .v (.int .i64 ve), .v (.int .i64 un), .v (.int .i64 ue)] := rb
 have rr := vg (l := R) (i := i) (by omega)
 have gi := IArg.of (hM i hi) (by omega)
 have rp := pg (l := ins) (i := p) (by omega)
 have hF := hI p (by omega)
 unfold zbu at hF
 have rp : (rws zaD ins).getD p [] = [.v (.int .i64 (ins.getD p (0, 0, 0)).1), .v (.int .i64 (ins.getD p (0, 0, 0)).2.1), .v (.int .i64 (ins.getD p (0, 0, 0)).2.2)] := rp
 generalize ins.getD p (0, 0, 0) = P at *
 have em : -P.2.2 = 0 - P.2.2 := by omega
 rw [em]
 have m1 : Mg 1 (Dy.int 1) := Mg.int (by decide)
 have m2 : Mg 65537 ((Dy.int 1).shift (0 - P.2.2)) := (m1.shift _).mono (by unfold zbe; omega)
 have u1 := zlh P.2.2 (by omega)
 have i1 := zoF P.1 P.2.1 (by omega) (by omega)
 have mi : (Iv.sp2 (Dy.int P.1) (Dy.int P.2.1)).Mg 32 := .sp2 (zfm (by omega)) (zfm (by omega))
 have r := zgx _ _ _ _ _ _ _ _ _ (IArg.of mi (by omega)) _ _ _ _ (m2.arg (by omega)) 32 65537 mi m2 (by omega)
 have rI := zbq _ _ _ _ _ _ _ _ _ (IArg.of (mi.mul (.pt m2)) (by omega)) _ _ _ _ _ _ _ _ _ gi
 clear em m1 m2 mi hI hM
 generalize (Iv.sp2 (Dy.int P.1) (Dy.int P.2.1)).mul (Iv.pt ((Dy.int 1).shift (0 - P.2.2))) = z at *
 generalize Iv.sp2 (Dy.int P.1) (Dy.int P.2.1) = z1 at *
 generalize (Dy.int 1).shift (0 - P.2.2) = z2 at *
 obtain ⟨P1, P2, P3⟩ := P
 simp only at hF rp i1 u1
 generalize R.getD i Iv.zero = w at *
 exact zgo [1, 2] (zc6 hN hB rb rr hP rp)
theorem ct_rg1 (ins : List (Int × Int × Int)) (bs : List Blk) (outs : List Int) (vn ve un ue : Int) (R : List Iv) (N : Nat) (hN : R.length = N) (h0 : 0 < N) (hM : ∀ i, i < N → (R.getD i Iv.zero).Mg 9000) (cb : zae zao) (cv : zae ivr) (h : zbO vn ve) (fr : List Int) (er : List Dy) (cc : zae zaj) (i : Nat) (hB : bs.length = N) (hi : i < N) (hb : bs.getD i Blk.zero = ⟨1, [], vn, ve, un, ue⟩) : CallOK Tryz.prog gl 103 [AG ins bs outs, .agg [.sl 1 (rws zad fr), .sl 6 (rws ivr R), .sl 3 (rws zaj er)], .v (.int .i64 i)] (.v (.bool ((Iv.pt (scN vn ve)).ins (R.getD i Iv.zero)))) := by
 refine okC 125 Tryz.call103 Tryz.func103 Tryz.ntmps103 Tryz.results103 ?_
 have rb := bg (l := bs) (i := i) (by omega)
 rw [hb] at rb
 have rb : (rws zao bs).getD i [] = [.v (.int .i64 1), .sl 1 (rws zad []), .v (.int .i64 vn), .v (.int .i64 ve), .v (.int .i64 un), .v (.int .i64 ue)] := rb
 have rr := vg (l := R) (i := i) (by omega)
 have gi := IArg.of (hM i hi) (by omega)
 have c := zcq vn ve h
 have r := zcl _ _ _ _ ((zaP h).arg (by omega))
 have rI := zbq _ _ _ _ _ _ _ _ _ (IArg.of (.pt (zaP h)) (by omega)) _ _ _ _ _ _ _ _ _ gi
 clear hM h
 generalize Iv.pt (scN vn ve) = z at *
 generalize scN vn ve = z1 at *
 generalize R.getD i Iv.zero = w at *
 exact zgo [1, 2] (zc4 hN hB rb rr)
theorem ct_rg2 (ins : List (Int × Int × Int)) (bs : List Blk) (outs : List Int) (vn ve un ue : Int) (R : List Iv) (N : Nat) (hN : R.length = N) (h0 : 0 < N) (hM : ∀ i, i < N → (R.getD i Iv.zero).Mg 9000) (cb : zae zao) (cv : zae ivr) (p : Nat) (hp : p < N) (h : zbO vn ve) (fr : List Int) (er : List Dy) (cc : zae zaj) (i : Nat) (hB : bs.length = N) (hi : i < N) (hb : bs.getD i Blk.zero = ⟨2, [(p : Int)], vn, ve, un, ue⟩) : CallOK Tryz.prog gl 103 [AG ins bs outs, .agg [.sl 1 (rws zad fr), .sl 6 (rws ivr R), .sl 3 (rws zaj er)], .v (.int .i64 i)] (.v (.bool (((Iv.pt (scN vn ve)).hull (R.getD p Iv.zero)).ins (R.getD i Iv.zero)))) := by
 refine okC 125 Tryz.call103 Tryz.func103 Tryz.ntmps103 Tryz.results103 ?_
 have rb := bg (l := bs) (i := i) (by omega)
 rw [hb] at rb
 have rb : (rws zao bs).getD i [] = [.v (.int .i64 2), .sl 1 (rws zad [(p : Int)]), .v (.int .i64 vn), .v (.int .i64 ve), .v (.int .i64 un), .v (.int .i64 ue)] := rb
 have rr := vg (l := R) (i := i) (by omega)
 have gi := IArg.of (hM i hi) (by omega)
 have e0 := zbZ 0 0 rfl [(p : Int)] 2 vn ve un ue R fr er N 1 p hN rfl (by decide) rfl hp cc cv
 have g1 := IArg.of (hM p hp) (by omega)
 have c := zcq vn ve h
 have r := zcl _ _ _ _ ((zaP h).arg (by omega))
 have mp : (Iv.pt (scN vn ve)).Mg 9000 := (Iv.Mg.pt (zaP h)).mono (by omega)
 have r2 := zk4 _ _ _ _ _ _ _ _ _ (IArg.of mp (by omega)) _ _ _ _ _ _ _ _ _ g1
 have rI := zbq _ _ _ _ _ _ _ _ _ (IArg.of (mp.hull (hM p hp)) (by omega)) _ _ _ _ _ _ _ _ _ gi
 clear hM h mp g1
 generalize (Iv.pt (scN vn ve)).hull (R.getD p Iv.zero) = z at *
 generalize R.getD p Iv.zero = x at *
 generalize Iv.pt (scN vn ve) = z1 at *
 generalize scN vn ve = z2 at *
 generalize R.getD i Iv.zero = w at *
 exact zgo [1, 2] (zc4 hN hB rb rr)
theorem ct_rg3 (ins : List (Int × Int × Int)) (bs : List Blk) (outs : List Int) (vn ve un ue : Int) (R : List Iv) (N : Nat) (hN : R.length = N) (h0 : 0 < N) (hM : ∀ i, i < N → (R.getD i Iv.zero).Mg 9000) (cb : zae zao) (cv : zae ivr) (p : Nat) (hp : p < N) (q : Nat) (hq : q < N) (fr : List Int) (er : List Dy) (cc : zae zaj) (i : Nat) (hB : bs.length = N) (hi : i < N) (hb : bs.getD i Blk.zero = ⟨3, [(p : Int), (q : Int)], vn, ve, un, ue⟩) : CallOK Tryz.prog gl 103 [AG ins bs outs, .agg [.sl 1 (rws zad fr), .sl 6 (rws ivr R), .sl 3 (rws zaj er)], .v (.int .i64 i)] (.v (.bool (((R.getD p Iv.zero).add (R.getD q Iv.zero)).ins (R.getD i Iv.zero)))) := by
 refine okC 125 Tryz.call103 Tryz.func103 Tryz.ntmps103 Tryz.results103 ?_
 have rb := bg (l := bs) (i := i) (by omega)
 rw [hb] at rb
 have rb : (rws zao bs).getD i [] = [.v (.int .i64 3), .sl 1 (rws zad [(p : Int), (q : Int)]), .v (.int .i64 vn), .v (.int .i64 ve), .v (.int .i64 un), .v (.int .i64 ue)] := rb
 have rr := vg (l := R) (i := i) (by omega)
 have gi := IArg.of (hM i hi) (by omega)
 have e0 := zbZ 0 0 rfl [(p : Int), (q : Int)] 3 vn ve un ue R fr er N 2 p hN rfl (by decide) rfl hp cc cv
 have e1 := zbZ 1 1 rfl [(p : Int), (q : Int)] 3 vn ve un ue R fr er N 2 q hN rfl (by decide) rfl hq cc cv
 have g1 := IArg.of (hM p hp) (by omega)
 have g2 := IArg.of (hM q hq) (by omega)
 have r := zoH _ _ _ _ _ _ _ _ _ g1 _ _ _ _ _ _ _ _ _ g2
 have rI := zbq _ _ _ _ _ _ _ _ _ (IArg.of ((hM p hp).add (hM q hq)) (by omega)) _ _ _ _ _ _ _ _ _ gi
 clear hM g1 g2
 generalize (R.getD p Iv.zero).add (R.getD q Iv.zero) = z at *
 generalize R.getD p Iv.zero = x at *
 generalize R.getD q Iv.zero = y at *
 generalize R.getD i Iv.zero = w at *
 exact zgo [1, 2] (zc4 hN hB rb rr)
theorem ct_rg4 (ins : List (Int × Int × Int)) (bs : List Blk) (outs : List Int) (vn ve un ue : Int) (R : List Iv) (N : Nat) (hN : R.length = N) (h0 : 0 < N) (hM : ∀ i, i < N → (R.getD i Iv.zero).Mg 9000) (cb : zae zao) (cv : zae ivr) (p : Nat) (hp : p < N) (q : Nat) (hq : q < N) (fr : List Int) (er : List Dy) (cc : zae zaj) (i : Nat) (hB : bs.length = N) (hi : i < N) (hb : bs.getD i Blk.zero = ⟨4, [(p : Int), (q : Int)], vn, ve, un, ue⟩) : CallOK Tryz.prog gl 103 [AG ins bs outs, .agg [.sl 1 (rws zad fr), .sl 6 (rws ivr R), .sl 3 (rws zaj er)], .v (.int .i64 i)] (.v (.bool (((R.getD p Iv.zero).sub (R.getD q Iv.zero)).ins (R.getD i Iv.zero)))) := by
 refine okC 125 Tryz.call103 Tryz.func103 Tryz.ntmps103 Tryz.results103 ?_
 have rb := bg (l := bs) (i := i) (by omega)
 rw [hb] at rb
 have rb : (rws zao bs).getD i [] = [.v (.int .i64 4), .sl 1 (rws zad [(p : Int), (q : Int)]), .v (.int .i64 vn), .v (.int .i64 ve), .v (.int .i64 un), .v (.int .i64 ue)] := rb
 have rr := vg (l := R) (i := i) (by omega)
 have gi := IArg.of (hM i hi) (by omega)
 have e0 := zbZ 0 0 rfl [(p : Int), (q : Int)] 4 vn ve un ue R fr er N 2 p hN rfl (by decide) rfl hp cc cv
 have e1 := zbZ 1 1 rfl [(p : Int), (q : Int)] 4 vn ve un ue R fr er N 2 q hN rfl (by decide) rfl hq cc cv
 have g1 := IArg.of (hM p hp) (by omega)
 have g2 := IArg.of (hM q hq) (by omega)
 have r := iv_Sub _ _ _ _ _ _ _ _ _ g1 _ _ _ _ _ _ _ _ _ g2
 have rI := zbq _ _ _ _ _ _ _ _ _ (IArg.of ((hM p hp).sub (hM q hq)) (by omega)) _ _ _ _ _ _ _ _ _ gi
 clear hM g1 g2
 generalize (R.getD p Iv.zero).sub (R.getD q Iv.zero) = z at *
 generalize R.getD p Iv.zero = x at *
 generalize R.getD q Iv.zero = y at *
 generalize R.getD i Iv.zero = w at *
 exact zgo [1, 2] (zc4 hN hB rb rr)
theorem ct_rg8 (ins : List (Int × Int × Int)) (bs : List Blk) (outs : List Int) (vn ve un ue : Int) (R : List Iv) (N : Nat) (hN : R.length = N) (h0 : 0 < N) (hM : ∀ i, i < N → (R.getD i Iv.zero).Mg 9000) (cb : zae zao) (cv : zae ivr) (p : Nat) (hp : p < N) (q : Nat) (hq : q < N) (fr : List Int) (er : List Dy) (cc : zae zaj) (i : Nat) (hB : bs.length = N) (hi : i < N) (hb : bs.getD i Blk.zero = ⟨8, [(p : Int), (q : Int)], vn, ve, un, ue⟩) : CallOK Tryz.prog gl 103 [AG ins bs outs, .agg [.sl 1 (rws zad fr), .sl 6 (rws ivr R), .sl 3 (rws zaj er)], .v (.int .i64 i)] (.v (.bool (((R.getD p Iv.zero).min (R.getD q Iv.zero)).ins (R.getD i Iv.zero)))) := by
 refine okC 125 Tryz.call103 Tryz.func103 Tryz.ntmps103 Tryz.results103 ?_
 have rb := bg (l := bs) (i := i) (by omega)
 rw [hb] at rb
 have rb : (rws zao bs).getD i [] = [.v (.int .i64 8), .sl 1 (rws zad [(p : Int), (q : Int)]), .v (.int .i64 vn), .v (.int .i64 ve), .v (.int .i64 un), .v (.int .i64 ue)] := rb
 have rr := vg (l := R) (i := i) (by omega)
 have gi := IArg.of (hM i hi) (by omega)
 have e0 := zbZ 0 0 rfl [(p : Int), (q : Int)] 8 vn ve un ue R fr er N 2 p hN rfl (by decide) rfl hp cc cv
 have e1 := zbZ 1 1 rfl [(p : Int), (q : Int)] 8 vn ve un ue R fr er N 2 q hN rfl (by decide) rfl hq cc cv
 have g1 := IArg.of (hM p hp) (by omega)
 have g2 := IArg.of (hM q hq) (by omega)
 have r := zoD _ _ _ _ _ _ _ _ _ g1 _ _ _ _ _ _ _ _ _ g2
 have rI := zbq _ _ _ _ _ _ _ _ _ (IArg.of ((hM p hp).min (hM q hq)) (by omega)) _ _ _ _ _ _ _ _ _ gi
 clear hM g1 g2
 generalize (R.getD p Iv.zero).min (R.getD q Iv.zero) = z at *
 generalize R.getD p Iv.zero = x at *
 generalize R.getD q Iv.zero = y at *
 generalize R.getD i Iv.zero = w at *
 exact zgo [1, 2] (zc4 hN hB rb rr)
theorem ct_rg9 (ins : List (Int × Int × Int)) (bs : List Blk) (outs : List Int) (vn ve un ue : Int) (R : List Iv) (N : Nat) (hN : R.length = N) (h0 : 0 < N) (hM : ∀ i, i < N → (R.getD i Iv.zero).Mg 9000) (cb : zae zao) (cv : zae ivr) (p : Nat) (hp : p < N) (q : Nat) (hq : q < N) (fr : List Int) (er : List Dy) (cc : zae zaj) (i : Nat) (hB : bs.length = N) (hi : i < N) (hb : bs.getD i Blk.zero = ⟨9, [(p : Int), (q : Int)], vn, ve, un, ue⟩) : CallOK Tryz.prog gl 103 [AG ins bs outs, .agg [.sl 1 (rws zad fr), .sl 6 (rws ivr R), .sl 3 (rws zaj er)], .v (.int .i64 i)] (.v (.bool (((R.getD p Iv.zero).max (R.getD q Iv.zero)).ins (R.getD i Iv.zero)))) := by
 refine okC 125 Tryz.call103 Tryz.func103 Tryz.ntmps103 Tryz.results103 ?_
 have rb := bg (l := bs) (i := i) (by omega)
 rw [hb] at rb
 have rb : (rws zao bs).getD i [] = [.v (.int .i64 9), .sl 1 (rws zad [(p : Int), (q : Int)]), .v (.int .i64 vn), .v (.int .i64 ve), .v (.int .i64 un), .v (.int .i64 ue)] := rb
 have rr := vg (l := R) (i := i) (by omega)
 have gi := IArg.of (hM i hi) (by omega)
 have e0 := zbZ 0 0 rfl [(p : Int), (q : Int)] 9 vn ve un ue R fr er N 2 p hN rfl (by decide) rfl hp cc cv
 have e1 := zbZ 1 1 rfl [(p : Int), (q : Int)] 9 vn ve un ue R fr er N 2 q hN rfl (by decide) rfl hq cc cv
 have g1 := IArg.of (hM p hp) (by omega)
 have g2 := IArg.of (hM q hq) (by omega)
 have r := zoE _ _ _ _ _ _ _ _ _ g1 _ _ _ _ _ _ _ _ _ g2
 have rI := zbq _ _ _ _ _ _ _ _ _ (IArg.of ((hM p hp).max (hM q hq)) (by omega)) _ _ _ _ _ _ _ _ _ gi
 clear hM g1 g2
 generalize (R.getD p Iv.zero).max (R.getD q Iv.zero) = z at *
 generalize R.getD p Iv.zero = x at *
 generalize R.getD q Iv.zero = y at *
 generalize R.getD i Iv.zero = w at *
 exact zgo [1, 2] (zc4 hN hB rb rr)
theorem ct_rg7 (ins : List (Int × Int × Int)) (bs : List Blk) (outs : List Int) (vn ve un ue : Int) (R : List Iv) (N : Nat) (hN : R.length = N) (h0 : 0 < N) (hM : ∀ i, i < N → (R.getD i Iv.zero).Mg 9000) (cb : zae zao) (cv : zae ivr) (p : Nat) (hp : p < N) (q : Nat) (hq : q < N) (fr : List Int) (er : List Dy) (cc : zae zaj) (i : Nat) (hB : bs.length = N) (hi : i < N) (hb : bs.getD i Blk.zero = ⟨7, [(p : Int), (q : Int)], vn, ve, un, ue⟩) : CallOK Tryz.prog gl 103 [AG ins bs outs, .agg [.sl 1 (rws zad fr), .sl 6 (rws ivr R), .sl 3 (rws zaj er)], .v (.int .i64 i)] (.v (.bool (((R.getD p Iv.zero).mul (R.getD q Iv.zero)).ins (R.getD i Iv.zero)))) := by
 refine okC 125 Tryz.call103 Tryz.func103 Tryz.ntmps103 Tryz.results103 ?_
 have rb := bg (l := bs) (i := i) (by omega)
 rw [hb] at rb
 have rb : (rws zao bs).getD i [] = [.v (.int .i64 7), .sl 1 (rws zad [(p : Int), (q : Int)]), .v (.int .i64 vn), .v (.int .i64 ve), .v (.int .i64 un), .v (.int .i64 ue)] := rb
 have rr := vg (l := R) (i := i) (by omega)
 have gi := IArg.of (hM i hi) (by omega)
 have e0 := zbZ 0 0 rfl [(p : Int), (q : Int)] 7 vn ve un ue R fr er N 2 p hN rfl (by decide) rfl hp cc cv
 have e1 := zbZ 1 1 rfl [(p : Int), (q : Int)] 7 vn ve un ue R fr er N 2 q hN rfl (by decide) rfl hq cc cv
 have g1 := IArg.of (hM p hp) (by omega)
 have g2 := IArg.of (hM q hq) (by omega)
 have r := zoC _ _ _ _ _ _ _ _ _ g1 _ _ _ _ _ _ _ _ _ g2 9000 9000 (hM p hp) (hM q hq) (by omega)
 have rI := zbq _ _ _ _ _ _ _ _ _ (IArg.of ((hM p hp).mul (hM q hq)) (by omega)) _ _ _ _ _ _ _ _ _ gi
 clear hM g1 g2
 generalize (R.getD p Iv.zero).mul (R.getD q Iv.zero) = z at *
 generalize R.getD p Iv.zero = x at *
 generalize R.getD q Iv.zero = y at *
 generalize R.getD i Iv.zero = w at *
 exact zgo [1, 2] (zc4 hN hB rb rr)
theorem ct_rg5 (ins : List (Int × Int × Int)) (bs : List Blk) (outs : List Int) (vn ve un ue : Int) (R : List Iv) (N : Nat) (hN : R.length = N) (h0 : 0 < N) (hM : ∀ i, i < N → (R.getD i Iv.zero).Mg 9000) (cb : zae zao) (cv : zae ivr) (p : Nat) (hp : p < N) (fr : List Int) (er : List Dy) (cc : zae zaj) (i : Nat) (hB : bs.length = N) (hi : i < N) (hb : bs.getD i Blk.zero = ⟨5, [(p : Int)], vn, ve, un, ue⟩) : CallOK Tryz.prog gl 103 [AG ins bs outs, .agg [.sl 1 (rws zad fr), .sl 6 (rws ivr R), .sl 3 (rws zaj er)], .v (.int .i64 i)] (.v (.bool (((R.getD p Iv.zero).neg).ins (R.getD i Iv.zero)))) := by
 refine okC 125 Tryz.call103 Tryz.func103 Tryz.ntmps103 Tryz.results103 ?_
 have rb := bg (l := bs) (i := i) (by omega)
 rw [hb] at rb
 have rb : (rws zao bs).getD i [] = [.v (.int .i64 5), .sl 1 (rws zad [(p : Int)]), .v (.int .i64 vn), .v (.int .i64 ve), .v (.int .i64 un), .v (.int .i64 ue)] := rb
 have rr := vg (l := R) (i := i) (by omega)
 have gi := IArg.of (hM i hi) (by omega)
 have e0 := zbZ 0 0 rfl [(p : Int)] 5 vn ve un ue R fr er N 1 p hN rfl (by decide) rfl hp cc cv
 have g1 := IArg.of (hM p hp) (by omega)
 have r := zoB _ _ _ _ _ _ _ _ _ g1
 have rI := zbq _ _ _ _ _ _ _ _ _ (IArg.of ((hM p hp).neg) (by omega)) _ _ _ _ _ _ _ _ _ gi
 clear hM g1
 generalize (R.getD p Iv.zero).neg = z at *
 generalize R.getD p Iv.zero = x at *
 generalize R.getD i Iv.zero = w at *
 exact zgo [1, 2] (zc4 hN hB rb rr)
theorem ct_rg10 (ins : List (Int × Int × Int)) (bs : List Blk) (outs : List Int) (vn ve un ue : Int) (R : List Iv) (N : Nat) (hN : R.length = N) (h0 : 0 < N) (hM : ∀ i, i < N → (R.getD i Iv.zero).Mg 9000) (cb : zae zao) (cv : zae ivr) (p : Nat) (hp : p < N) (fr : List Int) (er : List Dy) (cc : zae zaj) (i : Nat) (hB : bs.length = N) (hi : i < N) (hb : bs.getD i Blk.zero = ⟨10, [(p : Int)], vn, ve, un, ue⟩) : CallOK Tryz.prog gl 103 [AG ins bs outs, .agg [.sl 1 (rws zad fr), .sl 6 (rws ivr R), .sl 3 (rws zaj er)], .v (.int .i64 i)] (.v (.bool (((R.getD p Iv.zero).abs).ins (R.getD i Iv.zero)))) := by
 refine okC 125 Tryz.call103 Tryz.func103 Tryz.ntmps103 Tryz.results103 ?_
 have rb := bg (l := bs) (i := i) (by omega)
 rw [hb] at rb
 have rb : (rws zao bs).getD i [] = [.v (.int .i64 10), .sl 1 (rws zad [(p : Int)]), .v (.int .i64 vn), .v (.int .i64 ve), .v (.int .i64 un), .v (.int .i64 ue)] := rb
 have rr := vg (l := R) (i := i) (by omega)
 have gi := IArg.of (hM i hi) (by omega)
 have e0 := zbZ 0 0 rfl [(p : Int)] 10 vn ve un ue R fr er N 1 p hN rfl (by decide) rfl hp cc cv
 have g1 := IArg.of (hM p hp) (by omega)
 have r := zoI _ _ _ _ _ _ _ _ _ g1
 have rI := zbq _ _ _ _ _ _ _ _ _ (IArg.of ((hM p hp).abs) (by omega)) _ _ _ _ _ _ _ _ _ gi
 clear hM g1
 generalize (R.getD p Iv.zero).abs = z at *
 generalize R.getD p Iv.zero = x at *
 generalize R.getD i Iv.zero = w at *
 exact zgo [1, 2] (zc4 hN hB rb rr)
theorem ct_rg6 (ins : List (Int × Int × Int)) (bs : List Blk) (outs : List Int) (vn ve un ue : Int) (R : List Iv) (N : Nat) (hN : R.length = N) (h0 : 0 < N) (hM : ∀ i, i < N → (R.getD i Iv.zero).Mg 9000) (cb : zae zao) (cv : zae ivr) (p : Nat) (hp : p < N) (h : zbO vn ve) (fr : List Int) (er : List Dy) (cc : zae zaj) (i : Nat) (hB : bs.length = N) (hi : i < N) (hb : bs.getD i Blk.zero = ⟨6, [(p : Int)], vn, ve, un, ue⟩) : CallOK Tryz.prog gl 103 [AG ins bs outs, .agg [.sl 1 (rws zad fr), .sl 6 (rws ivr R), .sl 3 (rws zaj er)], .v (.int .i64 i)] (.v (.bool (((R.getD p Iv.zero).mul (Iv.pt (scN vn ve))).ins (R.getD i Iv.zero)))) := by
 refine okC 125 Tryz.call103 Tryz.func103 Tryz.ntmps103 Tryz.results103 ?_
 have rb := bg (l := bs) (i := i) (by omega)
 rw [hb] at rb
 have rb : (rws zao bs).getD i [] = [.v (.int .i64 6), .sl 1 (rws zad [(p : Int)]), .v (.int .i64 vn), .v (.int .i64 ve), .v (.int .i64 un), .v (.int .i64 ue)] := rb
 have rr := vg (l := R) (i := i) (by omega)
 have gi := IArg.of (hM i hi) (by omega)
 have e0 := zbZ 0 0 rfl [(p : Int)] 6 vn ve un ue R fr er N 1 p hN rfl (by decide) rfl hp cc cv
 have g1 := IArg.of (hM p hp) (by omega)
 have c := zcq vn ve h
 have r := zgx _ _ _ _ _ _ _ _ _ g1 _ _ _ _ ((zaP h).arg (by omega)) 9000 62 (hM p hp) (zaP h) (by omega)
 have rI := zbq _ _ _ _ _ _ _ _ _ (IArg.of ((hM p hp).mul (.pt (zaP h))) (by omega)) _ _ _ _ _ _ _ _ _ gi
 clear hM g1 h
 generalize (R.getD p Iv.zero).mul (Iv.pt (scN vn ve)) = z at *
 generalize R.getD p Iv.zero = x at *
 generalize scN vn ve = z1 at *
 generalize R.getD i Iv.zero = w at *
 exact zgo [1, 2] (zc4 hN hB rb rr)
theorem ct_rg11 (ins : List (Int × Int × Int)) (bs : List Blk) (outs : List Int) (vn ve un ue : Int) (R : List Iv) (N : Nat) (hN : R.length = N) (h0 : 0 < N) (hM : ∀ i, i < N → (R.getD i Iv.zero).Mg 9000) (cb : zae zao) (cv : zae ivr) (p : Nat) (hp : p < N) (h : zbO vn ve) (h' : zbO un ue) (hle : (scN vn ve).v ≤ (scN un ue).v) (fr : List Int) (er : List Dy) (cc : zae zaj) (i : Nat) (hB : bs.length = N) (hi : i < N) (hb : bs.getD i Blk.zero = ⟨11, [(p : Int)], vn, ve, un, ue⟩) : CallOK Tryz.prog gl 103 [AG ins bs outs, .agg [.sl 1 (rws zad fr), .sl 6 (rws ivr R), .sl 3 (rws zaj er)], .v (.int .i64 i)] (.v (.bool ((((R.getD p Iv.zero).max (Iv.pt (scN vn ve))).min (Iv.pt (scN un ue))).ins (R.getD i Iv.zero)))) := by
 refine okC 125 Tryz.call103 Tryz.func103 Tryz.ntmps103 Tryz.results103 ?_
 have rb := bg (l := bs) (i := i) (by omega)
 rw [hb] at rb
 have rb : (rws zao bs).getD i [] = [.v (.int .i64 11), .sl 1 (rws zad [(p : Int)]), .v (.int .i64 vn), .v (.int .i64 ve), .v (.int .i64 un), .v (.int .i64 ue)] := rb
 have rr := vg (l := R) (i := i) (by omega)
 have gi := IArg.of (hM i hi) (by omega)
 have e0 := zbZ 0 0 rfl [(p : Int)] 11 vn ve un ue R fr er N 1 p hN rfl (by decide) rfl hp cc cv
 have g1 := IArg.of (hM p hp) (by omega)
 have c1 := zcq vn ve h
 have c2 := zcq un ue h'
 have r := zoG _ _ _ _ _ _ _ _ _ g1 _ _ _ _ ((zaP h).arg (by omega)) _ _ _ _ ((zaP h').arg (by omega)) hle
 have rI := zbq _ _ _ _ _ _ _ _ _ (IArg.of (((hM p hp).max ((Iv.Mg.pt (zaP h)).mono (by omega))).min ((Iv.Mg.pt (zaP h')).mono (by omega))) (by omega)) _ _ _ _ _ _ _ _ _ gi
 clear hM g1 h h' hle
 generalize ((R.getD p Iv.zero).max (Iv.pt (scN vn ve))).min (Iv.pt (scN un ue)) = z at *
 generalize R.getD p Iv.zero = x at *
 generalize scN vn ve = y at *
 generalize scN un ue = y' at *
 generalize R.getD i Iv.zero = w at *
 exact zgo [1, 2] (zc4 hN hB rb rr)
set_option maxHeartbeats 4000000
theorem zeV (ki : Int) (k : Nat) (hki : ki = (k : Int)) (a : List Int) (kk vn ve un ue f : Int) (R : List Iv) (fr : List Int) (c3 er : List Dy) (u : Dy) (N m p : Nat) (hN : er.length = N) (h0 : 0 < N) (hf : fr.length = N) (hm : a.length = m) (hk : k < m) (ha : a.getD k 0 = (p : Int)) (hp : p < N) (hE : Mg 9000 (er.getD p Dy.zero)) (hu : Mg 9000 u) (cc : zae zaj) (cv : zae ivr) : CallOK Tryz.prog gl 97 [.v (.int .i64 ki), .rp [.v (.int .i64 kk), .sl 1 (rws zad a), .v (.int .i64 vn), .v (.int .i64 ve), .v (.int .i64 un), .v (.int .i64 ue)], .rp [.v (.int .i64 f)], .rp [.sl 1 (rws zad fr), .sl 6 (rws ivr R), .sl 3 (rws zaj c3)], .rp [.sl 3 (rws zaj er)], .rp [.v (.bool (sg u)), .sl 1 (u32s (ms u)), .v (.int .i64 (dn u))]] (.agg [.v (.bool (sg (mvd f (fr.getD p 0) u (er.getD p Dy.zero)))), .sl 1 (u32s (ms (mvd f (fr.getD p 0) u (er.getD p Dy.zero)))), .v (.int .i64 (dn (mvd f (fr.getD p 0) u (er.getD p Dy.zero))))]) := by
 refine okC 31 Tryz.call97 Tryz.func97 Tryz.ntmps97 Tryz.results97 ?_
 subst hki
 have ra := ig (l := a) (i := k) (by omega)
 rw [ha] at ra
 have rf := ig (l := fr) (i := p) (by omega)
 have rv := cg (l := er) (i := p) (by omega)
 have r := zbT _ _ _ _ _ _ _ _ (hE.arg (by omega)) (hu.arg (by omega))
 unfold mvd
 generalize (er.getD p Dy.zero).add u = z at *
 generalize er.getD p Dy.zero = x at *
 generalize fr.getD p 0 = g at *
 clear hE hu
 by_cases h : g ≤ f
 ·rw [if_pos h]
  exact wer (zc6 hN hm hf ra rv rf)
 ·rw [if_neg h]
  exact wer (zc6 hN hm hf ra rv rf)
theorem cb_b0 (ins : List (Int × Int × Int)) (bs : List Blk) (outs : List Int) (vn ve un ue : Int) (R : List Iv) (fr : List Int) (c3 er : List Dy) (N : Nat) (hN : er.length = N) (h0 : 0 < N) (hf : fr.length = N) (hR : R.length = N) (hM : ∀ i, i < N → Mg 9000 (er.getD i Dy.zero)) (hF : ∀ i, i < N → 0 ≤ fr.getD i 0 ∧ fr.getD i 0 ≤ 30) (cb : zae zao) (cc : zae zaj) (cv : zae ivr) (p nP : Nat) (hP : ins.length = nP) (hp : p < nP) (i : Nat) (hB : bs.length = N) (hi : i < N) (hb : bs.getD i Blk.zero = ⟨0, [(p : Int)], vn, ve, un, ue⟩) : CallOK Tryz.prog gl 57 [AG ins bs outs, .agg [.sl 1 (rws zad fr), .sl 6 (rws ivr R), .sl 3 (rws zaj c3)], .sl 3 (rws zaj er), .v (.int .i64 i)] (.agg [.v (.bool (sg (inx (decide (fr.getD i 0 < (ins.getD p (0, 0, 0)).2.2)) (zai (fr.getD i 0))))), .sl 1 (u32s (ms (inx (decide (fr.getD i 0 < (ins.getD p (0, 0, 0)).2.2)) (zai (fr.getD i 0))))), .v (.int .i64 (dn (inx (decide (fr.getD i 0 < (ins.getD p (0, 0, 0)).2.2)) (zai (fr.getD i 0)))))]) := by
 refine okC 200 Tryz.call57 Tryz.func57 Tryz.ntmps57 Tryz.results57 ?_
 have rb := bg (l := bs) (i := i) (by omega)
 rw [hb] at rb
 have rb : (rws zao bs).getD i [] = [.v (.int .i64 0), .sl 1 (rws zad [(p : Int)]), .v (.int .i64 vn), .v (.int .i64 ve), .v (.int .i64 un), .v (.int .i64 ue)] := rb
 have fi := hF i hi
 have rf := ig (l := fr) (i := i) (by omega)
 have u0 : Mg 9000 (zai (fr.getD i 0)) := (za5 _ fi.1).mono (by omega)
 have u1 := zaM (fr.getD i 0) (by omega)
 have rp := pg (l := ins) (i := p) (by omega)
 have rp : (rws zaD ins).getD p [] = [.v (.int .i64 (ins.getD p (0, 0, 0)).1), .v (.int .i64 (ins.getD p (0, 0, 0)).2.1), .v (.int .i64 (ins.getD p (0, 0, 0)).2.2)] := rp
 generalize ins.getD p (0, 0, 0) = P at *
 obtain ⟨P1, P2, P3⟩ := P
 simp only at rp ⊢
 have ix := zdY (decide (fr.getD i 0 < P3)) (zai (fr.getD i 0))
 clear hM u0 hF
 generalize zai (fr.getD i 0) = u at *
 generalize fr.getD i 0 = f at *
 generalize inx (decide (f < P3)) u = z at *
 exact zgo [4, 5, 1, 6] (zc8 hN hf hR hB rb rf hP rp)
theorem cb_b1 (ins : List (Int × Int × Int)) (bs : List Blk) (outs : List Int) (vn ve un ue : Int) (R : List Iv) (fr : List Int) (c3 er : List Dy) (N : Nat) (hN : er.length = N) (h0 : 0 < N) (hf : fr.length = N) (hR : R.length = N) (hM : ∀ i, i < N → Mg 9000 (er.getD i Dy.zero)) (hF : ∀ i, i < N → 0 ≤ fr.getD i 0 ∧ fr.getD i 0 ≤ 30) (cb : zae zao) (cc : zae zaj) (cv : zae ivr) (h : zbO vn ve) (i : Nat) (hB : bs.length = N) (hi : i < N) (hb : bs.getD i Blk.zero = ⟨1, [], vn, ve, un, ue⟩) : CallOK Tryz.prog gl 57 [AG ins bs outs, .agg [.sl 1 (rws zad fr), .sl 6 (rws ivr R), .sl 3 (rws zaj c3)], .sl 3 (rws zaj er), .v (.int .i64 i)] (.agg [.v (.bool (sg (inx (!zbp (scN vn ve) (fr.getD i 0)) (zai (fr.getD i 0))))), .sl 1 (u32s (ms (inx (!zbp (scN vn ve) (fr.getD i 0)) (zai (fr.getD i 0))))), .v (.int .i64 (dn (inx (!zbp (scN vn ve) (fr.getD i 0)) (zai (fr.getD i 0)))))]) := by
 refine okC 200 Tryz.call57 Tryz.func57 Tryz.ntmps57 Tryz.results57 ?_
 have rb := bg (l := bs) (i := i) (by omega)
 rw [hb] at rb
 have rb : (rws zao bs).getD i [] = [.v (.int .i64 1), .sl 1 (rws zad []), .v (.int .i64 vn), .v (.int .i64 ve), .v (.int .i64 un), .v (.int .i64 ue)] := rb
 have fi := hF i hi
 have rf := ig (l := fr) (i := i) (by omega)
 have u0 : Mg 9000 (zai (fr.getD i 0)) := (za5 _ fi.1).mono (by omega)
 have u1 := zaM (fr.getD i 0) (by omega)
 have w := zdc vn ve (fr.getD i 0) h
 have ix := zdY (!zbp (scN vn ve) (fr.getD i 0)) (zai (fr.getD i 0))
 clear h
 clear hM u0 hF
 generalize zai (fr.getD i 0) = u at *
 generalize fr.getD i 0 = f at *
 generalize zbp (scN vn ve) f = b at *
 generalize inx (!b) u = z at *
 exact zgo [4, 5, 1, 6] (zc6 hN hf hR hB rb rf)
theorem cb_b3 (ins : List (Int × Int × Int)) (bs : List Blk) (outs : List Int) (vn ve un ue : Int) (R : List Iv) (fr : List Int) (c3 er : List Dy) (N : Nat) (hN : er.length = N) (h0 : 0 < N) (hf : fr.length = N) (hR : R.length = N) (hM : ∀ i, i < N → Mg 9000 (er.getD i Dy.zero)) (hF : ∀ i, i < N → 0 ≤ fr.getD i 0 ∧ fr.getD i 0 ≤ 30) (cb : zae zao) (cc : zae zaj) (cv : zae ivr) (p : Nat) (hp : p < N) (q : Nat) (hq : q < N) (i : Nat) (hB : bs.length = N) (hi : i < N) (hb : bs.getD i Blk.zero = ⟨3, [(p : Int), (q : Int)], vn, ve, un, ue⟩) : CallOK Tryz.prog gl 57 [AG ins bs outs, .agg [.sl 1 (rws zad fr), .sl 6 (rws ivr R), .sl 3 (rws zaj c3)], .sl 3 (rws zaj er), .v (.int .i64 i)] (.agg [.v (.bool (sg ((mvd (fr.getD i 0) (fr.getD p 0) (zai (fr.getD i 0)) (er.getD p Dy.zero)).add (mvd (fr.getD i 0) (fr.getD q 0) (zai (fr.getD i 0)) (er.getD q Dy.zero))))), .sl 1 (u32s (ms ((mvd (fr.getD i 0) (fr.getD p 0) (zai (fr.getD i 0)) (er.getD p Dy.zero)).add (mvd (fr.getD i 0) (fr.getD q 0) (zai (fr.getD i 0)) (er.getD q Dy.zero))))), .v (.int .i64 (dn ((mvd (fr.getD i 0) (fr.getD p 0) (zai (fr.getD i 0)) (er.getD p Dy.zero)).add (mvd (fr.getD i 0) (fr.getD q 0) (zai (fr.getD i 0)) (er.getD q Dy.zero)))))]) := by
 refine okC 200 Tryz.call57 Tryz.func57 Tryz.ntmps57 Tryz.results57 ?_
 have rb := bg (l := bs) (i := i) (by omega)
 rw [hb] at rb
 have rb : (rws zao bs).getD i [] = [.v (.int .i64 3), .sl 1 (rws zad [(p : Int), (q : Int)]), .v (.int .i64 vn), .v (.int .i64 ve), .v (.int .i64 un), .v (.int .i64 ue)] := rb
 have fi := hF i hi
 have rf := ig (l := fr) (i := i) (by omega)
 have u0 : Mg 9000 (zai (fr.getD i 0)) := (za5 _ fi.1).mono (by omega)
 have u1 := zaM (fr.getD i 0) (by omega)
 have e0 := zeV 0 0 rfl [(p : Int), (q : Int)] 3 vn ve un ue (fr.getD i 0) R fr c3 er (zai (fr.getD i 0)) N 2 p hN h0 hf rfl (by decide) rfl hp (hM p hp) u0 cc cv
 have m0 : Mg 9001 (mvd (fr.getD i 0) (fr.getD p 0) (zai (fr.getD i 0)) (er.getD p Dy.zero)) := zaW (hM p hp) u0
 have e1 := zeV 1 1 rfl [(p : Int), (q : Int)] 3 vn ve un ue (fr.getD i 0) R fr c3 er (zai (fr.getD i 0)) N 2 q hN h0 hf rfl (by decide) rfl hq (hM q hq) u0 cc cv
 have m1 : Mg 9001 (mvd (fr.getD i 0) (fr.getD q 0) (zai (fr.getD i 0)) (er.getD q Dy.zero)) := zaW (hM q hq) u0
 have r := zbT _ _ _ _ _ _ _ _ (m0.arg (by omega)) (m1.arg (by omega))
 generalize (mvd (fr.getD i 0) (fr.getD p 0) (zai (fr.getD i 0)) (er.getD p Dy.zero)).add (mvd (fr.getD i 0) (fr.getD q 0) (zai (fr.getD i 0)) (er.getD q Dy.zero)) = z at *
 generalize mvd (fr.getD i 0) (fr.getD p 0) (zai (fr.getD i 0)) (er.getD p Dy.zero) = x0 at *
 generalize mvd (fr.getD i 0) (fr.getD q 0) (zai (fr.getD i 0)) (er.getD q Dy.zero) = x1 at *
 clear hM u0 hF m0 m1
 generalize zai (fr.getD i 0) = u at *
 generalize fr.getD i 0 = f at *
 exact zgo [4, 5, 1, 6] (zc6 hN hf hR hB rb rf)
theorem cb_b4 (ins : List (Int × Int × Int)) (bs : List Blk) (outs : List Int) (vn ve un ue : Int) (R : List Iv) (fr : List Int) (c3 er : List Dy) (N : Nat) (hN : er.length = N) (h0 : 0 < N) (hf : fr.length = N) (hR : R.length = N) (hM : ∀ i, i < N → Mg 9000 (er.getD i Dy.zero)) (hF : ∀ i, i < N → 0 ≤ fr.getD i 0 ∧ fr.getD i 0 ≤ 30) (cb : zae zao) (cc : zae zaj) (cv : zae ivr) (p : Nat) (hp : p < N) (q : Nat) (hq : q < N) (i : Nat) (hB : bs.length = N) (hi : i < N) (hb : bs.getD i Blk.zero = ⟨4, [(p : Int), (q : Int)], vn, ve, un, ue⟩) : CallOK Tryz.prog gl 57 [AG ins bs outs, .agg [.sl 1 (rws zad fr), .sl 6 (rws ivr R), .sl 3 (rws zaj c3)], .sl 3 (rws zaj er), .v (.int .i64 i)] (.agg [.v (.bool (sg ((mvd (fr.getD i 0) (fr.getD p 0) (zai (fr.getD i 0)) (er.getD p Dy.zero)).add (mvd (fr.getD i 0) (fr.getD q 0) (zai (fr.getD i 0)) (er.getD q Dy.zero))))), .sl 1 (u32s (ms ((mvd (fr.getD i 0) (fr.getD p 0) (zai (fr.getD i 0)) (er.getD p Dy.zero)).add (mvd (fr.getD i 0) (fr.getD q 0) (zai (fr.getD i 0)) (er.getD q Dy.zero))))), .v (.int .i64 (dn ((mvd (fr.getD i 0) (fr.getD p 0) (zai (fr.getD i 0)) (er.getD p Dy.zero)).add (mvd (fr.getD i 0) (fr.getD q 0) (zai (fr.getD i 0)) (er.getD q Dy.zero)))))]) := by
 refine okC 200 Tryz.call57 Tryz.func57 Tryz.ntmps57 Tryz.results57 ?_
 have rb := bg (l := bs) (i := i) (by omega)
 rw [hb] at rb
 have rb : (rws zao bs).getD i [] = [.v (.int .i64 4), .sl 1 (rws zad [(p : Int), (q : Int)]), .v (.int .i64 vn), .v (.int .i64 ve), .v (.int .i64 un), .v (.int .i64 ue)] := rb
 have fi := hF i hi
 have rf := ig (l := fr) (i := i) (by omega)
 have u0 : Mg 9000 (zai (fr.getD i 0)) := (za5 _ fi.1).mono (by omega)
 have u1 := zaM (fr.getD i 0) (by omega)
 have e0 := zeV 0 0 rfl [(p : Int), (q : Int)] 4 vn ve un ue (fr.getD i 0) R fr c3 er (zai (fr.getD i 0)) N 2 p hN h0 hf rfl (by decide) rfl hp (hM p hp) u0 cc cv
 have m0 : Mg 9001 (mvd (fr.getD i 0) (fr.getD p 0) (zai (fr.getD i 0)) (er.getD p Dy.zero)) := zaW (hM p hp) u0
 have e1 := zeV 1 1 rfl [(p : Int), (q : Int)] 4 vn ve un ue (fr.getD i 0) R fr c3 er (zai (fr.getD i 0)) N 2 q hN h0 hf rfl (by decide) rfl hq (hM q hq) u0 cc cv
 have m1 : Mg 9001 (mvd (fr.getD i 0) (fr.getD q 0) (zai (fr.getD i 0)) (er.getD q Dy.zero)) := zaW (hM q hq) u0
 have r := zbT _ _ _ _ _ _ _ _ (m0.arg (by omega)) (m1.arg (by omega))
 generalize (mvd (fr.getD i 0) (fr.getD p 0) (zai (fr.getD i 0)) (er.getD p Dy.zero)).add (mvd (fr.getD i 0) (fr.getD q 0) (zai (fr.getD i 0)) (er.getD q Dy.zero)) = z at *
 generalize mvd (fr.getD i 0) (fr.getD p 0) (zai (fr.getD i 0)) (er.getD p Dy.zero) = x0 at *
 generalize mvd (fr.getD i 0) (fr.getD q 0) (zai (fr.getD i 0)) (er.getD q Dy.zero) = x1 at *
 clear hM u0 hF m0 m1
 generalize zai (fr.getD i 0) = u at *
 generalize fr.getD i 0 = f at *
 exact zgo [4, 5, 1, 6] (zc6 hN hf hR hB rb rf)
theorem cb_b8 (ins : List (Int × Int × Int)) (bs : List Blk) (outs : List Int) (vn ve un ue : Int) (R : List Iv) (fr : List Int) (c3 er : List Dy) (N : Nat) (hN : er.length = N) (h0 : 0 < N) (hf : fr.length = N) (hR : R.length = N) (hM : ∀ i, i < N → Mg 9000 (er.getD i Dy.zero)) (hF : ∀ i, i < N → 0 ≤ fr.getD i 0 ∧ fr.getD i 0 ≤ 30) (cb : zae zao) (cc : zae zaj) (cv : zae ivr) (p : Nat) (hp : p < N) (q : Nat) (hq : q < N) (i : Nat) (hB : bs.length = N) (hi : i < N) (hb : bs.getD i Blk.zero = ⟨8, [(p : Int), (q : Int)], vn, ve, un, ue⟩) : CallOK Tryz.prog gl 57 [AG ins bs outs, .agg [.sl 1 (rws zad fr), .sl 6 (rws ivr R), .sl 3 (rws zaj c3)], .sl 3 (rws zaj er), .v (.int .i64 i)] (.agg [.v (.bool (sg ((mvd (fr.getD i 0) (fr.getD p 0) (zai (fr.getD i 0)) (er.getD p Dy.zero)).max (mvd (fr.getD i 0) (fr.getD q 0) (zai (fr.getD i 0)) (er.getD q Dy.zero))))), .sl 1 (u32s (ms ((mvd (fr.getD i 0) (fr.getD p 0) (zai (fr.getD i 0)) (er.getD p Dy.zero)).max (mvd (fr.getD i 0) (fr.getD q 0) (zai (fr.getD i 0)) (er.getD q Dy.zero))))), .v (.int .i64 (dn ((mvd (fr.getD i 0) (fr.getD p 0) (zai (fr.getD i 0)) (er.getD p Dy.zero)).max (mvd (fr.getD i 0) (fr.getD q 0) (zai (fr.getD i 0)) (er.getD q Dy.zero)))))]) := by
 refine okC 200 Tryz.call57 Tryz.func57 Tryz.ntmps57 Tryz.results57 ?_
 have rb := bg (l := bs) (i := i) (by omega)
 rw [hb] at rb
 have rb : (rws zao bs).getD i [] = [.v (.int .i64 8), .sl 1 (rws zad [(p : Int), (q : Int)]), .v (.int .i64 vn), .v (.int .i64 ve), .v (.int .i64 un), .v (.int .i64 ue)] := rb
 have fi := hF i hi
 have rf := ig (l := fr) (i := i) (by omega)
 have u0 : Mg 9000 (zai (fr.getD i 0)) := (za5 _ fi.1).mono (by omega)
 have u1 := zaM (fr.getD i 0) (by omega)
 have e0 := zeV 0 0 rfl [(p : Int), (q : Int)] 8 vn ve un ue (fr.getD i 0) R fr c3 er (zai (fr.getD i 0)) N 2 p hN h0 hf rfl (by decide) rfl hp (hM p hp) u0 cc cv
 have m0 : Mg 9001 (mvd (fr.getD i 0) (fr.getD p 0) (zai (fr.getD i 0)) (er.getD p Dy.zero)) := zaW (hM p hp) u0
 have e1 := zeV 1 1 rfl [(p : Int), (q : Int)] 8 vn ve un ue (fr.getD i 0) R fr c3 er (zai (fr.getD i 0)) N 2 q hN h0 hf rfl (by decide) rfl hq (hM q hq) u0 cc cv
 have m1 : Mg 9001 (mvd (fr.getD i 0) (fr.getD q 0) (zai (fr.getD i 0)) (er.getD q Dy.zero)) := zaW (hM q hq) u0
 have r := zct _ _ _ _ _ _ _ _ (m0.arg (by omega)) (m1.arg (by omega))
 generalize (mvd (fr.getD i 0) (fr.getD p 0) (zai (fr.getD i 0)) (er.getD p Dy.zero)).max (mvd (fr.getD i 0) (fr.getD q 0) (zai (fr.getD i 0)) (er.getD q Dy.zero)) = z at *
 generalize mvd (fr.getD i 0) (fr.getD p 0) (zai (fr.getD i 0)) (er.getD p Dy.zero) = x0 at *
 generalize mvd (fr.getD i 0) (fr.getD q 0) (zai (fr.getD i 0)) (er.getD q Dy.zero) = x1 at *
 clear hM u0 hF m0 m1
 generalize zai (fr.getD i 0) = u at *
 generalize fr.getD i 0 = f at *
 exact zgo [4, 5, 1, 6] (zc6 hN hf hR hB rb rf)
theorem cb_b9 (ins : List (Int × Int × Int)) (bs : List Blk) (outs : List Int) (vn ve un ue : Int) (R : List Iv) (fr : List Int) (c3 er : List Dy) (N : Nat) (hN : er.length = N) (h0 : 0 < N) (hf : fr.length = N) (hR : R.length = N) (hM : ∀ i, i < N → Mg 9000 (er.getD i Dy.zero)) (hF : ∀ i, i < N → 0 ≤ fr.getD i 0 ∧ fr.getD i 0 ≤ 30) (cb : zae zao) (cc : zae zaj) (cv : zae ivr) (p : Nat) (hp : p < N) (q : Nat) (hq : q < N) (i : Nat) (hB : bs.length = N) (hi : i < N) (hb : bs.getD i Blk.zero = ⟨9, [(p : Int), (q : Int)], vn, ve, un, ue⟩) : CallOK Tryz.prog gl 57 [AG ins bs outs, .agg [.sl 1 (rws zad fr), .sl 6 (rws ivr R), .sl 3 (rws zaj c3)], .sl 3 (rws zaj er), .v (.int .i64 i)] (.agg [.v (.bool (sg ((mvd (fr.getD i 0) (fr.getD p 0) (zai (fr.getD i 0)) (er.getD p Dy.zero)).max (mvd (fr.getD i 0) (fr.getD q 0) (zai (fr.getD i 0)) (er.getD q Dy.zero))))), .sl 1 (u32s (ms ((mvd (fr.getD i 0) (fr.getD p 0) (zai (fr.getD i 0)) (er.getD p Dy.zero)).max (mvd (fr.getD i 0) (fr.getD q 0) (zai (fr.getD i 0)) (er.getD q Dy.zero))))), .v (.int .i64 (dn ((mvd (fr.getD i 0) (fr.getD p 0) (zai (fr.getD i 0)) (er.getD p Dy.zero)).max (mvd (fr.getD i 0) (fr.getD q 0) (zai (fr.getD i 0)) (er.getD q Dy.zero)))))]) := by
 refine okC 200 Tryz.call57 Tryz.func57 Tryz.ntmps57 Tryz.results57 ?_
 have rb := bg (l := bs) (i := i) (by omega)
 rw [hb] at rb
 have rb : (rws zao bs).getD i [] = [.v (.int .i64 9), .sl 1 (rws zad [(p : Int), (q : Int)]), .v (.int .i64 vn), .v (.int .i64 ve), .v (.int .i64 un), .v (.int .i64 ue)] := rb
 have fi := hF i hi
 have rf := ig (l := fr) (i := i) (by omega)
 have u0 : Mg 9000 (zai (fr.getD i 0)) := (za5 _ fi.1).mono (by omega)
 have u1 := zaM (fr.getD i 0) (by omega)
 have e0 := zeV 0 0 rfl [(p : Int), (q : Int)] 9 vn ve un ue (fr.getD i 0) R fr c3 er (zai (fr.getD i 0)) N 2 p hN h0 hf rfl (by decide) rfl hp (hM p hp) u0 cc cv
 have m0 : Mg 9001 (mvd (fr.getD i 0) (fr.getD p 0) (zai (fr.getD i 0)) (er.getD p Dy.zero)) := zaW (hM p hp) u0
 have e1 := zeV 1 1 rfl [(p : Int), (q : Int)] 9 vn ve un ue (fr.getD i 0) R fr c3 er (zai (fr.getD i 0)) N 2 q hN h0 hf rfl (by decide) rfl hq (hM q hq) u0 cc cv
 have m1 : Mg 9001 (mvd (fr.getD i 0) (fr.getD q 0) (zai (fr.getD i 0)) (er.getD q Dy.zero)) := zaW (hM q hq) u0
 have r := zct _ _ _ _ _ _ _ _ (m0.arg (by omega)) (m1.arg (by omega))
 generalize (mvd (fr.getD i 0) (fr.getD p 0) (zai (fr.getD i 0)) (er.getD p Dy.zero)).max (mvd (fr.getD i 0) (fr.getD q 0) (zai (fr.getD i 0)) (er.getD q Dy.zero)) = z at *
 generalize mvd (fr.getD i 0) (fr.getD p 0) (zai (fr.getD i 0)) (er.getD p Dy.zero) = x0 at *
 generalize mvd (fr.getD i 0) (fr.getD q 0) (zai (fr.getD i 0)) (er.getD q Dy.zero) = x1 at *
 clear hM u0 hF m0 m1
 generalize zai (fr.getD i 0) = u at *
 generalize fr.getD i 0 = f at *
 exact zgo [4, 5, 1, 6] (zc6 hN hf hR hB rb rf)
theorem cb_b5 (ins : List (Int × Int × Int)) (bs : List Blk) (outs : List Int) (vn ve un ue : Int) (R : List Iv) (fr : List Int) (c3 er : List Dy) (N : Nat) (hN : er.length = N) (h0 : 0 < N) (hf : fr.length = N) (hR : R.length = N) (hM : ∀ i, i < N → Mg 9000 (er.getD i Dy.zero)) (hF : ∀ i, i < N → 0 ≤ fr.getD i 0 ∧ fr.getD i 0 ≤ 30) (cb : zae zao) (cc : zae zaj) (cv : zae ivr) (p : Nat) (hp : p < N) (i : Nat) (hB : bs.length = N) (hi : i < N) (hb : bs.getD i Blk.zero = ⟨5, [(p : Int)], vn, ve, un, ue⟩) : CallOK Tryz.prog gl 57 [AG ins bs outs, .agg [.sl 1 (rws zad fr), .sl 6 (rws ivr R), .sl 3 (rws zaj c3)], .sl 3 (rws zaj er), .v (.int .i64 i)] (.agg [.v (.bool (sg (mvd (fr.getD i 0) (fr.getD p 0) (zai (fr.getD i 0)) (er.getD p Dy.zero)))), .sl 1 (u32s (ms (mvd (fr.getD i 0) (fr.getD p 0) (zai (fr.getD i 0)) (er.getD p Dy.zero)))), .v (.int .i64 (dn (mvd (fr.getD i 0) (fr.getD p 0) (zai (fr.getD i 0)) (er.getD p Dy.zero))))]) := by
 refine okC 200 Tryz.call57 Tryz.func57 Tryz.ntmps57 Tryz.results57 ?_
 have rb := bg (l := bs) (i := i) (by omega)
 rw [hb] at rb
 have rb : (rws zao bs).getD i [] = [.v (.int .i64 5), .sl 1 (rws zad [(p : Int)]), .v (.int .i64 vn), .v (.int .i64 ve), .v (.int .i64 un), .v (.int .i64 ue)] := rb
 have fi := hF i hi
 have rf := ig (l := fr) (i := i) (by omega)
 have u0 : Mg 9000 (zai (fr.getD i 0)) := (za5 _ fi.1).mono (by omega)
 have u1 := zaM (fr.getD i 0) (by omega)
 have e0 := zeV 0 0 rfl [(p : Int)] 5 vn ve un ue (fr.getD i 0) R fr c3 er (zai (fr.getD i 0)) N 1 p hN h0 hf rfl (by decide) rfl hp (hM p hp) u0 cc cv
 have m0 : Mg 9001 (mvd (fr.getD i 0) (fr.getD p 0) (zai (fr.getD i 0)) (er.getD p Dy.zero)) := zaW (hM p hp) u0
 generalize mvd (fr.getD i 0) (fr.getD p 0) (zai (fr.getD i 0)) (er.getD p Dy.zero) = x0 at *
 clear hM u0 hF m0
 generalize zai (fr.getD i 0) = u at *
 generalize fr.getD i 0 = f at *
 exact zgo [4, 5, 1, 6] (zc6 hN hf hR hB rb rf)
theorem cb_b10 (ins : List (Int × Int × Int)) (bs : List Blk) (outs : List Int) (vn ve un ue : Int) (R : List Iv) (fr : List Int) (c3 er : List Dy) (N : Nat) (hN : er.length = N) (h0 : 0 < N) (hf : fr.length = N) (hR : R.length = N) (hM : ∀ i, i < N → Mg 9000 (er.getD i Dy.zero)) (hF : ∀ i, i < N → 0 ≤ fr.getD i 0 ∧ fr.getD i 0 ≤ 30) (cb : zae zao) (cc : zae zaj) (cv : zae ivr) (p : Nat) (hp : p < N) (i : Nat) (hB : bs.length = N) (hi : i < N) (hb : bs.getD i Blk.zero = ⟨10, [(p : Int)], vn, ve, un, ue⟩) : CallOK Tryz.prog gl 57 [AG ins bs outs, .agg [.sl 1 (rws zad fr), .sl 6 (rws ivr R), .sl 3 (rws zaj c3)], .sl 3 (rws zaj er), .v (.int .i64 i)] (.agg [.v (.bool (sg (mvd (fr.getD i 0) (fr.getD p 0) (zai (fr.getD i 0)) (er.getD p Dy.zero)))), .sl 1 (u32s (ms (mvd (fr.getD i 0) (fr.getD p 0) (zai (fr.getD i 0)) (er.getD p Dy.zero)))), .v (.int .i64 (dn (mvd (fr.getD i 0) (fr.getD p 0) (zai (fr.getD i 0)) (er.getD p Dy.zero))))]) := by
 refine okC 200 Tryz.call57 Tryz.func57 Tryz.ntmps57 Tryz.results57 ?_
 have rb := bg (l := bs) (i := i) (by omega)
 rw [hb] at rb
 have rb : (rws zao bs).getD i [] = [.v (.int .i64 10), .sl 1 (rws zad [(p : Int)]), .v (.int .i64 vn), .v (.int .i64 ve), .v (.int .i64 un), .v (.int .i64 ue)] := rb
 have fi := hF i hi
 have rf := ig (l := fr) (i := i) (by omega)
 have u0 : Mg 9000 (zai (fr.getD i 0)) := (za5 _ fi.1).mono (by omega)
 have u1 := zaM (fr.getD i 0) (by omega)
 have e0 := zeV 0 0 rfl [(p : Int)] 10 vn ve un ue (fr.getD i 0) R fr c3 er (zai (fr.getD i 0)) N 1 p hN h0 hf rfl (by decide) rfl hp (hM p hp) u0 cc cv
 have m0 : Mg 9001 (mvd (fr.getD i 0) (fr.getD p 0) (zai (fr.getD i 0)) (er.getD p Dy.zero)) := zaW (hM p hp) u0
 generalize mvd (fr.getD i 0) (fr.getD p 0) (zai (fr.getD i 0)) (er.getD p Dy.zero) = x0 at *
 clear hM u0 hF m0
 generalize zai (fr.getD i 0) = u at *
 generalize fr.getD i 0 = f at *
 exact zgo [4, 5, 1, 6] (zc6 hN hf hR hB rb rf)
theorem cb_b6 (ins : List (Int × Int × Int)) (bs : List Blk) (outs : List Int) (vn ve un ue : Int) (R : List Iv) (fr : List Int) (c3 er : List Dy) (N : Nat) (hN : er.length = N) (h0 : 0 < N) (hf : fr.length = N) (hR : R.length = N) (hM : ∀ i, i < N → Mg 9000 (er.getD i Dy.zero)) (hF : ∀ i, i < N → 0 ≤ fr.getD i 0 ∧ fr.getD i 0 ≤ 30) (cb : zae zao) (cc : zae zaj) (cv : zae ivr) (p : Nat) (hp : p < N) (h : zbO vn ve) (i : Nat) (hB : bs.length = N) (hi : i < N) (hb : bs.getD i Blk.zero = ⟨6, [(p : Int)], vn, ve, un, ue⟩) : CallOK Tryz.prog gl 57 [AG ins bs outs, .agg [.sl 1 (rws zad fr), .sl 6 (rws ivr R), .sl 3 (rws zaj c3)], .sl 3 (rws zaj er), .v (.int .i64 i)] (.agg [.v (.bool (sg (((scN vn ve).abs.mul (er.getD p Dy.zero)).add (inx (decide (fr.getD i 0 - fr.getD p 0 + ve < 0)) (zai (fr.getD i 0)))))), .sl 1 (u32s (ms (((scN vn ve).abs.mul (er.getD p Dy.zero)).add (inx (decide (fr.getD i 0 - fr.getD p 0 + ve < 0)) (zai (fr.getD i 0)))))), .v (.int .i64 (dn (((scN vn ve).abs.mul (er.getD p Dy.zero)).add (inx (decide (fr.getD i 0 - fr.getD p 0 + ve < 0)) (zai (fr.getD i 0))))))]) := by
 refine okC 200 Tryz.call57 Tryz.func57 Tryz.ntmps57 Tryz.results57 ?_
 have rb := bg (l := bs) (i := i) (by omega)
 rw [hb] at rb
 have rb : (rws zao bs).getD i [] = [.v (.int .i64 6), .sl 1 (rws zad [(p : Int)]), .v (.int .i64 vn), .v (.int .i64 ve), .v (.int .i64 un), .v (.int .i64 ue)] := rb
 have fi := hF i hi
 have rf := ig (l := fr) (i := i) (by omega)
 have u0 : Mg 9000 (zai (fr.getD i 0)) := (za5 _ fi.1).mono (by omega)
 have u1 := zaM (fr.getD i 0) (by omega)
 have e0 := zeV 0 0 rfl [(p : Int)] 6 vn ve un ue (fr.getD i 0) R fr c3 er (zai (fr.getD i 0)) N 1 p hN h0 hf rfl (by decide) rfl hp (hM p hp) u0 cc cv
 have m0 : Mg 9001 (mvd (fr.getD i 0) (fr.getD p 0) (zai (fr.getD i 0)) (er.getD p Dy.zero)) := zaW (hM p hp) u0
 have rp := ig (l := fr) (i := p) (by omega)
 have re := cg (l := er) (i := p) (by omega)
 have fp := hF p hp
 have c := zcq vn ve h
 have a1 := zit _ _ _ _ ((zaP h).arg (by omega))
 have r1 := zdd _ _ _ _ _ _ _ _ ((zaP h).abs.arg (by omega)) ((hM p hp).arg (by omega))
 have ix := zdY (decide (fr.getD i 0 - fr.getD p 0 + ve < 0)) (zai (fr.getD i 0))
 have r2 := zbT _ _ _ _ _ _ _ _ (((zaP h).abs.mul (hM p hp)).arg (by omega)) ((zc1 (b := decide (fr.getD i 0 - fr.getD p 0 + ve < 0)) u0).arg (by omega))
 have hv := h
 unfold zbO at hv
 clear h
 generalize ((scN vn ve).abs.mul (er.getD p Dy.zero)).add (inx (decide (fr.getD i 0 - fr.getD p 0 + ve < 0)) (zai (fr.getD i 0))) = z at *
 generalize (scN vn ve).abs.mul (er.getD p Dy.zero) = z1 at *
 generalize (scN vn ve).abs = z2 at *
 generalize scN vn ve = z3 at *
 generalize er.getD p Dy.zero = z4 at *
 clear hM u0 hF m0
 generalize zai (fr.getD i 0) = u at *
 clear e0
 generalize fr.getD i 0 = f at *
 generalize fr.getD p 0 = g at *
 generalize inx (decide (f - g + ve < 0)) u = z5 at *
 exact zgo [4, 5, 1, 6] (zc8 hN hf hR hB rb rf rp re)
theorem cb_b7 (ins : List (Int × Int × Int)) (bs : List Blk) (outs : List Int) (vn ve un ue : Int) (R : List Iv) (fr : List Int) (c3 er : List Dy) (N : Nat) (hN : er.length = N) (h0 : 0 < N) (hf : fr.length = N) (hR : R.length = N) (hM : ∀ i, i < N → Mg 9000 (er.getD i Dy.zero)) (hF : ∀ i, i < N → 0 ≤ fr.getD i 0 ∧ fr.getD i 0 ≤ 30) (cb : zae zao) (cc : zae zaj) (cv : zae ivr) (p : Nat) (hp : p < N) (q : Nat) (hq : q < N) (hV : ∀ i, i < N → (R.getD i Iv.zero).Mg 9000) (i : Nat) (hB : bs.length = N) (hi : i < N) (hb : bs.getD i Blk.zero = ⟨7, [(p : Int), (q : Int)], vn, ve, un, ue⟩) : CallOK Tryz.prog gl 57 [AG ins bs outs, .agg [.sl 1 (rws zad fr), .sl 6 (rws ivr R), .sl 3 (rws zaj c3)], .sl 3 (rws zaj er), .v (.int .i64 i)] (.agg [.v (.bool (sg ((((((R.getD p Iv.zero).mag).mul (er.getD q Dy.zero)).add (((R.getD q Iv.zero).mag).mul (er.getD p Dy.zero))).add ((er.getD p Dy.zero).mul (er.getD q Dy.zero))).add (inx (decide (fr.getD i 0 - fr.getD p 0 - fr.getD q 0 < 0)) (zai (fr.getD i 0)))))), .sl 1 (u32s (ms ((((((R.getD p Iv.zero).mag).mul (er.getD q Dy.zero)).add (((R.getD q Iv.zero).mag).mul (er.getD p Dy.zero))).add ((er.getD p Dy.zero).mul (er.getD q Dy.zero))).add (inx (decide (fr.getD i 0 - fr.getD p 0 - fr.getD q 0 < 0)) (zai (fr.getD i 0)))))), .v (.int .i64 (dn ((((((R.getD p Iv.zero).mag).mul (er.getD q Dy.zero)).add (((R.getD q Iv.zero).mag).mul (er.getD p Dy.zero))).add ((er.getD p Dy.zero).mul (er.getD q Dy.zero))).add (inx (decide (fr.getD i 0 - fr.getD p 0 - fr.getD q 0 < 0)) (zai (fr.getD i 0))))))]) := by
 refine okC 200 Tryz.call57 Tryz.func57 Tryz.ntmps57 Tryz.results57 ?_
 have rb := bg (l := bs) (i := i) (by omega)
 rw [hb] at rb
 have rb : (rws zao bs).getD i [] = [.v (.int .i64 7), .sl 1 (rws zad [(p : Int), (q : Int)]), .v (.int .i64 vn), .v (.int .i64 ve), .v (.int .i64 un), .v (.int .i64 ue)] := rb
 have fi := hF i hi
 have rf := ig (l := fr) (i := i) (by omega)
 have u0 : Mg 9000 (zai (fr.getD i 0)) := (za5 _ fi.1).mono (by omega)
 have u1 := zaM (fr.getD i 0) (by omega)
 have e0 := zeV 0 0 rfl [(p : Int), (q : Int)] 7 vn ve un ue (fr.getD i 0) R fr c3 er (zai (fr.getD i 0)) N 2 p hN h0 hf rfl (by decide) rfl hp (hM p hp) u0 cc cv
 have m0 : Mg 9001 (mvd (fr.getD i 0) (fr.getD p 0) (zai (fr.getD i 0)) (er.getD p Dy.zero)) := zaW (hM p hp) u0
 have e1 := zeV 1 1 rfl [(p : Int), (q : Int)] 7 vn ve un ue (fr.getD i 0) R fr c3 er (zai (fr.getD i 0)) N 2 q hN h0 hf rfl (by decide) rfl hq (hM q hq) u0 cc cv
 have m1 : Mg 9001 (mvd (fr.getD i 0) (fr.getD q 0) (zai (fr.getD i 0)) (er.getD q Dy.zero)) := zaW (hM q hq) u0
 have rp := ig (l := fr) (i := p) (by omega)
 have rq := ig (l := fr) (i := q) (by omega)
 have re := cg (l := er) (i := p) (by omega)
 have rg := cg (l := er) (i := q) (by omega)
 have rv := vg (l := R) (i := p) (by omega)
 have rw' := vg (l := R) (i := q) (by omega)
 have fp := hF p hp
 have fq := hF q hq
 have a1 := zge _ _ _ _ _ _ _ _ _ (IArg.of (hV p hp) (by omega))
 have a2 := zge _ _ _ _ _ _ _ _ _ (IArg.of (hV q hq) (by omega))
 have q1 := (hV p hp).mag.mul (hM q hq)
 have q2 := (hV q hq).mag.mul (hM p hp)
 have q3 := (hM p hp).mul (hM q hq)
 have r1 := zdd _ _ _ _ _ _ _ _ ((hV p hp).mag.arg (by omega)) ((hM q hq).arg (by omega))
 have r2 := zdd _ _ _ _ _ _ _ _ ((hV q hq).mag.arg (by omega)) ((hM p hp).arg (by omega))
 have r3 := zdd _ _ _ _ _ _ _ _ ((hM p hp).arg (by omega)) ((hM q hq).arg (by omega))
 have r4 := zbT _ _ _ _ _ _ _ _ (q1.arg (by omega)) (q2.arg (by omega))
 have r5 := zbT _ _ _ _ _ _ _ _ ((q1.add q2).arg (by omega)) (q3.arg (by omega))
 have ix := zdY (decide (fr.getD i 0 - fr.getD p 0 - fr.getD q 0 < 0)) (zai (fr.getD i 0))
 have r6 := zbT _ _ _ _ _ _ _ _ (((q1.add q2).add (q3.mono (by omega))).arg (by omega)) ((zc1 (b := decide (fr.getD i 0 - fr.getD p 0 - fr.getD q 0 < 0)) u0).arg (by omega))
 clear hV q1 q2 q3 e0 e1
 generalize (((((R.getD p Iv.zero).mag).mul (er.getD q Dy.zero)).add (((R.getD q Iv.zero).mag).mul (er.getD p Dy.zero))).add ((er.getD p Dy.zero).mul (er.getD q Dy.zero))).add (inx (decide (fr.getD i 0 - fr.getD p 0 - fr.getD q 0 < 0)) (zai (fr.getD i 0))) = z at *
 generalize ((((R.getD p Iv.zero).mag).mul (er.getD q Dy.zero)).add (((R.getD q Iv.zero).mag).mul (er.getD p Dy.zero))).add ((er.getD p Dy.zero).mul (er.getD q Dy.zero)) = z1 at *
 generalize (((R.getD p Iv.zero).mag).mul (er.getD q Dy.zero)).add (((R.getD q Iv.zero).mag).mul (er.getD p Dy.zero)) = z2 at *
 generalize ((R.getD p Iv.zero).mag).mul (er.getD q Dy.zero) = z3 at *
 generalize ((R.getD q Iv.zero).mag).mul (er.getD p Dy.zero) = z4 at *
 generalize (er.getD p Dy.zero).mul (er.getD q Dy.zero) = z5 at *
 generalize (R.getD p Iv.zero).mag = z6 at *
 generalize (R.getD q Iv.zero).mag = z7 at *
 generalize R.getD p Iv.zero = z8 at *
 generalize R.getD q Iv.zero = z9 at *
 generalize er.getD p Dy.zero = y1 at *
 generalize er.getD q Dy.zero = y2 at *
 clear hM u0 hF m0 m1
 generalize zai (fr.getD i 0) = u at *
 generalize fr.getD i 0 = f at *
 generalize fr.getD p 0 = g at *
 generalize fr.getD q 0 = h at *
 generalize inx (decide (f - g - h < 0)) u = z5' at *
 exact zgo [4, 5, 1, 6] (zc12 hN hf hR hB rb rf rp rq re rg rv rw')
theorem cb_b11 (ins : List (Int × Int × Int)) (bs : List Blk) (outs : List Int) (vn ve un ue : Int) (R : List Iv) (fr : List Int) (c3 er : List Dy) (N : Nat) (hN : er.length = N) (h0 : 0 < N) (hf : fr.length = N) (hR : R.length = N) (hM : ∀ i, i < N → Mg 9000 (er.getD i Dy.zero)) (hF : ∀ i, i < N → 0 ≤ fr.getD i 0 ∧ fr.getD i 0 ≤ 30) (cb : zae zao) (cc : zae zaj) (cv : zae ivr) (p : Nat) (hp : p < N) (h : zbO vn ve) (h' : zbO un ue) (i : Nat) (hB : bs.length = N) (hi : i < N) (hb : bs.getD i Blk.zero = ⟨11, [(p : Int)], vn, ve, un, ue⟩) : CallOK Tryz.prog gl 57 [AG ins bs outs, .agg [.sl 1 (rws zad fr), .sl 6 (rws ivr R), .sl 3 (rws zaj c3)], .sl 3 (rws zaj er), .v (.int .i64 i)] (.agg [.v (.bool (sg ((mvd (fr.getD i 0) (fr.getD p 0) (zai (fr.getD i 0)) (er.getD p Dy.zero)).max (inx (or (!zbp (scN vn ve) (fr.getD i 0)) (!zbp (scN un ue) (fr.getD i 0))) (zai (fr.getD i 0)))))), .sl 1 (u32s (ms ((mvd (fr.getD i 0) (fr.getD p 0) (zai (fr.getD i 0)) (er.getD p Dy.zero)).max (inx (or (!zbp (scN vn ve) (fr.getD i 0)) (!zbp (scN un ue) (fr.getD i 0))) (zai (fr.getD i 0)))))), .v (.int .i64 (dn ((mvd (fr.getD i 0) (fr.getD p 0) (zai (fr.getD i 0)) (er.getD p Dy.zero)).max (inx (or (!zbp (scN vn ve) (fr.getD i 0)) (!zbp (scN un ue) (fr.getD i 0))) (zai (fr.getD i 0))))))]) := by
 refine okC 200 Tryz.call57 Tryz.func57 Tryz.ntmps57 Tryz.results57 ?_
 have rb := bg (l := bs) (i := i) (by omega)
 rw [hb] at rb
 have rb : (rws zao bs).getD i [] = [.v (.int .i64 11), .sl 1 (rws zad [(p : Int)]), .v (.int .i64 vn), .v (.int .i64 ve), .v (.int .i64 un), .v (.int .i64 ue)] := rb
 have fi := hF i hi
 have rf := ig (l := fr) (i := i) (by omega)
 have u0 : Mg 9000 (zai (fr.getD i 0)) := (za5 _ fi.1).mono (by omega)
 have u1 := zaM (fr.getD i 0) (by omega)
 have e0 := zeV 0 0 rfl [(p : Int)] 11 vn ve un ue (fr.getD i 0) R fr c3 er (zai (fr.getD i 0)) N 1 p hN h0 hf rfl (by decide) rfl hp (hM p hp) u0 cc cv
 have m0 : Mg 9001 (mvd (fr.getD i 0) (fr.getD p 0) (zai (fr.getD i 0)) (er.getD p Dy.zero)) := zaW (hM p hp) u0
 have w1 := zdc vn ve (fr.getD i 0) h
 have w2 := zdc un ue (fr.getD i 0) h'
 have ix := zdY (or (!zbp (scN vn ve) (fr.getD i 0)) (!zbp (scN un ue) (fr.getD i 0))) (zai (fr.getD i 0))
 have r := zct _ _ _ _ _ _ _ _ (m0.arg (by omega)) ((zc1 (b := or (!zbp (scN vn ve) (fr.getD i 0)) (!zbp (scN un ue) (fr.getD i 0))) u0).arg (by omega))
 clear h h'
 generalize (mvd (fr.getD i 0) (fr.getD p 0) (zai (fr.getD i 0)) (er.getD p Dy.zero)).max (inx (or (!zbp (scN vn ve) (fr.getD i 0)) (!zbp (scN un ue) (fr.getD i 0))) (zai (fr.getD i 0))) = z at *
 generalize mvd (fr.getD i 0) (fr.getD p 0) (zai (fr.getD i 0)) (er.getD p Dy.zero) = x0 at *
 clear hM u0 hF m0
 generalize zai (fr.getD i 0) = u at *
 generalize fr.getD i 0 = f at *
 generalize zbp (scN vn ve) f = b at *
 generalize zbp (scN un ue) f = b' at *
 generalize inx (or (!b) (!b')) u = z' at *
 cases b <;> cases b'
 all_goals
  try simp only [Bool.not_true, Bool.not_false, Bool.or_false, Bool.or_true] at ix
  exact zgo [4, 5, 1, 6] (zc6 hN hf hR hB rb rf)
theorem cb_b2 (ins : List (Int × Int × Int)) (bs : List Blk) (outs : List Int) (vn ve un ue : Int) (R : List Iv) (fr : List Int) (c3 er : List Dy) (N : Nat) (hN : er.length = N) (h0 : 0 < N) (hf : fr.length = N) (hR : R.length = N) (hM : ∀ i, i < N → Mg 9000 (er.getD i Dy.zero)) (hF : ∀ i, i < N → 0 ≤ fr.getD i 0 ∧ fr.getD i 0 ≤ 30) (cb : zae zao) (cc : zae zaj) (cv : zae ivr) (p : Nat) (hp : p < N) (h : zbO vn ve) (i : Nat) (hB : bs.length = N) (hi : i < N) (hb : bs.getD i Blk.zero = ⟨2, [(p : Int)], vn, ve, un, ue⟩) : CallOK Tryz.prog gl 57 [AG ins bs outs, .agg [.sl 1 (rws zad fr), .sl 6 (rws ivr R), .sl 3 (rws zaj c3)], .sl 3 (rws zaj er), .v (.int .i64 i)] (.agg [.v (.bool (sg ((mvd (fr.getD i 0) (fr.getD p 0) (zai (fr.getD i 0)) (er.getD p Dy.zero)).max (inx (!zbp (scN vn ve) (fr.getD i 0)) (zai (fr.getD i 0)))))), .sl 1 (u32s (ms ((mvd (fr.getD i 0) (fr.getD p 0) (zai (fr.getD i 0)) (er.getD p Dy.zero)).max (inx (!zbp (scN vn ve) (fr.getD i 0)) (zai (fr.getD i 0)))))), .v (.int .i64 (dn ((mvd (fr.getD i 0) (fr.getD p 0) (zai (fr.getD i 0)) (er.getD p Dy.zero)).max (inx (!zbp (scN vn ve) (fr.getD i 0)) (zai (fr.getD i 0))))))]) := by
 refine okC 200 Tryz.call57 Tryz.func57 Tryz.ntmps57 Tryz.results57 ?_
 have rb := bg (l := bs) (i := i) (by omega)
 rw [hb] at rb
 have rb : (rws zao bs).getD i [] = [.v (.int .i64 2), .sl 1 (rws zad [(p : Int)]), .v (.int .i64 vn), .v (.int .i64 ve), .v (.int .i64 un), .v (.int .i64 ue)] := rb
 have fi := hF i hi
 have rf := ig (l := fr) (i := i) (by omega)
 have u0 : Mg 9000 (zai (fr.getD i 0)) := (za5 _ fi.1).mono (by omega)
 have u1 := zaM (fr.getD i 0) (by omega)
 have e0 := zeV 0 0 rfl [(p : Int)] 2 vn ve un ue (fr.getD i 0) R fr c3 er (zai (fr.getD i 0)) N 1 p hN h0 hf rfl (by decide) rfl hp (hM p hp) u0 cc cv
 have m0 : Mg 9001 (mvd (fr.getD i 0) (fr.getD p 0) (zai (fr.getD i 0)) (er.getD p Dy.zero)) := zaW (hM p hp) u0
 have w1 := zdc vn ve (fr.getD i 0) h
 have ix := zdY (!zbp (scN vn ve) (fr.getD i 0)) (zai (fr.getD i 0))
 have r := zct _ _ _ _ _ _ _ _ (m0.arg (by omega)) ((zc1 (b := !zbp (scN vn ve) (fr.getD i 0)) u0).arg (by omega))
 clear h
 generalize (mvd (fr.getD i 0) (fr.getD p 0) (zai (fr.getD i 0)) (er.getD p Dy.zero)).max (inx (!zbp (scN vn ve) (fr.getD i 0)) (zai (fr.getD i 0))) = z at *
 generalize mvd (fr.getD i 0) (fr.getD p 0) (zai (fr.getD i 0)) (er.getD p Dy.zero) = x0 at *
 clear hM u0 hF m0
 generalize zai (fr.getD i 0) = u at *
 generalize fr.getD i 0 = f at *
 generalize zbp (scN vn ve) f = b at *
 generalize inx (!b) u = z' at *
 exact zgo [4, 5, 1, 6] (zc6 hN hf hR hB rb rf)
end Go.Proofs.YtcpmeibfggoebaaGreatDoor
