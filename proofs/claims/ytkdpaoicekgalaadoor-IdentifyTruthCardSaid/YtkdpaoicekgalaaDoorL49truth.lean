/- The statement IdentifyTruth: its code returns true. -/
import Derived.Test.YtkdpaoicekgalaaDoorL49smp
set_option linter.unusedSimpArgs false
set_option linter.unusedVariables false
set_option linter.deprecated false
namespace Go.Proofs.YtkdpaoicekgalaaDoor
open Go Go.Ax
set_option maxRecDepth 100000
set_option maxHeartbeats 4000000

def sc (n : Int) : Dy := (Dy.int n).shift (-8)
theorem sc_v (n : Int) : (sc n).v * 256 = n := by
  have := v_shift_neg (x := Dy.int n) (j := 8) (by show 0 + 8 ≤ 65536; omega)
  rw [show (-((8 : Nat) : Int)) = -8 from rfl] at this
  unfold sc
  rw [this, Dy.v_int, show (2 : Rat) ^ 8 = 256 by grind]
  exact Rat.div_mul_cancel (by decide)
theorem sc_mg {n : Int} (h : -1048576 ≤ n ∧ n ≤ 1048576) : Mg 64 (sc n) := by
  have e := sc_v n
  have h1 := icast_le.2 h.1
  have h2 := icast_le.2 h.2
  have e1 : ((-1048576 : Int) : Rat) = -1048576 := by decide +kernel
  have e2 : ((1048576 : Int) : Rat) = 1048576 := by decide +kernel
  have e3 : (2 : Rat) ^ 64 = 18446744073709551616 := by decide +kernel
  rw [e1] at h1
  rw [e2] at h2
  unfold Mg
  rw [e3]
  constructor <;> grind
theorem scaled49 (n : Int) (h : -9223372036854775808 ≤ n ∧ n ≤ 9223372036854775807) : CallOK Tryd.prog gl 40 [.v (.int .i64 n)] (.agg [.v (.bool (sg (sc n))), .sl 1 (u32s (ms (sc n))), .v (.int .i64 (dn (sc n)))]) := by
  refine call_ok (C := ⟨Tryd.prog, gl, ti, 6, false⟩) ti_ok mixed 3000 Tryd.call40 Tryd.func40 rfl Tryd.ntmps40 (by simp) byClL byCl ?_
  rw [Tryd.results40]
  have o1 := Of_ok n h
  have s1 := Shift_ok _ _ _ (-8) _ (Arg.of (mg_i64 h) (by omega))
  change CallOK _ _ _ _ (.agg [.v (.bool (sg (sc n))), .sl 1 (u32s (ms (sc n))), .v (.int .i64 (dn (sc n)))]) at s1
  generalize sc n = z at *
  generalize Dy.int n = y at *
  repeat' (first | (simp only [go_sem, Int.reduceAdd, Int.reduceEq, Int.reduceLE, Int.reduceLT, Int.reduceMul, Int.reduceNeg, Int.reducePow, Int.reduceSub, Int.reduceToNat, Nat.reduceAdd, Nat.reduceBEq, Nat.reduceEqDiff, Nat.reduceLT, Nat.reduceLeDiff, Nat.reduceMul, Nat.reducePow, Nat.reduceSub, reduceCtorEq, reduceIte, IntKind.bits.eq_def, ti, tin]) | (simp (disch := omega) only [w64, wu64, wu32, Nat.min_eq_left]) | (with_reducible first | refine cF (o1) ?_ | refine dF (o1) ?_) | (with_reducible first | refine cF (s1) ?_ | refine dF (s1) ?_) | (refine aL ti_ok ?_) | (refine dL ti_ok ?_) | (refine dE (by kernel_rfl) ?_) | ((first | refine cC ?_ ?_ | refine gS ?_ ?_ | refine dS ?_ ?_) <;> intro hc <;> first | (exfalso; simp only [dcT, dcF, bnT, bnF, bnU, bnV] at hc; omega) | (simp only [hc]; try simp only [dcT, dcF, bnT, bnF, bnU, bnV] at hc)) | (refine aN (by omega) ?_) | (refine dN (by omega) ?_))
  exact fin_same trivial rfl
theorem in49 (a : Iv) (e : Int) (x : Dy) (ga : a.Mg 201) (gx : Mg 201 x) (h : e = 22 ∨ (e = 0 ∧ a.has x = true)) : CallOK Tryd.prog gl 41 [.agg [.v (.bool (sg (a).lo)), .sl 1 (u32s (ms (a).lo)), .v (.int .i64 (dn (a).lo)), .v (.bool (sg (a).hi)), .sl 1 (u32s (ms (a).hi)), .v (.int .i64 (dn (a).hi))], .v (eV e), .agg [.v (.bool (sg (x))), .sl 1 (u32s (ms (x))), .v (.int .i64 (dn (x)))]] (.v (.bool (true))) := by
  refine call_ok (C := ⟨Tryd.prog, gl, ti, 18, false⟩) ti_ok mixed 3000 Tryd.call41 Tryd.func41 rfl Tryd.ntmps41 (by simp) byClL byCl ?_
  rw [Tryd.results41]
  have i1 := is_err e 22 (by decide)
  have c1 := iv_Contains _ _ _ _ _ _ _ _ _ (IArg.of ga) _ _ _ _ (gx.arg)
  by_cases h1 : e = 22
  ·
    rw [decide_eq_true h1] at i1
    clear h
    repeat' (first | (simp only [go_sem, Int.reduceAdd, Int.reduceEq, Int.reduceLE, Int.reduceLT, Int.reduceMul, Int.reduceNeg, Int.reducePow, Int.reduceSub, Int.reduceToNat, Nat.reduceAdd, Nat.reduceBEq, Nat.reduceEqDiff, Nat.reduceLT, Nat.reduceLeDiff, Nat.reduceMul, Nat.reducePow, Nat.reduceSub, reduceCtorEq, reduceIte, IntKind.bits.eq_def, ti, tin]) | (simp (disch := omega) only [w64, wu64, wu32, Nat.min_eq_left]) | (with_reducible first | refine cF (i1) ?_ | refine dF (i1) ?_) | (refine aL ti_ok ?_) | (refine dL ti_ok ?_) | (refine dE (by kernel_rfl) ?_) | ((first | refine cC ?_ ?_ | refine gS ?_ ?_ | refine dS ?_ ?_) <;> intro hc <;> first | (exfalso; simp only [dcT, dcF, bnT, bnF, bnU, bnV] at hc; omega) | (simp only [hc]; try simp only [dcT, dcF, bnT, bnF, bnU, bnV] at hc)) | (refine aN (by omega) ?_) | (refine dN (by omega) ?_))
    all_goals exact fin_same trivial rfl
  ·
    rw [decide_eq_false h1] at i1
    obtain ⟨rfl, h3⟩ := h.resolve_left h1
    rw [h3] at c1
    rw [eV_zero] at i1 ⊢
    repeat' (first | (simp only [go_sem, Int.reduceAdd, Int.reduceEq, Int.reduceLE, Int.reduceLT, Int.reduceMul, Int.reduceNeg, Int.reducePow, Int.reduceSub, Int.reduceToNat, Nat.reduceAdd, Nat.reduceBEq, Nat.reduceEqDiff, Nat.reduceLT, Nat.reduceLeDiff, Nat.reduceMul, Nat.reducePow, Nat.reduceSub, reduceCtorEq, reduceIte, IntKind.bits.eq_def, ti, tin]) | (simp (disch := omega) only [w64, wu64, wu32, Nat.min_eq_left]) | (with_reducible first | refine cF (i1) ?_ | refine dF (i1) ?_) | (with_reducible first | refine cF (c1) ?_ | refine dF (c1) ?_) | (refine aL ti_ok ?_) | (refine dL ti_ok ?_) | (refine dE (by kernel_rfl) ?_) | ((first | refine cC ?_ ?_ | refine gS ?_ ?_ | refine dS ?_ ?_) <;> intro hc <;> first | (exfalso; simp only [dcT, dcF, bnT, bnF, bnU, bnV] at hc; omega) | (simp only [hc]; try simp only [dcT, dcF, bnT, bnF, bnU, bnV] at hc)) | (refine aN (by omega) ?_) | (refine dN (by omega) ?_))
    all_goals exact fin_same trivial rfl
theorem has_out (f : (Int × Int → Int) × (Int × Int → Int)) {n : Int} {l : List (Int × Int)} {x : Dy} (h : Fit1 (conds f n l) x.v) : oErr f n l = 22 ∨ (oErr f n l = 0 ∧ (oIv f n l).has x = true) := by
  rcases out_in (outOf_ok f n l) h with h | ⟨h1, h2, h3⟩
  · exact .inl h
  · exact .inr ⟨h1, decide_eq_true ⟨h2, h3⟩⟩
theorem smp_mem {P q nz : Int} {ins ns : List Int} {k : Nat} {s : Int × Int} (h : s ∈ smp P q nz ins ns k) : ∃ i, s = smp1 P q nz ins ns i := by
  unfold smp at h
  rw [List.mem_map] at h
  obtain ⟨i, _, rfl⟩ := h
  exact ⟨i, rfl⟩
theorem smp_ck {P q nz : Int} {ins ns : List Int} {N : Nat} (hq : -2147483648 ≤ q ∧ q ≤ 2147483647) (hz : 0 ≤ nz ∧ nz ≤ 65535) (hs : ∀ x ∈ ns, -128 ≤ x ∧ x ≤ 127) (h1 : 0 < N) (h2 : N ≤ 10) : ckS (smp P q nz ins ns N) nz = 0 := by
  have hlen := smp_length P q nz ins ns N
  have h6 : ∀ i, i < (smp P q nz ins ns N).length → inB 1099511627776 ((smp P q nz ins ns N).getD i (0, 0)) := fun i hi => by
    obtain ⟨j, hj⟩ := smp_mem (show (smp P q nz ins ns N).getD i (0, 0) ∈ smp P q nz ins ns N by rw [List.getD, List.getElem?_eq_getElem hi]; exact List.getElem_mem _)
    rw [hj]
    have := (smp_bd (P := P) (q := q) (ins := ins) hq hz hs j).1
    unfold inB
    omega
  unfold ckS
  rw [if_neg (by omega), if_neg (by omega), if_pos h6, if_neg (by omega)]
theorem smp_true {P q nz : Int} {ins ns : List Int} {N : Nat} (hq : -2147483648 ≤ q ∧ q ≤ 2147483647) (hz : 0 ≤ nz ∧ nz ≤ 65535) (hs : ∀ x ∈ ns, -128 ≤ x ∧ x ≤ 127) :
    ∀ s ∈ smp P q nz ins ns N, -(nz : Rat) ≤ (s.2 : Rat) - (sc (P.tmod 1048576)).v * (s.1 : Rat) - (q : Rat) ∧ (s.2 : Rat) - (sc (P.tmod 1048576)).v * (s.1 : Rat) - (q : Rat) ≤ nz := fun s hm => by
  obtain ⟨i, rfl⟩ := smp_mem hm
  have h1 := (smp_bd (P := P) (q := q) (ins := ins) hq hz hs i).2
  have h2 := smpE_bd hz hs i
  have e := sc_v (P.tmod 1048576)
  generalize (smp1 P q nz ins ns i).1 = x at *
  generalize (smp1 P q nz ins ns i).2 = y at *
  generalize smpE nz ns i = u at *
  generalize P.tmod 1048576 = p at *
  have h3 : ((y * 256 - x * p - q * 256 : Int) : Rat) = ((u * 256 : Int) : Rat) := by rw [h1]
  simp only [Rat.intCast_sub, Rat.intCast_mul] at h3
  have h4 := icast_le.2 h2.1
  have h5 := icast_le.2 h2.2
  rw [Rat.intCast_neg] at h4
  have e256 : ((256 : Int) : Rat) = 256 := by decide +kernel
  rw [e256] at h3
  generalize (sc p).v = v at *
  have h6 : (y : Rat) - v * x - q = u := by
    have h7 : ((y : Rat) - v * x - q - u) * 256 = 0 := by grind
    grind
  rw [h6]
  exact ⟨h4, h5⟩
theorem truth_out (P Q nz : Int) (ins ns : List Int) (off : Bool) (hz : 0 ≤ nz ∧ nz ≤ 65535) (hl : ins.length ≤ 9223372036854775807) (hc1 : ClRow (krow .i32)) (hc2 : ClRow (krow .i8)) (h : ins.length = 0 ∨ 10 < ins.length) : CallOK Tryd.prog gl 8 [.agg [.v (.int .i32 P), .v (.int .i32 Q), .sl 1 (rws (krow .i32) ins), .sl 1 (rws (krow .i8) ns)], .v (.int .u16 nz), .v (.bool (off))] (.v (.bool (true))) := by
  refine call_ok (C := ⟨Tryd.prog, gl, ti, 104, false⟩) ti_ok mixed 3000 Tryd.call8 Tryd.func8 rfl Tryd.ntmps8 (by simp) byClL byCl ?_
  rw [Tryd.results8]
  by_cases h1 : ins.length = 0
  ·
    clear h
    repeat' (first | (simp only [go_sem, Int.reduceAdd, Int.reduceEq, Int.reduceLE, Int.reduceLT, Int.reduceMul, Int.reduceNeg, Int.reducePow, Int.reduceSub, Int.reduceToNat, Nat.reduceAdd, Nat.reduceBEq, Nat.reduceEqDiff, Nat.reduceLT, Nat.reduceLeDiff, Nat.reduceMul, Nat.reducePow, Nat.reduceSub, reduceCtorEq, reduceIte, IntKind.bits.eq_def, ti, tin, rws_length, h1]) | (simp (disch := omega) only [w64, wu64, wu32, Nat.min_eq_left]) | (with_reducible first | refine cF (awake49) ?_ | refine dF (awake49) ?_) | (refine aL ti_ok ?_) | (refine dL ti_ok ?_) | (refine dE (by kernel_rfl) ?_) | ((first | refine cC ?_ ?_ | refine gS ?_ ?_ | refine dS ?_ ?_) <;> intro hc <;> first | (exfalso; simp only [dcT, dcF, bnT, bnF, bnU, bnV] at hc; omega) | (simp only [hc]; try simp only [dcT, dcF, bnT, bnF, bnU, bnV] at hc)) | (refine aN (by omega) ?_) | (refine dN (by omega) ?_))
    all_goals exact fin_same trivial rfl
  ·
    have h2 : 10 < ins.length := by omega
    clear h
    repeat' (first | (simp only [go_sem, Int.reduceAdd, Int.reduceEq, Int.reduceLE, Int.reduceLT, Int.reduceMul, Int.reduceNeg, Int.reducePow, Int.reduceSub, Int.reduceToNat, Nat.reduceAdd, Nat.reduceBEq, Nat.reduceEqDiff, Nat.reduceLT, Nat.reduceLeDiff, Nat.reduceMul, Nat.reducePow, Nat.reduceSub, reduceCtorEq, reduceIte, IntKind.bits.eq_def, ti, tin, rws_length]) | (simp (disch := omega) only [w64, wu64, wu32, Nat.min_eq_left]) | (with_reducible first | refine cF (awake49) ?_ | refine dF (awake49) ?_) | (refine aL ti_ok ?_) | (refine dL ti_ok ?_) | (refine dE (by kernel_rfl) ?_) | ((first | refine cC ?_ ?_ | refine gS ?_ ?_ | refine dS ?_ ?_) <;> intro hc <;> first | (exfalso; simp only [dcT, dcF, bnT, bnF, bnU, bnV] at hc; omega) | (simp only [hc]; try simp only [dcT, dcF, bnT, bnF, bnU, bnV] at hc)) | (refine aN (by omega) ?_) | (refine dN (by omega) ?_))
    all_goals exact fin_same trivial rfl
theorem truth_T (P Q nz : Int) (ins ns : List Int) (hP : -2147483648 ≤ P ∧ P ≤ 2147483647) (hQ : -2147483648 ≤ Q ∧ Q ≤ 2147483647) (hz : 0 ≤ nz ∧ nz ≤ 65535) (hi : ∀ x ∈ ins, -2147483648 ≤ x ∧ x ≤ 2147483647) (hs : ∀ x ∈ ns, -128 ≤ x ∧ x ≤ 127) (hc1 : ClRow (krow .i32)) (hc2 : ClRow (krow .i8)) (N : Nat) (hN : ins.length = N) (h1 : 0 < N) (h2 : N ≤ 10) (hl2 : ns.length ≤ 9223372036854775807) : CallOK Tryd.prog gl 8 [.agg [.v (.int .i32 P), .v (.int .i32 Q), .sl 1 (rws (krow .i32) ins), .sl 1 (rws (krow .i8) ns)], .v (.int .u16 nz), .v (.bool (true))] (.v (.bool (true))) := by
  refine call_ok (C := ⟨Tryd.prog, gl, ti, 104, false⟩) ti_ok mixed 3000 Tryd.call8 Tryd.func8 rfl Tryd.ntmps8 (by simp) byClL byCl ?_
  rw [Tryd.results8]
  have bP := tmod_bd2 (a := P) (m := 1048576) (by omega)
  have s1 := samplesT P Q nz ins ns hP hQ hz hi hs hc1 hc2 N hN (by omega) hl2
  have ck := smp_ck (P := P) (q := Q) (ins := ins) (by omega) hz hs h1 h2
  have tr := smp_true (P := P) (q := Q) (ins := ins) (N := N) (by omega) hz hs
  have sf := slope_fit tr
  have gq : Mg 201 (Dy.int Q) := (mg_i64 (by omega)).mono (by omega)
  have gs := (sc_mg (n := P.tmod 1048576) (by omega)).mono (show 64 ≤ 201 by omega)
  have k1 := scaled49 (P.tmod 1048576) (by omega)
  have o1 := Of_ok Q (by omega)
  have fi := id_Fits _ _ ck _ _ _ _ _ _ _ _ gs.arg gq.arg (gs.mono (by omega)) (gq.mono (by omega))
  rw [decide_eq_true ((fitAll_iff _ _ _ _).2 (by rw [Dy.v_int]; exact tr))] at fi
  have g1 := id_GainI _ _ ck
  have g2 := id_SlopeI _ _ ck
  have g3 := id_OffsetI _ _ ck
  have w2 := in49 _ _ _ (mg_Slope ck) gs (has_out slopeF sf.1)
  have w3 := in49 _ _ _ (mg_Offset ck) gq (has_out offsF (by rw [Dy.v_int]; exact sf.2))
  clear tr sf ck gq gs hi hs
  generalize hx : P.tmod 1048576 = p at *
  generalize smp P Q nz ins ns N = l at *
  generalize oIv gainF nz l = a1 at *
  generalize oIv slopeF nz l = a2 at *
  generalize oIv offsF nz l = a3 at *
  generalize oErr gainF nz l = b1 at *
  generalize oErr slopeF nz l = b2 at *
  generalize oErr offsF nz l = b3 at *
  generalize sc p = z1 at *
  generalize Dy.int Q = z2 at *
  repeat' (first | (simp only [go_sem, Int.reduceAdd, Int.reduceEq, Int.reduceLE, Int.reduceLT, Int.reduceMul, Int.reduceNeg, Int.reducePow, Int.reduceSub, Int.reduceToNat, Nat.reduceAdd, Nat.reduceBEq, Nat.reduceEqDiff, Nat.reduceLT, Nat.reduceLeDiff, Nat.reduceMul, Nat.reducePow, Nat.reduceSub, reduceCtorEq, reduceIte, IntKind.bits.eq_def, ti, tin, rws_length, hN]) | (simp (disch := omega) only [w64, wu64, wu32, Nat.min_eq_left]) | (with_reducible first | refine cF (awake49) ?_ | refine dF (awake49) ?_) | (with_reducible first | refine cF (s1) ?_ | refine dF (s1) ?_) | (with_reducible first | refine cF (k1) ?_ | refine dF (k1) ?_) | (with_reducible first | refine cF (o1) ?_ | refine dF (o1) ?_) | (with_reducible first | refine cF (fi) ?_ | refine dF (fi) ?_) | (with_reducible first | refine cF (g1) ?_ | refine dF (g1) ?_) | (with_reducible first | refine cF (g2) ?_ | refine dF (g2) ?_) | (with_reducible first | refine cF (g3) ?_ | refine dF (g3) ?_) | (with_reducible first | refine cF (w2) ?_ | refine dF (w2) ?_) | (with_reducible first | refine cF (w3) ?_ | refine dF (w3) ?_) | (refine aL ti_ok ?_) | (refine dL ti_ok ?_) | (refine dE (by kernel_rfl) ?_) | ((first | refine cC ?_ ?_ | refine gS ?_ ?_ | refine dS ?_ ?_) <;> intro hc <;> first | (exfalso; simp only [dcT, dcF, bnT, bnF, bnU, bnV] at hc; omega) | (simp only [hc]; try simp only [dcT, dcF, bnT, bnF, bnU, bnV] at hc)) | (refine aN (by omega) ?_) | (refine dN (by omega) ?_))
  all_goals exact fin_same trivial rfl
theorem truth_F (P Q nz : Int) (ins ns : List Int) (hP : -2147483648 ≤ P ∧ P ≤ 2147483647) (hQ : -2147483648 ≤ Q ∧ Q ≤ 2147483647) (hz : 0 ≤ nz ∧ nz ≤ 65535) (hi : ∀ x ∈ ins, -2147483648 ≤ x ∧ x ≤ 2147483647) (hs : ∀ x ∈ ns, -128 ≤ x ∧ x ≤ 127) (hc1 : ClRow (krow .i32)) (hc2 : ClRow (krow .i8)) (N : Nat) (hN : ins.length = N) (h1 : 0 < N) (h2 : N ≤ 10) (hl2 : ns.length ≤ 9223372036854775807) : CallOK Tryd.prog gl 8 [.agg [.v (.int .i32 P), .v (.int .i32 Q), .sl 1 (rws (krow .i32) ins), .sl 1 (rws (krow .i8) ns)], .v (.int .u16 nz), .v (.bool (false))] (.v (.bool (true))) := by
  refine call_ok (C := ⟨Tryd.prog, gl, ti, 104, false⟩) ti_ok mixed 3000 Tryd.call8 Tryd.func8 rfl Tryd.ntmps8 (by simp) byClL byCl ?_
  rw [Tryd.results8]
  have bP := tmod_bd2 (a := P) (m := 1048576) (by omega)
  have s1 := samplesF P Q nz ins ns hP hQ hz hi hs hc1 hc2 N hN (by omega) hl2
  have ck := smp_ck (P := P) (q := 0) (ins := ins) (by omega) hz hs h1 h2
  have tr := smp_true (P := P) (q := 0) (ins := ins) (N := N) (by omega) hz hs
  have sf := slope_fit tr
  have gq : Mg 201 (Dy.int 0) := (mg_i64 (by omega)).mono (by omega)
  have gs := (sc_mg (n := P.tmod 1048576) (by omega)).mono (show 64 ≤ 201 by omega)
  have k1 := scaled49 (P.tmod 1048576) (by omega)
  have o1 := Of_ok 0 (by omega)
  have fi := id_Fits _ _ ck _ _ _ _ _ _ _ _ gs.arg gq.arg (gs.mono (by omega)) (gq.mono (by omega))
  rw [decide_eq_true ((fitAll_iff _ _ _ _).2 (by rw [Dy.v_int]; exact tr))] at fi
  have g1 := id_GainI _ _ ck
  have g2 := id_SlopeI _ _ ck
  have g3 := id_OffsetI _ _ ck
  have w2 := in49 _ _ _ (mg_Slope ck) gs (has_out slopeF sf.1)
  have w3 := in49 _ _ _ (mg_Offset ck) gq (has_out offsF (by rw [Dy.v_int]; exact sf.2))
  have w1 := in49 _ _ _ (mg_Gain ck) gs (has_out gainF ((gain_fit _ _ _).2 ((fitAll_iff _ _ _ _).2 (by rw [Dy.v_zero]; intro s hs2; have := tr s hs2; rw [Rat.intCast_zero] at this; exact this))))
  clear tr sf ck gq gs hi hs
  generalize hx : P.tmod 1048576 = p at *
  generalize smp P 0 nz ins ns N = l at *
  generalize oIv gainF nz l = a1 at *
  generalize oIv slopeF nz l = a2 at *
  generalize oIv offsF nz l = a3 at *
  generalize oErr gainF nz l = b1 at *
  generalize oErr slopeF nz l = b2 at *
  generalize oErr offsF nz l = b3 at *
  generalize sc p = z1 at *
  generalize Dy.int 0 = z2 at *
  repeat' (first | (simp only [go_sem, Int.reduceAdd, Int.reduceEq, Int.reduceLE, Int.reduceLT, Int.reduceMul, Int.reduceNeg, Int.reducePow, Int.reduceSub, Int.reduceToNat, Nat.reduceAdd, Nat.reduceBEq, Nat.reduceEqDiff, Nat.reduceLT, Nat.reduceLeDiff, Nat.reduceMul, Nat.reducePow, Nat.reduceSub, reduceCtorEq, reduceIte, IntKind.bits.eq_def, ti, tin, rws_length, hN]) | (simp (disch := omega) only [w64, wu64, wu32, Nat.min_eq_left]) | (with_reducible first | refine cF (awake49) ?_ | refine dF (awake49) ?_) | (with_reducible first | refine cF (s1) ?_ | refine dF (s1) ?_) | (with_reducible first | refine cF (k1) ?_ | refine dF (k1) ?_) | (with_reducible first | refine cF (o1) ?_ | refine dF (o1) ?_) | (with_reducible first | refine cF (fi) ?_ | refine dF (fi) ?_) | (with_reducible first | refine cF (g1) ?_ | refine dF (g1) ?_) | (with_reducible first | refine cF (g2) ?_ | refine dF (g2) ?_) | (with_reducible first | refine cF (g3) ?_ | refine dF (g3) ?_) | (with_reducible first | refine cF (w2) ?_ | refine dF (w2) ?_) | (with_reducible first | refine cF (w3) ?_ | refine dF (w3) ?_) | (with_reducible first | refine cF (w1) ?_ | refine dF (w1) ?_) | (refine aL ti_ok ?_) | (refine dL ti_ok ?_) | (refine dE (by kernel_rfl) ?_) | ((first | refine cC ?_ ?_ | refine gS ?_ ?_ | refine dS ?_ ?_) <;> intro hc <;> first | (exfalso; simp only [dcT, dcF, bnT, bnF, bnU, bnV] at hc; omega) | (simp only [hc]; try simp only [dcT, dcF, bnT, bnF, bnU, bnV] at hc)) | (refine aN (by omega) ?_) | (refine dN (by omega) ?_))
  all_goals exact fin_same trivial rfl
theorem truth_law (P Q : Int) (r r' : List (List AV)) (nz : Int) (off : Bool) (hP : (Lit.int .i32 P).wf = true) (hQ : (Lit.int .i32 Q).wf = true) (m1 : r.length ≤ maxLen) (f1 : ∀ x ∈ r, FitL [.int .i32] x) (m2 : r'.length ≤ maxLen) (f2 : ∀ x ∈ r', FitL [.int .i8] x) (hz : (Lit.int .u16 nz).wf = true) : CallOK Tryd.prog gl 8 [.agg [.v (.int .i32 P), .v (.int .i32 Q), .sl 1 r, .sl 1 r'], .v (.int .u16 nz), .v (.bool off)] (.v (.bool true)) := by
  unfold maxLen at *
  have hP : -2147483648 ≤ P ∧ P ≤ 2147483647 := by simpa [Lit.wf, IntKind.min, IntKind.max, IntKind.signed, IntKind.bits] using hP
  have hQ : -2147483648 ≤ Q ∧ Q ≤ 2147483647 := by simpa [Lit.wf, IntKind.min, IntKind.max, IntKind.signed, IntKind.bits] using hQ
  have hz : 0 ≤ nz ∧ nz ≤ 65535 := by simpa [Lit.wf, IntKind.min, IntKind.max, IntKind.signed, IntKind.bits] using hz
  obtain ⟨ins, b1, rfl, z1⟩ := fit_krows f1
  obtain ⟨ns, b2, rfl, z2⟩ := fit_krows f2
  have hi : ∀ x ∈ ins, -2147483648 ≤ x ∧ x ≤ 2147483647 := fun x hx => by simpa [Lit.wf, IntKind.min, IntKind.max, IntKind.signed, IntKind.bits] using b1 x hx
  have hs : ∀ x ∈ ns, -128 ≤ x ∧ x ≤ 127 := fun x hx => by simpa [Lit.wf, IntKind.min, IntKind.max, IntKind.signed, IntKind.bits] using b2 x hx
  by_cases h : ins.length = 0 ∨ 10 < ins.length
  · exact truth_out P Q nz ins ns off hz (by omega) (clrow_k _) (clrow_k _) h
  · cases off
    · exact truth_F P Q nz ins ns hP hQ hz hi hs (clrow_k _) (clrow_k _) _ rfl (by omega) (by omega) (by omega)
    · exact truth_T P Q nz ins ns hP hQ hz hi hs (clrow_k _) (clrow_k _) _ rfl (by omega) (by omega) (by omega)
end Go.Proofs.YtkdpaoicekgalaaDoor
