/- Layer 3 (interval.go), part 4: texts. -/
import Derived.Test.YtkdpaoicekgalaaGreatDoorIv3
import Derived.Test.YtkdpaoicekgalaaGreatDoorText
import Derived.Test.YtkdpaoicekgalaaGreatDoorIdn5
import Derived.Test.YtkdpaoicekgalaaGreatDoorU4
set_option linter.unusedSimpArgs false
set_option linter.unusedVariables false
set_option linter.deprecated false
namespace Go.Proofs.YtkdpaoicekgalaaGreatDoor
open Go Go.Ax
set_option maxRecDepth 100000
set_option maxHeartbeats 4000000

/-- The text of an interval. -/
def ivText (a : Iv) : List UInt8 := [91] ++ dyText a.lo ++ [44, 32] ++ dyText a.hi ++ [93]
theorem open_app (l : List UInt8) : (⟨#[91]⟩ : ByteArray) ++ ⟨l.toArray⟩ = ⟨(91 :: l).toArray⟩ := bytes_append [91] l
theorem comma_app (l : List UInt8) : (⟨l.toArray⟩ : ByteArray) ++ ⟨#[44, 32]⟩ = ⟨(l ++ [44, 32]).toArray⟩ := bytes_append l [44, 32]
theorem close_app (l : List UInt8) : (⟨l.toArray⟩ : ByteArray) ++ ⟨#[93]⟩ = ⟨(l ++ [93]).toArray⟩ := bytes_append l [93]
theorem iv_Text (s1 : Bool) (w1 : List Nat) (d1 : Int) (t1 : Bool) (u1 : List Nat) (e1 : Int) (x1 y1 : Dy) (a1 : Iv) (h1 : IArg s1 w1 d1 t1 u1 e1 x1 y1 a1) : CallOK Tryz.prog gl 57 [.agg [.v (.bool s1), .sl 1 (u32s w1), .v (.int .i64 d1), .v (.bool t1), .sl 1 (u32s u1), .v (.int .i64 e1)]] (.v (.string ⟨(ivText a1).toArray⟩)) := by
  refine call_ok (C := ⟨Tryz.prog, gl, ti, 15, false⟩) ti_ok mixed 3000 Tryz.call57 Tryz.func57 rfl Tryz.ntmps57 (by simp) byClL byCl ?_
  rw [Tryz.results57]
  have r1 := iv_arg _ _ _ _ _ _ _ _ _ h1
  have p1 := Text_ok _ _ _ _ h1.lo
  have p2 := Text_ok _ _ _ _ h1.hi
  have l1 := dyText_len h1.lo
  have l2 := dyText_len h1.hi
  unfold ivText
  generalize dyText a1.lo = q1 at *
  generalize dyText a1.hi = q2 at *
  repeat' (first | (simp only [go_sem, Int.reduceAdd, Int.reduceEq, Int.reduceLE, Int.reduceLT, Int.reduceMul, Int.reduceNeg, Int.reducePow, Int.reduceSub, Int.reduceToNat, Nat.reduceAdd, Nat.reduceBEq, Nat.reduceEqDiff, Nat.reduceLT, Nat.reduceLeDiff, Nat.reduceMul, Nat.reducePow, Nat.reduceSub, reduceCtorEq, reduceIte, IntKind.bits.eq_def, ti, tin, open_app, comma_app, close_app, bytes_append, size_mk, List.length_cons, List.length_append]) | (simp (disch := omega) only [w64, wu64, wu32, Nat.min_eq_left]) | (with_reducible first | refine cF (r1) ?_ | refine dF (r1) ?_) | (with_reducible first | refine cF (p1) ?_ | refine dF (p1) ?_) | (with_reducible first | refine cF (p2) ?_ | refine dF (p2) ?_) | (refine aL ti_ok ?_) | (refine dL ti_ok ?_) | (refine dE (by kernel_rfl) ?_) | ((first | refine cC ?_ ?_ | refine gS ?_ ?_ | refine dS ?_ ?_) <;> intro hc <;> first | (exfalso; simp only [dcT, dcF, bnT, bnF, bnU, bnV] at hc; omega) | (simp only [hc]; try simp only [dcT, dcF, bnT, bnF, bnU, bnV] at hc)) | (refine aN (by omega) ?_) | (refine dN (by omega) ?_))
  exact fin_same trivial (by simp [one])
end Go.Proofs.YtkdpaoicekgalaaGreatDoor
/- The statements on layer 49: Fits; results as intervals; the document's examples. -/
set_option linter.unusedSimpArgs false
set_option linter.unusedVariables false
set_option linter.deprecated false
namespace Go.Proofs.YtkdpaoicekgalaaGreatDoor
open Go Go.Ax
set_option maxRecDepth 100000
set_option maxHeartbeats 4000000

theorem base_IsE (n m : Int) : CallOK Tryz.prog gl 84 [.v (.iface 80 (.int .i64 (n))), .v (.int .i64 m)] (.v (.bool ((decide (n = m))))) := by
  refine call_ok (C := ⟨Tryz.prog, gl, ti, 18, false⟩) ti_ok mixed 3000 Tryz.call84 Tryz.func84 rfl Tryz.ntmps84 (by simp) byClL byCl ?_
  rw [Tryz.results84]
  repeat' (first | (simp only [go_sem, Int.reduceAdd, Int.reduceEq, Int.reduceLE, Int.reduceLT, Int.reduceMul, Int.reduceNeg, Int.reducePow, Int.reduceSub, Int.reduceToNat, Nat.reduceAdd, Nat.reduceBEq, Nat.reduceEqDiff, Nat.reduceLT, Nat.reduceLeDiff, Nat.reduceMul, Nat.reducePow, Nat.reduceSub, reduceCtorEq, reduceIte, IntKind.bits.eq_def, ti, tin]) | (simp (disch := omega) only [w64, wu64, wu32, Nat.min_eq_left]) | (refine aL ti_ok ?_) | (refine dL ti_ok ?_) | (refine dE (by kernel_rfl) ?_) | ((first | refine cC ?_ ?_ | refine gS ?_ ?_ | refine dS ?_ ?_) <;> intro hc <;> first | (exfalso; simp only [dcT, dcF, bnT, bnF, bnU, bnV] at hc; omega) | (simp only [hc]; try simp only [dcT, dcF, bnT, bnF, bnU, bnV] at hc)) | (refine aN (by omega) ?_) | (refine dN (by omega) ?_))
  all_goals exact fin_same trivial rfl
theorem id_GainI (l : List (Int × Int)) (n : Int) (h : ckS l n = 0) : CallOK Tryz.prog gl 75 [.sl 2 (rws prow l), .v (.int .i64 n)] (.tup [.agg [.v (.bool (sg (oIv gainF n l).lo)), .sl 1 (u32s (ms (oIv gainF n l).lo)), .v (.int .i64 (dn (oIv gainF n l).lo)), .v (.bool (sg (oIv gainF n l).hi)), .sl 1 (u32s (ms (oIv gainF n l).hi)), .v (.int .i64 (dn (oIv gainF n l).hi))], .v (eV (oErr gainF n l))]) := id_Gain l n h
theorem mg_Gain {l : List (Int × Int)} {n : Int} (h : ckS l n = 0) : (oIv gainF n l).Mg 201 := by
  obtain ⟨g1, g2, g3, g4, g5⟩ := ck_ok h
  exact out_mg (BS.Sm.of (elim_sm (hv_sm (f := gainF.1) (g := gainF.2) ⟨g4, g5⟩ (l := l) (fun s hs => by have := g3 s hs; simp only [gainF]; omega)))) (BInv.of _)
theorem id_SlopeI (l : List (Int × Int)) (n : Int) (h : ckS l n = 0) : CallOK Tryz.prog gl 76 [.sl 2 (rws prow l), .v (.int .i64 n)] (.tup [.agg [.v (.bool (sg (oIv slopeF n l).lo)), .sl 1 (u32s (ms (oIv slopeF n l).lo)), .v (.int .i64 (dn (oIv slopeF n l).lo)), .v (.bool (sg (oIv slopeF n l).hi)), .sl 1 (u32s (ms (oIv slopeF n l).hi)), .v (.int .i64 (dn (oIv slopeF n l).hi))], .v (eV (oErr slopeF n l))]) := id_Slope l n h
theorem mg_Slope {l : List (Int × Int)} {n : Int} (h : ckS l n = 0) : (oIv slopeF n l).Mg 201 := by
  obtain ⟨g1, g2, g3, g4, g5⟩ := ck_ok h
  exact out_mg (BS.Sm.of (elim_sm (hv_sm (f := slopeF.1) (g := slopeF.2) ⟨g4, g5⟩ (l := l) (fun s hs => by have := g3 s hs; simp only [slopeF]; omega)))) (BInv.of _)
theorem id_OffsetI (l : List (Int × Int)) (n : Int) (h : ckS l n = 0) : CallOK Tryz.prog gl 77 [.sl 2 (rws prow l), .v (.int .i64 n)] (.tup [.agg [.v (.bool (sg (oIv offsF n l).lo)), .sl 1 (u32s (ms (oIv offsF n l).lo)), .v (.int .i64 (dn (oIv offsF n l).lo)), .v (.bool (sg (oIv offsF n l).hi)), .sl 1 (u32s (ms (oIv offsF n l).hi)), .v (.int .i64 (dn (oIv offsF n l).hi))], .v (eV (oErr offsF n l))]) := id_Offset l n h
theorem mg_Offset {l : List (Int × Int)} {n : Int} (h : ckS l n = 0) : (oIv offsF n l).Mg 201 := by
  obtain ⟨g1, g2, g3, g4, g5⟩ := ck_ok h
  exact out_mg (BS.Sm.of (elim_sm (hv_sm (f := offsF.1) (g := offsF.2) ⟨g4, g5⟩ (l := l) (fun s hs => by have := g3 s hs; simp only [offsF]; omega)))) (BInv.of _)
theorem awake49  : CallOK Tryz.prog gl 72 [] (.v (.bool (true))) := by
  refine call_ok (C := ⟨Tryz.prog, gl, ti, 46, false⟩) ti_ok mixed 3000 Tryz.call72 Tryz.func72 rfl Tryz.ntmps72 (by simp) byClL byCl ?_
  rw [Tryz.results72]
  have g1 := id_GainI [(10, 52), (20, 99)] 3 (by decide +kernel)
  have g2 := id_OffsetI [(10, 52), (20, 99)] 0 (by decide +kernel)
  have g3 := id_GainI [(10, 52), (20, 99)] 0 (by decide +kernel)
  have t1 := iv_Text _ _ _ _ _ _ _ _ _ (IArg.of (mg_Gain (l := [(10, 52), (20, 99)]) (n := 3) (by decide +kernel)))
  have t2 := iv_Text _ _ _ _ _ _ _ _ _ (IArg.of (mg_Offset (l := [(10, 52), (20, 99)]) (n := 0) (by decide +kernel)))
  rw [show oErr gainF 3 [(10, 52), (20, 99)] = 0 by decide +kernel, eV_zero] at g1
  rw [show oErr offsF 0 [(10, 52), (20, 99)] = 0 by decide +kernel, eV_zero] at g2
  rw [show oErr gainF 0 [(10, 52), (20, 99)] = 23 by decide +kernel, eV_ne (by decide)] at g3
  rw [show ivText (oIv gainF 3 [(10, 52), (20, 99)]) = [91, 49, 54, 48, 53, 54, 51, 47, 50, 94, 49, 53, 44, 32, 49, 54, 55, 49, 49, 55, 47, 50, 94, 49, 53, 93] by decide +kernel] at t1
  rw [show ivText (oIv offsF 0 [(10, 52), (20, 99)]) = [91, 53, 44, 32, 53, 93] by decide +kernel] at t2
  generalize oIv gainF 3 [(10, 52), (20, 99)] = z1 at *
  generalize oIv offsF 0 [(10, 52), (20, 99)] = z2 at *
  generalize oIv gainF 0 [(10, 52), (20, 99)] = z3 at *
  change CallOK _ _ _ [.sl 2 [[.v (.int .i64 10), .v (.int .i64 52)], [.v (.int .i64 20), .v (.int .i64 99)]], _] _ at g1 g2 g3
  have i1 := base_IsE 23 23
  rw [decide_eq_true rfl] at i1
  have e1 : decide ((⟨[91, 49, 54, 48, 53, 54, 51, 47, 50, 94, 49, 53, 44, 32, 49, 54, 55, 49, 49, 55, 47, 50, 94, 49, 53, 93].toArray⟩ : ByteArray) = ⟨#[91, 49, 54, 48, 53, 54, 51, 47, 50, 94, 49, 53, 44, 32, 49, 54, 55, 49, 49, 55, 47, 50, 94, 49, 53, 93]⟩) = true := decide_eq_true rfl
  have e2 : decide ((⟨[91, 53, 44, 32, 53, 93].toArray⟩ : ByteArray) = ⟨#[91, 53, 44, 32, 53, 93]⟩) = true := decide_eq_true rfl
  repeat' (first | (simp only [go_sem, Int.reduceAdd, Int.reduceEq, Int.reduceLE, Int.reduceLT, Int.reduceMul, Int.reduceNeg, Int.reducePow, Int.reduceSub, Int.reduceToNat, Nat.reduceAdd, Nat.reduceBEq, Nat.reduceEqDiff, Nat.reduceLT, Nat.reduceLeDiff, Nat.reduceMul, Nat.reducePow, Nat.reduceSub, reduceCtorEq, reduceIte, IntKind.bits.eq_def, ti, tin, e1, e2]) | (simp (disch := omega) only [w64, wu64, wu32, Nat.min_eq_left]) | (with_reducible first | refine cF (g1) ?_ | refine dF (g1) ?_) | (with_reducible first | refine cF (g2) ?_ | refine dF (g2) ?_) | (with_reducible first | refine cF (g3) ?_ | refine dF (g3) ?_) | (with_reducible first | refine cF (t1) ?_ | refine dF (t1) ?_) | (with_reducible first | refine cF (t2) ?_ | refine dF (t2) ?_) | (with_reducible first | refine cF (i1) ?_ | refine dF (i1) ?_) | (refine aL ti_ok ?_) | (refine dL ti_ok ?_) | (refine dE (by kernel_rfl) ?_) | ((first | refine cC ?_ ?_ | refine gS ?_ ?_ | refine dS ?_ ?_) <;> intro hc <;> first | (exfalso; simp only [dcT, dcF, bnT, bnF, bnU, bnV] at hc; omega) | (simp only [hc]; try simp only [dcT, dcF, bnT, bnF, bnU, bnV] at hc)) | (refine aN (by omega) ?_) | (refine dN (by omega) ?_))
  exact fin_same trivial rfl
end Go.Proofs.YtkdpaoicekgalaaGreatDoor
