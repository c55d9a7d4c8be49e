/- The statements on layer 3: parts of intervals. -/
import Derived.Test.YtkdpaoicekgalaaGreatDoorL03
set_option linter.unusedSimpArgs false
set_option linter.unusedVariables false
set_option linter.deprecated false
namespace Go.Proofs.YtkdpaoicekgalaaGreatDoor
open Go Go.Ax
set_option maxRecDepth 100000
set_option maxHeartbeats 4000000

theorem pick03 (s1 : Bool) (w1 : List Nat) (d1 : Int) (t1 : Bool) (u1 : List Nat) (e1 : Int) (x1 y1 : Dy) (a1 : Iv) (h1 : IArg s1 w1 d1 t1 u1 e1 x1 y1 a1) (g1 : a1.Mg 1024) (i : Int) (hi : 0 ≤ i ∧ i ≤ 255) : CallOK Tryz.prog gl 27 [.agg [.v (.bool s1), .sl 1 (u32s w1), .v (.int .i64 d1), .v (.bool t1), .sl 1 (u32s u1), .v (.int .i64 e1)], .v (.int .u8 i)] (.agg [.v (.bool (sg ((pickD a1 (i % 17).toNat)))), .sl 1 (u32s (ms ((pickD a1 (i % 17).toNat)))), .v (.int .i64 (dn ((pickD a1 (i % 17).toNat))))]) := by
  refine call_ok (C := ⟨Tryz.prog, gl, ti, 26, false⟩) ti_ok mixed 3000 Tryz.call27 Tryz.func27 rfl Tryz.ntmps27 (by simp) byClL byCl ?_
  rw [Tryz.results27]
  have m1 := ref_Make (i % 17) 4 (by omega) (by omega)
  have r1 := ri_Norm _ _ _ _ _ _ _ _ _ h1
  have s1 := ref_Sub _ _ _ _ _ _ _ _ h1.hi h1.lo
  have k1 : Mg 64 (nrm (i % 17) 4) := mg_make (by omega)
  have k2 := g1.2.sub g1.1
  have p1 := ref_Mul _ _ _ _ _ _ _ _ (Arg.of k1 (by omega)) (Arg.of k2 (by omega))
  have p2 := ref_Add _ _ _ _ _ _ _ _ h1.lo (Arg.of (k1.mul k2) (by omega))
  unfold pickD
  rw [show (((i % 17).toNat : Nat) : Int) = i % 17 by omega]
  have e1 : i.tmod 17 = i % 17 := Int.tmod_eq_emod_of_nonneg hi.1
  have b1 : 0 ≤ i % 17 ∧ i % 17 ≤ 16 := by omega
  clear k1 k2
  generalize a1.lo.add ((nrm (i % 17) 4).mul (a1.hi.sub a1.lo)) = z4 at *
  generalize (nrm (i % 17) 4).mul (a1.hi.sub a1.lo) = z3 at *
  generalize a1.hi.sub a1.lo = z2 at *
  generalize nrm (i % 17) 4 = z1 at *
  repeat' (first | (simp only [go_sem, Int.reduceAdd, Int.reduceEq, Int.reduceLE, Int.reduceLT, Int.reduceMul, Int.reduceNeg, Int.reducePow, Int.reduceSub, Int.reduceToNat, Nat.reduceAdd, Nat.reduceBEq, Nat.reduceEqDiff, Nat.reduceLT, Nat.reduceLeDiff, Nat.reduceMul, Nat.reducePow, Nat.reduceSub, reduceCtorEq, reduceIte, IntKind.bits.eq_def, ti, tin, e1]) | (simp (disch := omega) only [w64, wu64, wu32, Nat.min_eq_left]) | (with_reducible first | refine callF_of (m1) ?_ | refine drawF_of (m1) ?_) | (with_reducible first | refine callF_of (r1) ?_ | refine drawF_of (r1) ?_) | (with_reducible first | refine callF_of (s1) ?_ | refine drawF_of (s1) ?_) | (with_reducible first | refine callF_of (p1) ?_ | refine drawF_of (p1) ?_) | (with_reducible first | refine callF_of (p2) ?_ | refine drawF_of (p2) ?_) | (refine after_lit ti_ok ?_) | (refine drawAfter_lit ti_ok ?_) | (refine drawEnd_of (by kernel_rfl) ?_) | ((first | refine cond_cases (fun hc => ?_) (fun hc => ?_) | refine guard_split (fun hc => ?_) (fun hc => ?_) | refine drawGuard_split (fun hc => ?_) (fun hc => ?_)) <;> first | (exfalso; simp only [dcT, dcF, bnT, bnF, bnU, bnV] at hc; omega) | (simp only [hc]; try simp only [dcT, dcF, bnT, bnF, bnU, bnV] at hc)) | (refine after_need (by omega) ?_) | (refine drawAfter_need (by omega) ?_))
  exact fin_same trivial rfl
end Go.Proofs.YtkdpaoicekgalaaGreatDoor
