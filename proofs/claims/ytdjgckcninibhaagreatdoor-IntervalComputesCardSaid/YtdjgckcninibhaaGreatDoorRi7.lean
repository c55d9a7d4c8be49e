/- The text of an interval (ref03.Text). -/
import Derived.Test.YtdjgckcninibhaaGreatDoorRi6
import Derived.Test.YtdjgckcninibhaaGreatDoorRi3
import Derived.Test.YtdjgckcninibhaaGreatDoorDy6
set_option linter.unusedSimpArgs false
set_option linter.unusedVariables false
set_option linter.deprecated false
namespace Go.Proofs.YtdjgckcninibhaaGreatDoor
open Go Go.Ax
set_option maxRecDepth 100000
set_option maxHeartbeats 4000000

theorem ri_Text (s1 : Bool) (w1 : List Nat) (d1 : Int) (t1 : Bool) (u1 : List Nat) (e1 : Int) (x1 y1 : Dy) (a1 : Iv) (h1 : IArg s1 w1 d1 t1 u1 e1 x1 y1 a1) : CallOK Tryz.prog gl 80 [.agg [.v (.bool s1), .sl 1 (u32s w1), .v (.int .i64 d1), .v (.bool t1), .sl 1 (u32s u1), .v (.int .i64 e1)]] (.v (.string ⟨(ivText a1).toArray⟩)) := by
  refine call_ok (C := ⟨Tryz.prog, gl, ti, 15, false⟩) ti_ok mixed 3000 Tryz.call80 Tryz.func80 rfl Tryz.ntmps80 (by simp) byClL byCl ?_
  rw [Tryz.results80]
  have r1 := ri_Norm _ _ _ _ _ _ _ _ _ h1
  have p1 := ref_Text _ _ _ _ h1.lo
  have p2 := ref_Text _ _ _ _ h1.hi
  have l1 := dyText_len h1.lo
  have l2 := dyText_len h1.hi
  unfold ivText
  generalize dyText a1.lo = q1 at *
  generalize dyText a1.hi = q2 at *
  repeat' (first | (simp only [go_sem, Int.reduceAdd, Int.reduceEq, Int.reduceLE, Int.reduceLT, Int.reduceMul, Int.reduceNeg, Int.reducePow, Int.reduceSub, Int.reduceToNat, Nat.reduceAdd, Nat.reduceBEq, Nat.reduceEqDiff, Nat.reduceLT, Nat.reduceLeDiff, Nat.reduceMul, Nat.reducePow, Nat.reduceSub, reduceCtorEq, reduceIte, IntKind.bits.eq_def, ti, tin, open_app, comma_app, close_app, bytes_append, size_mk, List.length_cons, List.length_append]) | (simp (disch := omega) only [w64, wu64, wu32, Nat.min_eq_left]) | (with_reducible first | refine cF (r1) ?_ | refine dF (r1) ?_) | (with_reducible first | refine cF (p1) ?_ | refine dF (p1) ?_) | (with_reducible first | refine cF (p2) ?_ | refine dF (p2) ?_) | (refine aL ti_ok ?_) | (refine dL ti_ok ?_) | (refine dE (by kernel_rfl) ?_) | ((first | refine cC ?_ ?_ | refine gS ?_ ?_ | refine dS ?_ ?_) <;> intro hc <;> first | (exfalso; simp only [dcT, dcF, bnT, bnF, bnU, bnV] at hc; omega) | (simp only [hc]; try simp only [dcT, dcF, bnT, bnF, bnU, bnV] at hc)) | (refine aN (by omega) ?_) | (refine dN (by omega) ?_))
  exact fin_same trivial (by simp [one])
end Go.Proofs.YtdjgckcninibhaaGreatDoor
