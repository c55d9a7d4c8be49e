/- The statements on layer 18: the document's example; parts of numbers. -/
import Derived.Test.YtpggiabnhodjpaaDoorT18b
import Derived.Test.YtpggiabnhodjpaaDoorRefB
import Derived.Test.YtpggiabnhodjpaaDoorMat2
set_option linter.unusedSimpArgs false
set_option linter.unusedVariables false
set_option linter.deprecated false
namespace Go.Proofs.YtpggiabnhodjpaaDoor
open Go Go.Ax
set_option maxRecDepth 100000
set_option maxHeartbeats 4000000

/-! ### parts of numbers -/
def bytes (n : Int) : List AV := [.v (.int .i8 n)]
theorem clrow_b : ClRow bytes := fun x a ha => by
  simp only [bytes, List.mem_cons, List.not_mem_nil, or_false] at ha; subst ha; exact Cl.v _
def isByte (n : Int) : Prop := -128 ≤ n ∧ n ≤ 127
def pickL (l : List Int) (i : Nat) : Int := l.getD (i % l.length) 0
theorem pickL_byte {l : List Int} (h : ∀ n ∈ l, isByte n) (i : Nat) : isByte (pickL l i) := by
  unfold pickL
  by_cases hl : i % l.length < l.length
  · exact h _ (getD_mem (d := 0) hl)
  · rw [List.getD, List.getElem?_eq_none (by omega)]; exact ⟨by decide, by decide⟩
theorem law18_pick (l : List Int) (i : Nat) (hl : l.length ≤ 9223372036854775807) (hi : i ≤ 1000) :
    CallOK Tryd.prog gl 12 [.sl 1 (rws bytes l), .v (.int .i64 i)] (.v (.int .i8 (pickL l i))) := by
  refine call_ok (C := ⟨Tryd.prog, gl, ti, 15, false⟩) ti_ok mixed 3000 Tryd.call12 Tryd.func12 rfl Tryd.ntmps12 (by simp) (fun x hx => by
    simp only [List.mem_cons, List.not_mem_nil, or_false] at hx
    rcases hx with rfl | rfl
    · exact Cl.rws clrow_b
    · exact Cl.v _) byCl ?_
  rw [Tryd.results12]
  obtain ⟨n, hn⟩ : ∃ n, l.length = n := ⟨_, rfl⟩
  unfold pickL
  rw [hn] at hl ⊢
  by_cases h0 : n = 0
  ·
    subst h0
    have e : l = [] := List.length_eq_zero_iff.1 hn
    subst e
    repeat' (first | (simp only [go_sem, Int.reduceAdd, Int.reduceEq, Int.reduceLE, Int.reduceLT, Int.reduceMul, Int.reduceNeg, Int.reducePow, Int.reduceSub, Int.reduceToNat, Nat.reduceAdd, Nat.reduceBEq, Nat.reduceEqDiff, Nat.reduceLT, Nat.reduceLeDiff, Nat.reduceMul, Nat.reducePow, Nat.reduceSub, reduceCtorEq, reduceIte, IntKind.bits.eq_def, ti, tin, rws_nil, List.length_nil]) | (simp (disch := omega) only [w64, wu64, wu32, Nat.min_eq_left]) | (refine aL ti_ok ?_) | (refine dL ti_ok ?_) | (refine dE (by kernel_rfl) ?_) | ((first | refine cC ?_ ?_ | refine gS ?_ ?_ | refine dS ?_ ?_) <;> intro hc <;> first | (exfalso; simp only [dcT, dcF, bnT, bnF, bnU, bnV] at hc; omega) | (simp only [hc]; try simp only [dcT, dcF, bnT, bnF, bnU, bnV] at hc)) | (refine aN (by omega) ?_) | (refine dN (by omega) ?_))
    all_goals exact fin_same trivial rfl
  ·
    have hm : i % n < n := Nat.mod_lt _ (by omega)
    have ri : (rws bytes l).getD (i % n) [] = [.v (.int .i8 (l.getD (i % n) 0))] := rws_getD (f := bytes) (l := l) (i := i % n) 0 (by omega)
    have em : ((i : Int)).tmod (n : Int) = ((i % n : Nat) : Int) := by
      rw [Int.natCast_emod]
      exact Int.tmod_eq_emod_of_nonneg (by omega)
    have e0 : ¬ ((n : Nat) : Int) = 0 := by omega
    repeat' (first | (simp only [go_sem, Int.reduceAdd, Int.reduceEq, Int.reduceLE, Int.reduceLT, Int.reduceMul, Int.reduceNeg, Int.reducePow, Int.reduceSub, Int.reduceToNat, Nat.reduceAdd, Nat.reduceBEq, Nat.reduceEqDiff, Nat.reduceLT, Nat.reduceLeDiff, Nat.reduceMul, Nat.reducePow, Nat.reduceSub, reduceCtorEq, reduceIte, IntKind.bits.eq_def, ti, tin, rws_length, hn, ri, em, e0]) | (simp (disch := omega) only [w64, wu64, wu32, Nat.min_eq_left]) | (refine aL ti_ok ?_) | (refine dL ti_ok ?_) | (refine dE (by kernel_rfl) ?_) | ((first | refine cC ?_ ?_ | refine gS ?_ ?_ | refine dS ?_ ?_) <;> intro hc <;> first | (exfalso; simp only [dcT, dcF, bnT, bnF, bnU, bnV] at hc; omega) | (simp only [hc]; try simp only [dcT, dcF, bnT, bnF, bnU, bnV] at hc)) | (refine aN (by omega) ?_) | (refine dN (by omega) ?_))
    all_goals exact fin_same trivial rfl
def partD (x : Dy) (n : Int) : Dy := x.mul (nrm n 7)
theorem law18_part (s : Bool) (ws : List Nat) (d : Int) (x : Dy) (h : Arg s ws d x) (n : Int) (hn : isByte n) : CallOK Tryd.prog gl 11 [.agg [.v (.bool s), .sl 1 (u32s ws), .v (.int .i64 d)], .v (.int .i8 n)] (.agg [.v (.bool (sg (partD x n))), .sl 1 (u32s (ms (partD x n))), .v (.int .i64 (dn (partD x n)))]) := by
  refine call_ok (C := ⟨Tryd.prog, gl, ti, 16, false⟩) ti_ok mixed 3000 Tryd.call11 Tryd.func11 rfl Tryd.ntmps11 (by simp) byClL byCl ?_
  rw [Tryd.results11]
  unfold partD
  have mk := ref_Make n 7 (by unfold isByte at hn; omega) (by omega)
  have gm : Mg 8 (nrm n 7) := mg_nrm (Nat.lt_of_lt_of_le (show n.natAbs < 2 ^ 8 by unfold isByte at hn; omega) (Nat.pow_le_pow_right (by omega) (by omega)))
  have mu := ref_Mul _ _ _ _ _ _ _ _ h (gm.arg)
  have h7 : ((7 : Nat) : Int) = 7 := rfl
  rw [h7] at mk
  unfold isByte at hn
  clear gm
  generalize nrm n 7 = f at *
  repeat' (first | (simp only [go_sem, Int.reduceAdd, Int.reduceEq, Int.reduceLE, Int.reduceLT, Int.reduceMul, Int.reduceNeg, Int.reducePow, Int.reduceSub, Int.reduceToNat, Nat.reduceAdd, Nat.reduceBEq, Nat.reduceEqDiff, Nat.reduceLT, Nat.reduceLeDiff, Nat.reduceMul, Nat.reducePow, Nat.reduceSub, reduceCtorEq, reduceIte, IntKind.bits.eq_def, ti, tin]) | (simp (disch := omega) only [w64, wu64, wu32, Nat.min_eq_left]) | (with_reducible first | refine cF (mk) ?_ | refine dF (mk) ?_) | (with_reducible first | refine cF (mu) ?_ | refine dF (mu) ?_) | (refine aL ti_ok ?_) | (refine dL ti_ok ?_) | (refine dE (by kernel_rfl) ?_) | ((first | refine cC ?_ ?_ | refine gS ?_ ?_ | refine dS ?_ ?_) <;> intro hc <;> first | (exfalso; simp only [dcT, dcF, bnT, bnF, bnU, bnV] at hc; omega) | (simp only [hc]; try simp only [dcT, dcF, bnT, bnF, bnU, bnV] at hc)) | (refine aN (by omega) ?_) | (refine dN (by omega) ?_))
  all_goals exact fin_same trivial rfl

/-! ### the document's example -/
def hA : List (List RD) := [[can (nrm 1 1)]]
def hD : List (List RD) := [[RD.zero]]
def hW : List RD := [can (Dy.int 1)]
theorem half_ok1 {p : Nat} {x : RD} (h : okR p x) : okV p [x] := fun i => by
  match i with
  | 0 => exact h
  | i + 1 => exact okR_zero _
theorem half_ok2 {p : Nat} {x : RD} (h : okR p x) : okM p [[x]] := fun i => by
  match i with
  | 0 => exact half_ok1 h
  | i + 1 => exact fun j => okR_zero _
theorem half_ck : ckT hA hD hW = 0 := by decide +kernel
theorem half_make : makeD 1 (dyM hA) (dyM hD) (dyV hW) = some (Dy.int 4, Dy.int 5) := by decide +kernel
theorem half_ckC : ckC hA hD hW (1 : Nat) [can (Dy.int 4)] [can (Dy.int 5)] = 0 := by decide +kernel
theorem half_acc : acceptsD 1 (dyM hA) (dyM hD) (dyV hW) (dyV [can (Dy.int 4)]) (dyV [can (Dy.int 5)]) = true := by decide +kernel
theorem half_oa : okM 64 hA := half_ok2 (okR_can (mg_make (by omega)) (by omega))
theorem half_od : okM 64 hD := half_ok2 (okR_zero _)
theorem half_ow {q : Nat} (h : 64 ≤ q) (h2 : q ≤ 200000) : okV q hW := half_ok1 (okR_can ((Mg.int (by decide : (1 : Int).natAbs < 2 ^ 64)).mono h) (by omega))
theorem law18_half  : CallOK Tryd.prog gl 26 [] (.agg [.sl 1 (mrows hA), .sl 1 (mrows hD), .sl 3 (vrows hW)]) := by
  refine call_ok (C := ⟨Tryd.prog, gl, ti, 16, false⟩) ti_ok mixed 3000 Tryd.call26 Tryd.func26 rfl Tryd.ntmps26 (by simp) byClL byCl ?_
  rw [Tryd.results26]
  have mk := ref_Make 1 1 (by omega) (by omega)
  have h1 : ((1 : Nat) : Int) = 1 := rfl
  rw [h1] at mk
  have of := ref_Of 1 (by omega)
  unfold hA hD hW
  generalize nrm 1 1 = x at *
  generalize Dy.int 1 = y at *
  repeat' (first | (simp only [go_sem, Int.reduceAdd, Int.reduceEq, Int.reduceLE, Int.reduceLT, Int.reduceMul, Int.reduceNeg, Int.reducePow, Int.reduceSub, Int.reduceToNat, Nat.reduceAdd, Nat.reduceBEq, Nat.reduceEqDiff, Nat.reduceLT, Nat.reduceLeDiff, Nat.reduceMul, Nat.reducePow, Nat.reduceSub, reduceCtorEq, reduceIte, IntKind.bits.eq_def, ti, tin]) | (simp (disch := omega) only [w64, wu64, wu32, Nat.min_eq_left]) | (with_reducible first | refine cF (mk) ?_ | refine dF (mk) ?_) | (with_reducible first | refine cF (of) ?_ | refine dF (of) ?_) | (refine aL ti_ok ?_) | (refine dL ti_ok ?_) | (refine dE (by kernel_rfl) ?_) | ((first | refine cC ?_ ?_ | refine gS ?_ ?_ | refine dS ?_ ?_) <;> intro hc <;> first | (exfalso; simp only [dcT, dcF, bnT, bnF, bnU, bnV] at hc; omega) | (simp only [hc]; try simp only [dcT, dcF, bnT, bnF, bnU, bnV] at hc)) | (refine aN (by omega) ?_) | (refine dN (by omega) ?_))
  exact fin_le trivial (Le.agg (.cons (.refl _) (.cons (Le.sl (.cons (.cons (Le.sl (.cons LeL.dy0 .nil)) .nil) .nil)) (.cons (.refl _) .nil))))
theorem awake18  : CallOK Tryd.prog gl 9 [] (.v (.bool (true))) := by
  refine call_ok (C := ⟨Tryd.prog, gl, ti, 57, false⟩) ti_ok mixed 3000 Tryd.call9 Tryd.func9 rfl Tryd.ntmps9 (by simp) byClL byCl ?_
  rw [Tryd.results9]
  have hf := law18_half
  have mk := tub_Make hA hD hW 1 64 1 (by omega) half_oa half_od (half_ow (Nat.le_refl _) (by omega)) half_ck rfl (by omega) (by omega)
  rw [half_make] at mk
  have mk : CallOK Tryd.prog gl 18 [.agg [.sl 1 (mrows hA), .sl 1 (mrows hD), .sl 3 (vrows hW)], .v (.int .i64 1)] (.tup [.agg [.v (.int .i64 1), .sl 3 [[.v (.bool (sg (Dy.int 4))), .sl 1 (u32s (ms (Dy.int 4))), .v (.int .i64 (dn (Dy.int 4)))]], .sl 3 [[.v (.bool (sg (Dy.int 5))), .sl 1 (u32s (ms (Dy.int 5))), .v (.int .i64 (dn (Dy.int 5)))]]], .v (.bool true), .v .nilIface]) := mk
  have o4 : okV 200 [can (Dy.int 4)] := half_ok1 (okR_can ((Mg.int (by decide : (4 : Int).natAbs < 2 ^ 64)).mono (by omega)) (by omega))
  have o5 : okV 200 [can (Dy.int 5)] := half_ok1 (okR_can ((Mg.int (by decide : (5 : Int).natAbs < 2 ^ 64)).mono (by omega)) (by omega))
  have ac := tub_Accepts hA hD hW [can (Dy.int 4)] [can (Dy.int 5)] 1 64 200 1 (tubOK_of (by omega) (by omega) half_oa half_od (half_ow (by omega) (by omega)) o4 o5 half_ckC) half_ckC
  rw [half_acc] at ac
  have ac : CallOK Tryd.prog gl 13 [.agg [.sl 1 (mrows hA), .sl 1 (mrows hD), .sl 3 (vrows hW)], .agg [.v (.int .i64 1), .sl 3 [[.v (.bool (sg (Dy.int 4))), .sl 1 (u32s (ms (Dy.int 4))), .v (.int .i64 (dn (Dy.int 4)))]], .sl 3 [[.v (.bool (sg (Dy.int 5))), .sl 1 (u32s (ms (Dy.int 5))), .v (.int .i64 (dn (Dy.int 5)))]]]] (.tup [.v (.bool true), .v .nilIface]) := ac
  have f4 := ref_Of 4 (by omega)
  have f5 := ref_Of 5 (by omega)
  have s4 := ref_Same (Dy.int 4) (Dy.int 4) (by decide +kernel) (by decide +kernel)
  have s5 := ref_Same (Dy.int 5) (Dy.int 5) (by decide +kernel) (by decide +kernel)
  rw [decide_eq_true rfl] at s4 s5
  clear o4 o5
  generalize hA = A at *
  generalize hD = D at *
  generalize hW = W at *
  generalize Dy.int 4 = y4 at *
  generalize Dy.int 5 = y5 at *
  repeat' (first | (simp only [go_sem, Int.reduceAdd, Int.reduceEq, Int.reduceLE, Int.reduceLT, Int.reduceMul, Int.reduceNeg, Int.reducePow, Int.reduceSub, Int.reduceToNat, Nat.reduceAdd, Nat.reduceBEq, Nat.reduceEqDiff, Nat.reduceLT, Nat.reduceLeDiff, Nat.reduceMul, Nat.reducePow, Nat.reduceSub, reduceCtorEq, reduceIte, IntKind.bits.eq_def, ti, tin]) | (simp (disch := omega) only [w64, wu64, wu32, Nat.min_eq_left]) | (with_reducible first | refine cF (hf) ?_ | refine dF (hf) ?_) | (with_reducible first | refine cF (mk) ?_ | refine dF (mk) ?_) | (with_reducible first | refine cF (ac) ?_ | refine dF (ac) ?_) | (with_reducible first | refine cF (f4) ?_ | refine dF (f4) ?_) | (with_reducible first | refine cF (f5) ?_ | refine dF (f5) ?_) | (with_reducible first | refine cF (s4) ?_ | refine dF (s4) ?_) | (with_reducible first | refine cF (s5) ?_ | refine dF (s5) ?_) | (refine aL ti_ok ?_) | (refine dL ti_ok ?_) | (refine dE (by kernel_rfl) ?_) | ((first | refine cC ?_ ?_ | refine gS ?_ ?_ | refine dS ?_ ?_) <;> intro hc <;> first | (exfalso; simp only [dcT, dcF, bnT, bnF, bnU, bnV] at hc; omega) | (simp only [hc]; try simp only [dcT, dcF, bnT, bnF, bnU, bnV] at hc)) | (refine aN (by omega) ?_) | (refine dN (by omega) ?_))
  all_goals exact fin_same trivial rfl
end Go.Proofs.YtpggiabnhodjpaaDoor
