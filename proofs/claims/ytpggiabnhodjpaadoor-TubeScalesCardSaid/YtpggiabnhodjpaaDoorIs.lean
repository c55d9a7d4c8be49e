/- The statements on layer 18: arguments that are short; what all functions answer. -/
import Derived.Test.YtpggiabnhodjpaaDoorT18c
import Derived.Test.YtpggiabnhodjpaaDoorNum
set_option linter.unusedSimpArgs false
set_option linter.unusedVariables false
set_option linter.deprecated false
namespace Go.Proofs.YtpggiabnhodjpaaDoor
open Go Go.Ax
set_option maxRecDepth 100000
set_option maxHeartbeats 4000000

structure In18 (a dv : List (List RD)) (w : List RD) : Prop where
  la : a.length ≤ 10
  ld : dv.length ≤ 10
  lw : w.length ≤ 10
  oa : okM 64 a
  fa : fine 40 (dyM a)
  od : okM 64 dv
  fd : fine 40 (dyM dv)
  ow : okV 64 w
  fw : fineV 40 (dyV w)
  kd : ∀ l ∈ dv, l.length ≤ 1000 ∧ ∀ r ∈ l, r.ok
  few : ¬ ckT a dv w = 0 ∨ a.length ≤ 3
structure InC (inner outer : List RD) : Prop where
  li : inner.length ≤ 10
  lo : outer.length ≤ 10
  oi : okV 64 inner
  fi : fineV 40 (dyV inner)
  oo : okV 64 outer
  fo : fineV 40 (dyV outer)
theorem in18_of {a dv : List (List RD)} {w : List RD} (ga : argM a) (gd : argM dv) (gw : argV w) (h : lightP a dv w) : In18 a dv w := by
  have oa := brief_okM ga h.1.2.1
  have od := brief_okM gd h.1.2.2
  have ow := brief_okV gw h.1.1.2.2
  refine ⟨h.1.1.1, h.1.1.2.1, h.1.1.2.2.1, oa.1, oa.2, od.1, od.2, ow.1, ow.2, fun l hl => ?_, h.2⟩
  obtain ⟨i, hi, rfl⟩ := List.getElem_of_mem hl
  have e := h.1.2.2 i hi
  have e2 := okV_all (od.1 i)
  rw [List.getD, List.getElem?_eq_getElem hi] at e e2
  exact ⟨by have := e.1; simp only [Option.getD_some] at this; omega, e2⟩
theorem inC_of {K : Int} {inner outer : List RD} (gi : argV inner) (go : argV outer) (h : shortP K inner outer) : InC inner outer := by
  have oi := brief_okV gi h.1
  have oo := brief_okV go h.2.1
  exact ⟨h.1.1, h.2.1.1, oi.1, oi.2, oo.1, oo.2⟩
section
variable {a dv : List (List RD)} {w inner outer : List RD}
theorem In18.kd' (h : In18 a dv w) : ∀ l ∈ dv, l.length ≤ 4611686018427387904 ∧ ∀ r ∈ l, r.ok := fun l hl => ⟨Nat.le_trans (h.kd l hl).1 (by decide), (h.kd l hl).2⟩
theorem In18.check (h : In18 a dv w) : CallOK Tryd.prog gl 16 [.agg [.sl 1 (mrows a), .sl 1 (mrows dv), .sl 3 (vrows w)]] (.v (.int .i64 (ckT a dv w))) := by
  have := h.la; have := h.ld; have := h.lw
  exact r18_Check a dv w (by omega) (by omega) (by omega) h.kd (okV_all h.ow)
theorem In18.checkC (h : In18 a dv w) (g : InC inner outer) (K : Int) : CallOK Tryd.prog gl 8 [.agg [.sl 1 (mrows a), .sl 1 (mrows dv), .sl 3 (vrows w)], .agg [.v (.int .i64 K), .sl 3 (vrows inner), .sl 3 (vrows outer)]] (.v (.int .i64 (ckC a dv w K inner outer))) := by
  have := h.la; have := h.ld; have := h.lw; have := g.li; have := g.lo
  exact r18_CheckCert a dv w inner outer K (by omega) (by omega) (by omega) (by omega) (by omega) h.kd (okV_all h.ow) (okV_all g.oi) (okV_all g.oo)
theorem In18.tcheck (h : In18 a dv w) : CallOK Tryd.prog gl 20 [.agg [.sl 1 (mrows a), .sl 1 (mrows dv), .sl 3 (vrows w)]] (.v (eV (ckT a dv w))) := by
  have := h.la; have := h.ld; have := h.lw
  exact tub_Check a dv w (by omega) (by omega) (by omega) h.kd' (okV_all h.ow)
theorem In18.tcheckC (h : In18 a dv w) (g : InC inner outer) (K : Int) : CallOK Tryd.prog gl 21 [.agg [.sl 1 (mrows a), .sl 1 (mrows dv), .sl 3 (vrows w)], .agg [.v (.int .i64 K), .sl 3 (vrows inner), .sl 3 (vrows outer)]] (.v (eV (ckC a dv w K inner outer))) := by
  have := h.la; have := h.ld; have := h.lw; have := g.li; have := g.lo
  exact tub_CheckCert a dv w inner outer K (by omega) (by omega) (by omega) (by omega) (by omega) h.kd' (okV_all h.ow) (okV_all g.oi) (okV_all g.oo)
theorem In18.tok (h : In18 a dv w) (g : InC inner outer) {K : Int} (hc : ckC a dv w K inner outer = 0) : TubOK 64 64 a.length a dv w inner outer := tubOK_of (by omega) (by omega) h.oa h.od h.ow g.oi g.oo hc
theorem In18.acc (h : In18 a dv w) (g : InC inner outer) (K : Nat) (hc : ckC a dv w K inner outer = 0) : CallOK Tryd.prog gl 13 [.agg [.sl 1 (mrows a), .sl 1 (mrows dv), .sl 3 (vrows w)], .agg [.v (.int .i64 K), .sl 3 (vrows inner), .sl 3 (vrows outer)]] (.tup [.v (.bool (acceptsD K (dyM a) (dyM dv) (dyV w) (dyV inner) (dyV outer))), .v .nilIface]) :=
  tub_Accepts a dv w inner outer K 64 64 a.length (h.tok g hc) hc
theorem In18.acce (h : In18 a dv w) (g : InC inner outer) (K : Int) (hc : ckC a dv w K inner outer ≠ 0) : CallOK Tryd.prog gl 13 [.agg [.sl 1 (mrows a), .sl 1 (mrows dv), .sl 3 (vrows w)], .agg [.v (.int .i64 K), .sl 3 (vrows inner), .sl 3 (vrows outer)]] (.tup [.v (.bool false), .v (eV (ckC a dv w K inner outer))]) := by
  have := h.la; have := h.ld; have := h.lw; have := g.li; have := g.lo
  exact tub_Accepts_err a dv w inner outer K (by omega) (by omega) (by omega) (by omega) (by omega) h.kd' (okV_all h.ow) (okV_all g.oi) (okV_all g.oo) hc
theorem In18.rche (h : In18 a dv w) (g : InC inner outer) (K j : Int) (hc : ckC a dv w K inner outer ≠ 0) : CallOK Tryd.prog gl 17 [.agg [.sl 1 (mrows a), .sl 1 (mrows dv), .sl 3 (vrows w)], .agg [.v (.int .i64 K), .sl 3 (vrows inner), .sl 3 (vrows outer)], .v (.int .i64 j)] (.tup [.v (.slice none 0 0), .v (eV (ckC a dv w K inner outer))]) := by
  have := h.la; have := h.ld; have := h.lw; have := g.li; have := g.lo
  exact tub_Reach_err a dv w inner outer K j (by omega) (by omega) (by omega) (by omega) (by omega) h.kd' (okV_all h.ow) (okV_all g.oi) (okV_all g.oo) hc
theorem In18.mke (h : In18 a dv w) (k : Int) (hc : ckT a dv w ≠ 0) : CallOK Tryd.prog gl 18 [.agg [.sl 1 (mrows a), .sl 1 (mrows dv), .sl 3 (vrows w)], .v (.int .i64 k)] (.tup [.agg [.v (.int .i64 0), .v (.slice none 0 0), .v (.slice none 0 0)], .v (.bool false), .v (eV (ckT a dv w))]) := by
  have := h.la; have := h.ld; have := h.lw
  exact tub_Make_err a dv w k (by omega) (by omega) (by omega) h.kd' (okV_all h.ow) hc
theorem In18.mkk (h : In18 a dv w) (k : Int) (hc : ckT a dv w = 0) (hk : k < 1 ∨ 32 < k) : CallOK Tryd.prog gl 18 [.agg [.sl 1 (mrows a), .sl 1 (mrows dv), .sl 3 (vrows w)], .v (.int .i64 k)] (.tup [.agg [.v (.int .i64 0), .v (.slice none 0 0), .v (.slice none 0 0)], .v (.bool false), .v (eV 3)]) := by
  have := h.la; have := h.ld; have := h.lw
  exact tub_Make_k a dv w k (by omega) (by omega) (by omega) h.kd' (okV_all h.ow) hc hk
theorem In18.mko (h : In18 a dv w) (k : Nat) (hc : ckT a dv w = 0) (h1 : 1 ≤ k) (h2 : k ≤ 32) : CallOK Tryd.prog gl 18 [.agg [.sl 1 (mrows a), .sl 1 (mrows dv), .sl 3 (vrows w)], .v (.int .i64 k)] (.tup [certAV k a.length (makeD k (dyM a) (dyM dv) (dyV w)), .v (.bool (makeD k (dyM a) (dyM dv) (dyV w)).isSome), .v .nilIface]) :=
  tub_Make a dv w k 64 a.length (by omega) h.oa h.od h.ow hc rfl h1 h2
end
theorem num_eV (e : Int) : CallOK Tryd.prog gl 19 [.v (eV e)] (.v (.int .i64 e)) := by
  unfold eV
  by_cases h : e = 0
  · rw [if_pos h, h]; exact base_Num_nil
  · rw [if_neg h]; exact base_Num e
theorem same_row0 : CallOK Tryd.prog gl 48 [.v (.slice none 0 0), .v (.slice none 0 0)] (.v (.bool true)) := by
  have h := ref_SameRow [] [] (by simp) (by simp) (fun x hx => by cases hx) (fun x hx => by cases hx)
  rw [decide_eq_true rfl] at h
  exact h.le (.cons (Le.nil 3) (.cons (Le.nil 3) .nil)) (fun x hx => by
    simp only [List.mem_cons, List.not_mem_nil, or_false] at hx
    rcases hx with rfl | rfl <;> exact Cl.v _)
theorem same_cert0  : CallOK Tryd.prog gl 23 [.agg [.v (.int .i64 0), .v (.slice none 0 0), .v (.slice none 0 0)], .agg [.v (.int .i64 0), .v (.slice none 0 0), .v (.slice none 0 0)]] (.v (.bool (true))) := by
  refine call_ok (C := ⟨Tryd.prog, gl, ti, 24, false⟩) ti_ok mixed 3000 Tryd.call23 Tryd.func23 rfl Tryd.ntmps23 (by simp) byClL byCl ?_
  rw [Tryd.results23]
  have s := same_row0
  repeat' (first | (simp only [go_sem, Int.reduceAdd, Int.reduceEq, Int.reduceLE, Int.reduceLT, Int.reduceMul, Int.reduceNeg, Int.reducePow, Int.reduceSub, Int.reduceToNat, Nat.reduceAdd, Nat.reduceBEq, Nat.reduceEqDiff, Nat.reduceLT, Nat.reduceLeDiff, Nat.reduceMul, Nat.reducePow, Nat.reduceSub, reduceCtorEq, reduceIte, IntKind.bits.eq_def, ti, tin]) | (simp (disch := omega) only [w64, wu64, wu32, Nat.min_eq_left]) | (with_reducible first | refine cF (s) ?_ | refine dF (s) ?_) | (refine aL ti_ok ?_) | (refine dL ti_ok ?_) | (refine dE (by kernel_rfl) ?_) | ((first | refine cC ?_ ?_ | refine gS ?_ ?_ | refine dS ?_ ?_) <;> intro hc <;> first | (exfalso; simp only [dcT, dcF, bnT, bnF, bnU, bnV] at hc; omega) | (simp only [hc]; try simp only [dcT, dcF, bnT, bnF, bnU, bnV] at hc)) | (refine aN (by omega) ?_) | (refine dN (by omega) ?_))
  all_goals exact fin_same trivial rfl
end Go.Proofs.YtpggiabnhodjpaaDoor
/- The base: Is. -/
set_option linter.unusedSimpArgs false
set_option linter.unusedVariables false
set_option linter.deprecated false
namespace Go.Proofs.YtpggiabnhodjpaaDoor
open Go Go.Ax
set_option maxRecDepth 100000
set_option maxHeartbeats 4000000

theorem base_Is (n m : Int) : CallOK Tryd.prog gl 22 [.v (.iface 57 (.int .i64 (n))), .v (.int .i64 m)] (.v (.bool ((decide (n = m))))) := by
  refine call_ok (C := ⟨Tryd.prog, gl, ti, 18, false⟩) ti_ok mixed 3000 Tryd.call22 Tryd.func22 rfl Tryd.ntmps22 (by simp) byClL byCl ?_
  rw [Tryd.results22]
  repeat' (first | (simp only [go_sem, Int.reduceAdd, Int.reduceEq, Int.reduceLE, Int.reduceLT, Int.reduceMul, Int.reduceNeg, Int.reducePow, Int.reduceSub, Int.reduceToNat, Nat.reduceAdd, Nat.reduceBEq, Nat.reduceEqDiff, Nat.reduceLT, Nat.reduceLeDiff, Nat.reduceMul, Nat.reducePow, Nat.reduceSub, reduceCtorEq, reduceIte, IntKind.bits.eq_def, ti, tin]) | (simp (disch := omega) only [w64, wu64, wu32, Nat.min_eq_left]) | (refine aL ti_ok ?_) | (refine dL ti_ok ?_) | (refine dE (by kernel_rfl) ?_) | ((first | refine cC ?_ ?_ | refine gS ?_ ?_ | refine dS ?_ ?_) <;> intro hc <;> first | (exfalso; simp only [dcT, dcF, bnT, bnF, bnU, bnV] at hc; omega) | (simp only [hc]; try simp only [dcT, dcF, bnT, bnF, bnU, bnV] at hc)) | (refine aN (by omega) ?_) | (refine dN (by omega) ?_))
  all_goals exact fin_same trivial rfl
end Go.Proofs.YtpggiabnhodjpaaDoor
