/- The statements on layer 2: short numbers, by one, two and three. -/
import Derived.Test.YtppdgooakleakaaDoorL02
set_option linter.unusedSimpArgs false
set_option linter.unusedVariables false
set_option linter.deprecated false
namespace Go.Proofs.YtppdgooakleakaaDoor
open Go Go.Ax
set_option maxRecDepth 100000
set_option maxHeartbeats 4000000

def okR (r : RD) : Prop := Wd r.ws ∧ r.ws.length ≤ 9223372036854775807
theorem few02_1 (s : Bool) (ws : List Nat) (d : Int) (hl : ws.length ≤ 9223372036854775807) : CallOK Tryd.prog gl 20 [.sl 3 [[.v (.bool s), .sl 1 (u32s ws), .v (.int .i64 d)]]] (.v (.bool (decide (fewR ⟨s, ws, d⟩)))) := by
  have h := few02 [⟨s, ws, d⟩] (by simp) (fun r hr => by simp at hr; subst hr; exact hl)
  rw [show decide (∀ i, i < [RD.mk s ws d].length → fewR ([RD.mk s ws d].getD i RD.zero)) = decide (fewR ⟨s, ws, d⟩) from decide_eq_decide.2 ⟨fun h => h 0 (by simp), fun h i hi => by
    match i, hi with
    | 0, _ => exact h⟩] at h
  exact h
theorem few02_2 (s : Bool) (ws : List Nat) (d : Int) (s' : Bool) (ws' : List Nat) (d' : Int) (hl : ws.length ≤ 9223372036854775807) (hl' : ws'.length ≤ 9223372036854775807) : CallOK Tryd.prog gl 20 [.sl 3 [[.v (.bool s), .sl 1 (u32s ws), .v (.int .i64 d)], [.v (.bool s'), .sl 1 (u32s ws'), .v (.int .i64 d')]]] (.v (.bool (decide (fewR ⟨s, ws, d⟩ ∧ fewR ⟨s', ws', d'⟩)))) := by
  have h := few02 [⟨s, ws, d⟩, ⟨s', ws', d'⟩] (by simp) (fun r hr => by simp at hr; rcases hr with rfl | rfl; exact hl; exact hl')
  rw [show decide (∀ i, i < [RD.mk s ws d, ⟨s', ws', d'⟩].length → fewR ([RD.mk s ws d, ⟨s', ws', d'⟩].getD i RD.zero)) = decide (fewR ⟨s, ws, d⟩ ∧ fewR ⟨s', ws', d'⟩) from decide_eq_decide.2 ⟨fun h => ⟨h 0 (by simp), h 1 (by simp)⟩, fun h i hi => by
    match i, hi with
    | 0, _ => exact h.1
    | 1, _ => exact h.2⟩] at h
  exact h
theorem few02_3 (s : Bool) (ws : List Nat) (d : Int) (s' : Bool) (ws' : List Nat) (d' : Int) (s'' : Bool) (ws'' : List Nat) (d'' : Int) (hl : ws.length ≤ 9223372036854775807) (hl' : ws'.length ≤ 9223372036854775807) (hl'' : ws''.length ≤ 9223372036854775807) :
    CallOK Tryd.prog gl 20 [.sl 3 [[.v (.bool s), .sl 1 (u32s ws), .v (.int .i64 d)], [.v (.bool s'), .sl 1 (u32s ws'), .v (.int .i64 d')], [.v (.bool s''), .sl 1 (u32s ws''), .v (.int .i64 d'')]]] (.v (.bool (decide (fewR ⟨s, ws, d⟩ ∧ fewR ⟨s', ws', d'⟩ ∧ fewR ⟨s'', ws'', d''⟩)))) := by
  have h := few02 [⟨s, ws, d⟩, ⟨s', ws', d'⟩, ⟨s'', ws'', d''⟩] (by simp) (fun r hr => by simp at hr; rcases hr with rfl | rfl | rfl; exact hl; exact hl'; exact hl'')
  rw [show decide (∀ i, i < [RD.mk s ws d, ⟨s', ws', d'⟩, ⟨s'', ws'', d''⟩].length → fewR ([RD.mk s ws d, ⟨s', ws', d'⟩, ⟨s'', ws'', d''⟩].getD i RD.zero)) = decide (fewR ⟨s, ws, d⟩ ∧ fewR ⟨s', ws', d'⟩ ∧ fewR ⟨s'', ws'', d''⟩) from decide_eq_decide.2 ⟨fun h => ⟨h 0 (by simp), h 1 (by simp), h 2 (by simp)⟩, fun h i hi => by
    match i, hi with
    | 0, _ => exact h.1
    | 1, _ => exact h.2.1
    | 2, _ => exact h.2.2⟩] at h
  exact h

/-- A short number: what it counts as, how large, how fine. -/
theorem few_arg {s : Bool} {ws : List Nat} {d : Int} (hW : Wd ws) (f : fewR ⟨s, ws, d⟩) : ∃ x, Arg s ws d x ∧ Mg 512 x ∧ x.d ≤ 300 := by
  obtain ⟨f1, f2⟩ := f
  simp only at f1 f2
  obtain ⟨x, h⟩ := Arg.get (s := s) (d := d) hW (by omega : ws.length ≤ 68719476736)
  have h1 := h.mg f1
  have h2 := h.den (k := 300) f2 (by omega)
  exact ⟨x, h, h1, by unfold dn at h2; omega⟩
theorem same_ok {k : Nat} {x : Dy} (h : Mg k x) (hk : k ≤ 1099511627776 := by omega) : CallOK Tryd.prog gl 14 [.agg [.v (.bool (sg x)), .sl 1 (u32s (ms x)), .v (.int .i64 (dn x))], .agg [.v (.bool (sg x)), .sl 1 (u32s (ms x)), .v (.int .i64 (dn x))]] (.v (.bool true)) := by
  have hl := (Arg.of h hk).len
  have := ref_Same x x (by omega) (by omega)
  rwa [decide_eq_true rfl] at this
theorem base_Is (n m : Int) : CallOK Tryd.prog gl 25 [.v (.iface 39 (.int .i64 (n))), .v (.int .i64 m)] (.v (.bool ((decide (n = m))))) := by
  refine call_ok (C := ⟨Tryd.prog, gl, ti, 18, false⟩) ti_ok mixed 3000 Tryd.call25 Tryd.func25 rfl Tryd.ntmps25 (by simp) byClL byCl ?_
  rw [Tryd.results25]
  repeat' (first
    | (simp only [go_sem, Int.reduceAdd, Int.reduceEq, Int.reduceLE, Int.reduceLT, Int.reduceMul, Int.reduceNeg, Int.reducePow, Int.reduceSub, Int.reduceToNat, Nat.reduceAdd, Nat.reduceBEq, Nat.reduceEqDiff, Nat.reduceLT, Nat.reduceLeDiff, Nat.reduceMul, Nat.reducePow, Nat.reduceSub, reduceCtorEq, reduceIte, IntKind.bits.eq_def, ti, tin])
    | (simp (disch := omega) only [w64, wu64, wu32, Nat.min_eq_left])
    | (refine after_lit ti_ok ?_)
    | (refine drawAfter_lit ti_ok ?_)
    | (refine drawEnd_of (by kernel_rfl) ?_)
    | ((first | refine cond_cases (fun hc => ?_) (fun hc => ?_) | refine guard_split (fun hc => ?_) (fun hc => ?_) | refine drawGuard_split (fun hc => ?_) (fun hc => ?_)) <;> first | (exfalso; simp only [decide_eq_true_eq, decide_eq_false_iff_not, Bool.not_eq_true, Bool.not_eq_false, Bool.not_eq_true', Bool.not_eq_false'] at hc; omega) | (simp only [hc]; try simp only [decide_eq_true_eq, decide_eq_false_iff_not, Bool.not_eq_true, Bool.not_eq_false, Bool.not_eq_true', Bool.not_eq_false'] at hc))
    | (refine after_need (by omega) ?_)
    | (refine drawAfter_need (by omega) ?_))
  all_goals exact fin_same trivial rfl
theorem base_Is_nil (m : Int) : CallOK Tryd.prog gl 25 [.v .nilIface, .v (.int .i64 m)] (.v (.bool (false))) := by
  refine call_ok (C := ⟨Tryd.prog, gl, ti, 18, false⟩) ti_ok mixed 3000 Tryd.call25 Tryd.func25 rfl Tryd.ntmps25 (by simp) byClL byCl ?_
  rw [Tryd.results25]
  repeat' (first
    | (simp only [go_sem, Int.reduceAdd, Int.reduceEq, Int.reduceLE, Int.reduceLT, Int.reduceMul, Int.reduceNeg, Int.reducePow, Int.reduceSub, Int.reduceToNat, Nat.reduceAdd, Nat.reduceBEq, Nat.reduceEqDiff, Nat.reduceLT, Nat.reduceLeDiff, Nat.reduceMul, Nat.reducePow, Nat.reduceSub, reduceCtorEq, reduceIte, IntKind.bits.eq_def, ti, tin])
    | (simp (disch := omega) only [w64, wu64, wu32, Nat.min_eq_left])
    | (refine after_lit ti_ok ?_)
    | (refine drawAfter_lit ti_ok ?_)
    | (refine drawEnd_of (by kernel_rfl) ?_)
    | ((first | refine cond_cases (fun hc => ?_) (fun hc => ?_) | refine guard_split (fun hc => ?_) (fun hc => ?_) | refine drawGuard_split (fun hc => ?_) (fun hc => ?_)) <;> first | (exfalso; simp only [decide_eq_true_eq, decide_eq_false_iff_not, Bool.not_eq_true, Bool.not_eq_false, Bool.not_eq_true', Bool.not_eq_false'] at hc; omega) | (simp only [hc]; try simp only [decide_eq_true_eq, decide_eq_false_iff_not, Bool.not_eq_true, Bool.not_eq_false, Bool.not_eq_true', Bool.not_eq_false'] at hc))
    | (refine after_need (by omega) ?_)
    | (refine drawAfter_need (by omega) ?_))
  all_goals exact fin_same trivial rfl
theorem base_Is3 : CallOK Tryd.prog gl 25 [.v (.iface 39 (.int .i64 3)), .v (.int .i64 3)] (.v (.bool true)) := base_Is 3 3
end Go.Proofs.YtppdgooakleakaaDoor
