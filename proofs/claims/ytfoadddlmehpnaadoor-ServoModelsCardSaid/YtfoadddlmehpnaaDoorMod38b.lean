/- Layer 38 (servo): Model. -/
import Derived.Test.YtfoadddlmehpnaaDoorMod38
import Derived.Test.YtfoadddlmehpnaaDoorRef9
import Derived.Test.YtfoadddlmehpnaaDoorU3
set_option linter.unusedSimpArgs false
set_option linter.unusedVariables false
set_option linter.deprecated false
namespace Go.Proofs.YtfoadddlmehpnaaDoor
open Go Go.Ax
set_option maxRecDepth 100000
set_option maxHeartbeats 8000000

abbrev rpD (x : Dy) : AV := .rp [.v (.bool (sg x)), .sl 1 (u32s (ms x)), .v (.int .i64 (dn x))]
def m38w (g h a : Dy) (sh dist : Int) : Dy := (tms [g.add h, (a.shift (sh + 1)).add (Dy.int 1)]).add (Dy.int dist)
def m38A (g a b k : Dy) : List (List Dy) := [[(Dy.int 1).sub (tms [g, a, k]), (Dy.int 1).sub (tms [g, a]), g], [(tms [g, a, k]).neg, (Dy.int 1).sub (tms [g, a]), g], [(tms [b, k]).neg, b.neg, Dy.int 1]]
def m38D (h a k : Dy) : List (List Dy) := [[tms [h, a, k], tms [h, a], h], [tms [h, a, k], tms [h, a], h], [Dy.zero, Dy.zero, Dy.zero]]
def m38W (g h a b : Dy) (sh dist : Int) : List Dy := [m38w g h a sh dist, m38w g h a sh dist, b.shift (sh + 1)]
theorem mg_sh {x : Dy} (h : Mg 64 x) {sh : Int} (hs : 0 ≤ sh ∧ sh ≤ 30) : Mg 96 (x.shift (sh + 1)) := (h.shift (sh + 1)).mono (by unfold clipD; omega)
theorem sh_mul {x : Dy} {sh : Int} (hs : 0 ≤ sh ∧ sh ≤ 30) : tms [x, Dy.int (2 * 2 ^ sh.toNat)] = x.shift (sh + 1) := by
  show ((Dy.int 1).mul x).mul _ = _
  rw [one_mul]
  apply Dy.ext_v
  obtain ⟨n, rfl⟩ : ∃ n : Nat, sh = n := ⟨sh.toNat, by omega⟩
  have e := v_shift_pos (x := x) (j := n + 1) (by omega)
  rw [show ((n + 1 : Nat) : Int) = (n : Int) + 1 by omega] at e
  rw [e, Dy.v_mul_of _ _ (by have := x.ok.1; simp only [Dy.int]; omega), Dy.v_int, Int.toNat_natCast, Rat.intCast_mul, p2int]
  have : (2 : Rat) ^ (n + 1) = 2 * 2 ^ n := by grind
  rw [this]
  rfl
theorem svt1 (x : Dy) (h : Mg 128 x) : CallOK Tryd.prog gl 67 [.sl 3 [crow x]] (.agg (crow x)) := by
  have := sv_times [x] (by simp) (by simp only [List.mem_cons, List.not_mem_nil, or_false]; rintro y rfl; assumption)
  rw [tms1] at this
  simp only [vrows, List.map_cons, List.map_nil, vrow_can] at this
  exact this
theorem svt2 (x y : Dy) (h : Mg 128 x) (h' : Mg 128 y) : CallOK Tryd.prog gl 67 [.sl 3 [crow x, crow y]] (.agg (crow (tms [x, y]))) := by
  have := sv_times [x, y] (by simp) (by simp only [List.mem_cons, List.not_mem_nil, or_false]; rintro z (rfl | rfl) <;> assumption)
  simp only [vrows, List.map_cons, List.map_nil, vrow_can] at this
  exact this
theorem svt3 (x y z : Dy) (h : Mg 128 x) (h' : Mg 128 y) (h'' : Mg 128 z) : CallOK Tryd.prog gl 67 [.sl 3 [crow x, crow y, crow z]] (.agg (crow (tms [x, y, z]))) := by
  have := sv_times [x, y, z] (by simp) (by simp only [List.mem_cons, List.not_mem_nil, or_false]; rintro w (rfl | rfl | rfl) <;> assumption)
  simp only [vrows, List.map_cons, List.map_nil, vrow_can] at this
  exact this
theorem rft2 (x y : Dy) (h : Mg 128 x) (h' : Mg 128 y) : CallOK Tryd.prog gl 72 [.sl 3 [crow x, crow y]] (.agg (crow (tms [x, y]))) := by
  have := ref38_times [x, y] (by simp) (by simp only [List.mem_cons, List.not_mem_nil, or_false]; rintro z (rfl | rfl) <;> assumption)
  simp only [vrows, List.map_cons, List.map_nil, vrow_can] at this
  exact this
theorem rft3 (x y z : Dy) (h : Mg 128 x) (h' : Mg 128 y) (h'' : Mg 128 z) : CallOK Tryd.prog gl 72 [.sl 3 [crow x, crow y, crow z]] (.agg (crow (tms [x, y, z]))) := by
  have := ref38_times [x, y, z] (by simp) (by simp only [List.mem_cons, List.not_mem_nil, or_false]; rintro w (rfl | rfl | rfl) <;> assumption)
  simp only [vrows, List.map_cons, List.map_nil, vrow_can] at this
  exact this
theorem mg_t2 {x y : Dy} (h : Mg 128 x) (h' : Mg 128 y) : Mg 1024 (tms [x, y]) := tms_of (by simp only [List.mem_cons, List.not_mem_nil, or_false]; rintro z (rfl | rfl) <;> assumption) (by simp)
theorem mg_t3 {x y z : Dy} (h : Mg 128 x) (h' : Mg 128 y) (h'' : Mg 128 z) : Mg 1024 (tms [x, y, z]) := tms_of (by simp only [List.mem_cons, List.not_mem_nil, or_false]; rintro w (rfl | rfl | rfl) <;> assumption) (by simp)
theorem sv_push (a g h : Dy) (kv sh kp ki lo hi dist : Int) (ga : Mg 64 a) (gg : Mg 64 g) (gh : Mg 64 h) (hs : 0 ≤ sh ∧ sh ≤ 30) (hd : 0 ≤ dist ∧ dist ≤ 1099511627776) : CallOK Tryd.prog gl 68 [rpD a, .rp [.v (.int .i64 kv), .v (.int .i64 sh), .v (.int .i64 kp), .v (.int .i64 ki), .v (.int .i64 lo), .v (.int .i64 hi)], rpD (Dy.int 1), rpD g, rpD h, .rp [.v (.int .i64 dist)]] (.agg [.v (.bool (sg (m38w g h a sh dist))), .sl 1 (u32s (ms (m38w g h a sh dist))), .v (.int .i64 (dn (m38w g h a sh dist)))]) := by
  refine call_ok (C := ⟨Tryd.prog, gl, ti, 24, false⟩) ti_ok mixed 3000 Tryd.call68 Tryd.func68 rfl Tryd.ntmps68 (by simp) byClL byCl ?_
  rw [Tryd.results68]
  have i1 : Mg 64 (Dy.int 1) := Mg.int (by decide)
  have s1 := Shift_ok _ _ _ (sh + 1) _ (ga.arg)
  have ms1 := mg_sh ga hs
  have a1 := Add_ok _ _ _ _ _ _ _ _ ms1.arg i1.arg
  have ma1 := ms1.add (i1.mono (show 64 ≤ 96 by omega))
  have a2 := Add_ok _ _ _ _ _ _ _ _ gg.arg gh.arg
  have ma2 := gg.add gh
  have t1 := svt2 _ _ (ma2.mono (show 64 + 1 ≤ 128 by omega)) (ma1.mono (show 96 + 1 ≤ 128 by omega))
  have mt1 := mg_t2 (ma2.mono (show 64 + 1 ≤ 128 by omega)) (ma1.mono (show 96 + 1 ≤ 128 by omega))
  have o1 := Of_ok dist (by omega)
  have mo : Mg 64 (Dy.int dist) := Mg.int (by omega)
  have a3 := Add_ok _ _ _ _ _ _ _ _ mt1.arg mo.arg
  unfold m38w
  clear ms1 ma1 ma2 mt1 mo i1 ga gg gh
  generalize tms [g.add h, (a.shift (sh + 1)).add (Dy.int 1)] = x1 at *
  generalize (a.shift (sh + 1)).add (Dy.int 1) = x2 at *
  generalize a.shift (sh + 1) = x3 at *
  generalize g.add h = x4 at *
  generalize x1.add (Dy.int dist) = x5 at *
  generalize Dy.int dist = x6 at *
  generalize Dy.int 1 = x7 at *
  unfold crow at t1
  repeat' (first
    | (simp only [go_sem, Int.reduceAdd, Int.reduceEq, Int.reduceLE, Int.reduceLT, Int.reduceMul, Int.reduceNeg, Int.reducePow, Int.reduceSub, Int.reduceToNat, Nat.reduceAdd, Nat.reduceBEq, Nat.reduceEqDiff, Nat.reduceLT, Nat.reduceLeDiff, Nat.reduceMul, Nat.reducePow, Nat.reduceSub, reduceCtorEq, reduceIte, IntKind.bits.eq_def, ti, tin])
    | (simp (disch := omega) only [w64, wu64, wu32, Nat.min_eq_left])
    | (with_reducible refine callF_of (s1) ?_)
    | (with_reducible refine drawF_of (s1) ?_)
    | (with_reducible refine callF_of (a1) ?_)
    | (with_reducible refine drawF_of (a1) ?_)
    | (with_reducible refine callF_of (a2) ?_)
    | (with_reducible refine drawF_of (a2) ?_)
    | (with_reducible refine callF_of (t1) ?_)
    | (with_reducible refine drawF_of (t1) ?_)
    | (with_reducible refine callF_of (o1) ?_)
    | (with_reducible refine drawF_of (o1) ?_)
    | (with_reducible refine callF_of (a3) ?_)
    | (with_reducible refine drawF_of (a3) ?_)
    | (refine after_lit ti_ok ?_)
    | (refine drawAfter_lit ti_ok ?_)
    | (refine drawEnd_of (by kernel_rfl) ?_)
    | ((first | refine cond_cases (fun hc => ?_) (fun hc => ?_) | refine guard_split (fun hc => ?_) (fun hc => ?_) | refine drawGuard_split (fun hc => ?_) (fun hc => ?_)) <;> first | (exfalso; simp only [decide_eq_true_eq, decide_eq_false_iff_not, Bool.not_eq_true, Bool.not_eq_false, Bool.not_eq_true', Bool.not_eq_false'] at hc; omega) | (simp only [hc]; try simp only [decide_eq_true_eq, decide_eq_false_iff_not, Bool.not_eq_true, Bool.not_eq_false, Bool.not_eq_true', Bool.not_eq_false'] at hc))
    | (refine after_need (by omega) ?_)
    | (refine drawAfter_need (by omega) ?_))
  exact fin_same trivial rfl
end Go.Proofs.YtfoadddlmehpnaaDoor
