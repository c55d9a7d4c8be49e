/- Layer 38 (servo): the model of the tracking error, and its reference. -/
import Derived.Test.YtpggiabnhodjpaaGreatDoorObsTr
import Derived.Test.YtpggiabnhodjpaaGreatDoorServo
import Derived.Test.YtpggiabnhodjpaaGreatDoorRefB
import Derived.Test.YtpggiabnhodjpaaGreatDoorRefA
import Derived.Test.YtpggiabnhodjpaaGreatDoorU4
set_option linter.unusedSimpArgs false
set_option linter.unusedVariables false
set_option linter.deprecated false
namespace Go.Proofs.YtpggiabnhodjpaaGreatDoor
open Go Go.Ax
set_option maxRecDepth 100000
set_option maxHeartbeats 4000000
def tms (l : List Dy) : Dy := l.foldl Dy.mul (Dy.int 1)
theorem fold_mg : ∀ (l : List Dy) (a : Dy) (j : Nat), Mg j a → (∀ x ∈ l, Mg 128 x) → Mg (j + 128 * l.length) (l.foldl Dy.mul a)
  | [], a, j, h, _ => h
  | x :: l, a, j, h, hl => by
    have := fold_mg l (a.mul x) (j + 128) (h.mul (hl x (List.mem_cons_self ..))) (fun y hy => hl y (List.mem_cons_of_mem _ hy))
    rw [List.foldl_cons, List.length_cons, show j + 128 * (l.length + 1) = j + 128 + 128 * l.length by omega]
    exact this
theorem tms_mg {l : List Dy} (h : ∀ x ∈ l, Mg 128 x) : Mg (64 + 128 * l.length) (tms l) := fold_mg l _ 64 (Mg.int (by decide)) h
theorem tms_step {l : List Dy} {k : Nat} (h : k < l.length) : tms (l.take (k + 1)) = (tms (l.take k)).mul (l.getD k Dy.zero) := by
  unfold tms
  rw [List.take_add_one, List.foldl_append, List.getElem?_eq_getElem h]
  simp [List.getD, h]
theorem tms_take {l : List Dy} (h : ∀ x ∈ l, Mg 128 x) (hl : l.length ≤ 4) (k : Nat) : Mg 1024 (tms (l.take k)) :=
  (tms_mg (l := l.take k) (fun x hx => h x (List.mem_of_mem_take hx))).mono (by rw [List.length_take]; omega)
theorem tms_of {l : List Dy} (h : ∀ x ∈ l, Mg 128 x) (hl : l.length ≤ 4 := by decide) : Mg 1024 (tms l) := (tms_mg h).mono (by omega)
theorem one_mul (x : Dy) : (Dy.int 1).mul x = x := by
  unfold Dy.mul Dy.int
  simp only [Int.one_mul, Nat.zero_add]
  exact nrm_self x
theorem tms1 (x : Dy) : tms [x] = x := one_mul x
theorem sv_times (l : List Dy) (hl : l.length ≤ 4) (hk : ∀ x ∈ l, Mg 128 x) : CallOK Tryz.prog gl 100 [.sl 3 (vrows (l.map can))] (.agg [.v (.bool (sg (tms l))), .sl 1 (u32s (ms (tms l))), .v (.int .i64 (dn (tms l)))]) := by
  refine call_ok (C := ⟨Tryz.prog, gl, ti, 18, false⟩) ti_ok mixed 3000 Tryz.call100 Tryz.func100 rfl Tryz.ntmps100 (by simp) byClL byCl ?_
  rw [Tryz.results100]
  obtain ⟨n, hn⟩ : ∃ n : Nat, l.length = n := ⟨_, rfl⟩
  have o1 := Of_ok 1 (by omega)
  repeat' (first | (simp only [go_sem, seval, IntKind.bits.eq_def, ti, tin, crows_length, hn]) | (simp (disch := omega) only [wA]) | (with_reducible first | refine cF o1 ?_ | refine dF o1 ?_) | refine aL ti_ok ?_ | refine dL ti_ok ?_ | refine dG ?_ | ((first | refine cC ?_ ?_ | refine gS ?_ ?_ | refine dS ?_ ?_) <;> intro hc <;> first | (exfalso; simp only [dcA] at hc; omega) | (simp only [hc]; try simp only [dcA] at hc)) | refine aO ?_ | refine dO ?_)
  refine l_loop (α := Nat) (fun k => ⟨[(2, .p 0 3 0 0), (3, .p 1 3 0 0), (7, .sl 3 (vrows (l.map can))), (8, .v (.int .i64 n)), (9, .v (.int .i64 k))], [(0, ⟨3, [[.v (.bool (false)), .v (.slice none 0 0), .v (.int .i64 0)]]⟩), (1, ⟨3, [[.v (.bool (sg (tms (l.take k)))), .sl 1 (u32s (ms (tms (l.take k)))), .v (.int .i64 (dn (tms (l.take k))))]]⟩)], 2⟩) (fun k => k ≤ n) (fun k => n - k) (0) _ byFresh (fun _ h => by first | (cases h; done) | exact Nat.le_of_ble_eq_true rfl) ?_ ?_ ?_
  · exact Nat.zero_le _
  · exact byWeak
  rintro k hkn
  by_cases hk2 : k < n
  ·
    have rk := crows_getD (l := l) (i := k) (by omega)
    have mk : Mg 128 (l.getD k Dy.zero) := hk _ (mem_getD (by omega))
    have st := tms_step (l := l) (k := k) (by omega)
    have mt := tms_take hk hl k
    have ml := Mul_ok _ _ _ _ _ _ _ _ (mt.arg (by omega)) (mk.arg (by omega))
    rw [← st] at ml
    unfold crow at rk
    clear mt mk st hk
    generalize l.getD k Dy.zero = x at *
    generalize tms (l.take k) = y at *
    obtain ⟨z, hz⟩ : ∃ z, tms (l.take (k + 1)) = z := ⟨_, rfl⟩
    rw [hz] at ml
    repeat' (first | (simp only [go_sem, seval, IntKind.bits.eq_def, ti, tin, crows_length, hn, rk]) | (simp (disch := omega) only [wA]) | (with_reducible first | refine cF ml ?_ | refine dF ml ?_) | refine aL ti_ok ?_ | refine dL ti_ok ?_ | refine dG ?_ | ((first | refine cC ?_ ?_ | refine gS ?_ ?_ | refine dS ?_ ?_) <;> intro hc <;> first | (exfalso; simp only [dcA] at hc; omega) | (simp only [hc]; try simp only [dcA] at hc)) | refine aO ?_ | refine dO ?_)
    rw [← hz]
    refine roundEnd_of (α := Nat) (k + 1) (show k + 1 ≤ n by omega) (by omega) ?_
    exact byWeak
  ·
    have hk3 : l.take k = l := List.take_of_length_le (by omega)
    rw [hk3]
    repeat' (first | (simp only [go_sem, seval, IntKind.bits.eq_def, ti, tin, crows_length, hn]) | (simp (disch := omega) only [wA]) | refine aL ti_ok ?_ | refine dL ti_ok ?_ | refine dG ?_ | ((first | refine cC ?_ ?_ | refine gS ?_ ?_ | refine dS ?_ ?_) <;> intro hc <;> first | (exfalso; simp only [dcA] at hc; omega) | (simp only [hc]; try simp only [dcA] at hc)) | refine aO ?_ | refine dO ?_)
    exact fin_same trivial rfl
theorem sv_part (n : Int) (den : Nat) (hn : -9223372036854775808 ≤ n ∧ n ≤ 9223372036854775807) (hd : den ≤ 65536) : CallOK Tryz.prog gl 96 [.v (.int .i64 n), .v (.int .i64 den)] (.agg [.v (.bool (sg (nrm n den))), .sl 1 (u32s (ms (nrm n den))), .v (.int .i64 (dn (nrm n den)))]) := by
  refine call_ok (C := ⟨Tryz.prog, gl, ti, 14, false⟩) ti_ok mixed 3000 Tryz.call96 Tryz.func96 rfl Tryz.ntmps96 (by simp) byClL byCl ?_
  rw [Tryz.results96]
  repeat' (first | (simp only [go_sem, seval, IntKind.bits.eq_def, ti, tin]) | (simp (disch := omega) only [wA]) | (with_reducible first | refine cF (Make_ok n den hn hd) ?_ | refine dF (Make_ok n den hn hd) ?_) | refine aL ti_ok ?_ | refine dL ti_ok ?_ | refine dG ?_ | ((first | refine cC ?_ ?_ | refine gS ?_ ?_ | refine dS ?_ ?_) <;> intro hc <;> first | (exfalso; simp only [dcA] at hc; omega) | (simp only [hc]; try simp only [dcA] at hc)) | refine aO ?_ | refine dO ?_)
  exact fin_same trivial rfl
theorem sv_less (x o : Dy) (hx : Mg 1024 x) (ho : Mg 64 o) : CallOK Tryz.prog gl 98 [.agg [.v (.bool (sg (x))), .sl 1 (u32s (ms (x))), .v (.int .i64 (dn (x)))], .rp [.v (.bool (sg o)), .sl 1 (u32s (ms o)), .v (.int .i64 (dn o))]] (.agg [.v (.bool (sg (o.sub x))), .sl 1 (u32s (ms (o.sub x))), .v (.int .i64 (dn (o.sub x)))]) := by
  refine call_ok (C := ⟨Tryz.prog, gl, ti, 7, false⟩) ti_ok mixed 3000 Tryz.call98 Tryz.func98 rfl Tryz.ntmps98 (by simp) byClL byCl ?_
  rw [Tryz.results98]
  have s1 := Sub_ok _ _ _ _ _ _ _ _ ho.arg hx.arg
  repeat' (first | (simp only [go_sem, seval, IntKind.bits.eq_def, ti, tin]) | (simp (disch := omega) only [wA]) | (with_reducible first | refine cF s1 ?_ | refine dF s1 ?_) | refine aL ti_ok ?_ | refine dL ti_ok ?_ | refine dG ?_ | ((first | refine cC ?_ ?_ | refine gS ?_ ?_ | refine dS ?_ ?_) <;> intro hc <;> first | (exfalso; simp only [dcA] at hc; omega) | (simp only [hc]; try simp only [dcA] at hc)) | refine aO ?_ | refine dO ?_)
  exact fin_same trivial rfl
theorem sv_loose (h a k : Dy) (gh : Mg 128 h) (ga : Mg 128 a) (gk : Mg 128 k) : CallOK Tryz.prog gl 99 [.rp [.v (.bool (sg h)), .sl 1 (u32s (ms h)), .v (.int .i64 (dn h))], .rp [.v (.bool (sg a)), .sl 1 (u32s (ms a)), .v (.int .i64 (dn a))], .rp [.v (.bool (sg k)), .sl 1 (u32s (ms k)), .v (.int .i64 (dn k))]] (.sl 3 (vrows ([tms [h, a, k], tms [h, a], tms [h]].map can))) := by
  refine call_ok (C := ⟨Tryz.prog, gl, ti, 17, false⟩) ti_ok mixed 3000 Tryz.call99 Tryz.func99 rfl Tryz.ntmps99 (by simp) byClL byCl ?_
  rw [Tryz.results99]
  have t1 := sv_times [h, a, k] (by simp) (by simp only [List.mem_cons, List.not_mem_nil, or_false]; rintro x (rfl | rfl | rfl) <;> assumption)
  have t2 := sv_times [h, a] (by simp) (by simp only [List.mem_cons, List.not_mem_nil, or_false]; rintro x (rfl | rfl) <;> assumption)
  have t3 := sv_times [h] (by simp) (by simp only [List.mem_cons, List.not_mem_nil, or_false]; rintro x rfl; assumption)
  simp only [vrows, List.map_cons, List.map_nil, vrow_can, crow] at t1 t2 t3
  generalize tms [h, a, k] = x1 at *
  generalize tms [h, a] = x2 at *
  generalize tms [h] = x3 at *
  repeat' (first | (simp only [go_sem, seval, IntKind.bits.eq_def, ti, tin]) | (simp (disch := omega) only [wA]) | (with_reducible first | refine cF t1 ?_ | refine dF t1 ?_ | refine cF t2 ?_ | refine dF t2 ?_ | refine cF t3 ?_ | refine dF t3 ?_) | refine aL ti_ok ?_ | refine dL ti_ok ?_ | refine dG ?_ | ((first | refine cC ?_ ?_ | refine gS ?_ ?_ | refine dS ?_ ?_) <;> intro hc <;> first | (exfalso; simp only [dcA] at hc; omega) | (simp only [hc]; try simp only [dcA] at hc)) | refine aO ?_ | refine dO ?_)
  exact fin_same trivial rfl
end Go.Proofs.YtpggiabnhodjpaaGreatDoor
set_option linter.unusedSimpArgs false
set_option linter.unusedVariables false
set_option linter.deprecated false
namespace Go.Proofs.YtpggiabnhodjpaaGreatDoor
open Go Go.Ax
set_option maxRecDepth 100000
set_option maxHeartbeats 8000000
abbrev rpD (x : Dy) : AV := .rp [.v (.bool (sg x)), .sl 1 (u32s (ms x)), .v (.int .i64 (dn x))]
def m38w (g h a : Dy) (sh dist : Int) : Dy := (tms [g.add h, (a.shift (sh + 1)).add (Dy.int 1)]).add (Dy.int dist)
def m38A (g a b k : Dy) : List (List Dy) := [[(Dy.int 1).sub (tms [g, a, k]), (Dy.int 1).sub (tms [g, a]), g], [(tms [g, a, k]).neg, (Dy.int 1).sub (tms [g, a]), g], [(tms [b, k]).neg, b.neg, Dy.int 1]]
def m38D (h a k : Dy) : List (List Dy) := [[tms [h, a, k], tms [h, a], h], [tms [h, a, k], tms [h, a], h], [Dy.zero, Dy.zero, Dy.zero]]
def m38W (g h a b : Dy) (sh dist : Int) : List Dy := [m38w g h a sh dist, m38w g h a sh dist, b.shift (sh + 1)]
theorem mg_sh {x : Dy} (h : Mg 64 x) {sh : Int} (hs : 0 ≤ sh ∧ sh ≤ 30) : Mg 96 (x.shift (sh + 1)) := (h.shift (sh + 1)).mono (by unfold clipD; omega)
theorem sh_mul {x : Dy} {sh : Int} (hs : 0 ≤ sh ∧ sh ≤ 30) : tms [x, Dy.int (2 * 2 ^ sh.toNat)] = x.shift (sh + 1) := by
  show ((Dy.int 1).mul x).mul _ = _
  rw [one_mul]
  apply Dy.ext_v
  obtain ⟨n, rfl⟩ : ∃ n : Nat, sh = n := ⟨sh.toNat, by omega⟩
  have e := v_shift_pos (x := x) (j := n + 1) (by omega)
  rw [show ((n + 1 : Nat) : Int) = (n : Int) + 1 by omega] at e
  rw [e, Dy.v_mul_of _ _ (by have := x.ok.1; simp only [Dy.int]; omega), Dy.v_int, Int.toNat_natCast, Rat.intCast_mul, p2int]
  have : (2 : Rat) ^ (n + 1) = 2 * 2 ^ n := by grind
  rw [this]
  rfl
theorem svt1 (x : Dy) (h : Mg 128 x) : CallOK Tryz.prog gl 100 [.sl 3 [crow x]] (.agg (crow x)) := by
  have := sv_times [x] (by simp) (by simp only [List.mem_cons, List.not_mem_nil, or_false]; rintro y rfl; assumption)
  rw [tms1] at this
  simp only [vrows, List.map_cons, List.map_nil, vrow_can] at this
  exact this
theorem svt2 (x y : Dy) (h : Mg 128 x) (h' : Mg 128 y) : CallOK Tryz.prog gl 100 [.sl 3 [crow x, crow y]] (.agg (crow (tms [x, y]))) := by
  have := sv_times [x, y] (by simp) (by simp only [List.mem_cons, List.not_mem_nil, or_false]; rintro z (rfl | rfl) <;> assumption)
  simp only [vrows, List.map_cons, List.map_nil, vrow_can] at this
  exact this
theorem svt3 (x y z : Dy) (h : Mg 128 x) (h' : Mg 128 y) (h'' : Mg 128 z) : CallOK Tryz.prog gl 100 [.sl 3 [crow x, crow y, crow z]] (.agg (crow (tms [x, y, z]))) := by
  have := sv_times [x, y, z] (by simp) (by simp only [List.mem_cons, List.not_mem_nil, or_false]; rintro w (rfl | rfl | rfl) <;> assumption)
  simp only [vrows, List.map_cons, List.map_nil, vrow_can] at this
  exact this
theorem mg_t2 {x y : Dy} (h : Mg 128 x) (h' : Mg 128 y) : Mg 1024 (tms [x, y]) := tms_of (by simp only [List.mem_cons, List.not_mem_nil, or_false]; rintro z (rfl | rfl) <;> assumption) (by simp)
theorem mg_t3 {x y z : Dy} (h : Mg 128 x) (h' : Mg 128 y) (h'' : Mg 128 z) : Mg 1024 (tms [x, y, z]) := tms_of (by simp only [List.mem_cons, List.not_mem_nil, or_false]; rintro w (rfl | rfl | rfl) <;> assumption) (by simp)
theorem sv_push (a g h : Dy) (kv sh kp ki lo hi dist : Int) (ga : Mg 64 a) (gg : Mg 64 g) (gh : Mg 64 h) (hs : 0 ≤ sh ∧ sh ≤ 30) (hd : 0 ≤ dist ∧ dist ≤ 1099511627776) : CallOK Tryz.prog gl 101 [rpD a, .rp [.v (.int .i64 kv), .v (.int .i64 sh), .v (.int .i64 kp), .v (.int .i64 ki), .v (.int .i64 lo), .v (.int .i64 hi)], rpD (Dy.int 1), rpD g, rpD h, .rp [.v (.int .i64 dist)]] (.agg [.v (.bool (sg (m38w g h a sh dist))), .sl 1 (u32s (ms (m38w g h a sh dist))), .v (.int .i64 (dn (m38w g h a sh dist)))]) := by
  refine call_ok (C := ⟨Tryz.prog, gl, ti, 24, false⟩) ti_ok mixed 3000 Tryz.call101 Tryz.func101 rfl Tryz.ntmps101 (by simp) byClL byCl ?_
  rw [Tryz.results101]
  have i1 : Mg 64 (Dy.int 1) := Mg.int (by decide)
  have s1 := Shift_ok _ _ _ (sh + 1) _ (ga.arg)
  have ms1 := mg_sh ga hs
  have a1 := Add_ok _ _ _ _ _ _ _ _ ms1.arg i1.arg
  have ma1 := ms1.add (i1.mono (show 64 ≤ 96 by omega))
  have a2 := Add_ok _ _ _ _ _ _ _ _ gg.arg gh.arg
  have ma2 := gg.add gh
  have t1 := svt2 _ _ (ma2.mono (show 64 + 1 ≤ 128 by omega)) (ma1.mono (show 96 + 1 ≤ 128 by omega))
  have mt1 := mg_t2 (ma2.mono (show 64 + 1 ≤ 128 by omega)) (ma1.mono (show 96 + 1 ≤ 128 by omega))
  have o1 := Of_ok dist (by omega)
  have mo : Mg 64 (Dy.int dist) := Mg.int (by omega)
  have a3 := Add_ok _ _ _ _ _ _ _ _ mt1.arg mo.arg
  unfold m38w
  clear ms1 ma1 ma2 mt1 mo i1 ga gg gh
  generalize tms [g.add h, (a.shift (sh + 1)).add (Dy.int 1)] = x1 at *
  generalize (a.shift (sh + 1)).add (Dy.int 1) = x2 at *
  generalize a.shift (sh + 1) = x3 at *
  generalize g.add h = x4 at *
  generalize x1.add (Dy.int dist) = x5 at *
  generalize Dy.int dist = x6 at *
  generalize Dy.int 1 = x7 at *
  unfold crow at t1
  repeat' (first | (simp only [go_sem, seval, IntKind.bits.eq_def, ti, tin]) | (simp (disch := omega) only [wA]) | (with_reducible first | refine cF s1 ?_ | refine dF s1 ?_ | refine cF a1 ?_ | refine dF a1 ?_ | refine cF a2 ?_ | refine dF a2 ?_ | refine cF t1 ?_ | refine dF t1 ?_ | refine cF o1 ?_ | refine dF o1 ?_ | refine cF a3 ?_ | refine dF a3 ?_) | refine aL ti_ok ?_ | refine dL ti_ok ?_ | refine dG ?_ | ((first | refine cC ?_ ?_ | refine gS ?_ ?_ | refine dS ?_ ?_) <;> intro hc <;> first | (exfalso; simp only [dcA] at hc; omega) | (simp only [hc]; try simp only [dcA] at hc)) | refine aO ?_ | refine dO ?_)
  exact fin_same trivial rfl
end Go.Proofs.YtpggiabnhodjpaaGreatDoor
/- Layer 38 (servo): Model. -/
set_option linter.unusedSimpArgs false
set_option linter.unusedVariables false
set_option linter.deprecated false
namespace Go.Proofs.YtpggiabnhodjpaaGreatDoor
open Go Go.Ax
set_option maxRecDepth 100000
set_option maxHeartbeats 8000000
def mdBad (gn dv ds : Int) : Prop := gn < 0 ∨ 1048576 < gn ∨ dv < 0 ∨ gn < dv ∨ ds < 0 ∨ 1099511627776 < ds
theorem sv_Model_bad2 (kv sh kp ki lo hi gn dv ds : Int) (h : ¬ svBad kv sh kp ki lo hi) (h2 : mdBad gn dv ds) : CallOK Tryz.prog gl 37 [.agg [.v (.int .i64 kv), .v (.int .i64 sh), .v (.int .i64 kp), .v (.int .i64 ki), .v (.int .i64 lo), .v (.int .i64 hi)], .v (.int .i64 gn), .v (.int .i64 dv), .v (.int .i64 ds)] (.tup [.agg [.v (.slice none 0 0), .v (.slice none 0 0), .v (.slice none 0 0)], .v (.iface 117 (.int .i64 3))]) := by
  refine call_ok (C := ⟨Tryz.prog, gl, ti, 144, false⟩) ti_ok mixed 3000 Tryz.call37 Tryz.func37 rfl Tryz.ntmps37 (by simp) byClL byCl ?_
  rw [Tryz.results37]
  have ck := servo_Check _ _ _ _ _ _ h
  unfold mdBad at h2
  clear h
  by_cases h3 : gn < 0
  ·
    repeat' (first | (simp only [go_sem, seval, IntKind.bits.eq_def, ti, tin]) | (simp (disch := omega) only [wA]) | (with_reducible first | refine cF ck ?_ | refine dF ck ?_) | refine aL ti_ok ?_ | refine dL ti_ok ?_ | refine dG ?_ | ((first | refine cC ?_ ?_ | refine gS ?_ ?_ | refine dS ?_ ?_) <;> intro hc <;> first | (exfalso; simp only [dcA] at hc; omega) | (simp only [hc]; try simp only [dcA] at hc)) | refine aO ?_ | refine dO ?_)
    all_goals exact fin_same trivial rfl
  by_cases h4 : 1048576 < gn
  ·
    repeat' (first | (simp only [go_sem, seval, IntKind.bits.eq_def, ti, tin]) | (simp (disch := omega) only [wA]) | (with_reducible first | refine cF ck ?_ | refine dF ck ?_) | refine aL ti_ok ?_ | refine dL ti_ok ?_ | refine dG ?_ | ((first | refine cC ?_ ?_ | refine gS ?_ ?_ | refine dS ?_ ?_) <;> intro hc <;> first | (exfalso; simp only [dcA] at hc; omega) | (simp only [hc]; try simp only [dcA] at hc)) | refine aO ?_ | refine dO ?_)
    all_goals exact fin_same trivial rfl
  by_cases h5 : dv < 0
  ·
    repeat' (first | (simp only [go_sem, seval, IntKind.bits.eq_def, ti, tin]) | (simp (disch := omega) only [wA]) | (with_reducible first | refine cF ck ?_ | refine dF ck ?_) | refine aL ti_ok ?_ | refine dL ti_ok ?_ | refine dG ?_ | ((first | refine cC ?_ ?_ | refine gS ?_ ?_ | refine dS ?_ ?_) <;> intro hc <;> first | (exfalso; simp only [dcA] at hc; omega) | (simp only [hc]; try simp only [dcA] at hc)) | refine aO ?_ | refine dO ?_)
    all_goals exact fin_same trivial rfl
  by_cases h6 : gn < dv
  ·
    repeat' (first | (simp only [go_sem, seval, IntKind.bits.eq_def, ti, tin]) | (simp (disch := omega) only [wA]) | (with_reducible first | refine cF ck ?_ | refine dF ck ?_) | refine aL ti_ok ?_ | refine dL ti_ok ?_ | refine dG ?_ | ((first | refine cC ?_ ?_ | refine gS ?_ ?_ | refine dS ?_ ?_) <;> intro hc <;> first | (exfalso; simp only [dcA] at hc; omega) | (simp only [hc]; try simp only [dcA] at hc)) | refine aO ?_ | refine dO ?_)
    all_goals exact fin_same trivial rfl
  by_cases h7 : ds < 0
  ·
    repeat' (first | (simp only [go_sem, seval, IntKind.bits.eq_def, ti, tin]) | (simp (disch := omega) only [wA]) | (with_reducible first | refine cF ck ?_ | refine dF ck ?_) | refine aL ti_ok ?_ | refine dL ti_ok ?_ | refine dG ?_ | ((first | refine cC ?_ ?_ | refine gS ?_ ?_ | refine dS ?_ ?_) <;> intro hc <;> first | (exfalso; simp only [dcA] at hc; omega) | (simp only [hc]; try simp only [dcA] at hc)) | refine aO ?_ | refine dO ?_)
    all_goals exact fin_same trivial rfl
  have h8 : 1099511627776 < ds := by omega
  clear h2
  repeat' (first | (simp only [go_sem, seval, IntKind.bits.eq_def, ti, tin]) | (simp (disch := omega) only [wA]) | (with_reducible first | refine cF ck ?_ | refine dF ck ?_) | refine aL ti_ok ?_ | refine dL ti_ok ?_ | refine dG ?_ | ((first | refine cC ?_ ?_ | refine gS ?_ ?_ | refine dS ?_ ?_) <;> intro hc <;> first | (exfalso; simp only [dcA] at hc; omega) | (simp only [hc]; try simp only [dcA] at hc)) | refine aO ?_ | refine dO ?_)
  all_goals exact fin_same trivial rfl
end Go.Proofs.YtpggiabnhodjpaaGreatDoor
set_option linter.unusedSimpArgs false
set_option linter.unusedVariables false
set_option linter.deprecated false
namespace Go.Proofs.YtpggiabnhodjpaaGreatDoor
open Go Go.Ax
set_option maxRecDepth 100000
set_option maxHeartbeats 8000000
theorem sv_Model (kv sh kp ki lo hi gn dv ds : Int) (h : ¬ svBad kv sh kp ki lo hi) (h2 : ¬ mdBad gn dv ds) (g hh k a b : Dy) (eg : nrm gn 16 = g) (eh : nrm dv 16 = hh) (ek : nrm kv 12 = k) (ea : nrm (kp + ki) (12 + sh).toNat = a) (eb : nrm ki (12 + sh).toNat = b) : CallOK Tryz.prog gl 37 [.agg [.v (.int .i64 kv), .v (.int .i64 sh), .v (.int .i64 kp), .v (.int .i64 ki), .v (.int .i64 lo), .v (.int .i64 hi)], .v (.int .i64 gn), .v (.int .i64 dv), .v (.int .i64 ds)] (.tup [.agg [.sl 1 (mrows (cM (m38A g a b k))), .sl 1 (mrows (cM (m38D hh a k))), .sl 3 (vrows ((m38W g hh a b sh ds).map can))], .v .nilIface]) := by
  refine call_ok (C := ⟨Tryz.prog, gl, ti, 144, false⟩) ti_ok mixed 3000 Tryz.call37 Tryz.func37 rfl Tryz.ntmps37 (by simp) byClL byCl ?_
  rw [Tryz.results37]
  have ck := servo_Check _ _ _ _ _ _ h
  unfold svBad piBad at h
  unfold mdBad at h2
  have gg : Mg 64 g := by rw [← eg]; exact mg_make (by omega)
  have gh : Mg 64 hh := by rw [← eh]; exact mg_make (by omega)
  have gk : Mg 64 k := by rw [← ek]; exact mg_make (by omega)
  have ga : Mg 64 a := by rw [← ea]; exact mg_make (by omega)
  have gb : Mg 64 b := by rw [← eb]; exact mg_make (by omega)
  have g1 : Mg 64 (Dy.int 1) := Mg.int (by decide)
  have u {x : Dy} (q : Mg 64 x) : Mg 128 x := q.mono (by omega)
  have p1 := sv_part gn 16 (by omega) (by omega)
  have p2 := sv_part dv 16 (by omega) (by omega)
  have p3 := sv_part kv 12 (by omega) (by omega)
  have p4 := sv_part (kp + ki) (12 + sh).toNat (by omega) (by omega)
  have p5 := sv_part ki (12 + sh).toNat (by omega) (by omega)
  rw [show ((16 : Nat) : Int) = 16 from rfl, eg] at p1
  rw [show ((16 : Nat) : Int) = 16 from rfl, eh] at p2
  rw [show ((12 : Nat) : Int) = 12 from rfl, ek] at p3
  rw [show (((12 + sh).toNat : Nat) : Int) = 12 + sh by omega, ea] at p4
  rw [show (((12 + sh).toNat : Nat) : Int) = 12 + sh by omega, eb] at p5
  have o1 := Of_ok 1 (by omega)
  have q1 := svt3 g a k (u gg) (u ga) (u gk)
  have q2 := svt2 g a (u gg) (u ga)
  have q3 := svt1 g (u gg)
  have q4 := svt2 b k (u gb) (u gk)
  have m1 := mg_t3 (u gg) (u ga) (u gk)
  have m2 := mg_t2 (u gg) (u ga)
  have m4 := mg_t2 (u gb) (u gk)
  have l1 := sv_less _ _ m1 g1
  have l2 := sv_less _ _ m2 g1
  have n1 := Neg_ok _ _ _ _ m1.arg
  have n4 := Neg_ok _ _ _ _ m4.arg
  have nb := Neg_ok _ _ _ _ gb.arg
  have lo1 := sv_loose hh a k (u gh) (u ga) (u gk)
  have pu := sv_push a g hh kv sh kp ki lo hi ds ga gg gh (by omega) (by omega)
  have sb := Shift_ok _ _ _ (sh + 1) _ (gb.arg)
  rw [tms1] at lo1
  have RES : mrows (cM (m38A g a b k)) = [[.sl 3 [crow ((Dy.int 1).sub (tms [g, a, k])), crow ((Dy.int 1).sub (tms [g, a])), crow g]], [.sl 3 [crow (tms [g, a, k]).neg, crow ((Dy.int 1).sub (tms [g, a])), crow g]], [.sl 3 [crow (tms [b, k]).neg, crow b.neg, crow (Dy.int 1)]]] := rfl
  have RES2 : vrows ((m38W g hh a b sh ds).map can) = [crow (m38w g hh a sh ds), crow (m38w g hh a sh ds), crow (b.shift (sh + 1))] := rfl
  have RES3 : mrows (cM (m38D hh a k)) = [[.sl 3 (vrows ([tms [hh, a, k], tms [hh, a], hh].map can))], [.sl 3 (vrows ([tms [hh, a, k], tms [hh, a], hh].map can))], [.sl 3 [vrow (can Dy.zero), vrow (can Dy.zero), vrow (can Dy.zero)]]] := rfl
  rw [RES, RES2, RES3]
  clear RES RES2 RES3 m1 m2 m4 gg gh gk ga gb g1 u eg eh ek ea eb
  generalize vrows ([tms [hh, a, k], tms [hh, a], hh].map can) = V at *
  generalize m38w g hh a sh ds = w at *
  generalize b.shift (sh + 1) = bs at *
  generalize b.neg = bn at *
  generalize (tms [b, k]).neg = x1 at *
  generalize tms [b, k] = x2 at *
  generalize (Dy.int 1).sub (tms [g, a, k]) = x3 at *
  generalize (tms [g, a, k]).neg = x4 at *
  generalize tms [g, a, k] = x5 at *
  generalize (Dy.int 1).sub (tms [g, a]) = x6 at *
  generalize tms [g, a] = x7 at *
  generalize Dy.int 1 = x8 at *
  unfold crow at q1 q2 q3 q4 ⊢
  repeat' (first | (simp only [go_sem, seval, IntKind.bits.eq_def, ti, tin]) | (simp (disch := omega) only [wA]) | (with_reducible first | refine cF ck ?_ | refine dF ck ?_ | refine cF p1 ?_ | refine dF p1 ?_ | refine cF p2 ?_ | refine dF p2 ?_ | refine cF p3 ?_ | refine dF p3 ?_ | refine cF p4 ?_ | refine dF p4 ?_ | refine cF p5 ?_ | refine dF p5 ?_ | refine cF o1 ?_ | refine dF o1 ?_ | refine cF q1 ?_ | refine dF q1 ?_ | refine cF q2 ?_ | refine dF q2 ?_ | refine cF q3 ?_ | refine dF q3 ?_ | refine cF q4 ?_ | refine dF q4 ?_ | refine cF l1 ?_ | refine dF l1 ?_ | refine cF l2 ?_ | refine dF l2 ?_ | refine cF n1 ?_ | refine dF n1 ?_ | refine cF n4 ?_ | refine dF n4 ?_ | refine cF nb ?_ | refine dF nb ?_ | refine cF lo1 ?_ | refine dF lo1 ?_ | refine cF pu ?_ | refine dF pu ?_ | refine cF sb ?_ | refine dF sb ?_) | (refine after_thaws ti_ok [38] (by (repeat' (first | exact trivial | exact fun _ => ⟨rfl, Nat.le_of_ble_eq_true rfl⟩ | exact fun h => absurd h (by decide) | refine And.intro ?_ ?_))) rfl rfl trivial ?_) | (refine after_thaws ti_ok [11, 34, 12] (by (repeat' (first | exact trivial | exact fun _ => ⟨rfl, Nat.le_of_ble_eq_true rfl⟩ | exact fun h => absurd h (by decide) | refine And.intro ?_ ?_))) rfl rfl trivial ?_) | (refine after_thaws ti_ok [0, 10, 1] (by (repeat' (first | exact trivial | exact fun _ => ⟨rfl, Nat.le_of_ble_eq_true rfl⟩ | exact fun h => absurd h (by decide) | refine And.intro ?_ ?_))) rfl rfl trivial ?_) | refine aL ti_ok ?_ | refine dL ti_ok ?_ | refine dG ?_ | ((first | refine cC ?_ ?_ | refine gS ?_ ?_ | refine dS ?_ ?_) <;> intro hc <;> first | (exfalso; simp only [dcA] at hc; omega) | (simp only [hc]; try simp only [dcA] at hc)) | refine aO ?_ | refine dO ?_)
  exact fin_pub trivial (.tup (.cons (.agg (.cons .same (.cons (.sl (.cons (.cons .same .nil) (.cons (.cons .same .nil) (.cons (.cons (.ps rfl rfl (by decide)) .nil) .nil)))) (.cons .same .nil)))) (.cons (.one .same) .nil)))
    (Le.tup (.cons (Le.agg (.cons (Le.of_eq rfl) (.cons (Le.sl (.cons (.refl _) (.cons (.refl _) (.cons (.cons (Le.sl (.cons dyz (.cons dyz (.cons dyz .nil)))) .nil) .nil)))) (.cons (Le.of_eq rfl) .nil)))) (.cons (.refl _) .nil)))
end Go.Proofs.YtpggiabnhodjpaaGreatDoor
set_option linter.unusedSimpArgs false
set_option linter.unusedVariables false
set_option linter.deprecated false
namespace Go.Proofs.YtpggiabnhodjpaaGreatDoor
open Go Go.Ax
set_option maxRecDepth 100000
set_option maxHeartbeats 2000000
theorem aw_c1 : CallOK Tryz.prog gl 94 [.agg [.v (.int .i64 2048), .v (.int .i64 0), .v (.int .i64 4096), .v (.int .i64 0), .v (.int .i64 (-1000)), .v (.int .i64 1000)], .agg [.v (.int .i64 100), .v (.int .i64 10), .v (.int .i64 0), .v (.int .i64 0), .v (.int .i64 900)]] (.tup [.v (.int .i64 60), .v .nilIface]) := servo_Speed 2048 0 4096 0 (-1000) 1000 100 10 0 0 900 (by unfold svBad piBad; omega)
theorem aw_c2 : CallOK Tryz.prog gl 41 [.agg [.v (.int .i64 2048), .v (.int .i64 0), .v (.int .i64 4096), .v (.int .i64 0), .v (.int .i64 (-1000)), .v (.int .i64 1000)], .agg [.v (.int .i64 0)], .agg [.v (.int .i64 100), .v (.int .i64 10), .v (.int .i64 0), .v (.int .i64 0), .v (.int .i64 900)]] (.tup [.agg [.v (.int .i64 0)], .v (.int .i64 60), .v .nilIface]) := servo_Step 2048 0 4096 0 (-1000) 1000 0 100 10 0 0 900 (by unfold svBad piBad; omega)
theorem aw_c3 : CallOK Tryz.prog gl 41 [.agg [.v (.int .i64 2048), .v (.int .i64 0), .v (.int .i64 4096), .v (.int .i64 0), .v (.int .i64 (-1000)), .v (.int .i64 1000)], .agg [.v (.int .i64 0)], .agg [.v (.int .i64 100), .v (.int .i64 10), .v (.int .i64 0), .v (.int .i64 0), .v (.int .i64 50)]] (.tup [.agg [.v (.int .i64 0)], .v (.int .i64 50), .v .nilIface]) := servo_Step 2048 0 4096 0 (-1000) 1000 0 100 10 0 0 50 (by unfold svBad piBad; omega)
theorem awake38  : CallOK Tryz.prog gl 36 [] (.v (.bool (true))) := by
  refine call_ok (C := ⟨Tryz.prog, gl, ti, 59, false⟩) ti_ok mixed 3000 Tryz.call36 Tryz.func36 rfl Tryz.ntmps36 (by simp) byClL byCl ?_
  rw [Tryz.results36]
  repeat' (first | (simp only [go_sem, seval, IntKind.bits.eq_def, ti, tin]) | (simp (disch := omega) only [wA]) | (with_reducible first | refine cF aw_c1 ?_ | refine dF aw_c1 ?_ | refine cF aw_c2 ?_ | refine dF aw_c2 ?_ | refine cF aw_c3 ?_ | refine dF aw_c3 ?_) | refine aL ti_ok ?_ | refine dL ti_ok ?_ | refine dG ?_ | ((first | refine cC ?_ ?_ | refine gS ?_ ?_ | refine dS ?_ ?_) <;> intro hc <;> first | (exfalso; simp only [dcA] at hc; omega) | (simp only [hc]; try simp only [dcA] at hc)) | refine aO ?_ | refine dO ?_)
  exact fin_same trivial rfl
end Go.Proofs.YtpggiabnhodjpaaGreatDoor
/- The statement ServoModels: its code returns true. -/
set_option linter.unusedSimpArgs false
set_option linter.unusedVariables false
set_option linter.deprecated false
namespace Go.Proofs.YtpggiabnhodjpaaGreatDoor
open Go Go.Ax
set_option maxRecDepth 100000
set_option maxHeartbeats 8000000
theorem nonneg_of {l : List Dy} (h : ∀ x ∈ l, 0 ≤ x.v) : nonneg (l.map can) := fun i hi => by
  rw [List.length_map] at hi
  have e : (l.map can).getD i RD.zero = can (l.getD i Dy.zero) := by simp [List.getD, hi]
  rw [e, can_dy, Dy.sign_v, if_neg (by have := h _ (mem_getD (d := Dy.zero) hi); grind)]
  split <;> omega
theorem nrm_nn {z : Int} {d : Nat} (hz : 0 ≤ z) : 0 ≤ (nrm z d).n := by
  unfold nrm
  simp only [decide_eq_false (show ¬ z < 0 by omega), sgn, cond_false]
  omega
theorem v_nn {x : Dy} : 0 ≤ x.v ↔ 0 ≤ x.n := by
  have := Dy.v_neg_iff x
  constructor
  · intro h
    by_cases q : x.n < 0
    · exact absurd (this.2 q) (by grind)
    · omega
  · intro h
    by_cases q : x.v < 0
    · exact absurd (this.1 q) (by omega)
    · grind
theorem v_mul_nn {x y : Dy} (hx : 0 ≤ x.v) (hy : 0 ≤ y.v) : 0 ≤ (x.mul y).v := v_nn.2 (nrm_nn (Int.mul_nonneg (v_nn.1 hx) (v_nn.1 hy)))
theorem v_fold_nn : ∀ (l : List Dy) (a : Dy), 0 ≤ a.v → (∀ x ∈ l, 0 ≤ x.v) → 0 ≤ (l.foldl Dy.mul a).v
  | [], a, h, _ => h
  | x :: l, a, h, hl => v_fold_nn l (a.mul x) (v_mul_nn h (hl x (List.mem_cons_self ..))) (fun y hy => hl y (List.mem_cons_of_mem _ hy))
theorem v_tms_nn {l : List Dy} (h : ∀ x ∈ l, 0 ≤ x.v) : 0 ≤ (tms l).v := v_fold_nn l _ (by rw [Dy.v_int]; decide +kernel) h
theorem v_nrm_nn {z : Int} {d : Nat} (hz : 0 ≤ z) : 0 ≤ (nrm z d).v := v_nn.2 (nrm_nn hz)
theorem v_add_nn {x y : Dy} (hx : 0 ≤ x.v) (hy : 0 ≤ y.v) : 0 ≤ (x.add y).v := by rw [Dy.v_add]; grind
theorem v_sh_nn {x : Dy} {sh : Int} (hx : 0 ≤ x.v) (hs : 0 ≤ sh ∧ sh ≤ 30) : 0 ≤ (x.shift (sh + 1)).v := by
  obtain ⟨n, rfl⟩ : ∃ n : Nat, sh = n := ⟨sh.toNat, by omega⟩
  have e := v_shift_pos (x := x) (j := n + 1) (by omega)
  rw [show ((n + 1 : Nat) : Int) = (n : Int) + 1 by omega] at e
  rw [e]
  exact Rat.mul_nonneg hx (by have := p2pos (n + 1); grind)
theorem v_t2_nn {x y : Dy} (hx : 0 ≤ x.v) (hy : 0 ≤ y.v) : 0 ≤ (tms [x, y]).v := v_tms_nn (by simp only [List.mem_cons, List.not_mem_nil, or_false]; rintro z (rfl | rfl) <;> assumption)
theorem v_t3_nn {x y z : Dy} (hx : 0 ≤ x.v) (hy : 0 ≤ y.v) (hz : 0 ≤ z.v) : 0 ≤ (tms [x, y, z]).v := v_tms_nn (by simp only [List.mem_cons, List.not_mem_nil, or_false]; rintro w (rfl | rfl | rfl) <;> assumption)
theorem v_int_nn {n : Int} (h : 0 ≤ n) : 0 ≤ (Dy.int n).v := v_nn.2 h
theorem m38_ok {g hh a b k : Dy} {sh ds : Int} (vg : 0 ≤ g.v) (vh : 0 ≤ hh.v) (va : 0 ≤ a.v) (vb : 0 ≤ b.v) (vk : 0 ≤ k.v) (hs : 0 ≤ sh ∧ sh ≤ 30) (hd : 0 ≤ ds) : ckT (cM (m38A g a b k)) (cM (m38D hh a k)) ((m38W g hh a b sh ds).map can) = 0 := by
  have i1 : 0 ≤ (Dy.int 1).v := v_int_nn (by omega)
  have w0 : 0 ≤ (m38w g hh a sh ds).v := v_add_nn (v_t2_nn (v_add_nn vg vh) (v_add_nn (v_sh_nn va hs) i1)) (v_int_nn hd)
  have n1 : nonneg ((m38W g hh a b sh ds).map can) := nonneg_of fun x hx => by
    simp only [m38W, List.mem_cons, List.not_mem_nil, or_false] at hx
    rcases hx with rfl | rfl | rfl
    · exact w0
    · exact w0
    · exact v_sh_nn vb hs
  have r1 : nonneg ([tms [hh, a, k], tms [hh, a], hh].map can) := nonneg_of fun x hx => by
    simp only [List.mem_cons, List.not_mem_nil, or_false] at hx
    rcases hx with rfl | rfl | rfl
    · exact v_t3_nn vh va vk
    · exact v_t2_nn vh va
    · exact vh
  have r2 : nonneg ([Dy.zero, Dy.zero, Dy.zero].map can) := nonneg_of fun x hx => by
    simp only [List.mem_cons, List.not_mem_nil, or_false, or_self] at hx
    subst hx
    rw [Dy.v_zero]; decide +kernel
  have n3 : nonnegM (cM (m38D hh a k)) := fun i hi => by
    simp only [m38D, List.map_cons, List.map_nil, List.length_cons, List.length_nil] at hi
    match i, hi with
    | 0, _ => exact r1
    | 1, _ => exact r1
    | 2, _ => exact r2
  have k1 : ckM (cM (m38A g a b k)) = 0 := by
    unfold ckM m38A
    simp only [List.map_cons, List.map_nil, List.length_cons, List.length_nil, List.getD_cons_zero]
    rw [if_neg (by omega), if_neg (by omega), if_neg (by omega), if_neg (by omega), if_pos]
    intro i hi
    match i, hi with
    | 0, _ => rfl
    | 1, _ => rfl
    | 2, _ => rfl
  have k2 : ckM (cM (m38D hh a k)) = 0 := by
    unfold ckM m38D
    simp only [List.map_cons, List.map_nil, List.length_cons, List.length_nil, List.getD_cons_zero]
    rw [if_neg (by omega), if_neg (by omega), if_neg (by omega), if_neg (by omega), if_pos]
    intro i hi
    match i, hi with
    | 0, _ => rfl
    | 1, _ => rfl
    | 2, _ => rfl
  unfold ckT
  rw [if_neg (by omega), if_neg (by simp [m38A]), if_neg (by simp [m38A]), if_neg (by omega), if_neg (by simp [m38A, m38D, m38W]), if_pos ⟨n3, n1⟩]
end Go.Proofs.YtpggiabnhodjpaaGreatDoor
