/- Layer 49 (identify): the conditions of samples; Gain, Slope, Offset. -/
import Derived.Test.YtfmgfjmfogmeeaaGreatDoorIdn4
import Derived.Test.YtfmgfjmfogmeeaaGreatDoorIv3
import Derived.Test.YtfmgfjmfogmeeaaGreatDoorU4
import Derived.Test.YtfmgfjmfogmeeaaGreatDoorTy
import Derived.WalkKit
import Derived.BigCall
set_option linter.unusedSimpArgs false
set_option linter.unusedVariables false
set_option linter.deprecated false
namespace Go.Proofs.YtfmgfjmfogmeeaaGreatDoor
open Go Go.Ax
set_option maxRecDepth 100000
set_option maxHeartbeats 4000000
theorem id_ofX (x y : Int) : CallOK Tryz.prog gl 55 [.agg [.v (.int .i64 x), .v (.int .i64 y)]] (.v (.int .i64 x)) := by
  refine call_ok (C := ⟨Tryz.prog, gl, ti, 5, false⟩) ti_ok mixed 3000 Tryz.call55 Tryz.func55 rfl Tryz.ntmps55 (by simp) byClL byCl ?_
  rw [Tryz.results55]
  repeat' (first | (simp only [go_sem, seval, IntKind.bits.eq_def, ti, tin]) | (simp (disch := omega) only [wA]) | refine aL ti_ok ?_ | refine dL ti_ok ?_ | refine dG ?_ | ((first | refine cC ?_ ?_ | refine gS ?_ ?_ | refine dS ?_ ?_) <;> intro hc <;> first | (exfalso; simp only [dcA] at hc; omega) | (simp only [hc]; try simp only [dcA] at hc)) | refine aO ?_ | refine dO ?_)
  exact fin_same trivial rfl
theorem id_nothing (x y : Int) : CallOK Tryz.prog gl 56 [.agg [.v (.int .i64 x), .v (.int .i64 y)]] (.v (.int .i64 0)) := by
  refine call_ok (C := ⟨Tryz.prog, gl, ti, 3, false⟩) ti_ok mixed 3000 Tryz.call56 Tryz.func56 rfl Tryz.ntmps56 (by simp) byClL byCl ?_
  rw [Tryz.results56]
  repeat' (first | (simp only [go_sem, seval, IntKind.bits.eq_def, ti, tin]) | (simp (disch := omega) only [wA]) | refine aL ti_ok ?_ | refine dL ti_ok ?_ | refine dG ?_ | ((first | refine cC ?_ ?_ | refine gS ?_ ?_ | refine dS ?_ ?_) <;> intro hc <;> first | (exfalso; simp only [dcA] at hc; omega) | (simp only [hc]; try simp only [dcA] at hc)) | refine aO ?_ | refine dO ?_)
  exact fin_same trivial rfl
theorem ck_ok {l : List (Int × Int)} {n : Int} (h : ckS l n = 0) : 0 < l.length ∧ l.length ≤ 64 ∧ (∀ s ∈ l, (-1099511627776 ≤ s.1 ∧ s.1 ≤ 1099511627776) ∧ (-1099511627776 ≤ s.2 ∧ s.2 ≤ 1099511627776)) ∧ 0 ≤ n ∧ n ≤ 1099511627776 := by
  unfold ckS at h
  split at h
  · omega
  split at h
  · omega
  split at h
  · rename_i h1 h2 h3
    split at h
    · omega
    · refine ⟨by omega, by omega, fun s hs => ?_, by omega, by omega⟩
      obtain ⟨i, hi⟩ := List.getElem?_of_mem hs
      have hlt := (List.getElem?_eq_some_iff.1 hi).1
      have := h3 i hlt
      rw [List.getD, hi] at this
      exact this
  · omega
theorem id_solveGain (l : List (Int × Int)) (n : Int) (h : ckS l n = 0) : CallOK Tryz.prog gl 54 [.sl 2 (rws prow l), .v (.int .i64 n), .fn 55 [], .fn 56 []] (.tup [.agg [.v (.bool (sg ((outOf gainF n l).lo))), .sl 1 (u32s (ms ((outOf gainF n l).lo))), .v (.int .i64 (dn ((outOf gainF n l).lo))), .v (.bool (sg ((outOf gainF n l).hi))), .sl 1 (u32s (ms ((outOf gainF n l).hi))), .v (.int .i64 (dn ((outOf gainF n l).hi)))], .v (eV (outOf gainF n l).err)]) := by
  refine call_ok (C := ⟨Tryz.prog, gl, ti, 60, false⟩) ti_ok mixed 3000 Tryz.call54 Tryz.func54 rfl Tryz.ntmps54 (by simp) byClF byCl ?_
  rw [Tryz.results54]
  obtain ⟨g1, g2, g3, g4, g5⟩ := ck_ok h
  have c1 := id_Check l n (by omega)
  rw [h, eV_zero] at c1
  obtain ⟨N, hN⟩ : ∃ N, l.length = N := ⟨_, rfl⟩
  have hlen := hv_length gainF.1 gainF.2 n l
  have hsm := hv_sm (f := gainF.1) (g := gainF.2) ⟨g4, g5⟩ (l := l) (fun s hs => by have := g3 s hs; simp only [gainF]; omega)
  have el := id_elim (hv gainF.1 gainF.2 n l) (2 * N) (by rw [hlen, hN]) (by omega) hsm
  have iv := id_interval _ (BS.Sm.of (elim_sm hsm)) _ (BInv.of _)
  change CallOK _ _ _ _ (.tup [.agg [.v (.bool (sg (outOf gainF n l).lo)), .sl 1 (u32s (ms (outOf gainF n l).lo)), .v (.int .i64 (dn (outOf gainF n l).lo)), .v (.bool (sg (outOf gainF n l).hi)), .sl 1 (u32s (ms (outOf gainF n l).hi)), .v (.int .i64 (dn (outOf gainF n l).hi))], .v (eV (outOf gainF n l).err)]) at iv
  rw [hN] at g1 g2 hlen
  clear hsm
  repeat' (first | (simp only [go_sem, seval, IntKind.bits.eq_def, ti, tin, rws_length, hN]) | (simp (disch := omega) only [wA]) | (with_reducible first | refine cF c1 ?_ | refine dF c1 ?_) | refine aL ti_ok ?_ | refine dL ti_ok ?_ | refine dG ?_ | ((first | refine cC ?_ ?_ | refine gS ?_ ?_ | refine dS ?_ ?_) <;> intro hc <;> first | (exfalso; simp only [dcA] at hc; omega) | (simp only [hc]; try simp only [dcA] at hc)) | refine aO ?_ | refine dO ?_)
  refine l_loop (α := Nat) (fun k => ⟨[(0, .sl 2 (rws prow l)), (1, .v (.int .i64 n)), (2, .fn 55 []), (3, .fn 56 []), (8, .p 0 6 0 0), (11, .ps 1 3 0 (2 * k)), (21, .sl 2 (rws prow l)), (22, .v (.int .i64 N)), (23, .v (.int .i64 k))], [(0, ⟨6, [[.v (.bool false), .v (.slice none 0 0), .v (.int .i64 0), .v (.bool false), .v (.slice none 0 0), .v (.int .i64 0)]]⟩), (1, ⟨3, rws trow (hv gainF.1 gainF.2 n (l.take k))⟩)], 2⟩) (fun k => k ≤ N) (fun k => N - k) (0) _ byFresh (fun _ h => by first | (cases h; done) | exact Nat.le_of_ble_eq_true rfl) ?_ ?_ ?_
  · exact Nat.zero_le _
  · exact Weak.trans (Weak.newnil 1 3 (Nat.le_of_ble_eq_true rfl)) (Nat.le_of_ble_eq_true rfl) (by exact byWeak)
  intro k hk
  by_cases hkn : k < N
  ·
    have rk := rws_getD (f := prow) (l := l) (i := k) (0, 0) (by omega)
    obtain ⟨p, hp⟩ : ∃ p, l.getD k (0, 0) = p := ⟨_, rfl⟩
    have bp := g3 p (by rw [← hp, List.getD, List.getElem?_eq_getElem (by omega)]; exact List.getElem_mem _)
    have st := hv_succ (f := gainF.1) (g := gainF.2) (n := n) (by omega) hp
    rw [hp] at rk
    obtain ⟨x, y⟩ := p
    rw [prow_mk] at rk
    simp only at bp
    have ln := hv_length gainF.1 gainF.2 n (l.take k)
    rw [List.length_take, hN, Nat.min_eq_left (by omega)] at ln
    have e9 : (rws trow (hv gainF.1 gainF.2 n (l.take k))).take (2 * k) ++ [[AV.v (.int .i64 x), AV.v (.int .i64 0), AV.v (.int .i64 (y + n))], [AV.v (.int .i64 (0 - x)), AV.v (.int .i64 0), AV.v (.int .i64 (n - y))]] = rws trow (hv gainF.1 gainF.2 n (l.take (k + 1))) := by
      rw [st]; exact rws_snoc2 (f := trow) (x := ( x,  0, y + n)) (y := ( (0 - x),  0, n - y)) ln
    have e8 : 2 * k + 2 = 2 * (k + 1) := by omega
    have i1 := id_ofX x y
    have i2 := id_nothing x y
    clear st g3 el iv
    repeat' (first | (simp only [go_sem, seval, IntKind.bits.eq_def, ti, tin, rws_length, hN, rk, ln, e9, e8]) | (simp (disch := omega) only [wA]) | (with_reducible first | refine cF i1 ?_ | refine dF i1 ?_ | refine cF i2 ?_ | refine dF i2 ?_) | (refine drawAfter_app ti_ok rfl rfl rfl rfl rfl ⟨rfl, rfl, by decide⟩ rfl ⟨trivial, by (try simp only [List.length_cons, List.length_nil, List.length_append, u32s_length, List.length_map, rws_length, hN, rk, ln, e9, e8]); omega, by (try simp only [List.length_cons, List.length_nil, List.length_append, u32s_length, List.length_map, rws_length, hN, rk, ln, e9, e8]); omega, by (try simp only [List.length_cons, List.length_nil, List.length_append, u32s_length, List.length_map, rws_length, hN, rk, ln, e9, e8]); omega⟩ byRows ?_) | refine aL ti_ok ?_ | refine dL ti_ok ?_ | refine dG ?_ | ((first | refine cC ?_ ?_ | refine gS ?_ ?_ | refine dS ?_ ?_) <;> intro hc <;> first | (exfalso; simp only [dcA] at hc; omega) | (simp only [hc]; try simp only [dcA] at hc)) | refine aO ?_ | refine dO ?_)
    refine roundEnd_of (α := Nat) (k + 1) ?_ ?_ ?_
    · show k + 1 ≤ N; omega
    · omega
    · exact Weak.ren2 29 1 31 (Nat.le_refl _) (by decide) (Nat.le_of_ble_eq_true rfl) byRenE byNoM byWeakF
  ·
    have hk2 : l.take k = l := List.take_of_length_le (by omega)
    obtain rfl : k = N := by omega
    rw [hk2]
    repeat' (first | (simp only [go_sem, seval, IntKind.bits.eq_def, ti, tin, rws_length, hN]) | (simp (disch := omega) only [wA]) | refine aL ti_ok ?_ | refine dL ti_ok ?_ | refine dG ?_ | ((first | refine cC ?_ ?_ | refine gS ?_ ?_ | refine dS ?_ ?_) <;> intro hc <;> first | (exfalso; simp only [dcA] at hc; omega) | (simp only [hc]; try simp only [dcA] at hc)) | refine aO ?_ | refine dO ?_)
    refine callF_frz 1 rfl (.cons (frz_ps rfl (by show _ ≤ (rws trow _).length; rw [rws_length, hlen]; omega)) .nil) (.cons (by rw [show (rws trow (hv gainF.1 gainF.2 n l)).drop 0 = rws trow (hv gainF.1 gainF.2 n l) from rfl, List.take_of_length_le (by rw [rws_length, hlen]; omega)]; exact .refl _) .nil) el ?_
    generalize outOf gainF n l = o at *
    generalize BS.of (elimC (hv gainF.1 gainF.2 n l)) = b at *
    repeat' (first | (simp only [go_sem, seval, IntKind.bits.eq_def, ti, tin]) | (simp (disch := omega) only [wA]) | (with_reducible first | refine cF iv ?_ | refine dF iv ?_) | refine aL ti_ok ?_ | refine dL ti_ok ?_ | refine dG ?_ | ((first | refine cC ?_ ?_ | refine gS ?_ ?_ | refine dS ?_ ?_) <;> intro hc <;> first | (exfalso; simp only [dcA] at hc; omega) | (simp only [hc]; try simp only [dcA] at hc)) | refine aO ?_ | refine dO ?_)
    exact fin_same trivial rfl
theorem id_Gain (l : List (Int × Int)) (n : Int) (h : ckS l n = 0) : CallOK Tryz.prog gl 22 [.sl 2 (rws prow l), .v (.int .i64 n)] (.tup [.agg [.v (.bool (sg ((outOf gainF n l).lo))), .sl 1 (u32s (ms ((outOf gainF n l).lo))), .v (.int .i64 (dn ((outOf gainF n l).lo))), .v (.bool (sg ((outOf gainF n l).hi))), .sl 1 (u32s (ms ((outOf gainF n l).hi))), .v (.int .i64 (dn ((outOf gainF n l).hi)))], .v (eV (outOf gainF n l).err)]) := by
  refine call_ok (C := ⟨Tryz.prog, gl, ti, 11, false⟩) ti_ok mixed 3000 Tryz.call22 Tryz.func22 rfl Tryz.ntmps22 (by simp) byClL byCl ?_
  rw [Tryz.results22]
  have c1 := id_solveGain l n h
  generalize outOf gainF n l = o at *
  repeat' (first | (simp only [go_sem, seval, IntKind.bits.eq_def, ti, tin]) | (simp (disch := omega) only [wA]) | (with_reducible first | refine cF c1 ?_ | refine dF c1 ?_) | refine aL ti_ok ?_ | refine dL ti_ok ?_ | refine dG ?_ | ((first | refine cC ?_ ?_ | refine gS ?_ ?_ | refine dS ?_ ?_) <;> intro hc <;> first | (exfalso; simp only [dcA] at hc; omega) | (simp only [hc]; try simp only [dcA] at hc)) | refine aO ?_ | refine dO ?_)
  exact fin_same trivial rfl
end Go.Proofs.YtfmgfjmfogmeeaaGreatDoor
/- WholeIdentify: gains as intervals; errors. -/
set_option linter.unusedSimpArgs false
set_option linter.unusedVariables false
set_option linter.deprecated false
namespace Go.Proofs.YtfmgfjmfogmeeaaGreatDoor
open Go Go.Ax
set_option maxRecDepth 100000
set_option maxHeartbeats 4000000
theorem base_IsE (n m : Int) : CallOK Tryz.prog gl 23 [.v (.iface 67 (.int .i64 (n))), .v (.int .i64 m)] (.v (.bool ((decide (n = m))))) := by
  refine call_ok (C := ⟨Tryz.prog, gl, ti, 18, false⟩) ti_ok mixed 3000 Tryz.call23 Tryz.func23 rfl Tryz.ntmps23 (by simp) byClL byCl ?_
  rw [Tryz.results23]
  repeat' (first | (simp only [go_sem, seval, IntKind.bits.eq_def, ti, tin]) | (simp (disch := omega) only [wA]) | refine aL ti_ok ?_ | refine dL ti_ok ?_ | refine dG ?_ | ((first | refine cC ?_ ?_ | refine gS ?_ ?_ | refine dS ?_ ?_) <;> intro hc <;> first | (exfalso; simp only [dcA] at hc; omega) | (simp only [hc]; try simp only [dcA] at hc)) | refine aO ?_ | refine dO ?_)
  all_goals exact fin_same trivial rfl
theorem id_GainI (l : List (Int × Int)) (n : Int) (h : ckS l n = 0) : CallOK Tryz.prog gl 22 [.sl 2 (rws prow l), .v (.int .i64 n)] (.tup [.agg [.v (.bool (sg (oIv gainF n l).lo)), .sl 1 (u32s (ms (oIv gainF n l).lo)), .v (.int .i64 (dn (oIv gainF n l).lo)), .v (.bool (sg (oIv gainF n l).hi)), .sl 1 (u32s (ms (oIv gainF n l).hi)), .v (.int .i64 (dn (oIv gainF n l).hi))], .v (eV (oErr gainF n l))]) := id_Gain l n h
theorem mg_Gain {l : List (Int × Int)} {n : Int} (h : ckS l n = 0) : (oIv gainF n l).Mg 201 := by
  obtain ⟨g1, g2, g3, g4, g5⟩ := ck_ok h
  exact out_mg (BS.Sm.of (elim_sm (hv_sm (f := gainF.1) (g := gainF.2) ⟨g4, g5⟩ (l := l) (fun s hs => by have := g3 s hs; simp only [gainF]; omega)))) (BInv.of _)
theorem has_out (f : (Int × Int → Int) × (Int × Int → Int)) {n : Int} {l : List (Int × Int)} {x : Dy} (h : Fit1 (conds f n l) x.v) : oErr f n l = 22 ∨ (oErr f n l = 0 ∧ (oIv f n l).has x = true) := by
  rcases out_in (outOf_ok f n l) h with h | ⟨h1, h2, h3⟩
  · exact .inl h
  · exact .inr ⟨h1, decide_eq_true ⟨h2, h3⟩⟩
theorem ck_mk {l : List (Int × Int)} {n : Int} (h1 : 0 < l.length) (h2 : l.length ≤ 64) (h3 : ∀ s ∈ l, (-1099511627776 ≤ s.1 ∧ s.1 ≤ 1099511627776) ∧ (-1099511627776 ≤ s.2 ∧ s.2 ≤ 1099511627776)) (h4 : 0 ≤ n) (h5 : n ≤ 1099511627776) : ckS l n = 0 := by
  have h6 : ∀ i, i < l.length → inB 1099511627776 (l.getD i (0, 0)) := fun i hi => h3 _ (by rw [List.getD, List.getElem?_eq_getElem hi]; exact List.getElem_mem _)
  unfold ckS
  rw [if_neg (by omega), if_neg (by omega), if_pos h6, if_neg (by omega)]
def smpOK (R : Int) (s : Int × Int) : Prop := (-1048576 ≤ s.1 ∧ s.1 ≤ 1048576) ∧ (-1099511627776 ≤ s.2 ∧ s.2 ≤ 1099511627776) ∧ (-999 ≤ s.2 - R * s.1 ∧ s.2 - R * s.1 ≤ 999)
theorem smp_fit {R : Int} {l : List (Int × Int)} (h : ∀ s ∈ l, smpOK R s) : Fit1 (conds gainF 999 l) (Dy.int R).v := by
  refine (gain_fit _ _ _).2 ((fitAll_iff _ _ _ _).2 fun s hs => ?_)
  obtain ⟨_, _, h3, h4⟩ := h s hs
  rw [Dy.v_int, Dy.v_zero]
  have q3 := icast_le.2 h3
  have q4 := icast_le.2 h4
  rw [Rat.intCast_sub, Rat.intCast_mul] at q3 q4
  have e1 : ((-999 : Int) : Rat) = -((999 : Int) : Rat) := by decide +kernel
  rw [e1] at q3
  constructor <;> grind
theorem smp_ck {R : Int} {l : List (Int × Int)} (h : ∀ s ∈ l, smpOK R s) (h1 : 0 < l.length) (h2 : l.length ≤ 64) : ckS l 999 = 0 :=
  ck_mk h1 h2 (fun s hs => by obtain ⟨a, b, _⟩ := h s hs; omega) (by decide) (by decide)
theorem smp_mk {R x : Int} (hR : 0 ≤ R ∧ R ≤ 1048576) (hx : -1048576 ≤ x ∧ x ≤ 1048576) : smpOK R (x, 1000 * (R * x).tdiv 1000) := by
  have m1 := Int.natAbs_mul R x
  have m3 := Nat.mul_le_mul (show R.natAbs ≤ 1048576 by omega) (show x.natAbs ≤ 1048576 by omega)
  unfold smpOK
  simp only
  generalize hp : R * x = p at *
  have e := Int.mul_tdiv_add_tmod p 1000
  have b := tmod_bd2 (a := p) (m := 1000) (by omega)
  have c : p.tdiv 1000 * 1000 = p - p.tmod 1000 := by omega
  have t1 : (p.tdiv 1000).natAbs = p.natAbs / (1000 : Int).natAbs := Int.natAbs_tdiv _ _
  have t2 : (1000 : Int).natAbs = 1000 := rfl
  rw [t2] at t1
  have t3 := Nat.div_mul_le_self p.natAbs 1000
  refine ⟨hx, by omega, by omega, by omega⟩
end Go.Proofs.YtfmgfjmfogmeeaaGreatDoor
/- Layer 44 (trips): a current beyond its threshold, by the kit's tactics. -/
set_option linter.unusedSimpArgs false
set_option linter.unusedVariables false
set_option linter.deprecated false
namespace Go.Proofs.YtfmgfjmfogmeeaaGreatDoor
open Go Go.Ax Go.RowKit
set_option maxRecDepth 100000
set_option maxHeartbeats 4000000
theorem rel_vals {σ : Sig} {S : Nat → Prop} {w : World} {x : Value} {l : List Value} (h : Rel σ S w x (.agg (l.map AV.v))) : x = .agg l.toArray := by
  generalize hq : AV.agg (l.map AV.v) = q at h
  cases h with
  | agg hs hr =>
    rename_i cs m
    injection hq with hq
    subst hq
    refine congrArg _ (Array.ext (by simpa using hs) fun i h1 h2 => ?_)
    have h3 : i < l.length := by simpa using h2
    have := rel_v (hr i _ (.v l[i]) (Array.getElem?_eq_getElem h1) (by rw [List.getElem?_map, List.getElem?_eq_getElem h3]; rfl))
    rw [this]
    simp
  | _ => cases hq
theorem push_new (w : World) (a b : Obj) : ((w.alloc a).alloc b).heap[w.heap.size + 1]? = some b := by
  show ((w.heap.push a).push b)[w.heap.size + 1]? = some b
  rw [Array.getElem?_push, if_pos (by rw [Array.size_push])]
theorem push_old (w : World) (a b : Obj) : ((w.alloc a).alloc b).heap[w.heap.size]? = some a := by
  show ((w.heap.push a).push b)[w.heap.size]? = some a
  rw [Array.getElem?_push, if_neg (by rw [Array.size_push]; omega), Array.getElem?_push, if_pos rfl]
theorem two_new (w : World) (c d : Array Value) (t u : TypeId) (f g : Nat × Nat) : ((w.alloc (.cells c t f)).alloc (.cells d u g)).cell? ⟨w.heap.size + 1, 0, none⟩ = d[0]? := by
  unfold World.cell?
  simp only [push_new]; rfl
theorem two_old (w : World) (c d : Array Value) (t u : TypeId) (f g : Nat × Nat) : ((w.alloc (.cells c t f)).alloc (.cells d u g)).cell? ⟨w.heap.size, 0, none⟩ = c[0]? := by
  unfold World.cell?
  simp only [push_old]; rfl
theorem two_below (w : World) (o p : Obj) : Below w.heap.size w ((w.alloc o).alloc p) := ((Below.refl _ w).alloc (Nat.le_refl _) _).alloc (by show w.heap.size ≤ (w.heap.push o).size; rw [Array.size_push]; omega) _
def cfg0 : List Value := [.int .i64 10, .int .i64 0, .int .i64 1, .int .i64 0, .int .i64 1, .int .i64 1]
def inp0 : List Value := [.int .i64 11, .int .i64 0, .int .i64 (-11), .int .i64 0, .bool false, .bool false, .bool false, .bool false, .bool false, .bool false]
theorem over_calls (w : World) : Calls Tryz.prog 133 #[.agg cfg0.toArray, .agg inp0.toArray] w fun e w' => e = .returned (.bool true) ∧ Below w.heap.size w w' := by
  unfold cfg0 inp0
  go_enter Tryz.func133, Tryz.ntmps133
  go_wp2_with (go_in)
  go_loopw [8] (fun v wr => v = .int .i64 0 ∧ wr.cell? ⟨w.heap.size + 1, 0, none⟩ = some (.int .i64 11) ∧ wr.cell? ⟨w.heap.size, 0, none⟩ = some (.int .i64 10) ∧ Below w.heap.size w wr) (fun _ _ => 0)
  case atStart =>
    exact ⟨rfl, two_new w _ _ _ _ _ _, two_old w _ _ _ _ _ _, two_below w _ _⟩
  case round =>
    obtain ⟨rfl, h1, h2, hb⟩ := hrel
    go_wp2_with (go_in)
    go_ret
    exact ⟨rfl, hb⟩
theorem over_ok : CallOK Tryz.prog gl 133 [.agg (cfg0.map AV.v), .agg (inp0.map AV.v)] (.v (.bool true)) := by
  refine ⟨Tryz.call133, (by
    intro x hx
    simp only [List.mem_cons, List.not_mem_nil, or_false] at hx
    rcases hx with rfl | rfl <;> exact Cl.agg (fun a ha => by obtain ⟨v, _, rfl⟩ := List.mem_map.1 ha; exact Cl.v v)), Cl.v _, fun S w vs hS hgs hsz hr => ?_⟩
  obtain ⟨l⟩ := vs
  match l, hsz with
  | [y, y'], _ =>
    have e1 : y = .agg cfg0.toArray := rel_vals (hr 0 y _ rfl rfl)
    have e2 : y' = .agg inp0.toArray := rel_vals (hr 1 y' _ rfl rfl)
    subst e1 e2
    exact (over_calls w).mono fun e w' h => ⟨h.2, _, h.1, .v _⟩
end Go.Proofs.YtfmgfjmfogmeeaaGreatDoor
