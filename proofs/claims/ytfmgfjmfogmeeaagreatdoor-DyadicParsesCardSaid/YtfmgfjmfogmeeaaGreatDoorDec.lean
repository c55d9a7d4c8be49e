/- The decimal text of a natural number (nat.go of layer 2), over the contracts of Go's library. -/
import Derived.Test.YtfmgfjmfogmeeaaGreatDoorNatC
import Derived.Test.YtfmgfjmfogmeeaaGreatDoorShelf
import Derived.Test.YtfmgfjmfogmeeaaGreatDoorU2
import Derived.Test.YtfmgfjmfogmeeaaGreatDoorU3
import Derived.Lib.AppendIntMem
import Derived.WalkKit
import Derived.BigCall
set_option linter.unusedSimpArgs false
set_option linter.unusedVariables false
set_option linter.deprecated false
namespace Go.Proofs.YtfmgfjmfogmeeaaGreatDoor
open Go Go.Ax Go.RowKit
set_option maxRecDepth 100000
set_option maxHeartbeats 4000000
theorem p10T_eq : Lib.pow10Tab = p10T := by decide
theorem cons_of_len {α : Type} {l : List α} {n : Nat} (h : l.length = n + 1) : ∃ x t, l = x :: t ∧ t.length = n := by
  cases l with
  | nil => cases h
  | cons x t => exact ⟨x, t, rfl, by simpa using h⟩
theorem one_arg {S : Nat → Prop} {w : World} {vs : Array Value} {x : Value} (hsz : vs.size = [AV.v x].length) (hr : ∀ (i : Nat) (y : Value) (av : AV), vs[i]? = some y → [AV.v x][i]? = some av → Rel nσ S w y av) : vs = #[x] := by
  obtain ⟨l⟩ := vs
  match l, hsz with
  | [y], _ => rw [rel_v (hr 0 y _ rfl rfl)]
theorem two_args {S : Nat → Prop} {w : World} {vs : Array Value} {x x' : Value} (hsz : vs.size = [AV.v x, AV.v x'].length) (hr : ∀ (i : Nat) (y : Value) (av : AV), vs[i]? = some y → [AV.v x, AV.v x'][i]? = some av → Rel nσ S w y av) : vs = #[x, x'] := by
  obtain ⟨l⟩ := vs
  match l, hsz with
  | [y, y'], _ => rw [rel_v (hr 0 y _ rfl rfl), rel_v (hr 1 y' _ rfl rfl)]
theorem p10_tab {S : Nat → Prop} {w : World} (hgs : GS gl S w) : Lib.TabIs Tryz.prog w "internal/strconv.uint64pow10" .u64 Lib.pow10Tab := by
  obtain ⟨_, c, e, f, h1, h2, h3⟩ := hgs 5 (p10T.map fun (k : Int) => Value.int .u64 k) (by simp [gl])
  rcases h3 with ⟨_, h3⟩ | ⟨q, _⟩
  rotate_left
  · simp [p10T] at q
  unfold Lib.TabIs World.var?
  rw [show Tryz.prog.globalNamed "internal/strconv.uint64pow10" = some 5 by kernel_rfl, Option.bind_some, h1, p10T_eq]
  refine congrArg some ?_
  apply Array.ext_getElem?
  intro i
  by_cases hi : i < (p10T.map fun (k : Int) => Value.int .u64 k).length
  · have h4 : (p10T.map fun (k : Int) => Value.int .u64 k)[i]? = some ((p10T.map fun (k : Int) => Value.int .u64 k)[i]) := List.getElem?_eq_getElem hi
    rw [h2 i _ h4, ← h4]; simp
  · rw [Array.getElem?_eq_none (by omega), Array.getElem?_eq_none (by simpa using hi)]
theorem itoa_ok (n : Int) (h : -9223372036854775808 ≤ n ∧ n ≤ 9223372036854775807) : CallOK Tryz.prog gl 34 [.v (.int .i64 n)] (.v (.string ⟨(Lib.itoa n).toArray⟩)) := by
  refine ⟨Tryz.call34, (by (try simp only [List.mem_cons, List.not_mem_nil, or_false, forall_eq_or_imp, forall_eq]); (repeat' (first | exact Cl.v _ | exact Cl.u32s | exact Cl.vec | exact Cl.mat | exact Cl.strs | exact Cl.i64s | exact Cl.sl (by assumption) | refine And.intro ?_ ?_ | refine Cl.agg ?_ | refine Cl.rp ?_ | refine Cl.sl ?_ | refine Cl.tup ?_ | simp only [List.mem_cons, List.not_mem_nil, or_false, forall_eq_or_imp, forall_eq, false_imp_iff, implies_true]))), Cl.v _, fun S w vs hS hgs hsz hr => ?_⟩
  obtain rfl := one_arg hsz hr
  refine (itoa_calls n h.1 h.2 w (p10_tab hgs)).mono fun e w' h => ?_
  obtain ⟨rfl, k, os, rfl⟩ := h
  exact ⟨Lib.below_grow _ w (Nat.le_refl _) k os, _, rfl, .v _⟩
theorem builder_keep {T e : TypeId} {B b : Nat} {bs : List Value} {w w' : World} (h : Lib.IsBuilderF T e B b bs w) (hb : Below w.heap.size w w') : Lib.IsBuilderF T e B b bs w' := by
  have go : ∀ p, Lib.BuilderAtF T e B b p bs w → Lib.BuilderAtF T e B b p bs w' := fun p h => by
    have hlt := h.lt
    obtain ⟨hB, v, hbk, hown, hne⟩ := h
    exact ⟨hB, v, (hb.block b hlt).trans hbk, hown.kept (row := none) ⟨hb.os, hb.tape, hb.output, hb.size, fun k hk _ => hb.block k hk⟩ (by cases hv : v.ownBlock <;> simp), hne⟩
  exact h.elim (fun x => .inl (go _ x)) (fun x => .inr (go _ x))
theorem dec_tail (gs : List Nat) (nx : Nat) (hg : Gr gs) (h0 : gs ≠ []) (hl : gs.length ≤ 1099511627776) :
    TailOK ⟨Tryz.prog, gl, ti, 50, false⟩ Tryz.f33 ⟨[(3, .sl 1 (strs (gs.map Lib.decDigits)))], [], nx⟩ (splitC 4 (Tryz.f33.body.getD .skip)).2 (.string ⟨(txt9 gs).toArray⟩) := by
  intro S w0 a w hs
  obtain ⟨hd, hn, σ, S', hF, hE⟩ := hs
  obtain ⟨x, hx, hr⟩ := hE 3 _ rfl
  obtain ⟨tmps, defers⟩ := a
  simp only at hd
  subst hd
  have hlen : 0 < gs.length := List.length_pos_iff.2 h0
  obtain ⟨k, off, cap, rfl, hk, hcell⟩ : ∃ k off cap, x = .slice (some ⟨k, off, none⟩) gs.length cap ∧ k < w.heap.size ∧ ∀ i, i < gs.length → w.cell? ⟨k, off + i, none⟩ = some (.string ⟨(Lib.decDigits (gs.getD i 0)).toArray⟩) := by
    generalize hq : strs (gs.map Lib.decDigits) = q at hr
    have hql : q.length = gs.length := by rw [← hq, strs_length, List.length_map]
    cases hr with
    | nil => simp at hql; omega
    | e => simp at hql; omega
    | @sl k off cap _ _ c hk hc hl hcell hr =>
      rw [hql]
      refine ⟨k, off, cap, rfl, hF.sbd k hk, fun i hi => ?_⟩
      have e : q[i]? = some [.v (strV (Lib.decDigits (gs.getD i 0)))] := by
        rw [← hq]; simp [strs, List.getD, hi]
      have h1 := hcell i _ 0 _ e rfl
      have h2 := rel_v (hr i _ 0 _ e rfl)
      rw [Nat.mul_one, Nat.add_zero] at h1
      rw [h1, h2]; rfl
  clear hr hF hE
  obtain ⟨l⟩ := tmps
  have hnn : l.length = 50 := hn
  clear hn
  obtain ⟨x0, l0, rfl, hn0⟩ := cons_of_len hnn
  obtain ⟨x1, l1, rfl, hn1⟩ := cons_of_len hn0
  obtain ⟨x2, l2, rfl, hn2⟩ := cons_of_len hn1
  obtain ⟨x3, l3, rfl, hn3⟩ := cons_of_len hn2
  obtain ⟨x4, l4, rfl, hn4⟩ := cons_of_len hn3
  obtain ⟨x5, l5, rfl, hn5⟩ := cons_of_len hn4
  obtain ⟨x6, l6, rfl, hn6⟩ := cons_of_len hn5
  obtain ⟨x7, l7, rfl, hn7⟩ := cons_of_len hn6
  obtain ⟨x8, l8, rfl, hn8⟩ := cons_of_len hn7
  obtain ⟨x9, l9, rfl, hn9⟩ := cons_of_len hn8
  obtain ⟨x10, l10, rfl, hn10⟩ := cons_of_len hn9
  obtain ⟨x11, l11, rfl, hn11⟩ := cons_of_len hn10
  obtain ⟨x12, l12, rfl, hn12⟩ := cons_of_len hn11
  obtain ⟨x13, l13, rfl, hn13⟩ := cons_of_len hn12
  obtain ⟨x14, l14, rfl, hn14⟩ := cons_of_len hn13
  obtain ⟨x15, l15, rfl, hn15⟩ := cons_of_len hn14
  obtain ⟨x16, l16, rfl, hn16⟩ := cons_of_len hn15
  obtain ⟨x17, l17, rfl, hn17⟩ := cons_of_len hn16
  obtain ⟨x18, l18, rfl, hn18⟩ := cons_of_len hn17
  obtain ⟨x19, l19, rfl, hn19⟩ := cons_of_len hn18
  obtain ⟨x20, l20, rfl, hn20⟩ := cons_of_len hn19
  obtain ⟨x21, l21, rfl, hn21⟩ := cons_of_len hn20
  obtain ⟨x22, l22, rfl, hn22⟩ := cons_of_len hn21
  obtain ⟨x23, l23, rfl, hn23⟩ := cons_of_len hn22
  obtain ⟨x24, l24, rfl, hn24⟩ := cons_of_len hn23
  obtain ⟨x25, l25, rfl, hn25⟩ := cons_of_len hn24
  obtain ⟨x26, l26, rfl, hn26⟩ := cons_of_len hn25
  obtain ⟨x27, l27, rfl, hn27⟩ := cons_of_len hn26
  obtain ⟨x28, l28, rfl, hn28⟩ := cons_of_len hn27
  obtain ⟨x29, l29, rfl, hn29⟩ := cons_of_len hn28
  obtain ⟨x30, l30, rfl, hn30⟩ := cons_of_len hn29
  obtain ⟨x31, l31, rfl, hn31⟩ := cons_of_len hn30
  obtain ⟨x32, l32, rfl, hn32⟩ := cons_of_len hn31
  obtain ⟨x33, l33, rfl, hn33⟩ := cons_of_len hn32
  obtain ⟨x34, l34, rfl, hn34⟩ := cons_of_len hn33
  obtain ⟨x35, l35, rfl, hn35⟩ := cons_of_len hn34
  obtain ⟨x36, l36, rfl, hn36⟩ := cons_of_len hn35
  obtain ⟨x37, l37, rfl, hn37⟩ := cons_of_len hn36
  obtain ⟨x38, l38, rfl, hn38⟩ := cons_of_len hn37
  obtain ⟨x39, l39, rfl, hn39⟩ := cons_of_len hn38
  obtain ⟨x40, l40, rfl, hn40⟩ := cons_of_len hn39
  obtain ⟨x41, l41, rfl, hn41⟩ := cons_of_len hn40
  obtain ⟨x42, l42, rfl, hn42⟩ := cons_of_len hn41
  obtain ⟨x43, l43, rfl, hn43⟩ := cons_of_len hn42
  obtain ⟨x44, l44, rfl, hn44⟩ := cons_of_len hn43
  obtain ⟨x45, l45, rfl, hn45⟩ := cons_of_len hn44
  obtain ⟨x46, l46, rfl, hn46⟩ := cons_of_len hn45
  obtain ⟨x47, l47, rfl, hn47⟩ := cons_of_len hn46
  obtain ⟨x48, l48, rfl, hn48⟩ := cons_of_len hn47
  obtain ⟨x49, l49, rfl, hn49⟩ := cons_of_len hn48
  obtain rfl : l49 = [] := List.length_eq_zero_iff.1 hn49
  clear hn49
  have hx : x3 = _ := Option.some.inj hx
  subst hx
  show Code.wp Tryz.prog _ _ _ _
  simp only [splitC, Tryz.f33, Option.getD_some]
  go_wp2
  go_loopw [6] (fun v wr => ∃ m : Nat, m ≤ gs.length ∧ v = .int .i64 ((m : Int) - 1) ∧ Lib.IsBuilderF 139 5 w.heap.size w.heap.size (Lib.byteCells (txt9 (gs.drop m))) wr ∧ Below w.heap.size w wr) (fun v _ => (RowKit.intOf v + 1).toNat)
  case atStart =>
    refine ⟨gs.length, Nat.le_refl _, rfl, ?_, (Below.refl _ w).alloc (Nat.le_refl _) _⟩
    rw [List.drop_length]
    exact Lib.IsBuilderF.of (Lib.fresh_isBuilder 139 5 w)
  case round =>
    obtain ⟨m, hm, rfl, hI, hbw⟩ := hrel
    cases m with
    | zero =>
      go_wp2_with (go_at_call 71; refine (string_calls w.heap.size w.heap.size (txt9 gs) _ hI hbw.size).mono ?_)
      rintro e W1 ⟨rfl, _, b1, _⟩
      go_wp2
      go_ret
      exact ⟨rfl, hbw.trans b1⟩
    | succ j =>
      have ej : ((j + 1 : Nat) : Int) - 1 = (j : Int) := by omega
      rw [ej]
      have hgj := hg.get (g := gs.getD j 0) (by rw [List.getD, List.getElem?_eq_getElem (by omega)]; exact List.getElem_mem _)
      have hc := hcell j (by omega)
      rw [← hbw.cell (p := ⟨k, off + j, none⟩) hk] at hc
      have hlen1 := decDigits_len 8 (gs.getD j 0) (by simpa using hgj)
      have hlt := txt9_len (gs.drop (j + 1)) (hg.drop _)
      rw [List.length_drop] at hlt
      by_cases hj : j + 1 < gs.length
      · have ht := txt9_drop hj
        have hpos := decDigits_pos (gs.getD j 0)
        obtain ⟨c, hc9⟩ : ∃ c : Nat, c = 9 - (Lib.decDigits (gs.getD j 0)).length := ⟨_, rfl⟩
        have e9 : (9 : Int) - ((Lib.decDigits (gs.getD j 0)).length : Int) = (c : Int) := by omega
        have hrep : Lib.repeatL (⟨#[48]⟩ : ByteArray).data.toList c = List.replicate c 48 := by
          have := Lib.repeatL_replicate 48 1 c
          simpa using this
        have hpd : pdig 9 (gs.getD j 0) = List.replicate c 48 ++ Lib.decDigits (gs.getD j 0) := by rw [hc9]; rfl
        rw [hpd] at ht
        clear hpd
        have hc1 : c ≤ 9223372036854775807 := by omega
        have hc2 : (⟨#[48]⟩ : ByteArray).size * c ≤ 140737488355328 := by show 1 * c ≤ _; omega
        have hl9 : (Lib.decDigits (gs.getD j 0)).length + c = 9 := by omega
        clear hc9
        generalize Lib.decDigits (gs.getD j 0) = D at *
        have hrs : (⟨(List.replicate c (48 : UInt8)).toArray⟩ : ByteArray) = ⟨Array.replicate c 48⟩ := by simp
        go_wp2_with (go_at_call 70; refine (repeat_calls ⟨#[48]⟩ c _ hc1 hc2).mono ?_; refine Hid.out ?_)
        refine Lib.hid ?_
        rintro e W0 rfl b0
        have hI0 : Lib.IsBuilderF 139 5 w.heap.size w.heap.size (Lib.byteCells (txt9 (gs.drop (j + 1)))) W0 := builder_keep hI b0
        have hbw0 : Below w.heap.size w W0 := hbw.trans (b0.mono hbw.size)
        have hc0 : W0.cell? ⟨k, off + j, none⟩ = some (.string ⟨D.toArray⟩) := by
          rw [b0.cell (p := ⟨k, off + j, none⟩) (Nat.lt_of_lt_of_le hk hbw.size)]; exact hc
        clear hc hI b0 hbw
        go_wp2_with (go_at_call 69; refine (write_calls w.heap.size w.heap.size _ ⟨Array.replicate c 48⟩ _ hI0 ?_ hbw0.size).mono ?_; refine Hid.out ?_)
        · have e1 : (ByteArray.mk (Array.replicate c (48 : UInt8))).size = c := by show (Array.replicate c (48 : UInt8)).size = c; simp
          refine Lib.hid ?_
          rw [Lib.byteCells_length, e1]; omega
        refine Lib.hid ?_
        rintro e W1 ⟨rfl, h1, b1, _⟩
        have hc1' : W1.cell? ⟨k, off + j, none⟩ = some (.string ⟨D.toArray⟩) := by
          rw [b1.cell (p := ⟨k, off + j, none⟩) hk]; exact hc0
        have hbw1 := hbw0.trans b1
        have e2 : Lib.strCells ⟨Array.replicate c 48⟩ = Lib.byteCells (List.replicate c 48) := by simp [Lib.strCells, Lib.byteCells]
        rw [e2, ← Lib.byteCells_append] at h1
        have hI1 : Lib.IsBuilderF 139 5 w.heap.size w.heap.size (Lib.byteCells (txt9 (gs.drop (j + 1)) ++ List.replicate c 48)) W1 := Or.inr h1
        clear hc0 hI0 b1 hbw0 h1 e2
        go_wp2_with (go_at_call 69; refine (write_calls w.heap.size w.heap.size _ ⟨D.toArray⟩ _ hI1 ?_ hbw1.size).mono ?_; refine Hid.out ?_)
        · have e1 : (ByteArray.mk D.toArray).size = D.length := rfl
          refine Lib.hid ?_
          rw [Lib.byteCells_length, e1, List.length_append, List.length_replicate]; omega
        refine Lib.hid ?_
        rintro e W2 ⟨rfl, h2, b2, _⟩
        go_wp2
        go_roundw
        case rel =>
          refine ⟨j, by omega, rfl, ?_, hbw1.trans b2⟩
          rw [ht]
          have e3 : Lib.strCells ⟨D.toArray⟩ = Lib.byteCells D := by simp [Lib.strCells, Lib.byteCells]
          rw [e3, ← Lib.byteCells_append, List.append_assoc] at h2
          exact Or.inr h2
        case measure => simp only [RowKit.intOf]; omega
      · have ht := txt9_top (l := gs) (i := j) (by omega)
        have h0 : gs.drop (j + 1) = [] := List.drop_eq_nil_of_le (by omega)
        rw [h0] at hI
        go_wp2_with (go_at_call 69; refine (write_calls w.heap.size w.heap.size _ ⟨(Lib.decDigits (gs.getD j 0)).toArray⟩ _ hI ?_ hbw.size).mono ?_)
        · rw [Lib.byteCells_length, Lib.size_eq]; simp only [txt9, List.length_nil, List.toList_toArray]; omega
        rintro e W1 ⟨rfl, h1, b1, _⟩
        go_wp2
        go_roundw
        case rel =>
          refine ⟨j, by omega, rfl, ?_, hbw.trans b1⟩
          rw [ht]
          exact Or.inr h1
        case measure => simp only [RowKit.intOf]; omega
theorem itoa_nat (r : Nat) (h : r < 9223372036854775808) : CallOK Tryz.prog gl 34 [.v (.int .i64 (r : Nat))] (.v (.string ⟨(Lib.decDigits r).toArray⟩)) := by
  have := itoa_ok r (by omega)
  rwa [Lib.itoa_nonneg] at this
theorem nat_decimal (n : Nat) (h : (words n).length ≤ 68719484928) : CallOK Tryz.prog gl 33 [.sl 1 (u32s (words n))] (.v (.string ⟨(Lib.decDigits n).toArray⟩)) := by
  refine call_ok_tail (C := ⟨Tryz.prog, gl, ti, 50, false⟩) ti_ok mixed 4 3000 Tryz.call33 Tryz.func33 rfl Tryz.ntmps33 (by simp) byClL ?_
  simp only [splitC, its, List.map_cons, List.map_nil]
  by_cases h0 : (words n).length = 0
  ·
    have hn0 : n = 0 := words_nil.1 (List.length_eq_zero_iff.1 h0)
    subst hn0
    have e0 : Lib.decDigits 0 = [48] := by rw [decDigits_small (by omega)]; rfl
    rw [e0]
    repeat' (first | (simp only [go_sem, seval, IntKind.bits.eq_def, ti, tin, u32s_length, h0, Tryz.results33]) | (simp (disch := omega) only [wA]) | refine aL ti_ok ?_ | refine dL ti_ok ?_ | refine dG ?_ | ((first | refine cC ?_ ?_ | refine gS ?_ ?_ | refine dS ?_ ?_) <;> intro hc <;> first | (exfalso; simp only [dcA] at hc; omega) | (simp only [hc]; try simp only [dcA] at hc)) | refine aO ?_ | refine dO ?_)
    exact fin_same trivial rfl
  ·
    have hn0 : 0 < n := by have := words_length_pos.1 (show 0 < (words n).length by omega); omega
    have hnl := lt_words n
    have h0' : ¬ ((words n).length : Int) = 0 := by omega
    obtain ⟨Ln, hLn⟩ : ∃ L, (words n).length = L := ⟨_, rfl⟩
    rw [hLn] at h hnl
    repeat' (first | (simp only [go_sem, seval, IntKind.bits.eq_def, ti, tin, u32s_length, h0']) | (simp (disch := omega) only [wA]) | refine aL ti_ok ?_ | refine dL ti_ok ?_ | refine dG ?_ | ((first | refine cC ?_ ?_ | refine gS ?_ ?_ | refine dS ?_ ?_) <;> intro hc <;> first | (exfalso; simp only [dcA] at hc; omega) | (simp only [hc]; try simp only [dcA] at hc)) | refine aO ?_ | refine dO ?_)
    refine l_loop (α := Nat × List Nat) (fun x => ⟨[(0, .sl 1 (u32s (words x.1))), (3, .ps 0 1 0 x.2.length)], [(0, ⟨1, strs (x.2.map Lib.decDigits)⟩)], 1⟩) (fun x => (words x.1).length ≤ 68719484928 ∧ Gr x.2 ∧ val9 x.2 + 1000000000 ^ x.2.length * x.1 = n ∧ x.1 * 536870912 ^ x.2.length ≤ n ∧ x.2.length ≤ 2 * Ln + 1 ∧ (x.1 = 0 → ∀ y, x.2.getLast? = some y → y ≠ 0)) (fun x => x.1) ((n, [])) _ byFresh (fun _ h => by first | (cases h; done) | exact Nat.le_of_ble_eq_true rfl) ?_ ?_ ?_
    · exact ⟨by show (words n).length ≤ _; omega, trivial, by simp [val9], by simp, by simp, fun h => by have h : n = 0 := h; omega⟩
    · exact Weak.trans (Weak.newnil 0 1 (Nat.le_refl _)) (Nat.le_of_ble_eq_true rfl) (by exact byWeak)
    rintro ⟨m, gs⟩ ⟨hm, hg, hv, hb, hk, hlast⟩
    simp only at hm hg hv hb hk hlast
    by_cases hm0 : m = 0
    ·
      subst hm0
      have hl2 := hlast rfl
      have hne : gs ≠ [] := fun h => by subst h; simp [val9] at hv; omega
      obtain ⟨ht, _⟩ := txt9_val gs hg hne hl2
      rw [Nat.mul_zero, Nat.add_zero] at hv
      rw [hv] at ht
      rw [← ht]
      have tl := dec_tail gs 1 hg hne (by omega)
      clear ht hb hv
      have w0 : (words 0).length = 0 := by rw [words_zero]; rfl
      repeat' (first | (simp only [go_sem, seval, IntKind.bits.eq_def, ti, tin, u32s_length, w0]) | (simp (disch := omega) only [wA]) | refine aL ti_ok ?_ | refine dL ti_ok ?_ | refine dG ?_ | ((first | refine cC ?_ ?_ | refine gS ?_ ?_ | refine dS ?_ ?_) <;> intro hc <;> first | (exfalso; simp only [dcA] at hc; omega) | (simp only [hc]; try simp only [dcA] at hc)) | refine aO ?_ | refine dO ?_)
      refine ⟨⟨[(3, .sl 1 (strs (gs.map Lib.decDigits)))], [], 1⟩, Weak.frz 0 ⟨1, strs (gs.map Lib.decDigits)⟩ rfl ?_ trivial (Nat.le_refl _), tl⟩
      refine ⟨⟨_, _, rfl, frz_ps rfl (by show 0 + gs.length ≤ (strs _).length; rw [strs_length, List.length_map]; omega), Le.of_eq ?_⟩, trivial⟩
      rw [List.drop_zero, List.take_of_length_le (by show (strs _).length ≤ _; rw [strs_length, List.length_map]; omega)]
    ·
      have hk2 := grp_bd (by omega) hb hnl
      have hw0 : 0 < (words m).length := words_length_pos.2 hm0
      have dw := nat_divWord m 1000000000 (by omega) (by omega) (by omega)
      rw [show ((1000000000 : Nat) : Int) = 1000000000 from rfl] at dw
      have hr : m % 1000000000 < 1000000000 := Nat.mod_lt _ (by omega)
      have it := itoa_nat (m % 1000000000) (by omega)
      have hq := words_div_len (a := m) (b := 1000000000) (k := 68719484928) hm
      have hv2 := grp_val hv
      have hb2 := grp_step hb
      have hlast2 : m / 1000000000 = 0 → m % 1000000000 ≠ 0 := fun h => by omega
      have hlt : m / 1000000000 < m := by omega
      have e9 := strs_snoc (l := gs.map Lib.decDigits) (k := gs.length) (s := Lib.decDigits (m % 1000000000)) (by simp)
      have e8 : gs.map Lib.decDigits ++ [Lib.decDigits (m % 1000000000)] = (gs ++ [m % 1000000000]).map Lib.decDigits := by simp
      rw [e8] at e9
      have e7 : (strs (gs.map Lib.decDigits)).length = gs.length := by rw [strs_length, List.length_map]
      generalize hqq : m / 1000000000 = q at *
      generalize hrr : m % 1000000000 = r at *
      clear hb hv e8 hnl
      repeat' (first | (simp only [go_sem, seval, IntKind.bits.eq_def, ti, tin, u32s_length, e7, e9]) | (simp (disch := omega) only [wA]) | (with_reducible first | refine cF dw ?_ | refine dF dw ?_ | refine cF it ?_ | refine dF it ?_) | (refine after_append_nil ti_ok rfl rfl rfl rfl ⟨rfl, by decide⟩ rfl ⟨trivial, by (try simp only [List.length_cons, List.length_nil, List.length_append, u32s_length, List.length_map, e7]); omega, by (try simp only [List.length_cons, List.length_nil, List.length_append, u32s_length, List.length_map, e7]); omega⟩ (fun _ => byRows) ?_) | (refine after_append_own ti_ok rfl rfl rfl rfl rfl ⟨rfl, rfl, by decide, Nat.le_of_ble_eq_true rfl⟩ (fun h => by first | (cases h; done) | decide) rfl ⟨trivial, by (try simp only [List.length_cons, List.length_nil, List.length_append, u32s_length, List.length_map, e7]); omega, by (try simp only [List.length_cons, List.length_nil, List.length_append, u32s_length, List.length_map, e7]); omega, by (try simp only [List.length_cons, List.length_nil, List.length_append, u32s_length, List.length_map, e7]); omega⟩ byRows byNoE byNoM ?_) | refine aL ti_ok ?_ | refine dL ti_ok ?_ | refine dG ?_ | ((first | refine cC ?_ ?_ | refine gS ?_ ?_ | refine dS ?_ ?_) <;> intro hc <;> first | (exfalso; simp only [dcA] at hc; omega) | (simp only [hc]; try simp only [dcA] at hc)) | refine aO ?_ | refine dO ?_)
      refine roundEnd_of (α := Nat × List Nat) (q, gs ++ [r]) ?_ ?_ ?_
      · refine ⟨hq, hg.append ⟨hr, trivial⟩, by rw [List.length_append]; exact hv2, by rw [List.length_append]; exact hb2, by simp; omega, fun h y hy => ?_⟩
        simp at hy
        subst hy
        exact hlast2 h
      · exact hlt
      · rw [List.length_append]
        exact byWeak
end Go.Proofs.YtfmgfjmfogmeeaaGreatDoor
