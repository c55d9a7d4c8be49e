/- The number of a decimal text (nat.go of layer 2): walked by the kit's tactics, over the executor's contracts. -/
import Derived.Test.YtfmgfjmfogmeeaaGreatDoorDec
import Derived.Test.YtfmgfjmfogmeeaaGreatDoorShelf3
import Derived.Test.YtfmgfjmfogmeeaaGreatDoorU4
import Derived.WalkKit
import Derived.BigCall
import Derived.Laws.RangeString
set_option linter.unusedSimpArgs false
set_option linter.unusedVariables false
set_option linter.deprecated false
namespace Go.Proofs.YtfmgfjmfogmeeaaGreatDoor
open Go Go.Ax Go.RowKit
set_option maxRecDepth 100000
set_option maxHeartbeats 4000000
theorem grow_bd {S : Nat → Prop} {w w1 : World} (hS : ∀ k, S k → k < w.heap.size) (hb : Below w.heap.size w w1) : ∀ k, Grow S w w1 k → k < w1.heap.size := fun k h => by
  rcases h with h | h
  · exact Nat.lt_of_lt_of_le (hS k h) hb.size
  · exact h.2
theorem gs_grow {S : Nat → Prop} {w w1 : World} (hgs : GS gl S w) (hb : Below w.heap.size w w1) : GS gl (Grow S w w1) w1 := fun g l h => ⟨.inl (hgs g l h).1, (hgs g l h).2.eq (hb.block g (hgs g l h).2.lt)⟩
theorem rel_grow {S : Nat → Prop} {w w1 w2 : World} {x : Value} {av : AV} (hS : ∀ k, S k → k < w.heap.size) (hb : Below w.heap.size w w1) (hb2 : Below w1.heap.size w1 w2) (h : Rel nσ (Grow S w w1) w1 x av) : Rel nσ (Grow S w w2) w2 x av :=
  h.mono (fun _ _ h => h) (fun k hk => by rcases hk with hk | ⟨h1, h2⟩; exact .inl hk; exact .inr ⟨h1, Nat.lt_of_lt_of_le h2 hb2.size⟩)
    ⟨fun k hk => hb2.block k (grow_bd hS hb k hk), fun b k c e f hs => by cases hs⟩
theorem grow_grow {S : Nat → Prop} {w w1 w2 : World} {x : Value} {av : AV} (hb : Below w.heap.size w w1) (hb2 : Below w1.heap.size w1 w2) (h : Rel nσ (Grow (Grow S w w1) w1 w2) w2 x av) : Rel nσ (Grow S w w2) w2 x av :=
  h.mono (fun _ _ h => h) (fun k hk => by rcases hk with (hk | ⟨h1, h2⟩) | ⟨h1, h2⟩; exact .inl hk; exact .inr ⟨h1, Nat.lt_of_lt_of_le h2 hb2.size⟩; exact .inr ⟨Nat.le_trans hb.size h1, h2⟩)
    ⟨fun _ _ => rfl, fun b k c e f hs => by cases hs⟩
theorem below_go {w w1 w2 : World} (hb : Below w.heap.size w w1) (hb2 : Below w1.heap.size w1 w2) : Below w.heap.size w w2 := hb.trans (hb2.mono hb.size)
theorem kcall1 {f : FuncId} {a r : AV} (h : CallOK Tryz.prog gl f [a] r) {S : Nat → Prop} {w w1 : World} (hS : ∀ k, S k → k < w.heap.size) (hgs : GS gl S w) (hb : Below w.heap.size w w1) {x : Value} (hx : Rel nσ (Grow S w w1) w1 x a) :
    Calls Tryz.prog f #[x] w1 fun e w' => ∃ y, e = .returned y ∧ Below w1.heap.size w1 w' ∧ Rel nσ (Grow S w w') w' y r := by
  refine (h.runs (Grow S w w1) w1 #[x] (grow_bd hS hb) (gs_grow hgs hb) rfl (fun i y av hy hav => ?_)).mono fun e w' ⟨hb2, y, he, hr⟩ => ⟨y, he, hb2, grow_grow hb hb2 hr⟩
  match i, hy, hav with
  | 0, hy, hav => injection hy with hy; injection hav with hav; subst hy hav; exact hx
theorem kcall2 {f : FuncId} {a b r : AV} (h : CallOK Tryz.prog gl f [a, b] r) {S : Nat → Prop} {w w1 : World} (hS : ∀ k, S k → k < w.heap.size) (hgs : GS gl S w) (hb : Below w.heap.size w w1) {x x' : Value} (hx : Rel nσ (Grow S w w1) w1 x a) (hx' : Rel nσ (Grow S w w1) w1 x' b) :
    Calls Tryz.prog f #[x, x'] w1 fun e w' => ∃ y, e = .returned y ∧ Below w1.heap.size w1 w' ∧ Rel nσ (Grow S w w') w' y r := by
  refine (h.runs (Grow S w w1) w1 #[x, x'] (grow_bd hS hb) (gs_grow hgs hb) rfl (fun i y av hy hav => ?_)).mono fun e w' ⟨hb2, y, he, hr⟩ => ⟨y, he, hb2, grow_grow hb hb2 hr⟩
  match i, hy, hav with
  | 0, hy, hav => injection hy with hy; injection hav with hav; subst hy hav; exact hx
  | 1, hy, hav => injection hy with hy; injection hav with hav; subst hy hav; exact hx'
theorem part_digits {s : List UInt8} (h : allD s) (k : Nat) : ∀ b ∈ (s.drop k).take 9, isD b := fun b hb => h b (List.mem_of_mem_drop (List.mem_of_mem_take hb))
theorem dvl_group {s : List UInt8} (k : Nat) : dvl (s.take (k + 9)) 0 = dvl (s.take k) 0 * 10 ^ ((s.drop k).take 9).length + dvl ((s.drop k).take 9) 0 := by
  rw [List.take_add, dvl_append, dvl_eq]
theorem dvl_words {s : List UInt8} (h : allD s) (k : Nat) (hl : s.length ≤ 65536) : (words (dvl (s.take k) 0)).length ≤ 65537 := by
  have h1 := dvl_lt (s.take k) 0 0 (fun b hb => h b (List.mem_of_mem_take hb)) (by decide)
  exact words_pow h1 (by rw [List.length_take]; omega)
theorem all_ascii {s : List UInt8} (h : ∀ b ∈ s, isD b) (j : Nat) (hj : j < (⟨s.toArray⟩ : ByteArray).size) : ((⟨s.toArray⟩ : ByteArray)[j]'hj).toNat < 128 := by
  have : (⟨s.toArray⟩ : ByteArray)[j]'hj ∈ s := by
    show s.toArray[j] ∈ s
    simp
  have := h _ this
  unfold isD at this; omega
theorem ofDec_calls (s : List UInt8) (hl : s.length ≤ 65536) (S : Nat → Prop) (w : World) (hS : ∀ k, S k → k < w.heap.size) (hgs : GS gl S w) :
    Calls Tryz.prog 37 #[.string ⟨s.toArray⟩] w fun e w' => Below w.heap.size w w' ∧ ∃ x, e = .returned (.tuple #[x, .bool (decide (s ≠ [] ∧ allD s))]) ∧ Rel nσ (Grow S w w') w' x (.sl 1 (u32s (words (if s ≠ [] ∧ allD s then dvl s 0 else 0)))) := by
  have hsz : (⟨s.toArray⟩ : ByteArray).size = s.length := rfl
  by_cases h0 : s = []
  · subst h0
    rw [decide_eq_false (by simp), if_neg (by simp), words_zero]
    go_enter Tryz.func37, Tryz.ntmps37
    go_wp2
    go_ret2
    exact ⟨Below.refl _ _, _, rfl, .nil⟩
  have hne : s.isEmpty = false := by cases s; exact absurd rfl h0; rfl
  by_cases hd : allD s
  rotate_left
  · rw [decide_eq_false (fun h => hd h.2), if_neg (fun h => hd h.2), words_zero]
    have ht : Lib.trimS s digs10 ≠ [] := fun h => hd ((trim_digs s).1 h)
    have ht2 : (Lib.trimS s digs10).isEmpty = false := by cases h : Lib.trimS s digs10; exact absurd h ht; rfl
    go_enter Tryz.func37, Tryz.ntmps37
    go_wp2_with (go_at_call 75; refine (trim_calls s _ (by omega)).mono ?_; rintro e w' ⟨rfl, hb1⟩)
    go_ret2
    exact ⟨hb1, _, rfl, .nil⟩
  · rw [decide_eq_true (show s ≠ [] ∧ allD s from ⟨h0, hd⟩), if_pos (show s ≠ [] ∧ allD s from ⟨h0, hd⟩)]
    have ht := (trim_digs s).2 hd
    go_enter Tryz.func37, Tryz.ntmps37
    go_wp2_with (go_at_call 75; refine (trim_calls s _ (by omega)).mono ?_; rw [ht]; rintro e w' ⟨rfl, hb1⟩)
    go_loopw [4, 5] (fun x i wr => ∃ k : Nat, k ≤ s.length + 8 ∧ i = .int .i64 k ∧ Rel nσ (Grow S w wr) wr x (.sl 1 (u32s (words (dvl (s.take k) 0)))) ∧ Below w.heap.size w wr) (fun _ i _ => s.length + 9 - (RowKit.intOf i).toNat)
    case atStart =>
      refine ⟨0, by omega, rfl, ?_, hb1⟩
      rw [List.take_zero, show dvl [] 0 = 0 from rfl, words_zero]
      exact .nil
    case round =>
      obtain ⟨k, hk, rfl, hx, hbw⟩ := hrel
      by_cases hkn : k < s.length
      · obtain ⟨m, hm⟩ : ∃ m, m = min (k + 9) s.length := ⟨_, rfl⟩
        have em : min ((k : Int) + 9) (s.length : Int) = (m : Int) := by omega
        have hkm : k ≤ m := by omega
        have hms : m ≤ s.length := by omega
        obtain ⟨p, hp⟩ : ∃ p, p = (s.drop k).take 9 := ⟨_, rfl⟩
        have hpe : (s.drop k).take (m - k) = p := by
          rw [hp]
          by_cases h : k + 9 ≤ s.length
          · rw [show m - k = 9 by omega]
          · rw [List.take_of_length_le (by rw [List.length_drop]; omega), List.take_of_length_le (by rw [List.length_drop]; omega)]
        have hpl : p.length = m - k := by rw [← hpe, List.length_take, List.length_drop]; omega
        have hpd : ∀ b ∈ p, isD b := by rw [hp]; exact part_digits hd k
        have hp0 : p ≠ [] := fun h => by rw [h] at hpl; simp at hpl; omega
        have hat := atoi_digits (l := p) (by omega) hp0 hpd
        have hg := dvl_group (s := s) k
        rw [← hp] at hg
        have hpl9 : p.length ≤ 9 := by omega
        have hwx := dvl_words hd k hl
        have hsl : ∀ w, (Instr.slice 9 (.string ⟨s.toArray⟩) (some (.int .i64 k)) (some (.int .i64 m)) none).run Tryz.prog w = .ok (.string ⟨p.toArray⟩) w := fun w => by
          rw [run_slice_string w _ _ _ _ _ _ Tryz.underlying9 (by omega) (by omega) (by show (m : Int) ≤ (s.length : Int); omega)]
          rw [← hpe, Int.toNat_natCast, Int.toNat_natCast, ext_mk]
        clear hm hp hpe
        generalize dvl (s.take k) 0 = X at *
        generalize hX' : dvl (s.take (k + 9)) 0 = X' at *
        go_wp2_with (go_at_call 38; refine (atoi_calls p (by omega) _ hat _).mono ?_; rintro e W1 ⟨rfl, hb2⟩)
        go_loopw [9] (fun v w' => ∃ j : Nat, j ≤ p.length ∧ v = .int .u64 (10 ^ j : Nat) ∧ w' = W1.iter ⟨p.toArray⟩ j) (fun _ w' => p.length - w'.iterPos W1.heap.size)
        case atStart => exact ⟨0, by omega, rfl, rfl⟩
        case round =>
          obtain ⟨j, hj, rfl, rfl⟩ := hrel
          by_cases hjp : j < p.length
          · have hnx : ∀ ty, (Instr.next (.pointer (some ⟨W1.heap.size, 0, none⟩)) true ty).run Tryz.prog (W1.iter ⟨p.toArray⟩ j) = _ := fun ty => run_next_ascii W1 ⟨p.toArray⟩ j ty hjp (all_ascii hpd j hjp)
            have hj9 : 10 ^ j * 10 ≤ 1000000000 := by
              rw [← Nat.pow_succ]
              exact Nat.pow_le_pow_right (n := 10) (by omega) (show j + 1 ≤ 9 by omega)
            have hs10 : 10 ^ (j + 1) = 10 ^ j * 10 := Nat.pow_succ ..
            generalize 10 ^ j = sc at *
            go_wp2
            go_roundw
            case rel =>
              refine ⟨j + 1, by omega, ?_, rfl⟩
              rw [hs10, show (sc : Int) * 10 = ((sc * 10 : Nat) : Int) by omega]
            case measure =>
              simp
              omega
          · have hnx : ∀ ty, (Instr.next (.pointer (some ⟨W1.heap.size, 0, none⟩)) true ty).run Tryz.prog (W1.iter ⟨p.toArray⟩ j) = _ := fun ty => run_next_end W1 ⟨p.toArray⟩ j ty hjp
            obtain rfl : j = p.length := by omega
            have hscb : 10 ^ p.length ≤ 1000000000 := Nat.pow_le_pow_right (n := 10) (by omega) hpl9
            have hscw : (words (10 ^ p.length)).length ≤ 2 := words_length_le (by omega)
            have hdv := dvl_lt p 0 0 hpd (by decide)
            rw [Nat.zero_add] at hdv
            have hb3 : Below wr.heap.size wr (W1.iter ⟨p.toArray⟩ p.length) := hb2.alloc hb2.size _
            have hdw : (words (dvl p 0)).length ≤ 2 := words_length_le (by omega)
            have hmw := words_mul_len (a := X) (b := 10 ^ p.length)
            generalize W1.iter ⟨p.toArray⟩ p.length = W2 at *
            generalize 10 ^ p.length = sc at *
            generalize dvl p 0 = d at *
            have hb4 := below_go hbw hb3
            have hx4 := rel_grow hS hbw hb3 hx
            go_wp2_with (go_at_call 58; refine (kcall1 (ofUint_ok sc (by omega)) hS hgs hb4 (.v _)).mono ?_; rintro e W3 ⟨y3, rfl, b3, r3⟩)
            have hb5 := below_go hb4 b3
            have hx5 := rel_grow hS hb4 b3 hx4
            go_wp2_with (go_at_call 76; refine (kcall2 (nat_mul X sc (by omega) (by omega)) hS hgs hb5 hx5 r3).mono ?_; rintro e W4 ⟨y4, rfl, b4, r4⟩)
            have hb6 := below_go hb5 b4
            go_wp2_with (go_at_call 58; refine (kcall1 (ofUint_ok d (by omega)) hS hgs hb6 (.v _)).mono ?_; rintro e W5 ⟨y5, rfl, b5, r5⟩)
            have hb7 := below_go hb6 b5
            have hx7 := rel_grow hS hb6 b5 r4
            go_wp2_with (go_at_call 64; refine (kcall2 (nat_add (X * sc) d (by omega) (by omega)) hS hgs hb7 hx7 r5).mono ?_; rintro e W6 ⟨y6, rfl, b6, r6⟩)
            have hb8 := below_go hb7 b6
            rw [← hg] at r6
            go_wp2
            go_roundw
            case rel => exact ⟨k + 9, by omega, by simp, by rw [hX']; exact r6, hb8⟩
            case measure => simp only [RowKit.intOf]; omega
      · go_wp2
        go_ret2
        rw [List.take_of_length_le (by omega)] at hx
        exact ⟨hbw, _, rfl, hx⟩
theorem rel_tup2 {S : Nat → Prop} {w : World} {x y : Value} {a b : AV} (hx : Rel nσ S w x a) (hy : Rel nσ S w y b) : Rel nσ S w (.tuple #[x, y]) (.tup [a, b]) :=
  .tup rfl fun i x av hx' hav => by
    match i, hx', hav with
    | 0, hx', hav => injection hx' with hx'; injection hav with hav; subst hx' hav; exact hx
    | 1, hx', hav => injection hx' with hx'; injection hav with hav; subst hx' hav; exact hy
theorem cl_nat2 (n : Nat) (y : Value) : Cl (.tup [.sl 1 (u32s (words n)), .v y]) := Cl.tup (fun a ha => by
  simp only [List.mem_cons, List.not_mem_nil, or_false] at ha
  rcases ha with rfl | rfl
  · exact Cl.u32s
  · exact Cl.v _)
theorem ofDec_ok (s : List UInt8) (hl : s.length ≤ 65536) : CallOK Tryz.prog gl 37 [.v (.string ⟨s.toArray⟩)] (.tup [.sl 1 (u32s (words (if s ≠ [] ∧ allD s then dvl s 0 else 0))), .v (.bool (decide (s ≠ [] ∧ allD s)))]) := by
  refine ⟨Tryz.call37, (by (try simp only [List.mem_cons, List.not_mem_nil, or_false, forall_eq_or_imp, forall_eq]); (repeat' (first | exact Cl.v _ | exact Cl.u32s | exact Cl.vec | exact Cl.mat | exact Cl.strs | exact Cl.i64s | exact Cl.sl (by assumption) | refine And.intro ?_ ?_ | refine Cl.agg ?_ | refine Cl.rp ?_ | refine Cl.sl ?_ | refine Cl.tup ?_ | simp only [List.mem_cons, List.not_mem_nil, or_false, forall_eq_or_imp, forall_eq, false_imp_iff, implies_true]))), cl_nat2 _ _, fun S w vs hS hgs hsz hr => ?_⟩
  obtain rfl := one_arg hsz hr
  refine (ofDec_calls s hl S w hS hgs).mono fun e w' h => ?_
  obtain ⟨hb, x, rfl, hx⟩ := h
  exact ⟨hb, _, rfl, rel_tup2 hx (.v _)⟩
end Go.Proofs.YtfmgfjmfogmeeaaGreatDoor
