/- The plain division of the reference (ref02), part 3: divide. -/
import Derived.Test.YtpggiabnhodjpaaGreatDoorQuo2
import Derived.Test.YtpggiabnhodjpaaGreatDoorRef4
import Derived.Test.YtpggiabnhodjpaaGreatDoorU4
set_option linter.unusedSimpArgs false
set_option linter.unusedVariables false
set_option linter.deprecated false
namespace Go.Proofs.YtpggiabnhodjpaaGreatDoor
open Go Go.Ax
set_option maxRecDepth 100000
set_option maxHeartbeats 4000000
theorem byRn {b0 b1 : Nat} {l l' : List AV} (h : PubL (Rn b0 b1) l l' := by (repeat' (first | exact .nil | refine .cons ?_ ?_ | exact .ps0 _ _ _ | exact .p0 _ _ _ | exact .cl (Cl.u32s) (.refl _) | exact .cl (Cl.v _) (.refl _)))) : PubL (Rn b0 b1) l l' := h
theorem byNoe {b : Nat} {l : List (Nat × AV)} (h : noE b l := by (repeat' (first | exact trivial | exact .v | exact .p (Nat.ne_of_beq_eq_false rfl) | exact .ps (Nat.ne_of_beq_eq_false rfl) | exact .top | exact .cl Cl.u32s | exact .cl (Cl.v _) | refine And.intro ?_ ?_))) : noE b l := h
theorem byNom {b0 b1 : Nat} {l : List (Nat × MB)} (h : noM b0 b1 l := by (repeat' (first | exact trivial | exact .inl rfl | exact .inr (.inl rfl) | exact .inr (.inr noRows_u32s) | refine And.intro ?_ ?_))) : noM b0 b1 l := h
theorem u32s_clM {ws : List Nat} : ∀ r ∈ u32s ws, ∀ a ∈ r, Cl a := fun r hr a ha => by
  obtain ⟨w, _, rfl⟩ := u32s_mem hr
  simp only [u32, List.mem_cons, List.not_mem_nil, or_false] at ha
  subst ha; exact Cl.v _
theorem ref_divide (a b : Nat) (hb : 0 < b) (la lb : Nat) (hla : (words a).length = la) (hlb : (words b).length = lb) (ha : la ≤ 1099511627775) (hb2 : lb ≤ 1099511627775) : CallOK Tryz.prog gl 173 [.sl 1 (u32s (words a)), .sl 1 (u32s (words b))] (.tup [.sl 1 (u32s (words (a / b))), .v (.bool ((decide (a % b ≠ 0))))]) := by
  refine call_ok (C := ⟨Tryz.prog, gl, ti, 99, false⟩) ti_ok mixed 3000 Tryz.call173 Tryz.func173 rfl Tryz.ntmps173 (by simp) byClL byCl ?_
  rw [Tryz.results173]
  have hlt : a < 2 ^ (32 * la) := by have := lt_words a; rw [hla, two_pow_32] at this; exact this
  have hblt : b < 4294967296 ^ lb := by have := lt_words b; rw [hlb] at this; exact this
  have e0 : (32 : Int) * (la : Int) = ((32 * la : Nat) : Int) := by omega
  have e1 : ((lb : Nat) : Int) + 1 = ((lb + 1 : Nat) : Int) := by omega
  have hB : b * 2 ≤ 4294967296 ^ (lb + 1) := by rw [Nat.pow_succ]; omega
  repeat' (first | (simp only [go_sem, seval, IntKind.bits.eq_def, ti, tin, u32s_length, hla, hlb, e0, e1, u32s_zeros]) | (simp (disch := omega) only [wA]) | refine aL ti_ok ?_ | refine dL ti_ok ?_ | refine dG ?_ | ((first | refine cC ?_ ?_ | refine gS ?_ ?_ | refine dS ?_ ?_) <;> intro hc <;> first | (exfalso; simp only [dcA] at hc; omega) | (simp only [hc]; try simp only [dcA] at hc)) | refine aO ?_ | refine dO ?_)
  refine l_loop (α := Nat × List Nat × List Nat) (fun x => ⟨[(0, .sl 1 (u32s (words a))), (1, .sl 1 (u32s (words b))), (6, .ps 0 1 0 la), (7, .ps 1 1 0 (lb + 1)), (8, .v (.int .i64 (((x.1 : Nat) : Int) - 1)))], [(0, ⟨1, u32s x.2.1⟩), (1, ⟨1, u32s x.2.2⟩)], 2⟩) (fun x => x.1 ≤ 32 * la ∧ (x.2.1.length = la ∧ Wd x.2.1 ∧ val x.2.1 = a / 2 ^ x.1 / b * 2 ^ x.1) ∧ x.2.2.length = lb + 1 ∧ Wd x.2.2 ∧ val x.2.2 = a / 2 ^ x.1 % b) (fun x => x.1) ((32 * la, List.replicate la 0, List.replicate (lb + 1) 0)) _ byFresh (fun _ h => by first | (cases h; done) | exact Nat.le_of_ble_eq_true rfl) ?_ ?_ ?_
  · have h0 : a / 2 ^ (32 * la) = 0 := Nat.div_eq_of_lt hlt
    exact ⟨Nat.le_refl _, ⟨by simp, Wd.zeros _, by simp only; rw [val_zeros, h0]; simp⟩, by simp, Wd.zeros _, by simp only; rw [val_zeros, h0]; simp⟩
  · exact byWeak
  rintro ⟨j, qs, rs⟩ ⟨hj, ⟨hq1, hq2, hq3⟩, hr1, hr2, hr3⟩
  simp only at hj hq1 hq2 hq3 hr1 hr2 hr3
  cases j with
  | zero =>
    rw [Nat.pow_zero, Nat.div_one] at hq3 hr3
    rw [Nat.mul_one] at hq3
    have tvq := ref_trim qs hq2 (by omega)
    have tvr := ref_trim rs hr2 (by omega)
    rw [hq3] at tvq
    rw [hr3] at tvr
    have hz : (words (a % b)).length = 0 ↔ a % b = 0 := by rw [List.length_eq_zero_iff, words_nil]
    obtain ⟨nr, hnr⟩ : ∃ nr, (words (a % b)).length = nr := ⟨_, rfl⟩
    rw [hnr] at hz
    have dz : decide (a % b ≠ 0) = decide (0 < nr) := decide_eq_decide.2 (by omega)
    rw [dz]
    repeat' (first | (simp only [go_sem, seval, IntKind.bits.eq_def, ti, tin, u32s_length]) | (simp (disch := omega) only [wA]) | refine aL ti_ok ?_ | refine dL ti_ok ?_ | refine dG ?_ | ((first | refine cC ?_ ?_ | refine gS ?_ ?_ | refine dS ?_ ?_) <;> intro hc <;> first | (exfalso; simp only [dcA] at hc; omega) | (simp only [hc]; try simp only [dcA] at hc)) | refine aO ?_ | refine dO ?_)
    refine callF_frz 0 rfl (.cons (frz_ps rfl (by show 0 + la ≤ (u32s qs).length; rw [u32s_length]; omega)) .nil) (.cons (by rw [show (u32s qs).drop 0 = u32s qs from rfl, List.take_of_length_le (by rw [u32s_length]; omega)]; exact .refl _) .nil) tvq ?_
    repeat' (first | (simp only [go_sem, seval, IntKind.bits.eq_def, ti, tin, u32s_length]) | (simp (disch := omega) only [wA]) | refine aL ti_ok ?_ | refine dL ti_ok ?_ | refine dG ?_ | ((first | refine cC ?_ ?_ | refine gS ?_ ?_ | refine dS ?_ ?_) <;> intro hc <;> first | (exfalso; simp only [dcA] at hc; omega) | (simp only [hc]; try simp only [dcA] at hc)) | refine aO ?_ | refine dO ?_)
    refine callF_frz 1 rfl (.cons (frz_ps rfl (by show 0 + (lb + 1) ≤ (u32s rs).length; rw [u32s_length]; omega)) .nil) (.cons (by rw [show (u32s rs).drop 0 = u32s rs from rfl, List.take_of_length_le (by rw [u32s_length]; omega)]; exact .refl _) .nil) tvr ?_
    repeat' (first | (simp only [go_sem, seval, IntKind.bits.eq_def, ti, tin, u32s_length, hnr]) | (simp (disch := omega) only [wA]) | refine aL ti_ok ?_ | refine dL ti_ok ?_ | refine dG ?_ | ((first | refine cC ?_ ?_ | refine gS ?_ ?_ | refine dS ?_ ?_) <;> intro hc <;> first | (exfalso; simp only [dcA] at hc; omega) | (simp only [hc]; try simp only [dcA] at hc)) | refine aO ?_ | refine dO ?_)
    exact fin_same trivial (by simp [one])
  | succ i =>
    have ei : ((i + 1 : Nat) : Int) - 1 = (i : Int) := by omega
    have d1 : (i : Int).tdiv 32 = ((i / 32 : Nat) : Int) := rfl
    have d2 : (i : Int).tmod 32 = ((i % 32 : Nat) : Int) := rfl
    have ra := u32s_getD (ws := words a) (i := i / 32) (by omega)
    have hb1 := word_bit a i
    have hx := (Wd.words a).get (i / 32)
    obtain ⟨t, ht⟩ : ∃ t, a / 2 ^ i % 2 = t := ⟨_, rfl⟩
    have ht2 : t ≤ 1 := by omega
    rw [ht] at hb1
    have hkk : i % 32 < 32 := Nat.mod_lt _ (by omega)
    have hjj : i / 32 < la := by omega
    have hA := bit_step a i
    rw [ht] at hA
    obtain ⟨A, hAe⟩ : ∃ A, a / 2 ^ (i + 1) = A := ⟨_, rfl⟩
    rw [hAe] at hA hq3 hr3
    obtain ⟨sm, sd⟩ := div_bit (t := t) hb hr3
    rw [← hA] at sm sd
    have hrb : val rs < b := by rw [hr3]; exact Nat.mod_lt _ hb
    have rq := u32s_getD (ws := qs) (i := i / 32) (by omega)
    have hwq := hq2.get (i / 32)
    have hzq := word_zeros hq2 (i := i) (by rw [hq3, Nat.mul_mod_left])
    have hps := pow_split i
    have f2 : ((words a).getD (i / 32) 0 : Int) / 2 ^ (i % 32) = (((words a).getD (i / 32) 0 / 2 ^ (i % 32) : Nat) : Int) := by simp
    have hd := Nat.div_le_self ((words a).getD (i / 32) 0) (2 ^ (i % 32))
    have f3 := and32_one (y := (words a).getD (i / 32) 0 / 2 ^ (i % 32)) (by omega)
    rw [hb1] at f3
    generalize (words a).getD (i / 32) 0 = x at *
    generalize x / 2 ^ (i % 32) = y at *
    generalize hjx : i / 32 = jx at *
    generalize hkx : i % 32 = kx at *
    clear hlt hb1 hx hd
    repeat' (first | (simp only [go_sem, seval, IntKind.bits.eq_def, ti, tin, u32s_length, hla, hlb, ei, d1, d2, ra, f2, f3]) | (simp (disch := omega) only [wA]) | refine aL ti_ok ?_ | refine dL ti_ok ?_ | refine dG ?_ | ((first | refine cC ?_ ?_ | refine gS ?_ ?_ | refine dS ?_ ?_) <;> intro hc <;> first | (exfalso; simp only [dcA] at hc; omega) | (simp only [hc]; try simp only [dcA] at hc)) | refine aO ?_ | refine dO ?_)
    refine l_loop (α := Nat × List Nat × Nat) (fun x => ⟨[(0, .sl 1 (u32s (words a))), (1, .sl 1 (u32s (words b))), (6, .ps 0 1 0 la), (7, .ps 1 1 0 (lb + 1)), (8, .v (.int .i64 i)), (9, .v (.int .u32 (x.2.2))), (39, .ps 1 1 0 (lb + 1)), (40, .v (.int .i64 ((lb + 1 : Nat)))), (41, .v (.int .i64 x.1))], [(0, ⟨1, u32s qs⟩), (1, ⟨1, u32s x.2.1⟩)], 2⟩) (fun x => x.1 ≤ lb + 1 ∧ x.2.1.length = lb + 1 ∧ Wd x.2.1 ∧ x.2.2 ≤ 1 ∧ x.2.1.drop x.1 = rs.drop x.1 ∧ val (x.2.1.take x.1) + x.2.2 * 4294967296 ^ x.1 = 2 * val (rs.take x.1) + t) (fun x => lb + 1 - x.1) ((0, rs, t)) _ byFresh (fun _ h => by first | (cases h; done) | exact Nat.le_of_ble_eq_true rfl) ?_ ?_ ?_
    · exact ⟨Nat.zero_le _, hr1, hr2, ht2, rfl, by simp [val]⟩
    · exact byWeak
    rintro ⟨k, r2, c⟩ ⟨hk, g1, g2, g3, g4, g5⟩
    simp only at hk g1 g2 g3 g4 g5
    by_cases hkn : k < lb + 1
    ·
      have r0 := u32s_getD (ws := r2) (i := k) (by omega)
      have hw := g2.get k
      have hxe : r2.getD k 0 = rs.getD k 0 := by
        have h1 : (r2.drop k).getD 0 0 = (rs.drop k).getD 0 0 := by rw [g4]
        simpa [List.getD] using h1
      have hd2 : r2.drop (k + 1) = rs.drop (k + 1) := by
        have h1 : (r2.drop k).drop 1 = (rs.drop k).drop 1 := by rw [g4]
        simpa [List.drop_drop, Nat.add_comm] using h1
      have vt := val_take_succ (ws := rs) (k := k) (by omega)
      rw [← hxe] at vt
      have oe := or_even (x := r2.getD k 0) (c := c) hw g3
      have vs := val_take_set (ws := r2) (k := k) (d := 2 * r2.getD k 0 % 4294967296 + c) (by omega)
      generalize r2.getD k 0 = w at *
      have f5 : (w : Int) / 2147483648 = ((w / 2147483648 : Nat) : Int) := rfl
      have f6 : (w : Int) * 2 = ((2 * w : Nat) : Int) := by omega
      have f7 := wrap_u32 (2 * w)
      have hy2 : 2 * w % 4294967296 + c < 4294967296 := by omega
      have hy3 : 2 * w % 4294967296 + c + w / 2147483648 * 4294967296 = 2 * w + c := by omega
      have hc2 : w / 2147483648 ≤ 1 := by omega
      generalize hv1 : 2 * w % 4294967296 = v1 at *
      generalize w / 2147483648 = c2 at *
      repeat' (first | (simp only [go_sem, seval, IntKind.bits.eq_def, ti, tin, u32s_length, u32s_set, r0, f5, f6, f7, oe]) | (simp (disch := omega) only [wA]) | refine aL ti_ok ?_ | refine dL ti_ok ?_ | refine dG ?_ | ((first | refine cC ?_ ?_ | refine gS ?_ ?_ | refine dS ?_ ?_) <;> intro hc <;> first | (exfalso; simp only [dcA] at hc; omega) | (simp only [hc]; try simp only [dcA] at hc)) | refine aO ?_ | refine dO ?_)
      refine roundEnd_of (α := Nat × List Nat × Nat) (k + 1, r2.set k (v1 + c), c2) ?_ ?_ ?_
      · refine ⟨by omega, by simp [g1], g2.set k hy2, hc2, ?_, ?_⟩
        · show (r2.set k (v1 + c)).drop (k + 1) = rs.drop (k + 1)
          rw [List.drop_set_of_lt (by omega), hd2]
        · show val ((r2.set k (v1 + c)).take (k + 1)) + c2 * 4294967296 ^ (k + 1) = 2 * val (rs.take (k + 1)) + t
          rw [vs, vt, Nat.pow_succ]
          generalize 4294967296 ^ k = Z at *
          have e1 : Z * (v1 + c) + c2 * (Z * 4294967296) = Z * (2 * w + c) := by rw [← hy3, Nat.mul_add Z (v1 + c)]; congr 1; ac_rfl
          have e2 : Z * (2 * w + c) = 2 * (Z * w) + c * Z := by rw [Nat.mul_add, Nat.mul_comm Z c]; congr 1; ac_rfl
          omega
      · show lb + 1 - (k + 1) < lb + 1 - k; omega
      · exact byWeak
    ·
      obtain rfl : k = lb + 1 := by omega
      rw [List.take_of_length_le (by omega), List.take_of_length_le (by omega)] at g5
      have hc0 : c = 0 := by
        rcases (by omega : c = 0 ∨ c = 1) with h | h
        · exact h
        · rw [h, Nat.one_mul] at g5; omega
      rw [hc0, Nat.zero_mul, Nat.add_zero] at g5
      clear hc0 g3 g4 hr1 hr2
      rw [← g5] at sm sd
      have hvb : val r2 < 2 * b := by omega
      have tv := ref_trimV r2 (lb + 1) g2 g1 (by omega)
      obtain ⟨tw1, tw2⟩ := take_words g2
      obtain ⟨nv, hnv⟩ : ∃ nv, (words (val r2)).length = nv := ⟨_, rfl⟩
      rw [hnv] at tv tw1 tw2
      rw [g1] at tw2
      have ls := ref_less (val r2) b (by omega) (by omega)
      have mn := fun h => ref_minusW r2 (val r2) b nv h hnv (by omega) (by omega) tw1
      have hlez : (u32s r2).take nv = u32s (words (val r2)) := by rw [u32s_take, tw1]
      repeat' (first | (simp only [go_sem, seval, IntKind.bits.eq_def, ti, tin, u32s_length]) | (simp (disch := omega) only [wA]) | refine aL ti_ok ?_ | refine dL ti_ok ?_ | refine dG ?_ | ((first | refine cC ?_ ?_ | refine gS ?_ ?_ | refine dS ?_ ?_) <;> intro hc <;> first | (exfalso; simp only [dcA] at hc; omega) | (simp only [hc]; try simp only [dcA] at hc)) | refine aO ?_ | refine dO ?_)
      refine callF_part 1 rfl ⟨Nat.ne_of_beq_eq_false rfl, .inl rfl⟩ (by show 0 < (u32s r2).length; rw [u32s_length]; omega) u32s_clM u32s_clM rfl byRn (.ps0 _ _ _) byNoe byNom tv ?_
      repeat' (first | (simp only [go_sem, seval, IntKind.bits.eq_def, ti, tin, u32s_length]) | (simp (disch := omega) only [wA]) | refine aL ti_ok ?_ | refine dL ti_ok ?_ | refine dG ?_ | ((first | refine cC ?_ ?_ | refine gS ?_ ?_ | refine dS ?_ ?_) <;> intro hc <;> first | (exfalso; simp only [dcA] at hc; omega) | (simp only [hc]; try simp only [dcA] at hc)) | refine aO ?_ | refine dO ?_)
      refine callF_peek 1 rfl (.cons (frz_ps rfl (by show 0 + nv ≤ (u32s r2).length; rw [u32s_length]; omega)) (.cons .same .nil)) (.cons (by rw [show (u32s r2).drop 0 = u32s r2 from rfl, hlez]; exact .refl _) (.cons (.refl _) .nil)) ls ?_
      by_cases hvb2 : val r2 < b
      ·
        rw [decide_eq_true hvb2]
        have sd2 : a / 2 ^ i / b = 2 * (A / b) := by rw [sd, Nat.div_eq_of_lt hvb2, Nat.add_zero]
        have sm2 : val r2 = a / 2 ^ i % b := by rw [sm, Nat.mod_eq_of_lt hvb2]
        repeat' (first | (simp only [go_sem, seval, IntKind.bits.eq_def, ti, tin, u32s_length]) | (simp (disch := omega) only [wA]) | refine aL ti_ok ?_ | refine dL ti_ok ?_ | refine dG ?_ | ((first | refine cC ?_ ?_ | refine gS ?_ ?_ | refine dS ?_ ?_) <;> intro hc <;> first | (exfalso; simp only [dcA] at hc; omega) | (simp only [hc]; try simp only [dcA] at hc)) | refine aO ?_ | refine dO ?_)
        refine roundEnd_of (α := Nat × List Nat × List Nat) (i, qs, r2) ?_ ?_ ?_
        · refine ⟨by omega, ⟨hq1, hq2, ?_⟩, g1, g2, sm2⟩
          show val qs = a / 2 ^ i / b * 2 ^ i
          rw [hq3, sd2, Nat.pow_succ]; ac_rfl
        · show i < i + 1; omega
        · exact byWeak
      ·
        rw [decide_eq_false hvb2]
        obtain ⟨sm1, sd1⟩ := small_mod (show b ≤ val r2 by omega) (show val r2 < 2 * b by omega)
        have sd2 : a / 2 ^ i / b = 2 * (A / b) + 1 := by rw [sd, sd1]
        have sm2 : val r2 - b = a / 2 ^ i % b := by rw [sm, sm1]
        have mn1 := mn (by omega)
        have hld : (words (val r2 - b)).length ≤ lb := by rw [← hlb]; exact words_len_mono (by omega)
        generalize hdd : val r2 - b = dd at *
        repeat' (first | (simp only [go_sem, seval, IntKind.bits.eq_def, ti, tin, u32s_length]) | (simp (disch := omega) only [wA]) | refine aL ti_ok ?_ | refine dL ti_ok ?_ | refine dG ?_ | ((first | refine cC ?_ ?_ | refine gS ?_ ?_ | refine dS ?_ ?_) <;> intro hc <;> first | (exfalso; simp only [dcA] at hc; omega) | (simp only [hc]; try simp only [dcA] at hc)) | refine aO ?_ | refine dO ?_)
        refine callF_part 1 rfl ⟨Nat.ne_of_beq_eq_false rfl, .inl rfl⟩ (by show 0 < (u32s r2).length; rw [u32s_length]; omega) u32s_clM u32s_clM rfl byRn (.ps0 _ _ _) byNoe byNom tv ?_
        repeat' (first | (simp only [go_sem, seval, IntKind.bits.eq_def, ti, tin, u32s_length]) | (simp (disch := omega) only [wA]) | refine aL ti_ok ?_ | refine dL ti_ok ?_ | refine dG ?_ | ((first | refine cC ?_ ?_ | refine gS ?_ ?_ | refine dS ?_ ?_) <;> intro hc <;> first | (exfalso; simp only [dcA] at hc; omega) | (simp only [hc]; try simp only [dcA] at hc)) | refine aO ?_ | refine dO ?_)
        refine callF_own 1 rfl (by show 0 < (u32s r2).length; rw [u32s_length]; omega) u32s_clM byRenL mn1 ?_
        repeat' (first | (simp only [go_sem, seval, IntKind.bits.eq_def, ti, tin, u32s_length]) | (simp (disch := omega) only [wA]) | refine aL ti_ok ?_ | refine dL ti_ok ?_ | refine dG ?_ | ((first | refine cC ?_ ?_ | refine gS ?_ ?_ | refine dS ?_ ?_) <;> intro hc <;> first | (exfalso; simp only [dcA] at hc; omega) | (simp only [hc]; try simp only [dcA] at hc)) | refine aO ?_ | refine dO ?_)
        refine l_loop (α := Nat × List Nat) (fun x => ⟨[(0, .sl 1 (u32s (words a))), (1, .sl 1 (u32s (words b))), (6, .ps 0 1 0 la), (7, .ps 1 1 0 (lb + 1)), (8, .v (.int .i64 i)), (12, .sl 1 (u32s (words dd))), (70, .ps 1 1 0 (lb + 1)), (71, .v (.int .i64 ((lb + 1 : Nat)))), (72, .v (.int .i64 x.1))], [(0, ⟨1, u32s qs⟩), (1, ⟨1, u32s x.2⟩)], 2⟩) (fun x => x.1 ≤ lb + 1 ∧ x.2.length = lb + 1 ∧ x.2.take x.1 = List.replicate x.1 0) (fun x => lb + 1 - x.1) ((0, r2)) _ byFresh (fun _ h => by first | (cases h; done) | exact Nat.le_of_ble_eq_true rfl) ?_ ?_ ?_
        · exact ⟨Nat.zero_le _, g1, rfl⟩
        · exact byWeak
        rintro ⟨k, zs⟩ ⟨hk, z1, z2⟩
        simp only at hk z1 z2
        by_cases hkn : k < lb + 1
        ·
          have us : (u32s zs).set k [AV.v (.int .u32 0)] = u32s (zs.set k 0) := u32s_set zs k 0
          have st := take_set_succ (ws := zs) (k := k) (by omega) 0
          rw [z2] at st
          have rz := u32s_getD (ws := zs) (i := k) (by omega)
          repeat' (first | (simp only [go_sem, seval, IntKind.bits.eq_def, ti, tin, u32s_length, rz, us]) | (simp (disch := omega) only [wA]) | refine aL ti_ok ?_ | refine dL ti_ok ?_ | refine dG ?_ | ((first | refine cC ?_ ?_ | refine gS ?_ ?_ | refine dS ?_ ?_) <;> intro hc <;> first | (exfalso; simp only [dcA] at hc; omega) | (simp only [hc]; try simp only [dcA] at hc)) | refine aO ?_ | refine dO ?_)
          refine roundEnd_of (α := Nat × List Nat) (k + 1, zs.set k 0) ?_ ?_ ?_
          · exact ⟨by omega, by simp [z1], by show (zs.set k 0).take (k + 1) = _; rw [st, List.replicate_succ']⟩
          · show lb + 1 - (k + 1) < lb + 1 - k; omega
          · exact byWeak
        ·
          obtain rfl : k = lb + 1 := by omega
          rw [List.take_of_length_le (by omega)] at z2
          subst z2
          obtain ⟨ld, hldd⟩ : ∃ ld, (words dd).length = ld := ⟨_, rfl⟩
          rw [hldd] at hld
          have ul := u32s_length (words dd)
          rw [hldd] at ul
          have cp : u32s (words dd) ++ (u32s (List.replicate (lb + 1) 0)).drop (words dd).length = u32s (words dd ++ List.replicate (lb + 1 - ld) 0) := by
            rw [hldd, u32s_drop, List.drop_replicate, u32s_append]
          have vn : val (words dd ++ List.replicate (lb + 1 - ld) 0) = dd := by rw [val_append, val_words, val_zeros]; simp
          have wn : Wd (words dd ++ List.replicate (lb + 1 - ld) 0) := (Wd.words dd).append (Wd.zeros _)
          have lnn : (words dd ++ List.replicate (lb + 1 - ld) 0).length = lb + 1 := by rw [List.length_append, hldd, List.length_replicate]; omega
          obtain ⟨op1, op2⟩ := or_put hwq hkk hzq
          have us := u32s_set qs jx (qs.getD jx 0 + 2 ^ kx)
          have vs := val_put (ws := qs) (k := jx) (x := qs.getD jx 0) (y := 2 ^ kx) (by omega) rfl
          have ws2 := hq2.set jx op2
          generalize words dd ++ List.replicate (lb + 1 - ld) 0 = rs2 at *
          generalize hwv : qs.getD jx 0 = w at *
          repeat' (first | (simp only [go_sem, seval, IntKind.bits.eq_def, ti, tin, u32s_length]) | (simp (disch := omega) only [wA]) | refine aL ti_ok ?_ | refine dL ti_ok ?_ | refine dG ?_ | ((first | refine cC ?_ ?_ | refine gS ?_ ?_ | refine dS ?_ ?_) <;> intro hc <;> first | (exfalso; simp only [dcA] at hc; omega) | (simp only [hc]; try simp only [dcA] at hc)) | refine aO ?_ | refine dO ?_)
          refine after_copy ti_ok rfl rfl rfl rfl rfl rfl ⟨rfl, rfl, by decide⟩ ⟨by omega, by rw [ul]; omega, by show lb + 1 ≤ (u32s _).length; rw [u32s_length, List.length_replicate]; exact Nat.le_refl _⟩ rowsOK_u32s ?_
          have f9 : (2 : Int) ^ kx = ((2 ^ kx : Nat) : Int) := by simp
          have f10 := wrap_u32 (2 ^ kx)
          rw [Nat.mod_eq_of_lt (by omega)] at f10
          repeat' (first | (simp only [go_sem, seval, IntKind.bits.eq_def, ti, tin, u32s_length, cp, d1, d2, rq, f9, f10, op1, us]) | (simp (disch := omega) only [wA]) | refine aL ti_ok ?_ | refine dL ti_ok ?_ | refine dG ?_ | ((first | refine cC ?_ ?_ | refine gS ?_ ?_ | refine dS ?_ ?_) <;> intro hc <;> first | (exfalso; simp only [dcA] at hc; omega) | (simp only [hc]; try simp only [dcA] at hc)) | refine aO ?_ | refine dO ?_)
          refine roundEnd_of (α := Nat × List Nat × List Nat) (i, qs.set jx (w + 2 ^ kx), rs2) ?_ ?_ ?_
          · refine ⟨by omega, ⟨by simp [hq1], ws2, ?_⟩, lnn, wn, by show val rs2 = _; rw [vn, sm2]⟩
            show val (qs.set jx (w + 2 ^ kx)) = a / 2 ^ i / b * 2 ^ i
            rw [vs, hq3, sd2, hps, Nat.pow_succ, Nat.add_mul, Nat.one_mul]
            congr 1; ac_rfl
          · show i < i + 1; omega
          · exact byWeak
end Go.Proofs.YtpggiabnhodjpaaGreatDoor
