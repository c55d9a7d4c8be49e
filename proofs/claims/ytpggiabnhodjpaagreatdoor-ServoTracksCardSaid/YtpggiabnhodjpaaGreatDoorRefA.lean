/- The plain arithmetic of the reference (ref02), part 9: Shift, Same. -/
import Derived.Test.YtpggiabnhodjpaaGreatDoorRef8
set_option linter.unusedSimpArgs false
set_option linter.unusedVariables false
set_option linter.deprecated false
namespace Go.Proofs.YtpggiabnhodjpaaGreatDoor
open Go Go.Ax
set_option maxRecDepth 100000
set_option maxHeartbeats 4000000
theorem res_shift_up {x : Dy} {c : Nat} (h : c ≤ 65536) : nrm (sgn (sg x) (x.n.natAbs * 2 ^ c)) x.d = x.shift (c : Int) := by
  refine Dy.ext_v ?_
  rw [v_shift_pos h, sgn_mul_nat, sgn_sg]
  have h1 := v_nrm_mul (z := x.n * ((2 ^ c : Nat) : Int)) (d := x.d) x.ok.1
  have h2 := x.v_mul
  refine v_of_mul (d := x.d) ?_
  rw [h1, Rat.intCast_mul, ← h2, ← p2int, ← p2nat]
  grind
theorem ref_Shift (s : Bool) (ws : List Nat) (d : Int) (k : Int) (x : Dy) (h : Arg s ws d x) : CallOK Tryz.prog gl 72 [.agg [.v (.bool s), .sl 1 (u32s ws), .v (.int .i64 d)], .v (.int .i64 k)] (.agg [.v (.bool (sg (x.shift k))), .sl 1 (u32s (ms (x.shift k))), .v (.int .i64 (dn (x.shift k)))]) := by
  refine call_ok (C := ⟨Tryz.prog, gl, ti, 30, false⟩) ti_ok mixed 3000 Tryz.call72 Tryz.func72 rfl Tryz.ntmps72 (by simp) byClL byCl ?_
  rw [Tryz.results72]
  have pa := ref_Norm s ws d x h
  have hl : (words x.n.natAbs).length ≤ _ := h.mlen
  have hd := dn_nn x
  have hl2 := h.mlen
  have hc1 := clipD_bd k
  have e1 : max (-65536) (min k 65536) = clipD k := rfl
  by_cases hk : clipD k < 0
  · have rs := ref_num (sg x) (ms x) (dn x - clipD k) (ms_wd x) (by omega) (by omega) (by omega)
    rw [res_shift (by omega)] at rs
    generalize clipD k = c at *
    repeat' (first | (simp only [go_sem, seval, IntKind.bits.eq_def, ti, tin, e1]) | (simp (disch := omega) only [wA]) | (with_reducible first | refine cF pa ?_ | refine dF pa ?_ | refine cF rs ?_ | refine dF rs ?_) | refine aL ti_ok ?_ | refine dL ti_ok ?_ | refine dG ?_ | ((first | refine cC ?_ ?_ | refine gS ?_ ?_ | refine dS ?_ ?_) <;> intro hc <;> first | (exfalso; simp only [dcA] at hc; omega) | (simp only [hc]; try simp only [dcA] at hc)) | refine aO ?_ | refine dO ?_)
    exact fin_same trivial rfl
  · obtain ⟨c, hc⟩ : ∃ c : Nat, clipD k = c := ⟨(clipD k).toNat, by omega⟩
    have lf := ref_left x.n.natAbs c (by omega) (by omega)
    have ll := words_shl_len (a := x.n.natAbs) (n := c) (by omega)
    have rs := ref_num (sg x) (words (x.n.natAbs * 2 ^ c)) (dn x) (Wd.words _) (by omega) (by omega) (by omega)
    rw [val_words, dn_toNat, res_shift_up (by omega)] at rs
    have e0 : x.shift k = x.shift (c : Int) := by
      have : clipD (c : Int) = clipD k := by rw [hc]; unfold clipD; omega
      unfold Dy.shift; rw [this]
    rw [e0]
    rw [hc] at e1 hk hc1
    generalize x.n.natAbs * 2 ^ c = m at *
    repeat' (first | (simp only [go_sem, seval, IntKind.bits.eq_def, ti, tin, e1]) | (simp (disch := omega) only [wA]) | (with_reducible first | refine cF pa ?_ | refine dF pa ?_ | refine cF lf ?_ | refine dF lf ?_ | refine cF rs ?_ | refine dF rs ?_) | refine aL ti_ok ?_ | refine dL ti_ok ?_ | refine dG ?_ | ((first | refine cC ?_ ?_ | refine gS ?_ ?_ | refine dS ?_ ?_) <;> intro hc <;> first | (exfalso; simp only [dcA] at hc; omega) | (simp only [hc]; try simp only [dcA] at hc)) | refine aO ?_ | refine dO ?_)
    exact fin_same trivial rfl
end Go.Proofs.YtpggiabnhodjpaaGreatDoor
/- The plain arithmetic of the reference (ref02), part 10: Same. -/
set_option linter.unusedSimpArgs false
set_option linter.unusedVariables false
set_option linter.deprecated false
namespace Go.Proofs.YtpggiabnhodjpaaGreatDoor
open Go Go.Ax
set_option maxRecDepth 100000
set_option maxHeartbeats 4000000
theorem Dy.same {x y : Dy} : (sg x = sg y ∧ ms x = ms y ∧ dn x = dn y) ↔ x = y := by
  refine ⟨fun ⟨h1, h2, h3⟩ => ?_, fun h => by subst h; exact ⟨rfl, rfl, rfl⟩⟩
  have a := res_self x
  have b := res_self y
  rw [h1, h2, h3] at a
  exact a.symm.trans b
instance : DecidableEq Dy := fun _ _ => decidable_of_iff _ Dy.same
end Go.Proofs.YtpggiabnhodjpaaGreatDoor
