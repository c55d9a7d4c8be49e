/- The plain arithmetic of the reference (ref02), part 10: Same. -/
import Derived.Test.YtfmgfjmfogmeeaaGreatDoorRef9
import Derived.Test.YtfmgfjmfogmeeaaGreatDoorTy
import Derived.Test.YtfmgfjmfogmeeaaGreatDoorU2
set_option linter.unusedSimpArgs false
set_option linter.unusedVariables false
set_option linter.deprecated false
namespace Go.Proofs.YtfmgfjmfogmeeaaGreatDoor
open Go Go.Ax
set_option maxRecDepth 100000
set_option maxHeartbeats 4000000
theorem take_eq_succ {a b : List Nat} {i : Nat} (h1 : i < a.length) (h2 : i < b.length) (h : a.take i = b.take i) (hx : a.getD i 0 = b.getD i 0) : a.take (i + 1) = b.take (i + 1) := by
  rw [take_succ_getD h1, take_succ_getD h2, h, hx]
theorem ref_Same_raw (s : Bool) (ws : List Nat) (d : Int) (s' : Bool) (ws' : List Nat) (d' : Int) (hl : ws.length ≤ 4611686018427387904) (hl' : ws'.length ≤ 4611686018427387904) : CallOK Tryz.prog gl 11 [.agg [.v (.bool s), .sl 1 (u32s ws), .v (.int .i64 d)], .agg [.v (.bool s'), .sl 1 (u32s ws'), .v (.int .i64 d')]] (.v (.bool ((decide (s = s' ∧ ws = ws' ∧ d = d'))))) := by
  refine call_ok (C := ⟨Tryz.prog, gl, ti, 45, false⟩) ti_ok mixed 3000 Tryz.call11 Tryz.func11 rfl Tryz.ntmps11 (by simp) byClL byCl ?_
  rw [Tryz.results11]
  obtain ⟨z, hz⟩ : ∃ z, decide (s = s' ∧ ws = ws' ∧ d = d') = z := ⟨_, rfl⟩
  rw [hz]
  by_cases hs : s = s'
  · subst hs
    have e1 : decide (s = s) = true := decide_eq_true rfl
    by_cases hd : d = d'
    · subst hd
      by_cases hw : ws.length = ws'.length
      · obtain ⟨n, hn⟩ : ∃ n : Nat, ws.length = n := ⟨_, rfl⟩
        have hn' : ws'.length = n := by omega
        repeat' (first | (simp only [go_sem, seval, IntKind.bits.eq_def, ti, tin, u32s_length, e1, hn, hn']) | (simp (disch := omega) only [wA]) | refine aL ti_ok ?_ | refine dL ti_ok ?_ | refine dG ?_ | ((first | refine cC ?_ ?_ | refine gS ?_ ?_ | refine dS ?_ ?_) <;> intro hc <;> first | (exfalso; simp only [dcA] at hc; omega) | (simp only [hc]; try simp only [dcA] at hc)) | refine aO ?_ | refine dO ?_)
        refine l_loop (α := Nat) (fun x => ⟨[(2, .p 0 3 0 0), (3, .p 1 3 0 0), (29, .v (.int .i64 n)), (30, .v (.int .i64 x))], [(0, ⟨3, [[.v (.bool s), .sl 1 (u32s ws), .v (.int .i64 d)]]⟩), (1, ⟨3, [[.v (.bool s), .sl 1 (u32s ws'), .v (.int .i64 d)]]⟩)], 2⟩) (fun x => x ≤ n ∧ ws.take x = ws'.take x) (fun x => n - x) (0) _ byFresh (fun _ h => by first | (cases h; done) | exact Nat.le_of_ble_eq_true rfl) ?_ ?_ ?_
        · exact ⟨Nat.zero_le _, rfl⟩
        · exact byWeak
        rintro i ⟨hi, ht⟩
        by_cases hin : i < n
        ·
          have ra := u32s_getD (ws := ws) (i := i) (by omega)
          have rb := u32s_getD (ws := ws') (i := i) (by omega)
          have ts := take_eq_succ (a := ws) (b := ws') (i := i) (by omega) (by omega) ht
          have hne : ws.getD i 0 ≠ ws'.getD i 0 → decide (s = s ∧ ws = ws' ∧ d = d) = false := fun h => decide_eq_false (fun hh => h (by rw [hh.2.1]))
          generalize ws.getD i 0 = x at *
          generalize ws'.getD i 0 = y at *
          by_cases hxy : x = y
          ·
            have ts2 := ts hxy
            subst hxy
            clear hne
            repeat' (first | (simp only [go_sem, seval, IntKind.bits.eq_def, ti, tin, u32s_length, e1, hn, hn', ra, rb]) | (simp (disch := omega) only [wA]) | refine aL ti_ok ?_ | refine dL ti_ok ?_ | refine dG ?_ | ((first | refine cC ?_ ?_ | refine gS ?_ ?_ | refine dS ?_ ?_) <;> intro hc <;> first | (exfalso; simp only [dcA] at hc; omega) | (simp only [hc]; try simp only [dcA] at hc)) | refine aO ?_ | refine dO ?_)
            refine roundEnd_of (α := Nat) (i + 1) ⟨by omega, ts2⟩ (by omega) ?_
            exact byWeak
          ·
            rw [hne hxy] at hz
            subst hz
            have hxy' : ¬ (x : Int) = (y : Int) := by omega
            clear hne ts
            repeat' (first | (simp only [go_sem, seval, IntKind.bits.eq_def, ti, tin, u32s_length, e1, hn, hn', ra, rb]) | (simp (disch := omega) only [wA]) | refine aL ti_ok ?_ | refine dL ti_ok ?_ | refine dG ?_ | ((first | refine cC ?_ ?_ | refine gS ?_ ?_ | refine dS ?_ ?_) <;> intro hc <;> first | (exfalso; simp only [dcA] at hc; omega) | (simp only [hc]; try simp only [dcA] at hc)) | refine aO ?_ | refine dO ?_)
            exact fin_same trivial rfl
        ·
          have hi2 : i = n := by omega
          have hww : ws = ws' := by
            rw [List.take_of_length_le (by omega), List.take_of_length_le (by omega)] at ht
            exact ht
          rw [decide_eq_true (show s = s ∧ ws = ws' ∧ d = d from ⟨rfl, hww, rfl⟩)] at hz
          subst hz
          clear hww ht
          repeat' (first | (simp only [go_sem, seval, IntKind.bits.eq_def, ti, tin, u32s_length, e1, hn, hn']) | (simp (disch := omega) only [wA]) | refine aL ti_ok ?_ | refine dL ti_ok ?_ | refine dG ?_ | ((first | refine cC ?_ ?_ | refine gS ?_ ?_ | refine dS ?_ ?_) <;> intro hc <;> first | (exfalso; simp only [dcA] at hc; omega) | (simp only [hc]; try simp only [dcA] at hc)) | refine aO ?_ | refine dO ?_)
          exact fin_same trivial rfl
      · rw [decide_eq_false (fun hh => hw (by rw [hh.2.1]))] at hz
        subst hz
        have hw' : ¬ (ws.length : Int) = (ws'.length : Int) := by omega
        repeat' (first | (simp only [go_sem, seval, IntKind.bits.eq_def, ti, tin, u32s_length, e1]) | (simp (disch := omega) only [wA]) | refine aL ti_ok ?_ | refine dL ti_ok ?_ | refine dG ?_ | ((first | refine cC ?_ ?_ | refine gS ?_ ?_ | refine dS ?_ ?_) <;> intro hc <;> first | (exfalso; simp only [dcA] at hc; omega) | (simp only [hc]; try simp only [dcA] at hc)) | refine aO ?_ | refine dO ?_)
        all_goals exact fin_same trivial rfl
    · rw [decide_eq_false (fun hh => hd hh.2.2)] at hz
      subst hz
      repeat' (first | (simp only [go_sem, seval, IntKind.bits.eq_def, ti, tin, u32s_length, e1]) | (simp (disch := omega) only [wA]) | refine aL ti_ok ?_ | refine dL ti_ok ?_ | refine dG ?_ | ((first | refine cC ?_ ?_ | refine gS ?_ ?_ | refine dS ?_ ?_) <;> intro hc <;> first | (exfalso; simp only [dcA] at hc; omega) | (simp only [hc]; try simp only [dcA] at hc)) | refine aO ?_ | refine dO ?_)
      all_goals exact fin_same trivial rfl
  · rw [decide_eq_false (fun hh => hs hh.1)] at hz
    subst hz
    have e1 : decide (s = s') = false := decide_eq_false hs
    repeat' (first | (simp only [go_sem, seval, IntKind.bits.eq_def, ti, tin, u32s_length, e1]) | (simp (disch := omega) only [wA]) | refine aL ti_ok ?_ | refine dL ti_ok ?_ | refine dG ?_ | ((first | refine cC ?_ ?_ | refine gS ?_ ?_ | refine dS ?_ ?_) <;> intro hc <;> first | (exfalso; simp only [dcA] at hc; omega) | (simp only [hc]; try simp only [dcA] at hc)) | refine aO ?_ | refine dO ?_)
    all_goals exact fin_same trivial rfl
theorem Dy.same {x y : Dy} : (sg x = sg y ∧ ms x = ms y ∧ dn x = dn y) ↔ x = y := by
  refine ⟨fun ⟨h1, h2, h3⟩ => ?_, fun h => by subst h; exact ⟨rfl, rfl, rfl⟩⟩
  have a := res_self x
  have b := res_self y
  rw [h1, h2, h3] at a
  exact a.symm.trans b
instance : DecidableEq Dy := fun _ _ => decidable_of_iff _ Dy.same
theorem ref_Same (x y : Dy) (hl : (ms x).length ≤ 4611686018427387904) (hl' : (ms y).length ≤ 4611686018427387904) : CallOK Tryz.prog gl 11 [.agg [.v (.bool (sg x)), .sl 1 (u32s (ms x)), .v (.int .i64 (dn x))], .agg [.v (.bool (sg y)), .sl 1 (u32s (ms y)), .v (.int .i64 (dn y))]] (.v (.bool (decide (x = y)))) := by
  have h := ref_Same_raw (sg x) (ms x) (dn x) (sg y) (ms y) (dn y) hl hl'
  rw [show decide (sg x = sg y ∧ ms x = ms y ∧ dn x = dn y) = decide (x = y) from decide_eq_decide.2 Dy.same] at h
  exact h
end Go.Proofs.YtfmgfjmfogmeeaaGreatDoor
/- The plain arithmetic of the reference (ref02), part 11: Mul. -/
set_option linter.unusedSimpArgs false
set_option linter.unusedVariables false
set_option linter.deprecated false
namespace Go.Proofs.YtfmgfjmfogmeeaaGreatDoor
open Go Go.Ax
set_option maxRecDepth 100000
set_option maxHeartbeats 4000000
end Go.Proofs.YtfmgfjmfogmeeaaGreatDoor
/- The plain arithmetic of the reference (ref02), part 12: Bits. -/
set_option linter.unusedSimpArgs false
set_option linter.unusedVariables false
set_option linter.deprecated false
namespace Go.Proofs.YtfmgfjmfogmeeaaGreatDoor
open Go Go.Ax
set_option maxRecDepth 100000
set_option maxHeartbeats 4000000
end Go.Proofs.YtfmgfjmfogmeeaaGreatDoor
/- The plain arithmetic of the reference (ref02), part 13: Floor. -/
set_option linter.unusedSimpArgs false
set_option linter.unusedVariables false
set_option linter.deprecated false
namespace Go.Proofs.YtfmgfjmfogmeeaaGreatDoor
open Go Go.Ax
set_option maxRecDepth 100000
set_option maxHeartbeats 4000000
end Go.Proofs.YtfmgfjmfogmeeaaGreatDoor
/- The numbers of errors. -/
set_option linter.unusedSimpArgs false
set_option linter.unusedVariables false
set_option linter.deprecated false
namespace Go.Proofs.YtfmgfjmfogmeeaaGreatDoor
open Go Go.Ax
set_option maxRecDepth 100000
set_option maxHeartbeats 2000000
theorem base_Num_nil  : CallOK Tryz.prog gl 14 [.v .nilIface] (.v (.int .i64 0)) := by
  refine call_ok (C := ⟨Tryz.prog, gl, ti, 14, false⟩) ti_ok mixed 3000 Tryz.call14 Tryz.func14 rfl Tryz.ntmps14 (by simp) byClL byCl ?_
  rw [Tryz.results14]
  repeat' (first | (simp only [go_sem, seval, IntKind.bits.eq_def, ti, tin]) | (simp (disch := omega) only [wA]) | refine aL ti_ok ?_ | refine dL ti_ok ?_ | refine dG ?_ | ((first | refine cC ?_ ?_ | refine gS ?_ ?_ | refine dS ?_ ?_) <;> intro hc <;> first | (exfalso; simp only [dcA] at hc; omega) | (simp only [hc]; try simp only [dcA] at hc)) | refine aO ?_ | refine dO ?_)
  exact fin_same trivial rfl
theorem base_Num (n : Int) : CallOK Tryz.prog gl 14 [.v (.iface 67 (.int .i64 (n)))] (.v (.int .i64 n)) := by
  refine call_ok (C := ⟨Tryz.prog, gl, ti, 14, false⟩) ti_ok mixed 3000 Tryz.call14 Tryz.func14 rfl Tryz.ntmps14 (by simp) byClL byCl ?_
  rw [Tryz.results14]
  repeat' (first | (simp only [go_sem, seval, IntKind.bits.eq_def, ti, tin]) | (simp (disch := omega) only [wA]) | refine aL ti_ok ?_ | refine dL ti_ok ?_ | refine dG ?_ | ((first | refine cC ?_ ?_ | refine gS ?_ ?_ | refine dS ?_ ?_) <;> intro hc <;> first | (exfalso; simp only [dcA] at hc; omega) | (simp only [hc]; try simp only [dcA] at hc)) | refine aO ?_ | refine dO ?_)
  exact fin_same trivial rfl
end Go.Proofs.YtfmgfjmfogmeeaaGreatDoor
