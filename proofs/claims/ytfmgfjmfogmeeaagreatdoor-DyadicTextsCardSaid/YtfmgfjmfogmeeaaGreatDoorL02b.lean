/- The statements on layer 2: the document's examples; short numbers. -/
import Derived.Test.YtfmgfjmfogmeeaaGreatDoorText
import Derived.Test.YtfmgfjmfogmeeaaGreatDoorDy6
import Derived.Test.YtfmgfjmfogmeeaaGreatDoorNum
import Derived.Test.YtfmgfjmfogmeeaaGreatDoorU3
set_option linter.unusedSimpArgs false
set_option linter.unusedVariables false
set_option linter.deprecated false
namespace Go.Proofs.YtfmgfjmfogmeeaaGreatDoor
open Go Go.Ax
set_option maxRecDepth 100000
set_option maxHeartbeats 4000000
theorem c2 : ((2 : Nat) : Int) = 2 := rfl
theorem c0 : ((0 : Nat) : Int) = 0 := rfl
theorem c3 : ((3 : Nat) : Int) = 3 := rfl
theorem c4 : ((4 : Nat) : Int) = 4 := rfl
theorem argc {x : Dy} (h : x.n.natAbs < 4294967296) : Arg (sg x) (ms x) (dn x) x := Arg.of (mg_of_ms (k := 1) (words_length_le (by simpa using h))) (by omega)
theorem awake02  : CallOK Tryz.prog gl 7 [] (.v (.bool (true))) := by
  refine call_ok (C := ⟨Tryz.prog, gl, ti, 48, false⟩) ti_ok mixed 3000 Tryz.call7 Tryz.func7 rfl Tryz.ntmps7 (by simp) byClL byCl ?_
  rw [Tryz.results7]
  have m1 := Make_ok 6 2 (by omega) (by omega)
  rw [c2] at m1
  have a1 : Arg _ _ _ (nrm 6 2) := argc (by decide +kernel)
  have a2 : Arg _ _ _ (nrm 6 2).neg := argc (by decide +kernel)
  have a3 : Arg _ _ _ ((nrm 6 2).neg.floor 0) := argc (by decide +kernel)
  have n1 := Neg_ok _ _ _ _ a1
  have f1 := Floor_ok _ _ _ 0 _ a2 (by omega)
  rw [c0] at f1
  have o1 := Of_ok (-1) (by omega)
  have o2 := Of_ok 3 (by omega)
  have q1 := Quo_ok _ _ _ _ _ _ 4 (by omega) _ _ (argc (x := Dy.int (-1)) (by decide +kernel)) (argc (x := Dy.int 3) (by decide +kernel)) (by decide +kernel)
  rw [c4] at q1
  have t1 := Text_ok _ _ _ _ a1
  have t2 := Text_ok _ _ _ _ a3
  have t3 := Text_ok _ _ _ _ (argc (x := (Dy.int (-1)).quo (Dy.int 3) 4) (by decide +kernel))
  rw [show dyText (nrm 6 2) = [51, 47, 50, 94, 49] by decide +kernel] at t1
  rw [show dyText ((nrm 6 2).neg.floor 0) = [45, 50] by decide +kernel] at t2
  rw [show dyText ((Dy.int (-1)).quo (Dy.int 3) 4) = [45, 51, 47, 50, 94, 51] by decide +kernel] at t3
  generalize (Dy.int (-1)).quo (Dy.int 3) 4 = z3 at *
  generalize (nrm 6 2).neg.floor 0 = z2 at *
  generalize (nrm 6 2).neg = z1 at *
  generalize nrm 6 2 = z0 at *
  have e1 : decide ((⟨[51, 47, 50, 94, 49].toArray⟩ : ByteArray) = ⟨#[51, 47, 50, 94, 49]⟩) = true := decide_eq_true rfl
  have e2 : decide ((⟨[45, 50].toArray⟩ : ByteArray) = ⟨#[45, 50]⟩) = true := decide_eq_true rfl
  have e3 : decide ((⟨[45, 51, 47, 50, 94, 51].toArray⟩ : ByteArray) = ⟨#[45, 51, 47, 50, 94, 51]⟩) = true := decide_eq_true rfl
  repeat' (first | (simp only [go_sem, seval, IntKind.bits.eq_def, ti, tin, e1, e2, e3]) | (simp (disch := omega) only [wA]) | (with_reducible first | refine cF m1 ?_ | refine dF m1 ?_ | refine cF n1 ?_ | refine dF n1 ?_ | refine cF f1 ?_ | refine dF f1 ?_ | refine cF o1 ?_ | refine dF o1 ?_ | refine cF o2 ?_ | refine dF o2 ?_ | refine cF q1 ?_ | refine dF q1 ?_ | refine cF t1 ?_ | refine dF t1 ?_ | refine cF t2 ?_ | refine dF t2 ?_ | refine cF t3 ?_ | refine dF t3 ?_) | refine aL ti_ok ?_ | refine dL ti_ok ?_ | refine dG ?_ | ((first | refine cC ?_ ?_ | refine gS ?_ ?_ | refine dS ?_ ?_) <;> intro hc <;> first | (exfalso; simp only [dcA] at hc; omega) | (simp only [hc]; try simp only [dcA] at hc)) | refine aO ?_ | refine dO ?_)
  exact fin_same trivial rfl
def fewR (r : RD) : Prop := r.ws.length ≤ 16 ∧ (r.d ≤ 300 ∨ 65536 < r.d)
instance (r : RD) : Decidable (fewR r) := inferInstanceAs (Decidable (_ ∧ _))
theorem few02 (l : List RD) (hl : l.length ≤ 1000) (hw : ∀ r ∈ l, r.ws.length ≤ 9223372036854775807) : CallOK Tryz.prog gl 6 [.sl 3 (vrows (l))] (.v (.bool ((decide (∀ i, i < l.length → fewR (l.getD i RD.zero)))))) := by
  refine call_ok (C := ⟨Tryz.prog, gl, ti, 26, false⟩) ti_ok mixed 3000 Tryz.call6 Tryz.func6 rfl Tryz.ntmps6 (by simp) byClL byCl ?_
  rw [Tryz.results6]
  obtain ⟨z, hz⟩ : ∃ z, decide (∀ i, i < l.length → fewR (l.getD i RD.zero)) = z := ⟨_, rfl⟩
  rw [hz]
  obtain ⟨n, hn⟩ : ∃ n, l.length = n := ⟨_, rfl⟩
  rw [hn] at hz hl
  repeat' (first | (simp only [go_sem, seval, IntKind.bits.eq_def, ti, tin, vrows_length, hn]) | (simp (disch := omega) only [wA]) | refine aL ti_ok ?_ | refine dL ti_ok ?_ | refine dG ?_ | ((first | refine cC ?_ ?_ | refine gS ?_ ?_ | refine dS ?_ ?_) <;> intro hc <;> first | (exfalso; simp only [dcA] at hc; omega) | (simp only [hc]; try simp only [dcA] at hc)) | refine aO ?_ | refine dO ?_)
  refine l_loop (α := Nat) (fun k => ⟨[(5, .sl 3 (vrows (l))), (6, .v (.int .i64 n)), (7, .v (.int .i64 k))], [], 0⟩) (fun k => k ≤ n ∧ ∀ i, i < k → fewR (l.getD i RD.zero)) (fun k => n - k) (0) _ byFresh (fun _ h => by first | (cases h; done) | exact Nat.le_of_ble_eq_true rfl) ?_ ?_ ?_
  · exact ⟨Nat.zero_le _, fun i hi => by omega⟩
  · exact byWeak
  rintro k ⟨hk, hi⟩
  by_cases hkn : k < n
  ·
    have rk := vrows_getD (l := l) (i := k) (by omega)
    have hwk := hw (l.getD k RD.zero) (by rw [List.getD, List.getElem?_eq_getElem (by omega)]; exact List.getElem_mem _)
    have hz2 : ¬ fewR (l.getD k RD.zero) → z = false := fun h => by rw [← hz]; exact decide_eq_false (fun hh => h (hh k hkn))
    have hi2 : fewR (l.getD k RD.zero) → ∀ i, i < k + 1 → fewR (l.getD i RD.zero) := fun h i h2 => by
      by_cases h4 : i = k
      · rw [h4]; exact h
      · exact hi i (by omega)
    clear hi
    generalize l.getD k RD.zero = r at *
    obtain ⟨s, ws, d⟩ := r
    rw [vrow_mk] at rk
    unfold fewR at hz2 hi2
    simp only at hz2 hi2 hwk
    have hwk : ws.length ≤ 9223372036854775807 := hwk
    by_cases h1 : ws.length ≤ 16 ∧ (d ≤ 300 ∨ 65536 < d)
    ·
      have hi3 := hi2 h1
      have h2 := h1.2
      have h3 := h1.1
      clear hz2 hi2 h1
      by_cases h4 : d ≤ 300
      ·
        clear h2
        repeat' (first | (simp only [go_sem, seval, IntKind.bits.eq_def, ti, tin, vrows_length, hn, rk, u32s_length]) | (simp (disch := omega) only [wA]) | refine aL ti_ok ?_ | refine dL ti_ok ?_ | refine dG ?_ | ((first | refine cC ?_ ?_ | refine gS ?_ ?_ | refine dS ?_ ?_) <;> intro hc <;> first | (exfalso; simp only [dcA] at hc; omega) | (simp only [hc]; try simp only [dcA] at hc)) | refine aO ?_ | refine dO ?_)
        all_goals (refine roundEnd_of (α := Nat) (k + 1) ⟨by omega, hi3⟩ (by omega) ?_; exact byWeak)
      ·
        have h5 : 65536 < d := by omega
        clear h2
        repeat' (first | (simp only [go_sem, seval, IntKind.bits.eq_def, ti, tin, vrows_length, hn, rk, u32s_length]) | (simp (disch := omega) only [wA]) | refine aL ti_ok ?_ | refine dL ti_ok ?_ | refine dG ?_ | ((first | refine cC ?_ ?_ | refine gS ?_ ?_ | refine dS ?_ ?_) <;> intro hc <;> first | (exfalso; simp only [dcA] at hc; omega) | (simp only [hc]; try simp only [dcA] at hc)) | refine aO ?_ | refine dO ?_)
        all_goals (refine roundEnd_of (α := Nat) (k + 1) ⟨by omega, hi3⟩ (by omega) ?_; exact byWeak)
    ·
      have hz3 := hz2 h1
      subst hz3
      clear hz2 hi2
      by_cases h3 : 16 < ws.length
      ·
        clear h1
        repeat' (first | (simp only [go_sem, seval, IntKind.bits.eq_def, ti, tin, vrows_length, hn, rk, u32s_length]) | (simp (disch := omega) only [wA]) | refine aL ti_ok ?_ | refine dL ti_ok ?_ | refine dG ?_ | ((first | refine cC ?_ ?_ | refine gS ?_ ?_ | refine dS ?_ ?_) <;> intro hc <;> first | (exfalso; simp only [dcA] at hc; omega) | (simp only [hc]; try simp only [dcA] at hc)) | refine aO ?_ | refine dO ?_)
        all_goals exact fin_same trivial rfl
      ·
        have h4 : 300 < d := by omega
        have h5 : d ≤ 65536 := by omega
        clear h1
        repeat' (first | (simp only [go_sem, seval, IntKind.bits.eq_def, ti, tin, vrows_length, hn, rk, u32s_length]) | (simp (disch := omega) only [wA]) | refine aL ti_ok ?_ | refine dL ti_ok ?_ | refine dG ?_ | ((first | refine cC ?_ ?_ | refine gS ?_ ?_ | refine dS ?_ ?_) <;> intro hc <;> first | (exfalso; simp only [dcA] at hc; omega) | (simp only [hc]; try simp only [dcA] at hc)) | refine aO ?_ | refine dO ?_)
        all_goals exact fin_same trivial rfl
  ·
    have hz3 : z = true := by rw [← hz]; exact decide_eq_true (fun i h => hi i (by omega))
    subst hz3
    repeat' (first | (simp only [go_sem, seval, IntKind.bits.eq_def, ti, tin, vrows_length, hn]) | (simp (disch := omega) only [wA]) | refine aL ti_ok ?_ | refine dL ti_ok ?_ | refine dG ?_ | ((first | refine cC ?_ ?_ | refine gS ?_ ?_ | refine dS ?_ ?_) <;> intro hc <;> first | (exfalso; simp only [dcA] at hc; omega) | (simp only [hc]; try simp only [dcA] at hc)) | refine aO ?_ | refine dO ?_)
    exact fin_same trivial rfl
end Go.Proofs.YtfmgfjmfogmeeaaGreatDoor
/- The base: Is. -/
set_option linter.unusedSimpArgs false
set_option linter.unusedVariables false
set_option linter.deprecated false
namespace Go.Proofs.YtfmgfjmfogmeeaaGreatDoor
open Go Go.Ax
set_option maxRecDepth 100000
set_option maxHeartbeats 4000000
end Go.Proofs.YtfmgfjmfogmeeaaGreatDoor
/- The statements on layer 2: short numbers, by one, two and three. -/
set_option linter.unusedSimpArgs false
set_option linter.unusedVariables false
set_option linter.deprecated false
namespace Go.Proofs.YtfmgfjmfogmeeaaGreatDoor
open Go Go.Ax
set_option maxRecDepth 100000
set_option maxHeartbeats 4000000
theorem few02_1 (s : Bool) (ws : List Nat) (d : Int) (hl : ws.length ≤ 9223372036854775807) : CallOK Tryz.prog gl 6 [.sl 3 [[.v (.bool s), .sl 1 (u32s ws), .v (.int .i64 d)]]] (.v (.bool (decide (fewR ⟨s, ws, d⟩)))) := by
  have h := few02 [⟨s, ws, d⟩] (by simp) (fun r hr => by simp at hr; subst hr; exact hl)
  rw [show decide (∀ i, i < [RD.mk s ws d].length → fewR ([RD.mk s ws d].getD i RD.zero)) = decide (fewR ⟨s, ws, d⟩) from decide_eq_decide.2 ⟨fun h => h 0 (by simp), fun h i hi => by
    match i, hi with
    | 0, _ => exact h⟩] at h
  exact h
theorem few_arg {s : Bool} {ws : List Nat} {d : Int} (hW : Wd ws) (f : fewR ⟨s, ws, d⟩) : ∃ x, Arg s ws d x ∧ Mg 512 x ∧ x.d ≤ 300 := by
  obtain ⟨f1, f2⟩ := f
  simp only at f1 f2
  obtain ⟨x, h⟩ := Arg.get (s := s) (d := d) hW (by omega : ws.length ≤ 68719476736)
  have h1 := h.mg f1
  have h2 := h.den (k := 300) f2 (by omega)
  exact ⟨x, h, h1, by unfold dn at h2; omega⟩
theorem same_ok {k : Nat} {x : Dy} (h : Mg k x) (hk : k ≤ 1099511627776 := by omega) : CallOK Tryz.prog gl 11 [.agg [.v (.bool (sg x)), .sl 1 (u32s (ms x)), .v (.int .i64 (dn x))], .agg [.v (.bool (sg x)), .sl 1 (u32s (ms x)), .v (.int .i64 (dn x))]] (.v (.bool true)) := by
  have hl := (Arg.of h hk).len
  have := ref_Same x x (by omega) (by omega)
  rwa [decide_eq_true rfl] at this
end Go.Proofs.YtfmgfjmfogmeeaaGreatDoor
