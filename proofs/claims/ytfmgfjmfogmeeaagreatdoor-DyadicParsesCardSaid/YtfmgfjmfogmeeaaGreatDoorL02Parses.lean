/- The statement DyadicParses: its code returns true. -/
import Derived.Test.YtfmgfjmfogmeeaaGreatDoorL02b
import Derived.Test.YtfmgfjmfogmeeaaGreatDoorParse
import Derived.Test.YtfmgfjmfogmeeaaGreatDoorRefQ
set_option linter.unusedSimpArgs false
set_option linter.unusedVariables false
set_option linter.deprecated false
namespace Go.Proofs.YtfmgfjmfogmeeaaGreatDoor
open Go Go.Ax
set_option maxRecDepth 100000
set_option maxHeartbeats 4000000
theorem txt_mg {x : Dy} (h : (dyTxt x).length ≤ 65536) : Mg (32 * 65537) x := by
  refine mg_of_ms ?_
  have h1 : (Lib.decDigits x.n.natAbs).length ≤ 65536 := by
    unfold dyTxt txtOf at h
    simp only [List.length_append] at h
    omega
  have h2 := all_words (dec_isD x.n.natAbs) h1
  rw [dvl_dec] at h2
  exact h2
theorem parses_out (s : List UInt8) (hl : ¬ s.length ≤ 150) (hb : s.length ≤ 9223372036854775807) : CallOK Tryz.prog gl 4 [.v (.string ⟨s.toArray⟩)] (.v (.bool (true))) := by
  refine call_ok (C := ⟨Tryz.prog, gl, ti, 44, false⟩) ti_ok mixed 3000 Tryz.call4 Tryz.func4 rfl Tryz.ntmps4 (by simp) byClL byCl ?_
  rw [Tryz.results4]
  have es : (⟨s.toArray⟩ : ByteArray).size = s.length := rfl
  repeat' (first | (simp only [go_sem, seval, IntKind.bits.eq_def, ti, tin, es]) | (simp (disch := omega) only [wA]) | (with_reducible first | refine cF awake02 ?_ | refine dF awake02 ?_) | refine aL ti_ok ?_ | refine dL ti_ok ?_ | refine dG ?_ | ((first | refine cC ?_ ?_ | refine gS ?_ ?_ | refine dS ?_ ?_) <;> intro hc <;> first | (exfalso; simp only [dcA] at hc; omega) | (simp only [hc]; try simp only [dcA] at hc)) | refine aO ?_ | refine dO ?_)
  all_goals exact fin_same trivial rfl
theorem parses_in (s : List UInt8) (hl : s.length ≤ 150) : CallOK Tryz.prog gl 4 [.v (.string ⟨s.toArray⟩)] (.v (.bool (true))) := by
  refine call_ok (C := ⟨Tryz.prog, gl, ti, 44, false⟩) ti_ok mixed 3000 Tryz.call4 Tryz.func4 rfl Tryz.ntmps4 (by simp) byClL byCl ?_
  rw [Tryz.results4]
  have es : (⟨s.toArray⟩ : ByteArray).size = s.length := rfl
  have p1 := Parse_ok s (by omega)
  have p2 := ref_Parse s (by omega)
  cases hp : parseD s with
  | some x =>
    obtain ⟨q1, q3⟩ := pz_some hp
    have q2 : pe s = .nilIface := by unfold pe; rw [hp]; rfl
    rw [q1, q2] at p1
    rw [q1, q3] at p2
    have ht := parseD_iff.1 hp
    have gx := txt_mg (x := x) (by rw [ht]; omega)
    have t1 := Text_ok _ _ _ _ (Arg.of gx (by omega))
    rw [show dyText x = s from ht] at t1
    have s1 := same_ok gx
    clear q1 q2 q3 hp ht gx
    repeat' (first | (simp only [go_sem, seval, IntKind.bits.eq_def, ti, tin, es]) | (simp (disch := omega) only [wA]) | (with_reducible first | refine cF awake02 ?_ | refine dF awake02 ?_ | refine cF p1 ?_ | refine dF p1 ?_ | refine cF p2 ?_ | refine dF p2 ?_ | refine cF t1 ?_ | refine dF t1 ?_ | refine cF s1 ?_ | refine dF s1 ?_ | refine cF base_Num_nil ?_ | refine dF base_Num_nil ?_) | refine aL ti_ok ?_ | refine dL ti_ok ?_ | refine dG ?_ | ((first | refine cC ?_ ?_ | refine gS ?_ ?_ | refine dS ?_ ?_) <;> intro hc <;> first | (exfalso; simp only [dcA] at hc; omega) | (simp only [hc]; try simp only [dcA] at hc)) | refine aO ?_ | refine dO ?_)
    all_goals exact fin_same trivial (by simp [one])
  | none =>
    obtain ⟨q1, q3⟩ := pz_none hp
    have q2 : pe s = .iface 67 (.int .i64 2) := by unfold pe; rw [hp]; rfl
    rw [q1, q2] at p1
    rw [q1, q3] at p2
    have s1 := same_ok (Mg.zero 0)
    have bn := base_Num 2
    clear q1 q2 q3 hp
    repeat' (first | (simp only [go_sem, seval, IntKind.bits.eq_def, ti, tin, es]) | (simp (disch := omega) only [wA]) | (with_reducible first | refine cF awake02 ?_ | refine dF awake02 ?_ | refine cF p1 ?_ | refine dF p1 ?_ | refine cF p2 ?_ | refine dF p2 ?_ | refine cF s1 ?_ | refine dF s1 ?_ | refine cF bn ?_ | refine dF bn ?_) | refine aL ti_ok ?_ | refine dL ti_ok ?_ | refine dG ?_ | ((first | refine cC ?_ ?_ | refine gS ?_ ?_ | refine dS ?_ ?_) <;> intro hc <;> first | (exfalso; simp only [dcA] at hc; omega) | (simp only [hc]; try simp only [dcA] at hc)) | refine aO ?_ | refine dO ?_)
    all_goals exact fin_same trivial rfl
theorem parses_law (s : ByteArray) (h : s.size ≤ maxLen) : CallOK Tryz.prog gl 4 [.v (.string s)] (.v (.bool true)) := by
  obtain ⟨⟨l⟩⟩ := s
  have hl : l.length ≤ maxLen := h
  unfold maxLen at hl
  by_cases h150 : l.length ≤ 150
  · exact parses_in l h150
  · exact parses_out l h150 (by omega)
end Go.Proofs.YtfmgfjmfogmeeaaGreatDoor
