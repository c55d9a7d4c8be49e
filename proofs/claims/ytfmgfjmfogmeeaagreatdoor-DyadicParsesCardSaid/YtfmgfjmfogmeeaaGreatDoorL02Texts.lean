/- The decimal text of 0 (ref02.decimal). -/
import Derived.Test.YtfmgfjmfogmeeaaGreatDoorRi4
import Derived.Test.YtfmgfjmfogmeeaaGreatDoorText
import Derived.Test.YtfmgfjmfogmeeaaGreatDoorRef9
import Derived.Test.YtfmgfjmfogmeeaaGreatDoorL02b
import Derived.Test.YtfmgfjmfogmeeaaGreatDoorParse
set_option linter.unusedSimpArgs false
set_option linter.unusedVariables false
set_option linter.deprecated false
namespace Go.Proofs.YtfmgfjmfogmeeaaGreatDoor
open Go Go.Ax
set_option maxRecDepth 100000
set_option maxHeartbeats 4000000
theorem ref_dec0  : CallOK Tryz.prog gl 40 [.sl 1 (u32s ([]))] (.v (.string ⟨(Lib.decDigits 0).toArray⟩)) := by
  refine call_ok (C := ⟨Tryz.prog, gl, ti, 50, false⟩) ti_ok mixed 3000 Tryz.call40 Tryz.func40 rfl Tryz.ntmps40 (by simp) byClL byCl ?_
  rw [Tryz.results40]
  have hb1 := clrow_b
  have tr := ref_trim [] (by intro x hx; cases hx) (by decide)
  rw [show val [] = 0 from rfl, words_zero] at tr
  repeat' (first | (simp only [go_sem, seval, IntKind.bits.eq_def, ti, tin, u32s_length]) | (simp (disch := omega) only [wA]) | (refine l_unroll 2 _ byFresh ?_) | (refine after_lit0 ti_ok rfl rfl ?_) | (refine after_append_nil ti_ok rfl rfl rfl rfl ⟨rfl, by decide⟩ rfl ⟨trivial, by (try simp only [List.length_cons, List.length_nil, List.length_append, u32s_length, List.length_map]); omega, by (try simp only [List.length_cons, List.length_nil, List.length_append, u32s_length, List.length_map]); omega⟩ (fun _ => byRows) ?_) | (refine after_append_own ti_ok rfl rfl rfl rfl rfl ⟨rfl, rfl, by decide, Nat.le_of_ble_eq_true rfl⟩ (fun h => by first | (cases h; done) | decide) rfl ⟨trivial, by (try simp only [List.length_cons, List.length_nil, List.length_append, u32s_length, List.length_map]); omega, by (try simp only [List.length_cons, List.length_nil, List.length_append, u32s_length, List.length_map]); omega, by (try simp only [List.length_cons, List.length_nil, List.length_append, u32s_length, List.length_map]); omega⟩ byRows byNoE byNoM ?_) | refine aL ti_ok ?_ | refine dL ti_ok ?_ | refine dG ?_ | ((first | refine cC ?_ ?_ | refine gS ?_ ?_ | refine dS ?_ ?_) <;> intro hc <;> first | (exfalso; simp only [dcA] at hc; omega) | (simp only [hc]; try simp only [dcA] at hc)) | refine aO ?_ | refine dO ?_)
  refine callF_frz 0 rfl (.cons (frz_ps rfl (Nat.le_refl _)) .nil) (.cons (.refl _) .nil) tr ?_
  repeat' (first | (simp only [go_sem, seval, IntKind.bits.eq_def, ti, tin, u32s_length]) | (simp (disch := omega) only [wA]) | (refine l_unroll 1 _ byFresh ?_) | (refine after_litP ti_ok rfl ?_) | (refine after_append_nil ti_ok rfl rfl rfl rfl ⟨rfl, by decide⟩ rfl ⟨trivial, by (try simp only [List.length_cons, List.length_nil, List.length_append, u32s_length, List.length_map]); omega, by (try simp only [List.length_cons, List.length_nil, List.length_append, u32s_length, List.length_map]); omega⟩ (fun _ => byRows) ?_) | (refine after_append_own ti_ok rfl rfl rfl rfl rfl ⟨rfl, rfl, by decide, Nat.le_of_ble_eq_true rfl⟩ (fun h => by first | (cases h; done) | decide) rfl ⟨trivial, by (try simp only [List.length_cons, List.length_nil, List.length_append, u32s_length, List.length_map]); omega, by (try simp only [List.length_cons, List.length_nil, List.length_append, u32s_length, List.length_map]); omega, by (try simp only [List.length_cons, List.length_nil, List.length_append, u32s_length, List.length_map]); omega⟩ byRows byNoE byNoM ?_) | refine aL ti_ok ?_ | refine dL ti_ok ?_ | refine dG ?_ | ((first | refine cC ?_ ?_ | refine gS ?_ ?_ | refine dS ?_ ?_) <;> intro hc <;> first | (exfalso; simp only [dcA] at hc; omega) | (simp only [hc]; try simp only [dcA] at hc)) | refine aO ?_ | refine dO ?_)
  apply after_bstr (bs := [48]) (b := 1) (row := 0) (k := 1) (m := ⟨1, [[.v (.int .u8 48)]]⟩) ti_ok
  case ht => exact rfl
  case he => exact rfl
  case hu => exact rfl
  case hx => exact rfl
  case hm => exact rfl
  case hsz => exact rfl
  case hb => exact rfl
  case hn => exact Nat.le_refl _
  rw [show strOfNums [48] = ⟨(Lib.decDigits 0).toArray⟩ by rw [decDigits_small (by omega)]; rfl]
  repeat' (first | (simp only [go_sem, seval, IntKind.bits.eq_def, ti, tin]) | (simp (disch := omega) only [wA]) | refine aL ti_ok ?_ | refine dL ti_ok ?_ | refine dG ?_ | ((first | refine cC ?_ ?_ | refine gS ?_ ?_ | refine dS ?_ ?_) <;> intro hc <;> first | (exfalso; simp only [dcA] at hc; omega) | (simp only [hc]; try simp only [dcA] at hc)) | refine aO ?_ | refine dO ?_)
  exact fin_same trivial rfl
end Go.Proofs.YtfmgfjmfogmeeaaGreatDoor
/- The text of a dyadic number (ref02.Text). -/
set_option linter.unusedSimpArgs false
set_option linter.unusedVariables false
set_option linter.deprecated false
namespace Go.Proofs.YtfmgfjmfogmeeaaGreatDoor
open Go Go.Ax
set_option maxRecDepth 100000
set_option maxHeartbeats 4000000
theorem ref_decimal (n : Nat) (hl : (words n).length ≤ 1099511627776) : CallOK Tryz.prog gl 40 [.sl 1 (u32s (words n))] (.v (.string ⟨(Lib.decDigits n).toArray⟩)) := by
  by_cases h : n = 0
  · subst h; rw [words_zero]; exact ref_dec0
  · exact ref_dec n (by omega) hl
theorem words_single {d : Nat} (h0 : 0 < d) (h : d < 4294967296) : words d = [d] := words_small (by omega) h
theorem ref_Text (s : Bool) (ws : List Nat) (d : Int) (x : Dy) (h : Arg s ws d x) : CallOK Tryz.prog gl 10 [.agg [.v (.bool s), .sl 1 (u32s ws), .v (.int .i64 d)]] (.v (.string ⟨(dyText x).toArray⟩)) := by
  refine call_ok (C := ⟨Tryz.prog, gl, ti, 25, false⟩) ti_ok mixed 3000 Tryz.call10 Tryz.func10 rfl Tryz.ntmps10 (by simp) byClL byCl ?_
  rw [Tryz.results10]
  have pa := ref_Norm s ws d x h
  have hl : (words x.n.natAbs).length ≤ _ := h.mlen
  have hdd := x.ok.1
  have dc := ref_decimal x.n.natAbs (by omega)
  have h1 := dec_words (n := x.n.natAbs) (L := 68719476736) hl
  have h2 := decDigits_len 5 x.d (by omega)
  have ed : dn x = (x.d : Int) := rfl
  have it : 0 < x.d → CallOK Tryz.prog gl 40 [.sl 1 [[.v (.int .u32 (x.d : Int))]]] (.v (.string ⟨(Lib.decDigits x.d).toArray⟩)) := fun h0 => by
    have := ref_decimal x.d (by rw [words_single h0 (by omega)]; simp)
    rw [words_single h0 (by omega)] at this
    exact this
  change CallOK _ _ _ _ (.agg [.v (.bool (sg x)), .sl 1 (u32s (words x.n.natAbs)), .v (.int .i64 (dn x))]) at pa
  unfold dyText
  rw [ed] at pa
  generalize Lib.decDigits x.n.natAbs = D at *
  generalize words x.n.natAbs = W at *
  generalize Lib.decDigits x.d = E at *
  generalize x.d = e at *
  by_cases hs : sg x = true
  · rw [hs] at pa
    rw [if_pos hs]
    by_cases he : 0 < e
    · have it := it he
      rw [if_pos he]
      repeat' (first | (simp only [go_sem, seval, IntKind.bits.eq_def, ti, tin, minus_app, over_app, bytes_append, size_mk, List.length_cons]) | (simp (disch := omega) only [wA]) | (with_reducible first | refine cF pa ?_ | refine dF pa ?_ | refine cF dc ?_ | refine dF dc ?_ | refine cF it ?_ | refine dF it ?_) | refine aL ti_ok ?_ | refine dL ti_ok ?_ | refine dG ?_ | ((first | refine cC ?_ ?_ | refine gS ?_ ?_ | refine dS ?_ ?_) <;> intro hc <;> first | (exfalso; simp only [dcA] at hc; omega) | (simp only [hc]; try simp only [dcA] at hc)) | refine aO ?_ | refine dO ?_)
      exact fin_same trivial (by simp [one])
    · rw [if_neg he]
      repeat' (first | (simp only [go_sem, seval, IntKind.bits.eq_def, ti, tin, minus_app, size_mk, List.length_cons]) | (simp (disch := omega) only [wA]) | (with_reducible first | refine cF pa ?_ | refine dF pa ?_ | refine cF dc ?_ | refine dF dc ?_) | refine aL ti_ok ?_ | refine dL ti_ok ?_ | refine dG ?_ | ((first | refine cC ?_ ?_ | refine gS ?_ ?_ | refine dS ?_ ?_) <;> intro hc <;> first | (exfalso; simp only [dcA] at hc; omega) | (simp only [hc]; try simp only [dcA] at hc)) | refine aO ?_ | refine dO ?_)
      exact fin_same trivial (by simp [one])
  · have hs : sg x = false := by simpa using hs
    rw [hs] at pa
    rw [if_neg (by simp [hs])]
    by_cases he : 0 < e
    · have it := it he
      rw [if_pos he]
      repeat' (first | (simp only [go_sem, seval, IntKind.bits.eq_def, ti, tin, over_app, bytes_append, size_mk, List.length_cons]) | (simp (disch := omega) only [wA]) | (with_reducible first | refine cF pa ?_ | refine dF pa ?_ | refine cF dc ?_ | refine dF dc ?_ | refine cF it ?_ | refine dF it ?_) | refine aL ti_ok ?_ | refine dL ti_ok ?_ | refine dG ?_ | ((first | refine cC ?_ ?_ | refine gS ?_ ?_ | refine dS ?_ ?_) <;> intro hc <;> first | (exfalso; simp only [dcA] at hc; omega) | (simp only [hc]; try simp only [dcA] at hc)) | refine aO ?_ | refine dO ?_)
      exact fin_same trivial (by simp [one])
    · rw [if_neg he]
      repeat' (first | (simp only [go_sem, seval, IntKind.bits.eq_def, ti, tin, size_mk]) | (simp (disch := omega) only [wA]) | (with_reducible first | refine cF pa ?_ | refine dF pa ?_ | refine cF dc ?_ | refine dF dc ?_) | refine aL ti_ok ?_ | refine dL ti_ok ?_ | refine dG ?_ | ((first | refine cC ?_ ?_ | refine gS ?_ ?_ | refine dS ?_ ?_) <;> intro hc <;> first | (exfalso; simp only [dcA] at hc; omega) | (simp only [hc]; try simp only [dcA] at hc)) | refine aO ?_ | refine dO ?_)
      exact fin_same trivial (by simp [one])
end Go.Proofs.YtfmgfjmfogmeeaaGreatDoor
/- The statement DyadicTexts: its code returns true. -/
set_option linter.unusedSimpArgs false
set_option linter.unusedVariables false
set_option linter.deprecated false
namespace Go.Proofs.YtfmgfjmfogmeeaaGreatDoor
open Go Go.Ax
set_option maxRecDepth 100000
set_option maxHeartbeats 4000000
theorem texts_out (s : Bool) (ws : List Nat) (d : Int) (hl : ws.length ≤ 9223372036854775807) (hf : ¬ fewR ⟨s, ws, d⟩) : CallOK Tryz.prog gl 3 [.agg [.v (.bool s), .sl 1 (u32s ws), .v (.int .i64 d)]] (.v (.bool (true))) := by
  refine call_ok (C := ⟨Tryz.prog, gl, ti, 36, false⟩) ti_ok mixed 3000 Tryz.call3 Tryz.func3 rfl Tryz.ntmps3 (by simp) byClL byCl ?_
  rw [Tryz.results3]
  have fw := few02_1 s ws d hl
  rw [decide_eq_false hf] at fw
  clear hf
  repeat' (first | (simp only [go_sem, seval, IntKind.bits.eq_def, ti, tin]) | (simp (disch := omega) only [wA]) | (with_reducible first | refine cF fw ?_ | refine dF fw ?_ | refine cF awake02 ?_ | refine dF awake02 ?_) | refine aL ti_ok ?_ | refine dL ti_ok ?_ | refine dG ?_ | ((first | refine cC ?_ ?_ | refine gS ?_ ?_ | refine dS ?_ ?_) <;> intro hc <;> first | (exfalso; simp only [dcA] at hc; omega) | (simp only [hc]; try simp only [dcA] at hc)) | refine aO ?_ | refine dO ?_)
  all_goals exact fin_same trivial rfl
theorem txt_short {x : Dy} (h : (ms x).length ≤ 16) : (dyText x).length ≤ 65536 := by
  have h1 := dec_words (n := x.n.natAbs) (L := 16) h
  have hd := x.ok.1
  have h2 := decDigits_len 5 x.d (by omega)
  unfold dyText
  simp only [List.length_append]
  split <;> split <;> simp <;> omega
theorem few_ms {s : Bool} {ws : List Nat} {d : Int} {x : Dy} (h : Arg s ws d x) (f : fewR ⟨s, ws, d⟩) : (ms x).length ≤ 16 := by
  rcases h.is with ⟨_, _, e, _⟩ | ⟨_, rfl⟩
  · rw [e]; exact f.1
  · rw [ms_zero]; simp
theorem texts_in (s : Bool) (ws : List Nat) (d : Int) (x : Dy) (h : Arg s ws d x) (gx : Mg 512 x) (hf : fewR ⟨s, ws, d⟩) : CallOK Tryz.prog gl 3 [.agg [.v (.bool s), .sl 1 (u32s ws), .v (.int .i64 d)]] (.v (.bool (true))) := by
  refine call_ok (C := ⟨Tryz.prog, gl, ti, 36, false⟩) ti_ok mixed 3000 Tryz.call3 Tryz.func3 rfl Tryz.ntmps3 (by simp) byClL byCl ?_
  rw [Tryz.results3]
  have fw := few02_1 s ws d (by have := h.len; omega)
  rw [decide_eq_true hf] at fw
  have hm := few_ms h hf
  clear hf
  have t1 := Text_ok _ _ _ _ h
  have t2 := ref_Text _ _ _ _ h
  have p1 := Parse_ok (dyText x) (txt_short hm)
  obtain ⟨q1, q2⟩ : pz (dyText x) = x ∧ pe (dyText x) = .nilIface := by
    have hp : parseD (dyText x) = some x := parseD_iff.2 rfl
    unfold pz pe; rw [hp]; exact ⟨rfl, rfl⟩
  rw [q1, q2] at p1
  have n1 := ref_Norm _ _ _ _ h
  have s1 := same_ok gx
  clear q1 q2 hm
  generalize dyText x = t at *
  repeat' (first | (simp only [go_sem, seval, IntKind.bits.eq_def, ti, tin]) | (simp (disch := omega) only [wA]) | (with_reducible first | refine cF fw ?_ | refine dF fw ?_ | refine cF awake02 ?_ | refine dF awake02 ?_ | refine cF t1 ?_ | refine dF t1 ?_ | refine cF t2 ?_ | refine dF t2 ?_ | refine cF p1 ?_ | refine dF p1 ?_ | refine cF n1 ?_ | refine dF n1 ?_ | refine cF s1 ?_ | refine dF s1 ?_) | refine aL ti_ok ?_ | refine dL ti_ok ?_ | refine dG ?_ | ((first | refine cC ?_ ?_ | refine gS ?_ ?_ | refine dS ?_ ?_) <;> intro hc <;> first | (exfalso; simp only [dcA] at hc; omega) | (simp only [hc]; try simp only [dcA] at hc)) | refine aO ?_ | refine dO ?_)
  all_goals exact fin_same trivial (by simp [one])
theorem texts_law (s : Bool) (r : List (List AV)) (d : Int) (hr : r.length ≤ maxLen) (fr : ∀ x ∈ r, FitL [.int .u32] x) : CallOK Tryz.prog gl 3 [.agg [.v (.bool s), .sl 1 r, .v (.int .i64 d)]] (.v (.bool true)) := by
  unfold maxLen at *
  obtain ⟨ws, hW, rfl, h1⟩ := fit_u32s fr
  by_cases hf : fewR ⟨s, ws, d⟩
  · obtain ⟨x, h, gx, _⟩ := few_arg hW hf
    exact texts_in s ws d x h gx hf
  · exact texts_out s ws d (by omega) hf
end Go.Proofs.YtfmgfjmfogmeeaaGreatDoor
