/- The statement TubeHolds: its code returns true. -/
import Derived.Test.YtpggiabnhodjpaaGreatDoorL18h0
import Derived.Test.YtpggiabnhodjpaaGreatDoorL18h1
import Derived.Test.YtpggiabnhodjpaaGreatDoorL18h2
import Derived.Test.YtpggiabnhodjpaaGreatDoorL18h3
set_option linter.unusedSimpArgs false
set_option linter.unusedVariables false
set_option linter.deprecated false
namespace Go.Proofs.YtpggiabnhodjpaaGreatDoor
open Go Go.Ax
set_option maxRecDepth 100000
set_option maxHeartbeats 4000000
theorem holds18_law (r d : List (List AV)) (w : List (List AV)) (K : Int) (i o : List (List AV)) (s : List (List AV)) (hs : s.length ≤ maxLen) (fs : ∀ x ∈ s, FitL [.sl [.int .i8]] x) (hr : r.length ≤ maxLen) (fr : ∀ x ∈ r, FitL [.sl [.bool, .sl [.int .u32], .int .i64]] x) (hd : d.length ≤ maxLen) (fd : ∀ x ∈ d, FitL [.sl [.bool, .sl [.int .u32], .int .i64]] x)
    (hw : w.length ≤ maxLen) (fw : ∀ x ∈ w, FitL [.bool, .sl [.int .u32], .int .i64] x) (hi : i.length ≤ maxLen) (fi : ∀ x ∈ i, FitL [.bool, .sl [.int .u32], .int .i64] x) (ho : o.length ≤ maxLen) (fo : ∀ x ∈ o, FitL [.bool, .sl [.int .u32], .int .i64] x) :
    CallOK Tryz.prog gl 7 [.agg [.sl 1 r, .sl 1 d, .sl 3 w], .agg [.v (.int .i64 K), .sl 3 i, .sl 3 o], .sl 1 s] (.v (.bool true)) := by
  unfold maxLen at hr hd hw hi ho hs
  obtain ⟨a, ga, rfl, e1⟩ := fit_mrows fr
  obtain ⟨dv, gd, rfl, e2⟩ := fit_mrows fd
  obtain ⟨w, gw, rfl, e3⟩ := fit_vrows fw
  obtain ⟨i, gi, rfl, e4⟩ := fit_vrows fi
  obtain ⟨o, go, rfl, e5⟩ := fit_vrows fo
  obtain ⟨S, gs, rfl, e6⟩ := fit_brows fs
  have hcs : ∀ r ∈ brows S, ∀ a ∈ r, Cl a := rws_cl clrow_br S
  by_cases h : lightP a dv w ∧ shortP K i o
  · by_cases h2 : ckC a dv w K i o = 0 ∧ S.length ≤ 20
    · obtain ⟨hT, hK, _⟩ := ckC_zero h2.1
      obtain ⟨K', rfl⟩ : ∃ K' : Nat, K = K' := ⟨K.toNat, by omega⟩
      cases hz : acceptsD K' (dyM a) (dyM dv) (dyV w) (dyV i) (dyV o) with
      | false => exact hld_not a dv w i o K' S hcs h2.2 (by omega) (by omega) ga gd gw gi go h.1 h.2 h2.1 hz
      | true =>
        have hn0 := (ckM_zero (ckT_zero hT).1).1.1
        have hn3 : a.length ≤ 3 := by rcases h.1.2 with q | q; exact absurd hT q; exact q
        rcases (by omega : a.length = 1 ∨ a.length = 2 ∨ a.length = 3) with hn | hn | hn
        · exact hld_ok1 a dv w i o K' S hcs S.length rfl h2.2 gs hn (by omega) (by omega) ga gd gw gi go h.1 h.2 h2.1 hz
        · exact hld_ok2 a dv w i o K' S hcs S.length rfl h2.2 gs hn (by omega) (by omega) ga gd gw gi go h.1 h.2 h2.1 hz
        · exact hld_ok3 a dv w i o K' S hcs S.length rfl h2.2 gs hn (by omega) (by omega) ga gd gw gi go h.1 h.2 h2.1 hz
    · exact hld_err a dv w i o K S hcs (by omega) (by omega) (by omega) ga gd gw gi go h.1 h.2 (by
        by_cases h3 : ckC a dv w K i o = 0
        · right; omega
        · exact .inl h3)
  · exact hld_out a dv w i o K S hcs (by omega) (by omega) (by omega) (by omega) (by omega) ga gd gw gi go h
end Go.Proofs.YtpggiabnhodjpaaGreatDoor
