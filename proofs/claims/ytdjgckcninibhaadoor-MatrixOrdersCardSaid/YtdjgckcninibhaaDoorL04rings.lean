/- The statement MatrixRings: its code returns true. -/
import Derived.Test.YtdjgckcninibhaaDoorL04d
set_option linter.unusedSimpArgs false
set_option linter.unusedVariables false
set_option linter.deprecated false
namespace Go.Proofs.YtdjgckcninibhaaDoor
open Go Go.Ax
set_option maxRecDepth 100000
set_option maxHeartbeats 4000000

theorem bothE_add {n m : Nat} {a b : List (List Dy)} (ha : rect n m a) (hb : rect n m b) (hn : 0 < n) (hn8 : n ≤ 8) (hm : 0 < m) (hm8 : m ≤ 8) : bothE (crM a) (crM b) (fitAdd (crM a) (crM b)) = 0 := by
  unfold bothE fitAdd
  rw [if_pos (ckM_rect ha hn hn8 hm hm8), if_pos (ckM_rect hb hn hn8 hm hm8), if_pos (decide_eq_true ⟨by rw [crM_len, crM_len, ha.1, hb.1], by rw [crM_get, crM_get, List.length_map, List.length_map, ha.2 0 hn, hb.2 0 hn]⟩)]
/-- The raw matrices' contracts, with the canonical ones in their place. -/
theorem bothE_raw {a b : List (List RD)} {z : Bool} (ha : ckM a = 0) (hb : ckM b = 0) (h : z = true) : bothE a b z = 0 := by
  unfold bothE; rw [if_pos ha, if_pos hb, if_pos h]
end Go.Proofs.YtdjgckcninibhaaDoor
