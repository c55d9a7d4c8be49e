/- Layer 18 (tube): Make. -/
import Derived.Test.YtpggiabnhodjpaaGreatDoorTub5
set_option linter.unusedSimpArgs false
set_option linter.unusedVariables false
set_option linter.deprecated false
namespace Go.Proofs.YtpggiabnhodjpaaGreatDoor
open Go Go.Ax
set_option maxRecDepth 100000
set_option maxHeartbeats 4000000
def certAV (k n : Nat) : Option (Dy × Dy) → AV
  | none => .agg [.v (.int .i64 0), .v (.slice none 0 0), .v (.slice none 0 0)]
  | some p => .agg [.v (.int .i64 k), .sl 3 (vrows (List.replicate n (can p.1))), .sl 3 (vrows (List.replicate n (can p.2)))]
theorem fz_pos {α : Type} {k : Nat} {a b : α} (h : 0 < k) : fz k a b = b := by
  cases k with
  | zero => omega
  | succ k => rfl
theorem nonneg_rep {n : Nat} {x : Dy} (h : 0 ≤ x.v) : nonneg (List.replicate n (can x)) := fun i hi => by
  rw [List.length_replicate] at hi
  rw [List.getD, List.getElem?_replicate, if_pos hi, Option.getD_some, can_dy]
  intro hs
  exact Rat.not_lt.2 h ((sign_lt0 x).1 hs)
theorem dyV_rep {n : Nat} {x : Dy} : dyV (List.replicate n (can x)) = boxD n x := by
  unfold dyV boxD
  rw [List.map_replicate, can_dy]
theorem okV_rep {n q : Nat} {x : Dy} (h : Mg q x) (hq : q ≤ 200000) : okV q (List.replicate n (can x)) := by
  rw [show List.replicate n (can x) = (boxD n x).map can by unfold boxD; rw [List.map_replicate]]
  refine okV_can (fun i => ?_) (by omega)
  unfold boxD
  rw [List.getD, List.getElem?_replicate]
  split
  · exact h
  · exact Mg.zero _
theorem ckC_make {a dv : List (List RD)} {w : List RD} {k n : Nat} {t u : Dy} (h : ckT a dv w = 0) (hn : a.length = n) (h1 : 1 ≤ k) (h2 : k ≤ 32) (ht : 0 ≤ t.v) (hu : 0 ≤ u.v) : ckC a dv w k (List.replicate n (can t)) (List.replicate n (can u)) = 0 := by
  unfold ckC
  rw [if_neg (by omega), if_neg (by omega), if_neg (by rw [List.length_replicate, List.length_replicate]; omega), if_pos ⟨nonneg_rep ht, nonneg_rep hu⟩]
theorem vrep_step {n i : Nat} {x : Dy} (h : i < n) : (vrows (List.replicate i (can x))).take i ++ [[.v (.bool (sg x)), .sl 1 (u32s (ms x)), .v (.int .i64 (dn x))]] = vrows (List.replicate (i + 1) (can x)) := by
  rw [List.take_of_length_le (by rw [vrows_length, List.length_replicate]; exact Nat.le_refl _), List.replicate_succ']
  unfold vrows
  rw [List.map_append]; rfl
theorem certAV_cl (k n : Nat) (o : Option (Dy × Dy)) : Cl (certAV k n o) := by
  cases o with
  | none => exact byCl
  | some p => exact byCl
end Go.Proofs.YtpggiabnhodjpaaGreatDoor
