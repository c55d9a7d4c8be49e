/- The statements on layer 18: from the arguments to the plain laws. -/
import Derived.Test.YtpggiabnhodjpaaDoorIs
import Derived.Test.YtpggiabnhodjpaaDoorU4
set_option linter.unusedSimpArgs false
set_option linter.unusedVariables false
set_option linter.deprecated false
namespace Go.Proofs.YtpggiabnhodjpaaDoor
open Go Go.Ax
set_option maxRecDepth 100000
set_option maxHeartbeats 4000000

theorem nonneg_vQ {l : List RD} (h : nonneg l) {i : Nat} (hi : i < l.length) : 0 ≤ vQ (dyV l) i := by
  unfold vQ; rw [dyV_get]
  exact Rat.not_lt.1 fun hn => h i hi ((sign_lt0 _).2 hn)
theorem vQ_nonneg {l : List RD} (h : ∀ i, i < l.length → 0 ≤ vQ (dyV l) i) : nonneg l := fun i hi hs => by
  have := h i hi
  unfold vQ at this; rw [dyV_get] at this
  exact Rat.not_lt.2 this ((sign_lt0 _).1 hs)
theorem nonneg_can {l : List Dy} (h : ∀ i, i < l.length → 0 ≤ vQ l i) : nonneg (l.map can) := vQ_nonneg fun i hi => by
  rw [dyV_can]; rw [List.length_map] at hi; exact h i hi
theorem ckT_mk {a dv dv' : List (List RD)} {w w' : List RD} (h : ckT a dv w = 0) (hd : ckM dv' = 0) (ld : dv'.length = a.length) (ld0 : (dv'.getD 0 []).length = a.length) (lw : w'.length = a.length) (nd : nonnegM dv') (nw : nonneg w') : ckT a dv' w' = 0 := by
  obtain ⟨t1, t2, t3, t4, t5, t6, t7, t8, t9⟩ := ckT_zero h
  unfold ckT
  rw [if_neg (by omega), if_neg (by omega), if_neg (by omega), if_neg (by omega), if_neg (by omega), if_pos ⟨nd, nw⟩]
theorem ckC_mk {a dv : List (List RD)} {w inner outer : List RD} {K : Int} (h : ckT a dv w = 0) (h1 : 1 ≤ K) (h2 : K ≤ 32) (li : inner.length = a.length) (lo : outer.length = a.length) (ni : nonneg inner) (no : nonneg outer) : ckC a dv w K inner outer = 0 := by
  unfold ckC
  rw [if_neg (by omega), if_neg (by omega), if_neg (by omega), if_pos ⟨ni, no⟩]
theorem fine.mono {k m : Nat} {a : List (List Dy)} (h : fine k a) (hk : k ≤ m) : fine m a := fun i j => Nat.le_trans (h i j) hk
theorem tubeD_mk {p q P Q : Nat} {a dv : List (List RD)} {w inner outer : List RD} {K : Int} (h : TubOK p q a.length a dv w inner outer) (hc : ckC a dv w K inner outer = 0) (fa : fine P (dyM a)) (fd : fine P (dyM dv)) (fw : fineV Q (dyV w)) (fi : fineV Q (dyV inner)) (fo : fineV Q (dyV outer)) :
    TubeD a.length P Q (dyM a) (dyM dv) (dyV w) (dyV inner) (dyV outer) := by
  obtain ⟨c1, c2, c3, c4, c5, c6, c7⟩ := ckC_zero hc
  obtain ⟨t1, t2, t3, t4, t5, t6, t7, t8, t9⟩ := ckT_zero c1
  refine ⟨h.ra, h.n1, h.rd, fa, fd, fw, fi, fo, fun i k hi hk => ?_, fun i hi => nonneg_vQ t9 (by omega), fun i hi => nonneg_vQ c6 (by omega), fun i hi => nonneg_vQ c7 (by omega)⟩
  have hrow := (ckM_zero t2).2.2 i (by omega)
  have := nonneg_vQ (t8 i (by omega)) (i := k) (by omega)
  unfold elQ el; rw [dyM_get]; exact this
section
variable {a dv : List (List RD)} {w inner outer : List RD}
theorem tubeD_of (X : In18 a dv w) (Y : InC inner outer) {K : Int} (hc : ckC a dv w K inner outer = 0) : TubeD a.length 40 40 (dyM a) (dyM dv) (dyV w) (dyV inner) (dyV outer) :=
  tubeD_mk (X.tok Y hc) hc X.fa X.fd X.fw Y.fi Y.fo
end
/-- Numbers of eight bits, as they are handed in. -/
theorem fit_bytes {rows : List (List AV)} (h : ∀ r ∈ rows, FitL [.int .i8] r) : ∃ l : List Int, (∀ n ∈ l, isByte n) ∧ rows = rws bytes l ∧ rows.length = l.length := by
  induction rows with
  | nil => exact ⟨[], fun r hr => by simp at hr, rfl, rfl⟩
  | cons r l ih =>
    obtain ⟨m, h1, h2, h3⟩ := ih (fun r' h' => h r' (List.mem_cons_of_mem _ h'))
    obtain ⟨a, l1, rfl, ha, q1⟩ := (h r (List.mem_cons_self ..)).int
    obtain rfl := q1.nil
    refine ⟨a :: m, fun p hp => ?_, by rw [h2]; rfl, by simp [h3]⟩
    rcases List.mem_cons.1 hp with rfl | hp
    · have : -128 ≤ p ∧ p ≤ 127 := by simpa [Lit.wf, IntKind.min, IntKind.max, IntKind.signed, IntKind.bits] using ha
      exact this
    · exact h1 p hp
end Go.Proofs.YtpggiabnhodjpaaDoor
/- The statements on layer 18: parts of numbers are not greater. -/
set_option linter.unusedSimpArgs false
set_option linter.unusedVariables false
set_option linter.deprecated false
namespace Go.Proofs.YtpggiabnhodjpaaDoor
open Go Go.Ax
set_option maxRecDepth 100000
set_option maxHeartbeats 4000000

theorem part_f {n : Int} (h : isByte n) : absQ (nrm n 7).v ≤ 1 := by
  have h1 : (nrm n 7).v * 2 ^ 7 = (n : Rat) := v_nrm_mul (by omega)
  have h2 : (2 : Rat) ^ 7 = 128 := by decide +kernel
  rw [h2] at h1
  have h3 : (n : Rat) ≤ 128 := by exact_mod_cast (show n ≤ 128 by have := h.2; omega)
  have h4 : -(n : Rat) ≤ 128 := by exact_mod_cast (show -n ≤ 128 by have := h.1; omega)
  rw [absQ_le]
  constructor <;> grind
theorem part_d {x : Dy} {n : Int} (hx : x.d ≤ 60000) : (partD x n).d ≤ x.d + 7 := by
  have h2 : (nrm n 7).d ≤ 7 := Dy.d_nrm (by omega)
  have := Dy.d_mul_le x (nrm n 7) (by omega)
  unfold partD; omega
theorem part_le {x : Dy} {n : Int} (hx : x.d ≤ 60000) (h0 : 0 ≤ x.v) (hn : isByte n) : absQ (partD x n).v ≤ x.v := by
  have h2 : (nrm n 7).d ≤ 7 := Dy.d_nrm (by omega)
  unfold partD
  rw [Dy.v_mul_of _ _ (by omega), absQ_mul, absQ_of_nn h0]
  have := Rat.mul_le_mul_of_nonneg_left (part_f hn) h0
  rwa [Rat.mul_one] at this
theorem part_mg {x : Dy} {n : Int} {k : Nat} (h : Mg k x) (hn : isByte n) : Mg (k + 8) (partD x n) :=
  Mg.mul h (mg_nrm (Nat.lt_of_lt_of_le (show n.natAbs < 2 ^ 8 by unfold isByte at hn; omega) (Nat.pow_le_pow_right (by omega) (by omega))))
theorem done_step {i n : Nat} {g : Nat → Nat → Dy} : (mrows (crM (tabD i n g))).take i ++ [[.sl 3 (vrows ((tabV n (g i)).map can))]] = mrows (crM (tabD (i + 1) n g)) := by
  rw [List.take_of_length_le (by rw [mrows_length, crM_len, tabD_len]; exact Nat.le_refl _), tabD_succ]
  unfold crM
  rw [List.map_append, mrows_append]; rfl
end Go.Proofs.YtpggiabnhodjpaaDoor
