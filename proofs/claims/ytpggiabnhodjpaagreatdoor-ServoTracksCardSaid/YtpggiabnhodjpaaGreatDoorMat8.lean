/- The statements on layer 18: the document's example; parts of numbers. -/
import Derived.Test.YtpggiabnhodjpaaGreatDoorT18b
import Derived.Test.YtpggiabnhodjpaaGreatDoorRefB
import Derived.Test.YtpggiabnhodjpaaGreatDoorMat2
import Derived.Test.YtpggiabnhodjpaaGreatDoorU4
import Derived.Test.YtpggiabnhodjpaaGreatDoorMat5
import Derived.Test.YtpggiabnhodjpaaGreatDoorL04a
import Derived.Test.YtpggiabnhodjpaaGreatDoorRef8
set_option linter.unusedSimpArgs false
set_option linter.unusedVariables false
set_option linter.deprecated false
namespace Go.Proofs.YtpggiabnhodjpaaGreatDoor
open Go Go.Ax
set_option maxRecDepth 100000
set_option maxHeartbeats 4000000
def bytes (n : Int) : List AV := [.v (.int .i8 n)]
theorem clrow_b : ClRow bytes := fun x a ha => by
  simp only [bytes, List.mem_cons, List.not_mem_nil, or_false] at ha; subst ha; exact Cl.v _
def isByte (n : Int) : Prop := -128 ≤ n ∧ n ≤ 127
def hA : List (List RD) := [[can (nrm 1 1)]]
def hD : List (List RD) := [[RD.zero]]
def hW : List RD := [can (Dy.int 1)]
end Go.Proofs.YtpggiabnhodjpaaGreatDoor
/- The statements on layer 18: arguments that are short; what all functions answer. -/
set_option linter.unusedSimpArgs false
set_option linter.unusedVariables false
set_option linter.deprecated false
namespace Go.Proofs.YtpggiabnhodjpaaGreatDoor
open Go Go.Ax
set_option maxRecDepth 100000
set_option maxHeartbeats 4000000
structure In18 (a dv : List (List RD)) (w : List RD) : Prop where
  la : a.length ≤ 10
  ld : dv.length ≤ 10
  lw : w.length ≤ 10
  oa : okM 64 a
  fa : fine 40 (dyM a)
  od : okM 64 dv
  fd : fine 40 (dyM dv)
  ow : okV 64 w
  fw : fineV 40 (dyV w)
  kd : ∀ l ∈ dv, l.length ≤ 1000 ∧ ∀ r ∈ l, r.ok
  few : ¬ ckT a dv w = 0 ∨ a.length ≤ 3
structure InC (inner outer : List RD) : Prop where
  li : inner.length ≤ 10
  lo : outer.length ≤ 10
  oi : okV 64 inner
  fi : fineV 40 (dyV inner)
  oo : okV 64 outer
  fo : fineV 40 (dyV outer)
section
variable {a dv : List (List RD)} {w inner outer : List RD}
theorem In18.tok (h : In18 a dv w) (g : InC inner outer) {K : Int} (hc : ckC a dv w K inner outer = 0) : TubOK 64 64 a.length a dv w inner outer := tubOK_of (by omega) (by omega) h.oa h.od h.ow g.oi g.oo hc
theorem In18.acc (h : In18 a dv w) (g : InC inner outer) (K : Nat) (hc : ckC a dv w K inner outer = 0) : CallOK Tryz.prog gl 16 [.agg [.sl 1 (mrows a), .sl 1 (mrows dv), .sl 3 (vrows w)], .agg [.v (.int .i64 K), .sl 3 (vrows inner), .sl 3 (vrows outer)]] (.tup [.v (.bool (acceptsD K (dyM a) (dyM dv) (dyV w) (dyV inner) (dyV outer))), .v .nilIface]) :=
  tub_Accepts a dv w inner outer K 64 64 a.length (h.tok g hc) hc
end
end Go.Proofs.YtpggiabnhodjpaaGreatDoor
/- The statements on layer 18: from the arguments to the plain laws. -/
set_option linter.unusedSimpArgs false
set_option linter.unusedVariables false
set_option linter.deprecated false
namespace Go.Proofs.YtpggiabnhodjpaaGreatDoor
open Go Go.Ax
set_option maxRecDepth 100000
set_option maxHeartbeats 4000000
theorem nonneg_vQ {l : List RD} (h : nonneg l) {i : Nat} (hi : i < l.length) : 0 ≤ vQ (dyV l) i := by
  unfold vQ; rw [dyV_get]
  exact Rat.not_lt.1 fun hn => h i hi ((sign_lt0 _).2 hn)
theorem fine.mono {k m : Nat} {a : List (List Dy)} (h : fine k a) (hk : k ≤ m) : fine m a := fun i j => Nat.le_trans (h i j) hk
theorem tubeD_mk {p q P Q : Nat} {a dv : List (List RD)} {w inner outer : List RD} {K : Int} (h : TubOK p q a.length a dv w inner outer) (hc : ckC a dv w K inner outer = 0) (fa : fine P (dyM a)) (fd : fine P (dyM dv)) (fw : fineV Q (dyV w)) (fi : fineV Q (dyV inner)) (fo : fineV Q (dyV outer)) :
    TubeD a.length P Q (dyM a) (dyM dv) (dyV w) (dyV inner) (dyV outer) := by
  obtain ⟨c1, c2, c3, c4, c5, c6, c7⟩ := ckC_zero hc
  obtain ⟨t1, t2, t3, t4, t5, t6, t7, t8, t9⟩ := ckT_zero c1
  refine ⟨h.ra, h.n1, h.rd, fa, fd, fw, fi, fo, fun i k hi hk => ?_, fun i hi => nonneg_vQ t9 (by omega), fun i hi => nonneg_vQ c6 (by omega), fun i hi => nonneg_vQ c7 (by omega)⟩
  have hrow := (ckM_zero t2).2.2 i (by omega)
  have := nonneg_vQ (t8 i (by omega)) (i := k) (by omega)
  unfold elQ el; rw [dyM_get]; exact this
section
variable {a dv : List (List RD)} {w inner outer : List RD}
end
theorem fit_bytes {rows : List (List AV)} (h : ∀ r ∈ rows, FitL [.int .i8] r) : ∃ l : List Int, (∀ n ∈ l, isByte n) ∧ rows = rws bytes l ∧ rows.length = l.length := by
  induction rows with
  | nil => exact ⟨[], fun r hr => by simp at hr, rfl, rfl⟩
  | cons r l ih =>
    obtain ⟨m, h1, h2, h3⟩ := ih (fun r' h' => h r' (List.mem_cons_of_mem _ h'))
    obtain ⟨a, l1, rfl, ha, q1⟩ := (h r (List.mem_cons_self ..)).int
    obtain rfl := q1.nil
    refine ⟨a :: m, fun p hp => ?_, by rw [h2]; rfl, by simp [h3]⟩
    rcases List.mem_cons.1 hp with rfl | hp
    · have : -128 ≤ p ∧ p ≤ 127 := by simpa [Lit.wf, IntKind.min, IntKind.max, IntKind.signed, IntKind.bits] using ha
      exact this
    · exact h1 p hp
end Go.Proofs.YtpggiabnhodjpaaGreatDoor
/- The reference's matrices (ref04): Zero, Add, Abs. -/
set_option linter.unusedSimpArgs false
set_option linter.unusedVariables false
set_option linter.deprecated false
namespace Go.Proofs.YtpggiabnhodjpaaGreatDoor
open Go Go.Ax
set_option maxRecDepth 100000
set_option maxHeartbeats 4000000
theorem ref_ZeroM (n m : Nat) (hn : n ≤ 10) (hm : m ≤ 10) : CallN Tryz.prog gl 17 [.v (.int .i64 n), .v (.int .i64 m)] (.ps 0 1 0 n) ((0, ⟨1, slots 1 n m⟩) :: nest 1 n (zr m)) (n + 1) := by
  refine call_n (C := ⟨Tryz.prog, gl, ti, 21, false⟩) ti_ok mixed 3000 Tryz.call17 Tryz.func17 rfl Tryz.ntmps17 (by simp) byClL ?_
  rw [Tryz.results17]
  repeat' (first | (simp only [go_sem, seval, IntKind.bits.eq_def, ti, tin, List.length_replicate]) | (simp (disch := omega) only [wA]) | refine aL ti_ok ?_ | refine dL ti_ok ?_ | refine dG ?_ | ((first | refine cC ?_ ?_ | refine gS ?_ ?_ | refine dS ?_ ?_) <;> intro hc <;> first | (exfalso; simp only [dcA] at hc; omega) | (simp only [hc]; try simp only [dcA] at hc)) | refine aO ?_ | refine dO ?_)
  refine l_loop (α := Nat) (fun i => ⟨[(1, .v (.int .i64 m)), (5, .ps 0 1 0 n), (10, .v (.int .i64 n)), (11, .v (.int .i64 i))], (0, ⟨1, slots 1 i m ++ List.replicate (n - i) [.v (.slice none 0 0)]⟩) :: nest 1 i (zr m), (i + 1)⟩) (fun i => i ≤ n) (fun i => n - i) (0) _ byFresh (fun _ h => by first | (cases h; done) | exact Nat.le_of_ble_eq_true rfl) ?_ ?_ ?_
  · exact Nat.zero_le _
  · exact byWeak
  rintro i hi
  by_cases hin : i < n
  ·
    have hD : (slots 1 i m).length = i := slots_len
    obtain ⟨q, hq⟩ : ∃ q, n - i = q + 1 := ⟨n - i - 1, by omega⟩
    have hrep : List.replicate (n - i) [AV.v (.slice none 0 0)] = [AV.v (.slice none 0 0)] :: List.replicate q [AV.v (.slice none 0 0)] := by rw [hq, List.replicate_succ]
    have hq2 : n - (i + 1) = q := by omega
    rw [hrep]
    have e1 := getD_mid (d := []) (x := [AV.v (.slice none 0 0)]) (R := List.replicate q [AV.v (.slice none 0 0)]) hD
    have e2 : ∀ v : List AV, _ := fun v => set_mid (x := [AV.v (.slice none 0 0)]) (y := v) (R := List.replicate q [AV.v (.slice none 0 0)]) hD
    have e3 : (slots 1 i m ++ [AV.v (.slice none 0 0)] :: List.replicate q [AV.v (.slice none 0 0)]).length = n := by rw [List.length_append, hD, List.length_cons, List.length_replicate]; omega
    have e9 : ∀ (M0 M1 : MB) (T : List (Nat × MB)), Ax.look ((i + 1, M1) :: (0, M0) :: T) 0 = some M0 := fun M0 M1 T => by
      simp only [Ax.look]; rw [if_neg (by omega)]; exact if_pos trivial
    repeat' (first | (simp only [go_sem, seval, IntKind.bits.eq_def, ti, tin, List.length_replicate, e1, e2, e3, e9]) | (simp (disch := omega) only [wA]) | refine aL ti_ok ?_ | refine dL ti_ok ?_ | refine dG ?_ | ((first | refine cC ?_ ?_ | refine gS ?_ ?_ | refine dS ?_ ?_) <;> intro hc <;> first | (exfalso; simp only [dcA] at hc; omega) | (simp only [hc]; try simp only [dcA] at hc)) | refine aO ?_ | refine dO ?_)
    refine roundEnd_of (α := Nat) (i + 1) (show i + 1 ≤ n by omega) (by omega) ?_
    rw [hq2]
    refine Weak.rowMade ?_ ?_ (fun b h1 h2 => ?_) zr_cl
    · repeat' (first | exact trivial | exact .inl ⟨_, rfl, .refl _, Cl.v _⟩ | exact .inr ⟨_, _, _, rfl, rfl⟩ | refine And.intro ?_ ?_)
    · show some (MB.mk 1 (slots 1 i m ++ [AV.ps (i + 1) 3 0 m] :: List.replicate q [AV.v (.slice none 0 0)])) = _
      rw [← slots_app, Nat.add_comm 1 i, List.append_assoc]; rfl
    · show Ax.look ((0, _) :: (i + 1, MB.mk 3 (zr m)) :: (0, _) :: nest 1 i (zr m)) b = _
      simp only [Ax.look]
      rw [if_neg (by omega)]
      by_cases hb : i + 1 = b
      · rw [if_pos hb]
      · rw [if_neg hb, if_neg (by omega)]; exact nest_has (by omega) (by omega)
  ·
    have hin2 : i = n := by omega
    subst hin2
    repeat' (first | (simp only [go_sem, seval, IntKind.bits.eq_def, ti, tin, List.length_replicate]) | (simp (disch := omega) only [wA]) | refine aL ti_ok ?_ | refine dL ti_ok ?_ | refine dG ?_ | ((first | refine cC ?_ ?_ | refine gS ?_ ?_ | refine dS ?_ ?_) <;> intro hc <;> first | (exfalso; simp only [dcA] at hc; omega) | (simp only [hc]; try simp only [dcA] at hc)) | refine aO ?_ | refine dO ?_)
    refine ⟨.inr rfl, ⟨_, _, rfl, ⟨trivial, trivial⟩, rfl⟩, ?_, Nat.le_refl _⟩
    show ∀ b m', _ → Ax.look ((0, MB.mk 1 (slots 1 i m ++ List.replicate (i - i) [AV.v (.slice none 0 0)])) :: nest 1 i (zr m)) b = some m'
    rw [Nat.sub_self, List.replicate_zero, List.append_nil]
    exact fun _ _ h => h
end Go.Proofs.YtpggiabnhodjpaaGreatDoor
