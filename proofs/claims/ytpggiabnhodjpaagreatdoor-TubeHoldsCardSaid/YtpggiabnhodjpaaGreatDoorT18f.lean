/- The statements on layer 18: the document's example; parts of numbers. -/
import Derived.Test.YtpggiabnhodjpaaGreatDoorT18b
import Derived.Test.YtpggiabnhodjpaaGreatDoorRefB
import Derived.Test.YtpggiabnhodjpaaGreatDoorMat2
import Derived.Test.YtpggiabnhodjpaaGreatDoorU4
set_option linter.unusedSimpArgs false
set_option linter.unusedVariables false
set_option linter.deprecated false
namespace Go.Proofs.YtpggiabnhodjpaaGreatDoor
open Go Go.Ax
set_option maxRecDepth 100000
set_option maxHeartbeats 4000000
def bytes (n : Int) : List AV := [.v (.int .i8 n)]
theorem clrow_b : ClRow bytes := fun x a ha => by
  simp only [bytes, List.mem_cons, List.not_mem_nil, or_false] at ha; subst ha; exact Cl.v _
def isByte (n : Int) : Prop := -128 ≤ n ∧ n ≤ 127
def pickL (l : List Int) (i : Nat) : Int := l.getD (i % l.length) 0
theorem pickL_byte {l : List Int} (h : ∀ n ∈ l, isByte n) (i : Nat) : isByte (pickL l i) := by
  unfold pickL
  by_cases hl : i % l.length < l.length
  · exact h _ (getD_mem (d := 0) hl)
  · rw [List.getD, List.getElem?_eq_none (by omega)]; exact ⟨by decide, by decide⟩
theorem law18_pick (l : List Int) (i : Nat) (hl : l.length ≤ 9223372036854775807) (hi : i ≤ 1000) :
    CallOK Tryz.prog gl 32 [.sl 1 (rws bytes l), .v (.int .i64 i)] (.v (.int .i8 (pickL l i))) := by
  refine call_ok (C := ⟨Tryz.prog, gl, ti, 15, false⟩) ti_ok mixed 3000 Tryz.call32 Tryz.func32 rfl Tryz.ntmps32 (by simp) (fun x hx => by
    simp only [List.mem_cons, List.not_mem_nil, or_false] at hx
    rcases hx with rfl | rfl
    · exact Cl.rws clrow_b
    · exact Cl.v _) byCl ?_
  rw [Tryz.results32]
  obtain ⟨n, hn⟩ : ∃ n, l.length = n := ⟨_, rfl⟩
  unfold pickL
  rw [hn] at hl ⊢
  by_cases h0 : n = 0
  ·
    subst h0
    have e : l = [] := List.length_eq_zero_iff.1 hn
    subst e
    repeat' (first | (simp only [go_sem, seval, IntKind.bits.eq_def, ti, tin, rws_nil, List.length_nil]) | (simp (disch := omega) only [wA]) | refine aL ti_ok ?_ | refine dL ti_ok ?_ | refine dG ?_ | ((first | refine cC ?_ ?_ | refine gS ?_ ?_ | refine dS ?_ ?_) <;> intro hc <;> first | (exfalso; simp only [dcA] at hc; omega) | (simp only [hc]; try simp only [dcA] at hc)) | refine aO ?_ | refine dO ?_)
    all_goals exact fin_same trivial rfl
  ·
    have hm : i % n < n := Nat.mod_lt _ (by omega)
    have ri : (rws bytes l).getD (i % n) [] = [.v (.int .i8 (l.getD (i % n) 0))] := rws_getD (f := bytes) (l := l) (i := i % n) 0 (by omega)
    have em : ((i : Int)).tmod (n : Int) = ((i % n : Nat) : Int) := by
      rw [Int.natCast_emod]
      exact Int.tmod_eq_emod_of_nonneg (by omega)
    have e0 : ¬ ((n : Nat) : Int) = 0 := by omega
    repeat' (first | (simp only [go_sem, seval, IntKind.bits.eq_def, ti, tin, rws_length, hn, ri, em, e0]) | (simp (disch := omega) only [wA]) | refine aL ti_ok ?_ | refine dL ti_ok ?_ | refine dG ?_ | ((first | refine cC ?_ ?_ | refine gS ?_ ?_ | refine dS ?_ ?_) <;> intro hc <;> first | (exfalso; simp only [dcA] at hc; omega) | (simp only [hc]; try simp only [dcA] at hc)) | refine aO ?_ | refine dO ?_)
    all_goals exact fin_same trivial rfl
def partD (x : Dy) (n : Int) : Dy := x.mul (nrm n 7)
theorem law18_part (s : Bool) (ws : List Nat) (d : Int) (x : Dy) (h : Arg s ws d x) (n : Int) (hn : isByte n) : CallOK Tryz.prog gl 33 [.agg [.v (.bool s), .sl 1 (u32s ws), .v (.int .i64 d)], .v (.int .i8 n)] (.agg [.v (.bool (sg (partD x n))), .sl 1 (u32s (ms (partD x n))), .v (.int .i64 (dn (partD x n)))]) := by
  refine call_ok (C := ⟨Tryz.prog, gl, ti, 16, false⟩) ti_ok mixed 3000 Tryz.call33 Tryz.func33 rfl Tryz.ntmps33 (by simp) byClL byCl ?_
  rw [Tryz.results33]
  unfold partD
  have mk := ref_Make n 7 (by unfold isByte at hn; omega) (by omega)
  have gm : Mg 8 (nrm n 7) := mg_nrm (Nat.lt_of_lt_of_le (show n.natAbs < 2 ^ 8 by unfold isByte at hn; omega) (Nat.pow_le_pow_right (by omega) (by omega)))
  have mu := ref_Mul _ _ _ _ _ _ _ _ h (gm.arg)
  have h7 : ((7 : Nat) : Int) = 7 := rfl
  rw [h7] at mk
  unfold isByte at hn
  clear gm
  generalize nrm n 7 = f at *
  repeat' (first | (simp only [go_sem, seval, IntKind.bits.eq_def, ti, tin]) | (simp (disch := omega) only [wA]) | (with_reducible first | refine cF mk ?_ | refine dF mk ?_ | refine cF mu ?_ | refine dF mu ?_) | refine aL ti_ok ?_ | refine dL ti_ok ?_ | refine dG ?_ | ((first | refine cC ?_ ?_ | refine gS ?_ ?_ | refine dS ?_ ?_) <;> intro hc <;> first | (exfalso; simp only [dcA] at hc; omega) | (simp only [hc]; try simp only [dcA] at hc)) | refine aO ?_ | refine dO ?_)
  all_goals exact fin_same trivial rfl
def hA : List (List RD) := [[can (nrm 1 1)]]
def hD : List (List RD) := [[RD.zero]]
def hW : List RD := [can (Dy.int 1)]
theorem half_ok1 {p : Nat} {x : RD} (h : okR p x) : okV p [x] := fun i => by
  match i with
  | 0 => exact h
  | i + 1 => exact okR_zero _
theorem half_ok2 {p : Nat} {x : RD} (h : okR p x) : okM p [[x]] := fun i => by
  match i with
  | 0 => exact half_ok1 h
  | i + 1 => exact fun j => okR_zero _
theorem half_ck : ckT hA hD hW = 0 := by decide +kernel
theorem half_make : makeD 1 (dyM hA) (dyM hD) (dyV hW) = some (Dy.int 4, Dy.int 5) := by decide +kernel
theorem half_ckC : ckC hA hD hW (1 : Nat) [can (Dy.int 4)] [can (Dy.int 5)] = 0 := by decide +kernel
theorem half_acc : acceptsD 1 (dyM hA) (dyM hD) (dyV hW) (dyV [can (Dy.int 4)]) (dyV [can (Dy.int 5)]) = true := by decide +kernel
theorem half_oa : okM 64 hA := half_ok2 (okR_can (mg_make (by omega)) (by omega))
theorem half_od : okM 64 hD := half_ok2 (okR_zero _)
theorem half_ow {q : Nat} (h : 64 ≤ q) (h2 : q ≤ 200000) : okV q hW := half_ok1 (okR_can ((Mg.int (by decide : (1 : Int).natAbs < 2 ^ 64)).mono h) (by omega))
theorem law18_half  : CallOK Tryz.prog gl 52 [] (.agg [.sl 1 (mrows hA), .sl 1 (mrows hD), .sl 3 (vrows hW)]) := by
  refine call_ok (C := ⟨Tryz.prog, gl, ti, 16, false⟩) ti_ok mixed 3000 Tryz.call52 Tryz.func52 rfl Tryz.ntmps52 (by simp) byClL byCl ?_
  rw [Tryz.results52]
  have mk := ref_Make 1 1 (by omega) (by omega)
  have h1 : ((1 : Nat) : Int) = 1 := rfl
  rw [h1] at mk
  have of := ref_Of 1 (by omega)
  unfold hA hD hW
  generalize nrm 1 1 = x at *
  generalize Dy.int 1 = y at *
  repeat' (first | (simp only [go_sem, seval, IntKind.bits.eq_def, ti, tin]) | (simp (disch := omega) only [wA]) | (with_reducible first | refine cF mk ?_ | refine dF mk ?_ | refine cF of ?_ | refine dF of ?_) | refine aL ti_ok ?_ | refine dL ti_ok ?_ | refine dG ?_ | ((first | refine cC ?_ ?_ | refine gS ?_ ?_ | refine dS ?_ ?_) <;> intro hc <;> first | (exfalso; simp only [dcA] at hc; omega) | (simp only [hc]; try simp only [dcA] at hc)) | refine aO ?_ | refine dO ?_)
  exact fin_le trivial (Le.agg (.cons (.refl _) (.cons (Le.sl (.cons (.cons (Le.sl (.cons LeL.dy0 .nil)) .nil) .nil)) (.cons (.refl _) .nil))))
theorem awake18  : CallOK Tryz.prog gl 12 [] (.v (.bool (true))) := by
  refine call_ok (C := ⟨Tryz.prog, gl, ti, 57, false⟩) ti_ok mixed 3000 Tryz.call12 Tryz.func12 rfl Tryz.ntmps12 (by simp) byClL byCl ?_
  rw [Tryz.results12]
  have hf := law18_half
  have mk := tub_Make hA hD hW 1 64 1 (by omega) half_oa half_od (half_ow (Nat.le_refl _) (by omega)) half_ck rfl (by omega) (by omega)
  rw [half_make] at mk
  have mk : CallOK Tryz.prog gl 13 [.agg [.sl 1 (mrows hA), .sl 1 (mrows hD), .sl 3 (vrows hW)], .v (.int .i64 1)] (.tup [.agg [.v (.int .i64 1), .sl 3 [[.v (.bool (sg (Dy.int 4))), .sl 1 (u32s (ms (Dy.int 4))), .v (.int .i64 (dn (Dy.int 4)))]], .sl 3 [[.v (.bool (sg (Dy.int 5))), .sl 1 (u32s (ms (Dy.int 5))), .v (.int .i64 (dn (Dy.int 5)))]]], .v (.bool true), .v .nilIface]) := mk
  have o4 : okV 200 [can (Dy.int 4)] := half_ok1 (okR_can ((Mg.int (by decide : (4 : Int).natAbs < 2 ^ 64)).mono (by omega)) (by omega))
  have o5 : okV 200 [can (Dy.int 5)] := half_ok1 (okR_can ((Mg.int (by decide : (5 : Int).natAbs < 2 ^ 64)).mono (by omega)) (by omega))
  have ac := tub_Accepts hA hD hW [can (Dy.int 4)] [can (Dy.int 5)] 1 64 200 1 (tubOK_of (by omega) (by omega) half_oa half_od (half_ow (by omega) (by omega)) o4 o5 half_ckC) half_ckC
  rw [half_acc] at ac
  have ac : CallOK Tryz.prog gl 16 [.agg [.sl 1 (mrows hA), .sl 1 (mrows hD), .sl 3 (vrows hW)], .agg [.v (.int .i64 1), .sl 3 [[.v (.bool (sg (Dy.int 4))), .sl 1 (u32s (ms (Dy.int 4))), .v (.int .i64 (dn (Dy.int 4)))]], .sl 3 [[.v (.bool (sg (Dy.int 5))), .sl 1 (u32s (ms (Dy.int 5))), .v (.int .i64 (dn (Dy.int 5)))]]]] (.tup [.v (.bool true), .v .nilIface]) := ac
  have f4 := ref_Of 4 (by omega)
  have f5 := ref_Of 5 (by omega)
  have s4 := ref_Same (Dy.int 4) (Dy.int 4) (by decide +kernel) (by decide +kernel)
  have s5 := ref_Same (Dy.int 5) (Dy.int 5) (by decide +kernel) (by decide +kernel)
  rw [decide_eq_true rfl] at s4 s5
  clear o4 o5
  generalize hA = A at *
  generalize hD = D at *
  generalize hW = W at *
  generalize Dy.int 4 = y4 at *
  generalize Dy.int 5 = y5 at *
  repeat' (first | (simp only [go_sem, seval, IntKind.bits.eq_def, ti, tin]) | (simp (disch := omega) only [wA]) | (with_reducible first | refine cF hf ?_ | refine dF hf ?_ | refine cF mk ?_ | refine dF mk ?_ | refine cF ac ?_ | refine dF ac ?_ | refine cF f4 ?_ | refine dF f4 ?_ | refine cF f5 ?_ | refine dF f5 ?_ | refine cF s4 ?_ | refine dF s4 ?_ | refine cF s5 ?_ | refine dF s5 ?_) | refine aL ti_ok ?_ | refine dL ti_ok ?_ | refine dG ?_ | ((first | refine cC ?_ ?_ | refine gS ?_ ?_ | refine dS ?_ ?_) <;> intro hc <;> first | (exfalso; simp only [dcA] at hc; omega) | (simp only [hc]; try simp only [dcA] at hc)) | refine aO ?_ | refine dO ?_)
  all_goals exact fin_same trivial rfl
end Go.Proofs.YtpggiabnhodjpaaGreatDoor
/- The statements on layer 18: arguments that are short; what all functions answer. -/
set_option linter.unusedSimpArgs false
set_option linter.unusedVariables false
set_option linter.deprecated false
namespace Go.Proofs.YtpggiabnhodjpaaGreatDoor
open Go Go.Ax
set_option maxRecDepth 100000
set_option maxHeartbeats 4000000
structure In18 (a dv : List (List RD)) (w : List RD) : Prop where
  la : a.length ≤ 10
  ld : dv.length ≤ 10
  lw : w.length ≤ 10
  oa : okM 64 a
  fa : fine 40 (dyM a)
  od : okM 64 dv
  fd : fine 40 (dyM dv)
  ow : okV 64 w
  fw : fineV 40 (dyV w)
  kd : ∀ l ∈ dv, l.length ≤ 1000 ∧ ∀ r ∈ l, r.ok
  few : ¬ ckT a dv w = 0 ∨ a.length ≤ 3
structure InC (inner outer : List RD) : Prop where
  li : inner.length ≤ 10
  lo : outer.length ≤ 10
  oi : okV 64 inner
  fi : fineV 40 (dyV inner)
  oo : okV 64 outer
  fo : fineV 40 (dyV outer)
theorem in18_of {a dv : List (List RD)} {w : List RD} (ga : argM a) (gd : argM dv) (gw : argV w) (h : lightP a dv w) : In18 a dv w := by
  have oa := brief_okM ga h.1.2.1
  have od := brief_okM gd h.1.2.2
  have ow := brief_okV gw h.1.1.2.2
  refine ⟨h.1.1.1, h.1.1.2.1, h.1.1.2.2.1, oa.1, oa.2, od.1, od.2, ow.1, ow.2, fun l hl => ?_, h.2⟩
  obtain ⟨i, hi, rfl⟩ := List.getElem_of_mem hl
  have e := h.1.2.2 i hi
  have e2 := okV_all (od.1 i)
  rw [List.getD, List.getElem?_eq_getElem hi] at e e2
  exact ⟨by have := e.1; simp only [Option.getD_some] at this; omega, e2⟩
theorem inC_of {K : Int} {inner outer : List RD} (gi : argV inner) (go : argV outer) (h : shortP K inner outer) : InC inner outer := by
  have oi := brief_okV gi h.1
  have oo := brief_okV go h.2.1
  exact ⟨h.1.1, h.2.1.1, oi.1, oi.2, oo.1, oo.2⟩
section
variable {a dv : List (List RD)} {w inner outer : List RD}
theorem In18.checkC (h : In18 a dv w) (g : InC inner outer) (K : Int) : CallOK Tryz.prog gl 23 [.agg [.sl 1 (mrows a), .sl 1 (mrows dv), .sl 3 (vrows w)], .agg [.v (.int .i64 K), .sl 3 (vrows inner), .sl 3 (vrows outer)]] (.v (.int .i64 (ckC a dv w K inner outer))) := by
  have := h.la; have := h.ld; have := h.lw; have := g.li; have := g.lo
  exact r18_CheckCert a dv w inner outer K (by omega) (by omega) (by omega) (by omega) (by omega) h.kd (okV_all h.ow) (okV_all g.oi) (okV_all g.oo)
theorem In18.tok (h : In18 a dv w) (g : InC inner outer) {K : Int} (hc : ckC a dv w K inner outer = 0) : TubOK 64 64 a.length a dv w inner outer := tubOK_of (by omega) (by omega) h.oa h.od h.ow g.oi g.oo hc
theorem In18.acc (h : In18 a dv w) (g : InC inner outer) (K : Nat) (hc : ckC a dv w K inner outer = 0) : CallOK Tryz.prog gl 16 [.agg [.sl 1 (mrows a), .sl 1 (mrows dv), .sl 3 (vrows w)], .agg [.v (.int .i64 K), .sl 3 (vrows inner), .sl 3 (vrows outer)]] (.tup [.v (.bool (acceptsD K (dyM a) (dyM dv) (dyV w) (dyV inner) (dyV outer))), .v .nilIface]) :=
  tub_Accepts a dv w inner outer K 64 64 a.length (h.tok g hc) hc
end
end Go.Proofs.YtpggiabnhodjpaaGreatDoor
/- The statements on layer 18: from the arguments to the plain laws. -/
set_option linter.unusedSimpArgs false
set_option linter.unusedVariables false
set_option linter.deprecated false
namespace Go.Proofs.YtpggiabnhodjpaaGreatDoor
open Go Go.Ax
set_option maxRecDepth 100000
set_option maxHeartbeats 4000000
theorem nonneg_vQ {l : List RD} (h : nonneg l) {i : Nat} (hi : i < l.length) : 0 ≤ vQ (dyV l) i := by
  unfold vQ; rw [dyV_get]
  exact Rat.not_lt.1 fun hn => h i hi ((sign_lt0 _).2 hn)
theorem fine.mono {k m : Nat} {a : List (List Dy)} (h : fine k a) (hk : k ≤ m) : fine m a := fun i j => Nat.le_trans (h i j) hk
theorem tubeD_mk {p q P Q : Nat} {a dv : List (List RD)} {w inner outer : List RD} {K : Int} (h : TubOK p q a.length a dv w inner outer) (hc : ckC a dv w K inner outer = 0) (fa : fine P (dyM a)) (fd : fine P (dyM dv)) (fw : fineV Q (dyV w)) (fi : fineV Q (dyV inner)) (fo : fineV Q (dyV outer)) :
    TubeD a.length P Q (dyM a) (dyM dv) (dyV w) (dyV inner) (dyV outer) := by
  obtain ⟨c1, c2, c3, c4, c5, c6, c7⟩ := ckC_zero hc
  obtain ⟨t1, t2, t3, t4, t5, t6, t7, t8, t9⟩ := ckT_zero c1
  refine ⟨h.ra, h.n1, h.rd, fa, fd, fw, fi, fo, fun i k hi hk => ?_, fun i hi => nonneg_vQ t9 (by omega), fun i hi => nonneg_vQ c6 (by omega), fun i hi => nonneg_vQ c7 (by omega)⟩
  have hrow := (ckM_zero t2).2.2 i (by omega)
  have := nonneg_vQ (t8 i (by omega)) (i := k) (by omega)
  unfold elQ el; rw [dyM_get]; exact this
section
variable {a dv : List (List RD)} {w inner outer : List RD}
theorem tubeD_of (X : In18 a dv w) (Y : InC inner outer) {K : Int} (hc : ckC a dv w K inner outer = 0) : TubeD a.length 40 40 (dyM a) (dyM dv) (dyV w) (dyV inner) (dyV outer) :=
  tubeD_mk (X.tok Y hc) hc X.fa X.fd X.fw Y.fi Y.fo
end
theorem fit_bytes {rows : List (List AV)} (h : ∀ r ∈ rows, FitL [.int .i8] r) : ∃ l : List Int, (∀ n ∈ l, isByte n) ∧ rows = rws bytes l ∧ rows.length = l.length := by
  induction rows with
  | nil => exact ⟨[], fun r hr => by simp at hr, rfl, rfl⟩
  | cons r l ih =>
    obtain ⟨m, h1, h2, h3⟩ := ih (fun r' h' => h r' (List.mem_cons_of_mem _ h'))
    obtain ⟨a, l1, rfl, ha, q1⟩ := (h r (List.mem_cons_self ..)).int
    obtain rfl := q1.nil
    refine ⟨a :: m, fun p hp => ?_, by rw [h2]; rfl, by simp [h3]⟩
    rcases List.mem_cons.1 hp with rfl | hp
    · have : -128 ≤ p ∧ p ≤ 127 := by simpa [Lit.wf, IntKind.min, IntKind.max, IntKind.signed, IntKind.bits] using ha
      exact this
    · exact h1 p hp
end Go.Proofs.YtpggiabnhodjpaaGreatDoor
/- The statements on layer 18: parts of numbers are not greater. -/
set_option linter.unusedSimpArgs false
set_option linter.unusedVariables false
set_option linter.deprecated false
namespace Go.Proofs.YtpggiabnhodjpaaGreatDoor
open Go Go.Ax
set_option maxRecDepth 100000
set_option maxHeartbeats 4000000
theorem part_f {n : Int} (h : isByte n) : absQ (nrm n 7).v ≤ 1 := by
  have h1 : (nrm n 7).v * 2 ^ 7 = (n : Rat) := v_nrm_mul (by omega)
  have h2 : (2 : Rat) ^ 7 = 128 := by decide +kernel
  rw [h2] at h1
  have h3 : (n : Rat) ≤ 128 := by exact_mod_cast (show n ≤ 128 by have := h.2; omega)
  have h4 : -(n : Rat) ≤ 128 := by exact_mod_cast (show -n ≤ 128 by have := h.1; omega)
  rw [absQ_le]
  constructor <;> grind
theorem part_d {x : Dy} {n : Int} (hx : x.d ≤ 60000) : (partD x n).d ≤ x.d + 7 := by
  have h2 : (nrm n 7).d ≤ 7 := Dy.d_nrm (by omega)
  have := Dy.d_mul_le x (nrm n 7) (by omega)
  unfold partD; omega
theorem part_le {x : Dy} {n : Int} (hx : x.d ≤ 60000) (h0 : 0 ≤ x.v) (hn : isByte n) : absQ (partD x n).v ≤ x.v := by
  have h2 : (nrm n 7).d ≤ 7 := Dy.d_nrm (by omega)
  unfold partD
  rw [Dy.v_mul_of _ _ (by omega), absQ_mul, absQ_of_nn h0]
  have := Rat.mul_le_mul_of_nonneg_left (part_f hn) h0
  rwa [Rat.mul_one] at this
theorem part_mg {x : Dy} {n : Int} {k : Nat} (h : Mg k x) (hn : isByte n) : Mg (k + 8) (partD x n) :=
  Mg.mul h (mg_nrm (Nat.lt_of_lt_of_le (show n.natAbs < 2 ^ 8 by unfold isByte at hn; omega) (Nat.pow_le_pow_right (by omega) (by omega))))
end Go.Proofs.YtpggiabnhodjpaaGreatDoor
