/- The reference's matrices (ref04): Zero, Add, Abs. -/
import Derived.Test.YtpggiabnhodjpaaGreatDoorMat5
import Derived.Test.YtpggiabnhodjpaaGreatDoorL04g
import Derived.Test.YtpggiabnhodjpaaGreatDoorMat1
import Derived.Test.YtpggiabnhodjpaaGreatDoorU4
import Derived.Test.YtpggiabnhodjpaaGreatDoorRefB
import Derived.Test.YtpggiabnhodjpaaGreatDoorMat7a
import Derived.Test.YtpggiabnhodjpaaGreatDoorT18f
import Derived.Test.YtpggiabnhodjpaaGreatDoorTub7
set_option linter.unusedSimpArgs false
set_option linter.unusedVariables false
set_option linter.deprecated false
namespace Go.Proofs.YtpggiabnhodjpaaGreatDoor
open Go Go.Ax
set_option maxRecDepth 100000
set_option maxHeartbeats 4000000
theorem ref_ZeroM (n m : Nat) (hn : n ≤ 10) (hm : m ≤ 10) : CallN Tryz.prog gl 17 [.v (.int .i64 n), .v (.int .i64 m)] (.ps 0 1 0 n) ((0, ⟨1, slots 1 n m⟩) :: nest 1 n (zr m)) (n + 1) := by
  refine call_n (C := ⟨Tryz.prog, gl, ti, 21, false⟩) ti_ok mixed 3000 Tryz.call17 Tryz.func17 rfl Tryz.ntmps17 (by simp) byClL ?_
  rw [Tryz.results17]
  repeat' (first | (simp only [go_sem, seval, IntKind.bits.eq_def, ti, tin, List.length_replicate]) | (simp (disch := omega) only [wA]) | refine aL ti_ok ?_ | refine dL ti_ok ?_ | refine dG ?_ | ((first | refine cC ?_ ?_ | refine gS ?_ ?_ | refine dS ?_ ?_) <;> intro hc <;> first | (exfalso; simp only [dcA] at hc; omega) | (simp only [hc]; try simp only [dcA] at hc)) | refine aO ?_ | refine dO ?_)
  refine l_loop (α := Nat) (fun i => ⟨[(1, .v (.int .i64 m)), (5, .ps 0 1 0 n), (10, .v (.int .i64 n)), (11, .v (.int .i64 i))], (0, ⟨1, slots 1 i m ++ List.replicate (n - i) [.v (.slice none 0 0)]⟩) :: nest 1 i (zr m), (i + 1)⟩) (fun i => i ≤ n) (fun i => n - i) (0) _ byFresh (fun _ h => by first | (cases h; done) | exact Nat.le_of_ble_eq_true rfl) ?_ ?_ ?_
  · exact Nat.zero_le _
  · exact byWeak
  rintro i hi
  by_cases hin : i < n
  ·
    have hD : (slots 1 i m).length = i := slots_len
    obtain ⟨q, hq⟩ : ∃ q, n - i = q + 1 := ⟨n - i - 1, by omega⟩
    have hrep : List.replicate (n - i) [AV.v (.slice none 0 0)] = [AV.v (.slice none 0 0)] :: List.replicate q [AV.v (.slice none 0 0)] := by rw [hq, List.replicate_succ]
    have hq2 : n - (i + 1) = q := by omega
    rw [hrep]
    have e1 := getD_mid (d := []) (x := [AV.v (.slice none 0 0)]) (R := List.replicate q [AV.v (.slice none 0 0)]) hD
    have e2 : ∀ v : List AV, _ := fun v => set_mid (x := [AV.v (.slice none 0 0)]) (y := v) (R := List.replicate q [AV.v (.slice none 0 0)]) hD
    have e3 : (slots 1 i m ++ [AV.v (.slice none 0 0)] :: List.replicate q [AV.v (.slice none 0 0)]).length = n := by rw [List.length_append, hD, List.length_cons, List.length_replicate]; omega
    have e9 : ∀ (M0 M1 : MB) (T : List (Nat × MB)), Ax.look ((i + 1, M1) :: (0, M0) :: T) 0 = some M0 := fun M0 M1 T => by
      simp only [Ax.look]; rw [if_neg (by omega)]; exact if_pos trivial
    repeat' (first | (simp only [go_sem, seval, IntKind.bits.eq_def, ti, tin, List.length_replicate, e1, e2, e3, e9]) | (simp (disch := omega) only [wA]) | refine aL ti_ok ?_ | refine dL ti_ok ?_ | refine dG ?_ | ((first | refine cC ?_ ?_ | refine gS ?_ ?_ | refine dS ?_ ?_) <;> intro hc <;> first | (exfalso; simp only [dcA] at hc; omega) | (simp only [hc]; try simp only [dcA] at hc)) | refine aO ?_ | refine dO ?_)
    refine roundEnd_of (α := Nat) (i + 1) (show i + 1 ≤ n by omega) (by omega) ?_
    rw [hq2]
    refine Weak.rowMade ?_ ?_ (fun b h1 h2 => ?_) zr_cl
    · repeat' (first | exact trivial | exact .inl ⟨_, rfl, .refl _, Cl.v _⟩ | exact .inr ⟨_, _, _, rfl, rfl⟩ | refine And.intro ?_ ?_)
    · show some (MB.mk 1 (slots 1 i m ++ [AV.ps (i + 1) 3 0 m] :: List.replicate q [AV.v (.slice none 0 0)])) = _
      rw [← slots_app, Nat.add_comm 1 i, List.append_assoc]; rfl
    · show Ax.look ((0, _) :: (i + 1, MB.mk 3 (zr m)) :: (0, _) :: nest 1 i (zr m)) b = _
      simp only [Ax.look]
      rw [if_neg (by omega)]
      by_cases hb : i + 1 = b
      · rw [if_pos hb]
      · rw [if_neg hb, if_neg (by omega)]; exact nest_has (by omega) (by omega)
  ·
    have hin2 : i = n := by omega
    subst hin2
    repeat' (first | (simp only [go_sem, seval, IntKind.bits.eq_def, ti, tin, List.length_replicate]) | (simp (disch := omega) only [wA]) | refine aL ti_ok ?_ | refine dL ti_ok ?_ | refine dG ?_ | ((first | refine cC ?_ ?_ | refine gS ?_ ?_ | refine dS ?_ ?_) <;> intro hc <;> first | (exfalso; simp only [dcA] at hc; omega) | (simp only [hc]; try simp only [dcA] at hc)) | refine aO ?_ | refine dO ?_)
    refine ⟨.inr rfl, ⟨_, _, rfl, ⟨trivial, trivial⟩, rfl⟩, ?_, Nat.le_refl _⟩
    show ∀ b m', _ → Ax.look ((0, MB.mk 1 (slots 1 i m ++ List.replicate (i - i) [AV.v (.slice none 0 0)])) :: nest 1 i (zr m)) b = some m'
    rw [Nat.sub_self, List.replicate_zero, List.append_nil]
    exact fun _ _ h => h
end Go.Proofs.YtpggiabnhodjpaaGreatDoor
/- The reference's matrices (ref04): Mul, Abs, Apply. -/
set_option linter.unusedSimpArgs false
set_option linter.unusedVariables false
set_option linter.deprecated false
namespace Go.Proofs.YtpggiabnhodjpaaGreatDoor
open Go Go.Ax
set_option maxRecDepth 100000
set_option maxHeartbeats 4000000
end Go.Proofs.YtpggiabnhodjpaaGreatDoor
/- The reference's matrices (ref04): Mul, Apply, LeRow, Le, Norm, Text. -/
set_option linter.unusedSimpArgs false
set_option linter.unusedVariables false
set_option linter.deprecated false
namespace Go.Proofs.YtpggiabnhodjpaaGreatDoor
open Go Go.Ax
set_option maxRecDepth 100000
set_option maxHeartbeats 4000000
def mid (m k : Nat) (f : Nat → Dy) (x : Dy) : List Dy := tabV k f ++ x :: List.replicate (m - k - 1) Dy.zero
end Go.Proofs.YtpggiabnhodjpaaGreatDoor
/- The reference's matrices (ref04): Zero, whose result is only read. -/
set_option linter.unusedSimpArgs false
set_option linter.unusedVariables false
set_option linter.deprecated false
namespace Go.Proofs.YtpggiabnhodjpaaGreatDoor
open Go Go.Ax
set_option maxRecDepth 100000
set_option maxHeartbeats 4000000
end Go.Proofs.YtpggiabnhodjpaaGreatDoor
/- The statement TubeHolds: what its steps need, in plain words. -/
set_option linter.unusedSimpArgs false
set_option linter.unusedVariables false
set_option linter.deprecated false
namespace Go.Proofs.YtpggiabnhodjpaaGreatDoor
open Go Go.Ax
set_option maxRecDepth 100000
set_option maxHeartbeats 4000000
def brow (l : List Int) : List AV := [.sl 1 (rws bytes l)]
def brows (S : List (List Int)) : List (List AV) := rws brow S
theorem brows_len (S : List (List Int)) : (brows S).length = S.length := rws_length S
theorem brows_get {S : List (List Int)} {k : Nat} (h : k < S.length) : (brows S).getD k [] = [.sl 1 (rws bytes (S.getD k []))] := rws_getD (f := brow) [] h
theorem clrow_br : ClRow brow := fun x a ha => by
  simp only [brow, List.mem_cons, List.not_mem_nil, or_false] at ha; subst ha; exact Cl.rws clrow_b
def isBytes (S : List (List Int)) : Prop := ∀ l ∈ S, l.length ≤ 9223372036854775807 ∧ ∀ n ∈ l, isByte n
theorem bytes_get {S : List (List Int)} (h : isBytes S) (k : Nat) : (S.getD k []).length ≤ 9223372036854775807 ∧ ∀ n ∈ S.getD k [], isByte n := by
  by_cases hk : k < S.length
  · exact h _ (getD_mem (d := []) hk)
  · rw [List.getD, List.getElem?_eq_none (by omega)]; exact ⟨Nat.zero_le _, fun n hn => by cases hn⟩
theorem fit_brows {rows : List (List AV)} (h : ∀ r ∈ rows, FitL [.sl [.int .i8]] r) : ∃ S : List (List Int), isBytes S ∧ rows = brows S ∧ rows.length = S.length := by
  induction rows with
  | nil => exact ⟨[], fun r hr => by simp at hr, rfl, rfl⟩
  | cons r l ih =>
    obtain ⟨m, h1, h2, h3⟩ := ih (fun r' h' => h r' (List.mem_cons_of_mem _ h'))
    obtain ⟨rw1, l1, rfl, hl, hr, q1⟩ := (h r (List.mem_cons_self ..)).sl
    obtain rfl := q1.nil
    obtain ⟨b, hb, rfl, e⟩ := fit_bytes hr
    refine ⟨b :: m, fun p hp => ?_, by rw [h2]; rfl, by simp [h3]⟩
    rcases List.mem_cons.1 hp with rfl | hp
    · exact ⟨by unfold maxLen at hl; omega, hb⟩
    · exact h1 p hp
def hx0 (inner : List RD) (S : List (List Int)) (i : Nat) : Dy := partD (inner.getD i RD.zero).dy (if S.length = 0 then 127 else pickL (S.getD 0 []) i)
def hdv (dv : List (List RD)) (s : List Int) (n i l : Nat) : Dy := partD ((dv.getD i []).getD l RD.zero).dy (pickL s (n + n * i + l))
def hw (w : List RD) (s : List Int) (i : Nat) : Dy := partD (w.getD i RD.zero).dy (pickL s i)
theorem hx0_byte {S : List (List Int)} (h : isBytes S) (i : Nat) : isByte (if S.length = 0 then 127 else pickL (S.getD 0 []) i) := by
  split
  · exact ⟨by decide, by decide⟩
  · exact pickL_byte (bytes_get h 0).2 i
def cnt (n r i : Nat) : Nat := if r < i then n else 0
theorem cnt_zero {n r : Nat} : cnt n r 0 = 0 := if_neg (Nat.not_lt_zero _)
section
variable {a dv : List (List RD)} {w inner outer : List RD} {S : List (List Int)} {K n : Nat}
theorem hold_start (X : In18 a dv w) (Y : InC inner outer) (hn : a.length = n) (hc : ckC a dv w K inner outer = 0) (hS : isBytes S) : HInv n K (dyM a) (dyM dv) (dyV w) (dyV inner) (dyV outer) 0 (tabV n (hx0 inner S)) ∧ ∀ i, Mg 72 ((tabV n (hx0 inner S)).getD i Dy.zero) := by
  obtain ⟨c1, c2, c3, c4, c5, c6, c7⟩ := ckC_zero hc
  have dI : ∀ i, (inner.getD i RD.zero).dy.d ≤ 40 := fun i => by have := Y.fi i; rwa [dyV_get] at this
  refine ⟨HInv.start tabV_len (fineV_of tabV_len fun i hi => ?_) fun i hi => ?_, fun i => ?_⟩
  · rw [tabV_get hi]
    have := part_d (x := (inner.getD i RD.zero).dy) (n := if S.length = 0 then 127 else pickL (S.getD 0 []) i) (by have := dI i; omega)
    have := dI i
    show (partD _ _).d ≤ 247
    omega
  · unfold vQ
    rw [tabV_get hi, dyV_get]
    have := nonneg_vQ c6 (i := i) (by omega)
    unfold vQ at this
    rw [dyV_get] at this
    exact part_le (by have := dI i; omega) this (hx0_byte hS i)
  · by_cases hi : i < n
    · rw [tabV_get hi]; exact part_mg (Y.oi i).2 (hx0_byte hS i)
    · rw [List.getD, List.getElem?_eq_none (by rw [tabV_len]; omega)]; exact Mg.zero _
theorem hold_step (X : In18 a dv w) (Y : InC inner outer) (hn : a.length = n) (hc : ckC a dv w K inner outer = 0) (h8 : K ≤ 8) (acc : acceptsD K (dyM a) (dyM dv) (dyV w) (dyV inner) (dyV outer) = true) {k : Nat} (hk : k ≤ 20) {x : List Dy} (H : HInv n K (dyM a) (dyM dv) (dyV w) (dyV inner) (dyV outer) k x)
    (gx : ∀ i, Mg (72 + 200 * k) (x.getD i Dy.zero)) (fx : fineV 200 x) {s : List Int} (hs : ∀ n ∈ s, isByte n) :
    ∃ y, CallOK Tryz.prog gl 29 [.agg [.sl 1 (mrows a), .sl 1 (mrows dv), .sl 3 (vrows w)], .sl 3 (vrows (x.map can)), .sl 1 (mrows (crM (tabD n n (hdv dv s n)))), .sl 3 (vrows ((tabV n (hw w s)).map can))] (.tup [.sl 3 (vrows (y.map can)), .v .nilIface])
      ∧ HInv n K (dyM a) (dyM dv) (dyV w) (dyV inner) (dyV outer) (k + 1) y ∧ ∀ i, Mg (72 + 200 * (k + 1)) (y.getD i Dy.zero) := by
  obtain ⟨c1, c2, c3, c4, c5, c6, c7⟩ := ckC_zero hc
  obtain ⟨t1, t2, t3, t4, t5, t6, t7, t8, t9⟩ := ckT_zero c1
  have hn0 := (ckM_zero t1).1.1
  have T := tubeD_of X Y hc
  rw [hn] at hn0 t3 t4 t5 t6 t7 T
  have dD : ∀ i l, ((dv.getD i []).getD l RD.zero).dy.d ≤ 40 := fun i l => by have := X.fd i l; rwa [dyM_el] at this
  have dW : ∀ i, (w.getD i RD.zero).dy.d ≤ 40 := fun i => by have := X.fw i; rwa [dyV_get] at this
  have nD : ∀ i l, i < n → l < n → 0 ≤ ((dv.getD i []).getD l RD.zero).dy.v := fun i l hi hl => by
    have := T.nd i l (by omega) (by omega)
    unfold elQ at this; rwa [dyM_el] at this
  have nW : ∀ i, i < n → 0 ≤ (w.getD i RD.zero).dy.v := fun i hi => by
    have := T.nw i (by omega)
    unfold vQ at this; rwa [dyV_get] at this
  have rD : rect n n (tabD n n (hdv dv s n)) := tabD_rect
  have hM : ckM (crM (tabD n n (hdv dv s n))) = 0 := ckM_rect rD hn0 (by omega) hn0 (by omega)
  have gD : ∀ i l, Mg 72 (hdv dv s n i l) := fun i l => part_mg (X.od i l).2 (pickL_byte hs _)
  have gW : ∀ i, Mg 72 (hw w s i) := fun i => part_mg (X.ow i).2 (pickL_byte hs _)
  have oD : okM 72 (crM (tabD n n (hdv dv s n))) := okM_cr (mg_el_tab fun i j _ _ => gD i j) (by omega)
  have gWt : ∀ i, Mg 72 ((tabV n (hw w s)).getD i Dy.zero) := fun i => by
    by_cases hi : i < n
    · rw [tabV_get hi]; exact gW i
    · rw [List.getD, List.getElem?_eq_none (by rw [tabV_len]; omega)]; exact Mg.zero _
  have oW : okV 72 ((tabV n (hw w s)).map can) := okV_can gWt (by omega)
  have fD : fine 47 (tabD n n (hdv dv s n)) := fine_of rD fun i j hi hj => by
    rw [tabD_el hi hj]
    have := part_d (x := ((dv.getD i []).getD j RD.zero).dy) (n := pickL s (n + n * i + j)) (by have := dD i j; omega)
    have := dD i j
    show (partD _ _).d ≤ 47
    omega
  have fW : fineV 47 (tabV n (hw w s)) := fineV_of tabV_len fun i hi => by
    rw [tabV_get hi]
    have := part_d (x := (w.getD i RD.zero).dy) (n := pickL s i) (by have := dW i; omega)
    have := dW i
    show (partD _ _).d ≤ 47
    omega
  have hd : ∀ i j, i < n → j < n → absQ (elQ (tabD n n (hdv dv s n)) i j) ≤ elQ (dyM dv) i j := fun i j hi hj => by
    unfold elQ
    rw [tabD_el hi hj, dyM_el]
    exact part_le (by have := dD i j; omega) (nD i j hi hj) (pickL_byte hs _)
  have hv : ∀ i, i < n → absQ (vQ (tabV n (hw w s)) i) ≤ vQ (dyV w) i := fun i hi => by
    unfold vQ
    rw [tabV_get hi, dyV_get]
    exact part_le (by have := dW i; omega) (nW i hi) (pickL_byte hs _)
  have hE : stE a dv w (x.map can) (crM (tabD n n (hdv dv s n))) ((tabV n (hw w s)).map can) = 0 := by
    unfold stE
    rw [if_neg (by omega), if_neg (by rw [List.length_map, List.length_map, tabV_len, H.len]; omega), if_neg (by omega), if_neg (by rw [crM_len, crM_get, List.length_map, rD.1, rD.2 0 hn0]; omega)]
  have hI : stIn dv w (crM (tabD n n (hdv dv s n))) ((tabV n (hw w s)).map can) = true := by
    unfold stIn
    rw [Bool.and_eq_true, decide_eq_true_iff]
    constructor
    · intro i hi
      rw [crM_len, rD.1] at hi
      unfold withinD
      refine decide_eq_true fun j hj => (cmp_le _ _).2 ?_
      rw [crM_get, dyV_can] at hj ⊢
      rw [rD.2 i hi] at hj
      have := hd i j hi hj
      rw [v_abs]
      unfold elQ el at this
      rw [dyM_get] at this
      exact this
    · unfold withinD
      refine decide_eq_true fun i hi => (cmp_le _ _).2 ?_
      rw [dyV_can] at hi ⊢
      rw [tabV_len] at hi
      rw [v_abs]
      exact hv i hi
  have st := tub_Step a dv w (x.map can) (crM (tabD n n (hdv dv s n))) ((tabV n (hw w s)).map can) 72 (72 + 200 * k) (by omega) (by omega) (X.oa.mono (by omega)) (X.od.mono (by omega)) (okV.mono X.ow (by omega)) (okV_can gx (by omega)) oD oW hE
  rw [hI] at st
  have hnx := HInv.next T (by omega) h8 acc H fx rD fD hd fW hv
  have ra := T.ha
  have rA := rect_add (b := tabD n n (hdv dv s n)) ra hn0
  have gA : ∀ i j, Mg (72 + 1) (el (addD (dyM a) (tabD n n (hdv dv s n))) i j) := fun i j => by
    by_cases hij : i < n ∧ j < n
    · rw [el_add ra hn0 hij.1 hij.2]
      exact Mg.add ((mg_el_raw X.oa i j).mono (by omega)) (mg_el_tab (fun i j _ _ => gD i j) i j)
    · rw [el_out rA hij]; exact Mg.zero _
  have hy : stY (dyM a) (dyV (x.map can)) (dyM (crM (tabD n n (hdv dv s n)))) (dyV ((tabV n (hw w s)).map can)) = sumV (appD (addD (dyM a) (tabD n n (hdv dv s n))) x) (tabV n (hw w s)) := by
    unfold stY; rw [dyV_can, dyM_cr, dyV_can]
  rw [hy] at st
  exact ⟨_, st, hnx, fun i => (mg_sumV (k := 73 + (72 + 200 * k) + n) (fun i => mgA rA gA gx i) (fun i => (gWt i).mono (by omega)) i).mono (by omega)⟩
theorem hold_cmp (X : In18 a dv w) (Y : InC inner outer) (hn : a.length = n) (hc : ckC a dv w K inner outer = 0) (h8 : K ≤ 8) (acc : acceptsD K (dyM a) (dyM dv) (dyV w) (dyV inner) (dyV outer) = true) {k : Nat} {x : List Dy} (H : HInv n K (dyM a) (dyM dv) (dyV w) (dyV inner) (dyV outer) k x) {i : Nat} (hi : i < n) :
    (x.getD i Dy.zero).abs.cmp (outer.getD i RD.zero).dy ≤ 0 ∧ (k % K = 0 → (x.getD i Dy.zero).abs.cmp (inner.getD i RD.zero).dy ≤ 0) := by
  obtain ⟨c1, c2, c3, c4, c5, c6, c7⟩ := ckC_zero hc
  have T := tubeD_of X Y hc
  rw [hn] at T
  refine ⟨(cmp_le _ _).2 ?_, fun h0 => (cmp_le _ _).2 ?_⟩
  · have := H.high T (by omega) h8 acc hi
    unfold vQ at this
    rw [dyV_get] at this
    rw [v_abs]; exact this
  · have := H.low h0 i hi
    unfold vQ at this
    rw [dyV_get] at this
    rw [v_abs]; exact this
end
end Go.Proofs.YtpggiabnhodjpaaGreatDoor
/- The statement TubeHolds: what it does when it stops at once. -/
set_option linter.unusedSimpArgs false
set_option linter.unusedVariables false
set_option linter.deprecated false
namespace Go.Proofs.YtpggiabnhodjpaaGreatDoor
open Go Go.Ax
set_option maxRecDepth 100000
set_option maxHeartbeats 8000000
theorem hld_out (a dv : List (List RD)) (w inner outer : List RD) (K : Int) (S : List (List Int)) (hcs : ∀ r ∈ brows S, ∀ a ∈ r, Cl a) (ha : a.length ≤ 9223372036854775807) (hd : dv.length ≤ 9223372036854775807) (hw : w.length ≤ 9223372036854775807) (hi : inner.length ≤ 9223372036854775807) (ho : outer.length ≤ 9223372036854775807) (ga : argM a) (gd : argM dv) (gw : argV w) (gi : argV inner) (go : argV outer) (hl : ¬ (lightP a dv w ∧ shortP K inner outer)) : CallOK Tryz.prog gl 7 [.agg [.sl 1 (mrows a), .sl 1 (mrows dv), .sl 3 (vrows w)], .agg [.v (.int .i64 K), .sl 3 (vrows inner), .sl 3 (vrows outer)], .sl 1 (brows S)] (.v (.bool (true))) := by
  refine call_ok (C := ⟨Tryz.prog, gl, ti, 200, false⟩) ti_ok mixed 3000 Tryz.call7 Tryz.func7 rfl Tryz.ntmps7 (by simp) byClL byCl ?_
  rw [Tryz.results7]
  have f1 := law18_light a dv w ha hd hw ga gd gw
  have f2 := law18_short K inner outer hi ho gi go
  have aw := awake18
  by_cases h1 : lightP a dv w
  ·
    rw [decide_eq_true h1] at f1
    rw [decide_eq_false (fun h => hl ⟨h1, h⟩)] at f2
    clear hl h1
    repeat' (first | (simp only [go_sem, seval, IntKind.bits.eq_def, ti, tin]) | (simp (disch := omega) only [wA]) | (with_reducible first | refine cF f1 ?_ | refine dF f1 ?_ | refine cF f2 ?_ | refine dF f2 ?_ | refine cF aw ?_ | refine dF aw ?_) | refine aL ti_ok ?_ | refine dL ti_ok ?_ | refine dG ?_ | ((first | refine cC ?_ ?_ | refine gS ?_ ?_ | refine dS ?_ ?_) <;> intro hc <;> first | (exfalso; simp only [dcA] at hc; omega) | (simp only [hc]; try simp only [dcA] at hc)) | refine aO ?_ | refine dO ?_)
    all_goals exact fin_same trivial rfl
  ·
    rw [decide_eq_false h1] at f1
    clear hl h1
    repeat' (first | (simp only [go_sem, seval, IntKind.bits.eq_def, ti, tin]) | (simp (disch := omega) only [wA]) | (with_reducible first | refine cF f1 ?_ | refine dF f1 ?_ | refine cF aw ?_ | refine dF aw ?_) | refine aL ti_ok ?_ | refine dL ti_ok ?_ | refine dG ?_ | ((first | refine cC ?_ ?_ | refine gS ?_ ?_ | refine dS ?_ ?_) <;> intro hc <;> first | (exfalso; simp only [dcA] at hc; omega) | (simp only [hc]; try simp only [dcA] at hc)) | refine aO ?_ | refine dO ?_)
    all_goals exact fin_same trivial rfl
theorem hld_err (a dv : List (List RD)) (w inner outer : List RD) (K : Int) (S : List (List Int)) (hcs : ∀ r ∈ brows S, ∀ a ∈ r, Cl a) (hsl : S.length ≤ 9223372036854775807) (hi : inner.length ≤ 9223372036854775807) (ho : outer.length ≤ 9223372036854775807) (ga : argM a) (gd : argM dv) (gw : argV w) (gi : argV inner) (go : argV outer) (hl : lightP a dv w) (hs : shortP K inner outer) (h2 : ckC a dv w K inner outer ≠ 0 ∨ 20 < S.length) : CallOK Tryz.prog gl 7 [.agg [.sl 1 (mrows a), .sl 1 (mrows dv), .sl 3 (vrows w)], .agg [.v (.int .i64 K), .sl 3 (vrows inner), .sl 3 (vrows outer)], .sl 1 (brows S)] (.v (.bool (true))) := by
  refine call_ok (C := ⟨Tryz.prog, gl, ti, 200, false⟩) ti_ok mixed 3000 Tryz.call7 Tryz.func7 rfl Tryz.ntmps7 (by simp) byClL byCl ?_
  rw [Tryz.results7]
  have X := in18_of ga gd gw hl
  have Y := inC_of gi go hs
  have f1 := law18_light a dv w (by have := X.la; omega) (by have := X.ld; omega) (by have := X.lw; omega) ga gd gw
  have f2 := law18_short K inner outer hi ho gi go
  rw [decide_eq_true hl] at f1
  rw [decide_eq_true hs] at f2
  have aw := awake18
  have kc := X.checkC Y K
  clear X Y hl hs gi go ga gd gw hi ho
  generalize ckC a dv w K inner outer = e at *
  by_cases h3 : e = 0
  ·
    have h4 : 20 < S.length := by omega
    subst h3
    obtain ⟨m, hm⟩ : ∃ m, S.length = m := ⟨_, rfl⟩
    rw [hm] at h4 hsl
    clear h2
    repeat' (first | (simp only [go_sem, seval, IntKind.bits.eq_def, ti, tin, brows_len, hm]) | (simp (disch := omega) only [wA]) | (with_reducible first | refine cF f1 ?_ | refine dF f1 ?_ | refine cF f2 ?_ | refine dF f2 ?_ | refine cF aw ?_ | refine dF aw ?_ | refine cF kc ?_ | refine dF kc ?_) | refine aL ti_ok ?_ | refine dL ti_ok ?_ | refine dG ?_ | ((first | refine cC ?_ ?_ | refine gS ?_ ?_ | refine dS ?_ ?_) <;> intro hc <;> first | (exfalso; simp only [dcA] at hc; omega) | (simp only [hc]; try simp only [dcA] at hc)) | refine aO ?_ | refine dO ?_)
    all_goals exact fin_same trivial rfl
  ·
    clear h2
    repeat' (first | (simp only [go_sem, seval, IntKind.bits.eq_def, ti, tin]) | (simp (disch := omega) only [wA]) | (with_reducible first | refine cF f1 ?_ | refine dF f1 ?_ | refine cF f2 ?_ | refine dF f2 ?_ | refine cF aw ?_ | refine dF aw ?_ | refine cF kc ?_ | refine dF kc ?_) | refine aL ti_ok ?_ | refine dL ti_ok ?_ | refine dG ?_ | ((first | refine cC ?_ ?_ | refine gS ?_ ?_ | refine dS ?_ ?_) <;> intro hc <;> first | (exfalso; simp only [dcA] at hc; omega) | (simp only [hc]; try simp only [dcA] at hc)) | refine aO ?_ | refine dO ?_)
    all_goals exact fin_same trivial rfl
theorem hld_not (a dv : List (List RD)) (w inner outer : List RD) (K : Nat) (S : List (List Int)) (hcs : ∀ r ∈ brows S, ∀ a ∈ r, Cl a) (hsl : S.length ≤ 20) (hi : inner.length ≤ 9223372036854775807) (ho : outer.length ≤ 9223372036854775807) (ga : argM a) (gd : argM dv) (gw : argV w) (gi : argV inner) (go : argV outer) (hl : lightP a dv w) (hs : shortP K inner outer) (h2 : ckC a dv w K inner outer = 0) (hz : acceptsD K (dyM a) (dyM dv) (dyV w) (dyV inner) (dyV outer) = false) : CallOK Tryz.prog gl 7 [.agg [.sl 1 (mrows a), .sl 1 (mrows dv), .sl 3 (vrows w)], .agg [.v (.int .i64 K), .sl 3 (vrows inner), .sl 3 (vrows outer)], .sl 1 (brows S)] (.v (.bool (true))) := by
  refine call_ok (C := ⟨Tryz.prog, gl, ti, 200, false⟩) ti_ok mixed 3000 Tryz.call7 Tryz.func7 rfl Tryz.ntmps7 (by simp) byClL byCl ?_
  rw [Tryz.results7]
  have X := in18_of ga gd gw hl
  have Y := inC_of gi go hs
  have f1 := law18_light a dv w (by have := X.la; omega) (by have := X.ld; omega) (by have := X.lw; omega) ga gd gw
  have f2 := law18_short K inner outer hi ho gi go
  rw [decide_eq_true hl] at f1
  rw [decide_eq_true hs] at f2
  have aw := awake18
  have kc := X.checkC Y K
  have k1 := X.acc Y K h2
  rw [hz] at k1
  rw [h2] at kc
  obtain ⟨m, hm⟩ : ∃ m, S.length = m := ⟨_, rfl⟩
  rw [hm] at hsl
  clear X Y hl hs gi go ga gd gw hi ho h2 hz
  repeat' (first | (simp only [go_sem, seval, IntKind.bits.eq_def, ti, tin, brows_len, hm]) | (simp (disch := omega) only [wA]) | (with_reducible first | refine cF f1 ?_ | refine dF f1 ?_ | refine cF f2 ?_ | refine dF f2 ?_ | refine cF aw ?_ | refine dF aw ?_ | refine cF kc ?_ | refine dF kc ?_ | refine cF k1 ?_ | refine dF k1 ?_) | refine aL ti_ok ?_ | refine dL ti_ok ?_ | refine dG ?_ | ((first | refine cC ?_ ?_ | refine gS ?_ ?_ | refine dS ?_ ?_) <;> intro hc <;> first | (exfalso; simp only [dcA] at hc; omega) | (simp only [hc]; try simp only [dcA] at hc)) | refine aO ?_ | refine dO ?_)
  all_goals exact fin_same trivial rfl
end Go.Proofs.YtpggiabnhodjpaaGreatDoor
