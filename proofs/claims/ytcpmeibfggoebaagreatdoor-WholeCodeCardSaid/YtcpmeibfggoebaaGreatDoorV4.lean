/- The abstract executor and plain facts. -/
import Derived.Test.YtcpmeibfggoebaaGreatDoorV1
import Derived.Test.YtcpmeibfggoebaaGreatDoorV2
import Derived.Test.YtcpmeibfggoebaaGreatDoorV3
import Derived.Defers
import Derived.Deep.LoopGhost
set_option linter.unusedSimpArgs false
set_option linter.unusedVariables false
set_option linter.deprecated false
set_option maxRecDepth 100000
namespace Go.Ax
open Go Go.RowKit
def zcg (n : Int) : Bool := decide (-62 ≤ n ∧ n ≤ 30)
def zdW (n e f : Int) : Dy := ((Dy.int n).shift (e + f)).floor 0
def zb5 (n e f : Int) : Bool := (zdW n e f).fits && decide (-2147483648 ≤ (zdW n e f).toInt ∧ (zdW n e f).toInt < 2147483648)
def scB (ins : List (Int × Int × Int)) (fr : List Int) (f : Int) (b : Blk) : Bool :=
 let fp := fr.getD (b.at 0) 0
 let fq := fr.getD (b.at 1) 0
 if b.k = 0 then zcg (f - (ins.getD (b.at 0) (0, 0, 0)).2.2)
 else if b.k = 1 then zb5 b.vn b.ve f
 else if b.k = 6 then zcg (f - fp + b.ve)
 else if b.k = 7 then zcg (f - fp - fq)
 else if b.k = 2 then zcg (f - fp) && zb5 b.vn b.ve f
 else if b.k = 11 then zcg (f - fp) && zb5 b.vn b.ve f && zb5 b.un b.ue f
 else if b.k = 5 ∨ b.k = 10 then zcg (f - fp)
 else zcg (f - fp) && zcg (f - fq)
def rgB (ins : List (Int × Int × Int)) (R : List Iv) (i : Nat) (b : Blk) : Bool :=
 (if b.k = 2 then (Iv.pt b.val).hull (R.getD (b.at 0) Iv.zero) else rnB ins R b).ins (R.getD i Iv.zero)
def zcX : Dy := Dy.int 2147483647
def ftB (fr : List Int) (R : List Iv) (er : List Dy) (i : Nat) (b : Blk) : Bool :=
 decide ((((R.getD i Iv.zero).mag.add (er.getD i Dy.zero)).shift (fr.getD i 0)).cmp zcX ≤ 0) &&
 (decide (b.k ≠ 11) || decide ((((R.getD (b.at 0) Iv.zero).hi.add (er.getD (b.at 0) Dy.zero)).shift (fr.getD i 0)).cmp zcX ≤ 0))
def zeE (w : Nat) : Nat := if w = 0 then 0 else Nat.log2 w + 1
theorem zor (w : Nat) : w < 2 ^ zeE w := by
 unfold zeE
 split
 ·rename_i h; subst h; decide
 ·exact Nat.lt_log2_self
def lgD (x : Dy) : Bool := decide (4096 < max ((zeE x.n.natAbs : Nat) : Int) (dn x))
def lgI (a : Iv) : Bool := lgD a.lo || lgD a.hi
theorem zdX {x : Dy} (h : lgD x = false) : Mg 4096 x ∧ x.d ≤ 4096 := by
 unfold lgD at h
 have h := of_decide_eq_false h
 have h1 : zeE x.n.natAbs ≤ 4096 := by omega
 have h2 : dn x ≤ 4096 := by omega
 refine ⟨zcv.2 ?_, by unfold dn at h2; omega⟩
 refine Nat.lt_of_lt_of_le (zor x.n.natAbs) (Nat.pow_le_pow_right (by omega) (by omega))
theorem zeH {a : Iv} (h : lgI a = false) : a.Mg 4096 ∧ a.Dn 4096 := by
 unfold lgI at h
 rw [Bool.or_eq_false_iff] at h
 obtain ⟨g1, g2⟩ := zdX h.1
 obtain ⟨g3, g4⟩ := zdX h.2
 exact ⟨⟨g1, g3⟩, g2, g4⟩
theorem zdl {w k : Nat} (h : w < 2 ^ k) : zeE w ≤ k := by
 unfold zeE
 split
 ·omega
 ·rename_i hw
  have := (Nat.log2_lt hw).2 h
  omega
def zbd : Nat → Code → List Code
 | n + 1, .seq a b => zbd n a ++ zbd n b
 | _, c => [c]
theorem zfg {P : Program} {R : Exit → Act → World → Prop} {M : Nat → Act → World → Prop} {e : Exit} (he : e ≠ .normal) {a : Act} {w : World} (r : List It) : ∀ (l : List Code), zaJ P R M (its l ++ r) e a w = zaJ P R M r e a w
 | [] => rfl
 | c :: l => by
  have := zfg (P := P) (R := R) (M := M) he (a := a) (w := w) r l
  cases e with
  | normal => exact absurd rfl he
  | _ => simpa only [its, List.map_cons, List.cons_append, zaJ] using this
theorem zfh {P : Program} {R : Exit → Act → World → Prop} {M : Nat → Act → World → Prop} : ∀ (n : Nat) (c : Code) (r : List It) (a : Act) (w : World), zaJ P R M (its (zbd n c) ++ r) .normal a w → zaJ P R M (.code c :: r) .normal a w
 | 0, c, r, a, w, h => by cases c <;> exact h
 | n + 1, c, r, a, w, h => by
  cases c with
  | seq x y =>
   have h : zaJ P R M (its (zbd n x ++ zbd n y) ++ r) .normal a w := h
   rw [show its (zbd n x ++ zbd n y) ++ r = its (zbd n x) ++ (its (zbd n y) ++ r) by simp [its]] at h
   have h1 := zfh n x _ a w h
   refine zlE ?_
   simp only [zaJ] at h1 ⊢
   refine wp_mono h1 fun e a2 w2 q => ?_
   by_cases he : e = .normal
   ·subst he; exact zfh n y r a2 w2 q
   ·rw [zfg he] at q
    cases e with
    | normal => exact absurd rfl he
    | _ => simpa only [zaJ] using q
  | _ => exact h
theorem ziu {P : Program} {R : Exit → Act → World → Prop} {M : Nat → Act → World → Prop} (n : Nat) (c : Code) (a : Act) (w : World) (h : zaJ P R M (its (zbd n c)) .normal a w) : c.wp P R a w := by
 have := zfh (P := P) (R := R) (M := M) n c [] a w (by rw [List.append_nil]; exact h)
 simp only [zaJ] at this
 refine wp_mono this fun e a w q => ?_
 cases e <;> exact q
theorem zcH (l m : List Code) : its (l ++ m) = its l ++ its m := by simp [its]
def TailP (C : Cx) (fn : Func) (st : AS) (rest : List Code) : Prop := ∀ (S : Nat → Prop) (w0 : World) (a : Act) (w : World), Sim ⟨fun _ => False, C.G, none, [], []⟩ S w0 C.nt st a w →
 zaJ C.P (fun e a' w' => ∃ ch, e = .panic ch ∧ PCh ch ∧ a'.defers = [] ∧ Below w.heap.size w w') (fun _ _ _ => False) (its rest) .normal a w
theorem zaJ.mono {P : Program} {R R' : Exit → Act → World → Prop} {M : Nat → Act → World → Prop} (hR : ∀ e a w, R e a w → R' e a w) : ∀ (r : List It) (e : Exit) (a : Act) (w : World), zaJ P R M r e a w → zaJ P R' M r e a w
 | [], _, _, _, h => hR _ _ _ h
 | .code c :: r, e, a, w, h => by
  have ih := zaJ.mono (P := P) (M := M) hR r
  cases e <;> simp only [zaJ] at h ⊢ <;> first | exact ih _ _ _ h | exact wp_mono h ih
 | .op o g :: r, e, a, w, h => by
  have ih := zaJ.mono (P := P) (M := M) hR r
  cases e <;> simp only [zaJ] at h ⊢ <;> first | exact ih _ _ _ h | skip
  split
  ·rename_i hg; rw [if_pos hg] at h; exact Oper.wp_monoQ (ih _) (fun e a w _ => ih e a w) h
  ·rename_i hg; rw [if_neg hg] at h; exact ih _ _ _ h
 | .blk id :: r, e, a, w, h => by
  have ih := zaJ.mono (P := P) (M := M) hR r
  cases e <;> simp only [zaJ] at h ⊢ <;> first | exact ih _ _ _ h | skip
  split
  ·rename_i hg; rw [if_pos hg] at h; exact ih _ _ _ h
  ·rename_i hg; rw [if_neg hg] at h; exact ih _ _ _ h
 | .lp k :: r, e, a, w, h => by
  have ih := zaJ.mono (P := P) (M := M) hR r
  cases e <;> simp only [zaJ] at h ⊢ <;> first | exact ih _ _ _ h | exact h
theorem call_p {C : Cx} (hT : zam C.P C.ti) (hmx : C.P.follows .mixedOrders = true) {f : FuncId} {fn : Func} {c : Code} {args : List AV} {res : AV} (q k n : Nat) (hent : zbS C.P f) (hf : C.P.funcs[f]? = some fn) (hb : fn.body = some c) (hnt : fn.ntmps = C.nt) (hargs : args.length ≤ C.nt)
  (hcl : ∀ x ∈ args, Cl x) (hres : Cl res) (h : ex C n (its ((zbd q c).take k)) (entry args) (fun l s => l = .normal ∧ ∃ st, zaI s st ∧ TailP C fn st ((zbd q c).drop k))) (hpn : C.pn = false := by rfl) (hkp : C.kp = [] := by rfl) : CallP C.P C.G f args res := by
 refine ⟨hent, hcl, hres, fun S w vs hS hgs hsz hr => ?_⟩
 refine calls_of_wp hf hb ?_
 have hlen : (vs ++ Array.replicate (fn.ntmps - vs.size) undef).size = C.nt := by simp [hnt, hsz]; omega
 have hsim : Sim ⟨fun _ => False, C.G, none, [], []⟩ S w C.nt (entry args) { tmps := vs ++ Array.replicate (fn.ntmps - vs.size) undef, defers := [] } w := by
  refine ⟨⟨rfl, fun p hp => by cases hp⟩, hlen, nσ, S, ⟨Bel.refl (fun g l hg => ⟨id, (hgs g l hg).2⟩), (fun b k h => by cases h), (fun b b' k m m' h => by simp [entry, look] at h), hS, (fun _ h => h), (fun _ h => .inl h), ⟨fun g l hg => (hgs g l hg).1, fun k hk => by cases hk⟩, (fun b m h => by simp [entry, look] at h)⟩, fun t av ht => ?_⟩
  obtain ⟨_, h2⟩ := zbK args 0 t av ht
  simp only [Nat.sub_zero] at h2
  have hlt : t < vs.size := by rw [hsz]; exact (List.getElem?_eq_some_iff.1 h2).1
  exact ⟨vs[t], by simp [Array.getElem?_append, hlt], hr t _ av (by simp [hlt]) h2⟩
 refine ziu (M := fun _ _ _ => False) q c _ w ?_
 rw [← List.take_append_drop k (zbd q c), zcH, ← zbI]
 refine zbb (D := ⟨fun _ => False, C.G, none, [], []⟩) (S0 := S) (w0 := w) hT ⟨rfl, fun _ => rfl, hkp.symm⟩ hmx n _ _ _ _ _ h _ _ hsim ⟨fun s a w' q hs => ?_, fun s a w' q hs => ?_, fun k s a w' q hs => ?_, fun hp => by rw [hpn] at hp; cases hp⟩
 ·obtain ⟨_, st, q, tail⟩ := q
  have hs' : Sim ⟨fun _ => False, C.G, none, [], []⟩ S w C.nt st a w' := by
   obtain ⟨hd, hn, σ, S', hF, hE⟩ := hs
   obtain ⟨σ2, S2, h1, h2⟩ := q _ _ _ _ _ _ hF (fun h => absurd rfl h)
   exact ⟨hd, hn, σ2, S2, h1, h2 a hE⟩
  have hbel : Below w.heap.size w w' := by
   obtain ⟨hd, hn, σ, S', hF, hE⟩ := hs'
   exact hF.below.none
  refine zaJ.mono (fun e a2 w2 q2 => ?_) _ _ _ _ (tail S w a w' hs')
  obtain ⟨ch, rfl, hpc, hdf, hb2⟩ := q2
  exact ⟨hdf, hbel.trans (hb2.mono hbel.size), .inr ⟨ch, rfl, hpc⟩⟩
 ·cases q.1
 ·cases q.1
theorem zaL {α : Type} {l : List α} {i j : Nat} (d x : α) (h : i < l.length) : (l.set i x).getD j d = if i = j then x else l.getD j d := by
 simp only [List.getD, List.getElem?_set]
 split
 ·rename_i e; subst e; simp [h]
 ·rfl
theorem zb0 {α : Type} {l : List α} {d x : α} {P : α → Prop} {i n : Nat} (hi : i < l.length) (h : ∀ j, j < n → P (l.getD j d)) (hx : P x) : ∀ j, j < n → P ((l.set i x).getD j d) := fun j hj => by
 rw [zaL d x hi]
 split
 ·exact hx
 ·exact h j hj
def exD (N : Nat) (D : List Int) (st : List Dy) : Nat → List Dy
 | 0 => List.replicate N Dy.zero
 | k + 1 => (exD N D st k).set (D.getD k 0).toNat (st.getD k Dy.zero)
def exO (ins : List (Int × Int × Int)) (bs : List Blk) (inp : List Int) (V : List Dy) (O : List Int) : Nat → List Dy
 | 0 => V
 | k + 1 => (exO ins bs inp V O k).set (O.getD k 0).toNat (exB ins inp (exO ins bs inp V O k) (bs.getD (O.getD k 0).toNat Blk.zero))
def exV (ins : List (Int × Int × Int)) (bs : List Blk) (inp : List Int) (V : List Dy) (O : List Int) (k : Nat) : Dy := exB ins inp (exO ins bs inp V O k) (bs.getD (O.getD k 0).toNat Blk.zero)
theorem zdi (N : Nat) (D : List Int) (st : List Dy) : ∀ k, (exD N D st k).length = N
 | 0 => List.length_replicate
 | k + 1 => by unfold exD; rw [List.length_set]; exact zdi N D st k
theorem zfZ (ins : List (Int × Int × Int)) (bs : List Blk) (inp : List Int) (V : List Dy) (O : List Int) : ∀ k, (exO ins bs inp V O k).length = V.length
 | 0 => rfl
 | k + 1 => by unfold exO; rw [List.length_set]; exact zfZ ins bs inp V O k
def rnD (N : Nat) (D : List Int) (inv : List Iv) : Nat → List Iv
 | 0 => List.replicate N Iv.zero
 | k + 1 => (rnD N D inv k).set (D.getD k 0).toNat ((inv.getD k Iv.zero).hull (inv.getD k Iv.zero))
def rnO (ins : List (Int × Int × Int)) (bs : List Blk) (R : List Iv) (O : List Int) : Nat → List Iv
 | 0 => R
 | k + 1 => (rnO ins bs R O k).set (O.getD k 0).toNat (rnB ins (rnO ins bs R O k) (bs.getD (O.getD k 0).toNat Blk.zero))
def rnV (ins : List (Int × Int × Int)) (bs : List Blk) (R : List Iv) (O : List Int) (k : Nat) : Iv := rnB ins (rnO ins bs R O k) (bs.getD (O.getD k 0).toNat Blk.zero)
theorem zeN (N : Nat) (D : List Int) (inv : List Iv) : ∀ k, (rnD N D inv k).length = N
 | 0 => List.length_replicate
 | k + 1 => by unfold rnD; rw [List.length_set]; exact zeN N D inv k
theorem zfL (ins : List (Int × Int × Int)) (bs : List Blk) (R : List Iv) (O : List Int) : ∀ k, (rnO ins bs R O k).length = R.length
 | 0 => rfl
 | k + 1 => by unfold rnO; rw [List.length_set]; exact zfL ins bs R O k
def zkj : AV := .agg [.v (.bool false), .sl 1 [[]], .v (.int .i64 0)]
theorem dead_sl {σ : Sig} {S : Nat → Prop} {w : World} {x : Value} (h : Rel σ S w x (.sl 1 [[]])) : False := by
 generalize hr : ([[]] : List (List AV)) = rows at h
 cases h with
 | nil => cases hr
 | e => cases hr
 | sl c hk hc hl hcell hrr =>
  subst hr
  have := hl [] (List.mem_cons_self ..)
  simp at this
theorem zlg {σ : Sig} {S : Nat → Prop} {w : World} {x : Value} (h : Rel σ S w x zkj) : False := by
 unfold zkj at h
 cases h with
 | @agg cs _ hs hr =>
  have h3 : cs.size = 3 := hs
  exact dead_sl (hr 1 cs[1] (.sl 1 [[]]) (by rw [Array.getElem?_eq_getElem]) rfl)
theorem dead_cl : Cl zkj := fun _ _ _ _ h => (zlg h).elim
def Dead (t : Nat) (s : AS) : Prop := look s.env t = some zkj
theorem Dead.no {t : Nat} {s : AS} (h : Dead t s) {D : Base} {S0 : Nat → Prop} {w0 : World} {nt : Nat} {a : Act} {w : World} (hs : Sim D S0 w0 nt s a w) : False := by
 obtain ⟨_, _, σ, S, _, hE⟩ := hs
 obtain ⟨x, _, hx⟩ := hE t _ h
 exact zlg hx
theorem Dead.weak {t : Nat} {s : AS} (h : Dead t s) : ∀ D S0 w0 σ S w, Fit D S0 w0 σ S s.mem (fun b => b < s.next) w → ∀ a, zat σ S w s.env a → False := fun _ _ _ _ _ _ _ a hE => by
 obtain ⟨x, _, hx⟩ := hE t _ h
 exact zlg hx
theorem Dead.to {t : Nat} {s s' : AS} (h : Dead t s) (hm : s'.mem = []) (hn : s.next ≤ s'.next) : zaI s s' := fun D S0 w0 σ S w hF _ =>
 ⟨σ, S, ⟨hF.below, fun b k hk => ⟨Nat.lt_of_lt_of_le (hF.dom b k hk).1 hn, (hF.dom b k hk).2⟩, fun b b' k m m' h1 => (by rw [hm] at h1; cases h1), hF.sbd, hF.s0, hF.s1, hF.glob, fun b m h1 => (by rw [hm] at h1; cases h1)⟩, fun a hE => (h.weak D S0 w0 σ S w hF a hE).elim⟩
section
variable {nP nB : Nat} {b : Blk}
theorem zlX {l : List Int} (h : l.length = 1) : l = [l.getD 0 0] := by
 match l, h with
 | [x], _ => rfl
theorem list_two {l : List Int} (h : l.length = 2) : l = [l.getD 0 0, l.getD 1 0] := by
 match l, h with
 | [x, y], _ => rfl
theorem BlkOK.a0 (h : BlkOK nP nB b) (hk : b.k = 1) : b.a = [] := by
 have h1 := h.len
 unfold zgF at h1
 rw [if_pos hk] at h1
 exact List.length_eq_zero_iff.1 (by omega)
theorem BlkOK.ai (h : BlkOK nP nB b) (hk : b.k = 0) : b.a = [((b.at 0 : Nat) : Int)] := by
 have h1 := zlX (h.one (.inl hk))
 rw [(h.inp hk).2] at h1; exact h1
theorem BlkOK.a1 (h : BlkOK nP nB b) (hk : b.k = 2 ∨ b.k = 5 ∨ b.k = 10 ∨ b.k = 6 ∨ b.k = 11) : b.a = [((b.at 0 : Nat) : Int)] ∧ b.at 0 < nB := by
 have hl := h.one (.inr hk)
 have h1 := zlX hl
 have h2 := h.arg (by omega) (j := 0) (by omega)
 rw [h2.2] at h1; exact ⟨h1, h2.1⟩
theorem BlkOK.a2 (h : BlkOK nP nB b) (hk : b.k = 3 ∨ b.k = 4 ∨ b.k = 7 ∨ b.k = 8 ∨ b.k = 9) : b.a = [((b.at 0 : Nat) : Int), ((b.at 1 : Nat) : Int)] ∧ b.at 0 < nB ∧ b.at 1 < nB := by
 have hl := h.two hk
 have h1 := list_two hl
 have h2 := h.arg (by omega) (j := 0) (by omega)
 have h3 := h.arg (by omega) (j := 1) (by omega)
 rw [h2.2, h3.2] at h1; exact ⟨h1, h2.1, h3.1⟩
end
theorem zkV {sz n : Nat} {r r' : List AV} (h : LeL r r') : MLe ⟨sz, List.replicate n r⟩ ⟨sz, List.replicate n r'⟩ := by
 refine ⟨rfl, by simp, fun i q hq => ?_⟩
 have hi : i < n := by have := (List.getElem?_eq_some_iff.1 hq).1; simpa using this
 have e : q = r' := by simp [hi] at hq; exact hq.symm
 subst e
 exact ⟨r, by simp [hi], h.length.symm, fun j a' hj => h.get j a' hj⟩
theorem LeL.nil0 : Le (.v (.slice none 0 0)) (.sl 1 (u32s (ms Dy.zero))) := by
 rw [zeR]; exact Le.nil 1
theorem mle_d (n : Nat) : MLe ⟨3, List.replicate n [.v (.bool false), .v (.slice none 0 0), .v (.int .i64 0)]⟩ ⟨3, rws zaj (List.replicate n Dy.zero)⟩ := by
 rw [← zkM]
 exact zkV (.cons (.refl _) (.cons LeL.nil0 (.cons (.refl _) .nil)))
theorem mle_i (n : Nat) : MLe ⟨6, List.replicate n [.v (.bool false), .v (.slice none 0 0), .v (.int .i64 0), .v (.bool false), .v (.slice none 0 0), .v (.int .i64 0)]⟩ ⟨6, rws ivr (List.replicate n Iv.zero)⟩ := by
 rw [← zkM]
 exact zkV (.cons (.refl _) (.cons LeL.nil0 (.cons (.refl _) (.cons (.refl _) (.cons LeL.nil0 (.cons (.refl _) .nil))))))
theorem zkp {j : Int} (h : j ≤ 0) : (zbe j).toNat = 0 := by unfold zbe; omega
theorem rnB_mg {ins : List (Int × Int × Int)} {R : List Iv} {N : Nat} (b : Blk) (hM : ∀ i, i < N → (R.getD i Iv.zero).Mg 9000) (hb : BlkOK ins.length N b) (hk : b.k ≠ 2) (hP : ∀ i, i < ins.length → zbu (ins.getD i (0, 0, 0))) : (rnB ins R b).Mg 20000 := by
 have hk1 := hb.kind
 unfold rnB
 simp only []
 by_cases h0 : b.k = 0
 ·rw [if_pos h0]
  obtain ⟨⟨q1, q2⟩, q3, q4⟩ := hP _ (hb.inp h0).1
  have g1 : Ax.Mg 1 ((Dy.int 1).shift (-(ins.getD (b.at 0) (0, 0, 0)).2.2)) := by
   have h1 : Ax.Mg 1 (Dy.int 1) := Mg.int (by decide)
   have := h1.shift (-(ins.getD (b.at 0) (0, 0, 0)).2.2)
   rw [zkp (by omega)] at this; exact this
  exact ((Iv.Mg.sp2 (zfm (by omega)) (zfm (by omega))).mul (Iv.Mg.pt g1)).mono (by omega)
 rw [if_neg h0]
 by_cases h1 : b.k = 1
 ·rw [if_pos h1]; exact (Iv.Mg.pt (zaP (hb.val (by omega)))).mono (by omega)
 rw [if_neg h1]
 by_cases h3 : b.k = 3
 ·obtain ⟨_, hp, hq⟩ := hb.a2 (.inl h3)
  rw [if_pos h3]; exact ((hM _ hp).add (hM _ hq)).mono (by omega)
 rw [if_neg h3]
 by_cases h4 : b.k = 4
 ·obtain ⟨_, hp, hq⟩ := hb.a2 (.inr (.inl h4))
  rw [if_pos h4]; exact ((hM _ hp).sub (hM _ hq)).mono (by omega)
 rw [if_neg h4]
 by_cases h7 : b.k = 7
 ·obtain ⟨_, hp, hq⟩ := hb.a2 (by omega)
  rw [if_pos h7]; exact ((hM _ hp).mul (hM _ hq)).mono (by omega)
 rw [if_neg h7]
 by_cases h5 : b.k = 5
 ·obtain ⟨_, hp⟩ := hb.a1 (by omega)
  rw [if_pos h5]; exact ((hM _ hp).neg).mono (by omega)
 rw [if_neg h5]
 by_cases h10 : b.k = 10
 ·obtain ⟨_, hp⟩ := hb.a1 (by omega)
  rw [if_pos h10]; exact ((hM _ hp).abs).mono (by omega)
 rw [if_neg h10]
 by_cases h6 : b.k = 6
 ·obtain ⟨_, hp⟩ := hb.a1 (by omega)
  rw [if_pos h6]; exact ((hM _ hp).mul (Iv.Mg.pt (zaP (hb.val (by omega))))).mono (by omega)
 rw [if_neg h6]
 by_cases h8 : b.k = 8
 ·obtain ⟨_, hp, hq⟩ := hb.a2 (by omega)
  rw [if_pos h8]; exact ((hM _ hp).min (hM _ hq)).mono (by omega)
 rw [if_neg h8]
 by_cases h9 : b.k = 9
 ·obtain ⟨_, hp, hq⟩ := hb.a2 (by omega)
  rw [if_pos h9]; exact ((hM _ hp).max (hM _ hq)).mono (by omega)
 rw [if_neg h9]
 have h11 : b.k = 11 := by omega
 obtain ⟨_, hp⟩ := hb.a1 (by omega)
 have v1 : (Iv.pt b.val).Mg 9000 := (Iv.Mg.pt (zaP (hb.val (by omega)))).mono (by omega)
 have v2 : (Iv.pt b.upp).Mg 9000 := (Iv.Mg.pt (zaP (hb.upp h11))).mono (by omega)
 exact (((hM _ hp).max v1).min v2).mono (by omega)
theorem exB_mg {ins : List (Int × Int × Int)} {inp : List Int} {V : List Dy} {N : Nat} (b : Blk) (hM : ∀ i, i < N → Ax.Mg 9000 (V.getD i Dy.zero)) (hb : BlkOK ins.length N b) (hk : b.k ≠ 2) (hI : ∀ i, i < ins.length → -2147483648 ≤ inp.getD i 0 ∧ inp.getD i 0 < 2147483648) (hP : ∀ i, i < ins.length → zbu (ins.getD i (0, 0, 0))) : Ax.Mg 20000 (exB ins inp V b) := by
 have hk1 := hb.kind
 unfold exB
 simp only []
 by_cases h0 : b.k = 0
 ·rw [if_pos h0]
  have hp := (hb.inp h0).1
  obtain ⟨⟨q1, q2⟩, q3, q4⟩ := hP _ hp
  have := hI _ hp
  have g := (zfm (n := inp.getD (b.at 0) 0) (by omega)).shift (-(ins.getD (b.at 0) (0, 0, 0)).2.2)
  exact g.mono (by rw [zkp (by omega)]; omega)
 rw [if_neg h0]
 by_cases h1 : b.k = 1
 ·rw [if_pos h1]; exact (zaP (hb.val (by omega))).mono (by omega)
 rw [if_neg h1]
 by_cases h3 : b.k = 3
 ·obtain ⟨_, hp, hq⟩ := hb.a2 (.inl h3)
  rw [if_pos h3]; exact ((hM _ hp).add (hM _ hq)).mono (by omega)
 rw [if_neg h3]
 by_cases h4 : b.k = 4
 ·obtain ⟨_, hp, hq⟩ := hb.a2 (.inr (.inl h4))
  rw [if_pos h4]; exact ((hM _ hp).sub (hM _ hq)).mono (by omega)
 rw [if_neg h4]
 by_cases h7 : b.k = 7
 ·obtain ⟨_, hp, hq⟩ := hb.a2 (by omega)
  rw [if_pos h7]; exact ((hM _ hp).mul (hM _ hq)).mono (by omega)
 rw [if_neg h7]
 by_cases h5 : b.k = 5
 ·obtain ⟨_, hp⟩ := hb.a1 (by omega)
  rw [if_pos h5]; exact ((hM _ hp).neg).mono (by omega)
 rw [if_neg h5]
 by_cases h10 : b.k = 10
 ·obtain ⟨_, hp⟩ := hb.a1 (by omega)
  rw [if_pos h10]; exact ((hM _ hp).abs).mono (by omega)
 rw [if_neg h10]
 by_cases h6 : b.k = 6
 ·obtain ⟨_, hp⟩ := hb.a1 (by omega)
  rw [if_pos h6]; exact ((zaP (hb.val (by omega))).mul (hM _ hp)).mono (by omega)
 rw [if_neg h6]
 by_cases h8 : b.k = 8
 ·obtain ⟨_, hp, hq⟩ := hb.a2 (by omega)
  rw [if_pos h8]; exact ((hM _ hp).min (hM _ hq)).mono (by omega)
 rw [if_neg h8]
 by_cases h9 : b.k = 9
 ·obtain ⟨_, hp, hq⟩ := hb.a2 (by omega)
  rw [if_pos h9]; exact ((hM _ hp).max (hM _ hq)).mono (by omega)
 rw [if_neg h9]
 have h11 : b.k = 11 := by omega
 obtain ⟨_, hp⟩ := hb.a1 (by omega)
 have v1 : Ax.Mg 9000 b.val := (zaP (hb.val (by omega))).mono (by omega)
 have v2 : Ax.Mg 9000 b.upp := (zaP (hb.upp h11)).mono (by omega)
 exact (v1.max (v2.min (hM _ hp))).mono (by omega)
def EndsX (ti : zaN) (rs : List ResultVar) (Φ : AV → Prop) (l : Lab) (s : AS) : Prop := (l = .normal ∨ l = .ret) ∧ ∃ res, Φ res ∧ Cl res ∧ Fin s.mem (resL ti s rs) res
theorem zoY {ti : zaN} {rs : List ResultVar} {Φ : AV → Prop} {s : AS} : EndsX ti rs Φ .ret s = ∃ res, Φ res ∧ Cl res ∧ Fin s.mem (resL ti s rs) res := by simp [EndsX]
attribute [go_sem] zoY
theorem call_x {C : Cx} (hT : zam C.P C.ti) (hmx : C.P.follows .mixedOrders = true) {f : FuncId} {fn : Func} {c : Code} {args : List AV} {Φ : AV → Prop} (n : Nat) (hent : zbS C.P f) (hf : C.P.funcs[f]? = some fn) (hb : fn.body = some c) (hnt : fn.ntmps = C.nt) (hargs : args.length ≤ C.nt)
  (hcl : ∀ x ∈ args, Cl x) (h : ex C n [.code c] (entry args) (EndsX C.ti fn.results.toList Φ)) (hpn : C.pn = false := by rfl) (hkp : C.kp = [] := by rfl) : CallX C.P C.G f args Φ := by
 refine ⟨hent, hcl, fun S w vs hS hgs hsz hr => ?_⟩
 refine calls_of_wp hf hb ?_
 have hlen : (vs ++ Array.replicate (fn.ntmps - vs.size) undef).size = C.nt := by simp [hnt, hsz]; omega
 have hsim : Sim ⟨fun _ => False, C.G, none, [], []⟩ S w C.nt (entry args) { tmps := vs ++ Array.replicate (fn.ntmps - vs.size) undef, defers := [] } w := by
  refine ⟨⟨rfl, fun p hp => by cases hp⟩, hlen, nσ, S, ⟨Bel.refl (fun g l hg => ⟨id, (hgs g l hg).2⟩), (fun b k h => by cases h), (fun b b' k m m' h => by simp [entry, look] at h), hS, (fun _ h => h), (fun _ h => .inl h), ⟨fun g l hg => (hgs g l hg).1, fun k hk => by cases hk⟩, (fun b m h => by simp [entry, look] at h)⟩, fun t av ht => ?_⟩
  obtain ⟨_, h2⟩ := zbK args 0 t av ht
  simp only [Nat.sub_zero] at h2
  have hlt : t < vs.size := by rw [hsz]; exact (List.getElem?_eq_some_iff.1 h2).1
  exact ⟨vs[t], by simp [Array.getElem?_append, hlt], hr t _ av (by simp [hlt]) h2⟩
 let R : Ending → World → Prop := fun e w' => Below w.heap.size w w' ∧ ∃ x res, Φ res ∧ e = .returned x ∧ Rel nσ (zf4 S w w') w' x res
 have fin : ∀ (e : Exit) (s : AS) (a : Act) (w' : World), (e = .normal ∨ e = .ret) → (∃ res, Φ res ∧ Cl res ∧ Fin s.mem (resL C.ti s fn.results.toList) res) → Sim ⟨fun _ => False, C.G, none, [], []⟩ S w C.nt s a w' → bodyPost C.P fn R e a w' := fun e s a w' he hq hs => ?_
 ·have key := zbb (D := ⟨fun _ => False, C.G, none, [], []⟩) (S0 := S) (w0 := w) (R := bodyPost C.P fn R) (M := fun _ _ _ => False) hT ⟨rfl, fun _ => rfl, hkp.symm⟩ hmx n _ _ _ h _ _ hsim
   ⟨fun s a w q hs => fin _ s a w (.inl rfl) q.2 hs, fun s a w q hs => fin _ s a w (.inr rfl) q.2 hs, fun k s a w q hs => (by rcases q.1 with q | q <;> cases q), fun hp => (by rw [hpn] at hp; cases hp)⟩
  simp only [zaJ] at key
  exact wp_mono key fun e a w' q => by cases e <;> exact q
 ·obtain ⟨res, hφ, hres, p, l, b, hr1, hp1, hpub, hle⟩ := hq
  obtain ⟨hd, hn, σ, S', hF, hE⟩ := hs
  have hv := zch (P := C.P) hT hF hE hr1 hp1
  obtain ⟨v, hv1, hv2⟩ := hv
  have hfin : R (.returned v) w' := by
   refine ⟨hF.below.none, v, res, hφ, rfl, ?_⟩
   have h1 := hle _ _ _ _ (zeP hF hv2 hpub)
   refine (hres _ _ _ _ h1).mono (fun _ _ h => h) (fun k hk => ?_) zaF
   rcases hk with hk | ⟨b, m, hm, hσ⟩
   ·rcases hF.s1 k hk with hk' | hk'
    ·exact .inl hk'
    ·exact .inr ⟨hk'.resolve_right id, hF.sbd k hk⟩
   ·obtain ⟨k', c', e', g1, g2, _⟩ := (hF.mem b m hm).named hσ
    have : k' = k := Option.some.inj (g1.symm.trans hσ)
    subst this
    exact .inr ⟨g2.resolve_right id, (hF.dom b _ hσ).2⟩
  rcases he with rfl | rfl
  ·exact ⟨hd.1, v, hv1, hfin⟩
  ·exact ⟨hd.1, v, hv1, hfin⟩
def pw (k : Int) : Dy := (Dy.int 1).shift k
theorem int1_v : (Dy.int 1).v = 1 := by rw [Dy.v_int]; rfl
theorem znP {j : Nat} (h : j ≤ 65536) : (pw (j : Int)).v = 2 ^ j := by
 unfold pw; rw [zbX h, int1_v, Rat.one_mul]
theorem pw_neg {j : Nat} (h : j ≤ 65536) : (pw (-(j : Int))).v = 1 / 2 ^ j := by
 unfold pw; rw [zgL (by simp [Dy.int]; omega), int1_v]
theorem pw_v {k : Int} {E : Nat} (hE : E ≤ 65536) (h : -(E : Int) ≤ k ∧ k ≤ 65536) : (pw k).v * 2 ^ E = 2 ^ (k + E).toNat := by
 by_cases hk : 0 ≤ k
 ·obtain ⟨j, rfl⟩ : ∃ j : Nat, k = (j : Int) := ⟨k.toNat, by omega⟩
  rw [znP (by omega), ← zbY, show ((j : Int) + E).toNat = j + E by omega]
 ·obtain ⟨j, rfl⟩ : ∃ j : Nat, k = -(j : Int) := ⟨(-k).toNat, by omega⟩
  obtain ⟨i, rfl⟩ : ∃ i : Nat, E = i + j := ⟨E - j, by omega⟩
  rw [pw_neg (by omega), show (-(j : Int) + ((i + j : Nat) : Int)).toNat = i by omega, zbY]
  have e : (1 : Rat) / 2 ^ j * 2 ^ j = 1 := Rat.div_mul_cancel (p2ne j)
  rw [show (1 : Rat) / 2 ^ j * (2 ^ i * 2 ^ j) = (1 / 2 ^ j * 2 ^ j) * 2 ^ i by grind, e, Rat.one_mul]
theorem ziL {j k : Int} (h : j ≤ k) (hj : -65536 ≤ j) (hk : k ≤ 65536) : (pw j).v ≤ (pw k).v := by
 have e1 := pw_v (k := j) (E := 65536) (Nat.le_refl _) (by omega)
 have e2 := pw_v (k := k) (E := 65536) (Nat.le_refl _) (by omega)
 have := p2le (m := (j + (65536 : Nat)).toNat) (n := (k + (65536 : Nat)).toNat) (by omega)
 rw [← e1, ← e2] at this
 exact Rat.le_of_mul_le_mul_right this (zbt _)
theorem pw_gt0 {k : Int} (h : -65536 ≤ k ∧ k ≤ 65536) : 0 < (pw k).v := by
 have e1 := pw_v (k := k) (E := 65536) (Nat.le_refl _) (by omega)
 have h1 := zbt (k + (65536 : Nat)).toNat
 have h2 := zbt 65536
 rw [← e1] at h1
 by_cases h : 0 < (pw k).v
 ·exact h
 ·have := Rat.mul_le_mul_of_nonneg_right (Rat.not_lt.1 h) (Rat.le_of_lt h2)
  rw [Rat.zero_mul] at this
  exact absurd h1 (Rat.not_lt.2 this)
theorem v_scale {x : Dy} {E : Nat} (h : x.d ≤ E) : x.v * 2 ^ E = (x.n : Rat) * 2 ^ (E - x.d) := by
 obtain ⟨i, rfl⟩ : ∃ i, E = x.d + i := ⟨E - x.d, by omega⟩
 rw [zbY, ← Rat.mul_assoc, x.v_mul, Nat.add_sub_cancel_left]
theorem zoK {n : Int} {L : Nat} (h : n ≤ 2 ^ L) : (n : Rat) ≤ 2 ^ L := by
 rw [← zdI]; exact Rat.intCast_le_intCast.2 h
theorem znW {n : Int} {L : Nat} (h : 2 ^ L ≤ n) : (2 : Rat) ^ L ≤ (n : Rat) := by
 rw [← zdI]; exact Rat.intCast_le_intCast.2 h
theorem le_pw {x : Dy} {L : Nat} {k : Int} (h1 : x.n ≤ 2 ^ L) (h2 : (L : Int) ≤ k + x.d) (hk : -65536 ≤ k ∧ k ≤ 65536) : x.v ≤ (pw k).v := by
 have hd := x.ok.1
 obtain ⟨E, hE⟩ : ∃ E : Nat, E = 65536 := ⟨_, rfl⟩
 have e1 := pw_v (k := k) (E := E) (by omega) (by omega)
 have e2 := v_scale (x := x) (E := E) (by omega)
 refine Rat.le_of_mul_le_mul_right (c := 2 ^ E) ?_ (zbt _)
 rw [e1, e2]
 refine Rat.le_trans (Rat.mul_le_mul_of_nonneg_right (zoK h1) (Rat.le_of_lt (zbt _))) ?_
 rw [← zbY]
 exact p2le (by omega)
theorem pw_le {x : Dy} {L : Nat} {k : Int} (h1 : 2 ^ L ≤ x.n) (h2 : k + x.d ≤ (L : Int)) (hk : -65536 ≤ k ∧ k ≤ 65536) : (pw k).v ≤ x.v := by
 have hd := x.ok.1
 obtain ⟨E, hE⟩ : ∃ E : Nat, E = 65536 := ⟨_, rfl⟩
 have e1 := pw_v (k := k) (E := E) (by omega) (by omega)
 have e2 := v_scale (x := x) (E := E) (by omega)
 refine Rat.le_of_mul_le_mul_right (c := 2 ^ E) ?_ (zbt _)
 rw [e1, e2]
 refine Rat.le_trans ?_ (Rat.mul_le_mul_of_nonneg_right (znW h1) (Rat.le_of_lt (zbt _)))
 rw [← zbY]
 exact p2le (by omega)
theorem pw_lt {j k : Int} (h : j < k) (hj : -65536 ≤ j) (hk : k ≤ 65536) : (pw j).v < (pw k).v := by
 have h1 := ziL (j := j + 1) (k := k) (by omega) (by omega) hk
 have h2 := pw_gt0 (k := j) (by omega)
 obtain ⟨E, hE⟩ : ∃ E : Nat, E = 65536 := ⟨_, rfl⟩
 have e1 := pw_v (k := j) (E := E) (by omega) (by omega)
 have e2 := pw_v (k := j + 1) (E := E) (by omega) (by omega)
 rw [show (j + 1 + (E : Nat)).toNat = (j + (E : Nat)).toNat + 1 by omega, zbY, ← e1, Rat.pow_succ, Rat.pow_zero, Rat.one_mul] at e2
 have hp := zbt E
 have e3 : (pw j).v * 2 * 2 ^ E = (pw (j + 1)).v * 2 ^ E := by rw [e2]; grind
 have : (pw j).v * 2 ≤ (pw (j + 1)).v := Rat.le_of_mul_le_mul_right (by rw [e3]; exact Rat.le_refl) hp
 grind
def zd2 (x : Dy) : Int := (zeE x.n.natAbs : Int) - 1 - dn x
def upP (x : Dy) : Dy :=
 if x.sign = 0 then x else if x.sign < 0 then (if zd2 x < -30 then Dy.zero else (pw (zd2 x)).neg)
 else pw (max (if (pw (zd2 x)).cmp x < 0 then zd2 x + 1 else zd2 x) (-30))
theorem bitL_ge {w : Nat} (h : w ≠ 0) : 2 ^ (zeE w - 1) ≤ w ∧ 1 ≤ zeE w := by
 unfold zeE
 rw [if_neg h]
 exact ⟨by rw [Nat.add_sub_cancel]; exact Nat.log2_self_le h, by omega⟩
theorem le_upP {x : Dy} (hM : Mg 30000 x) (hd : x.d ≤ 30000) : x.v ≤ (upP x).v := by
 have hb := zdl (zcv.1 hM)
 unfold upP
 by_cases h0 : x.sign = 0
 ·rw [if_pos h0]; exact Rat.le_refl
 rw [if_neg h0]
 have hn : x.n.natAbs ≠ 0 := fun h => h0 (by unfold Dy.sign; rw [if_neg (by omega), if_pos (by omega)])
 obtain ⟨g1, g2⟩ := bitL_ge hn
 have g3 := zor x.n.natAbs
 have hk : -65536 ≤ zd2 x + 1 ∧ zd2 x + 1 ≤ 65536 := by unfold zd2 dn; omega
 have hk0 : -65536 ≤ zd2 x := by unfold zd2 dn; omega
 by_cases hs : x.sign < 0
 ·rw [if_pos hs]
  have hv := (ziE x).1 hs
  split
  ·rw [Dy.v_zero]; exact Rat.le_of_lt hv
  ·rw [Dy.v_neg]
   have hneg : x.n < 0 := by unfold Dy.sign at hs; split at hs <;> (try split at hs) <;> omega
   have h1 : (pw (zd2 x)).v ≤ x.neg.v := by
    refine pw_le (L := zeE x.n.natAbs - 1) ?_ ?_ ⟨hk0, by omega⟩
    ·show (2 : Int) ^ _ ≤ -x.n
     have : ((2 ^ (zeE x.n.natAbs - 1) : Nat) : Int) ≤ (x.n.natAbs : Int) := by exact_mod_cast g1
     rw [zmD] at this; omega
    ·show zd2 x + (x.d : Int) ≤ _
     unfold zd2 dn; omega
   rw [Dy.v_neg] at h1; grind
 ·rw [if_neg hs]
  have hpos : 0 < x.n := by unfold Dy.sign at h0 hs; split at hs <;> (try split at hs) <;> omega
  have h1 : x.v ≤ (pw (zd2 x + 1)).v := by
   refine le_pw (L := zeE x.n.natAbs) ?_ (by unfold zd2 dn; omega) hk
   have : (x.n.natAbs : Int) ≤ ((2 ^ (zeE x.n.natAbs) : Nat) : Int) := by exact_mod_cast Nat.le_of_lt g3
   rw [zmD] at this; omega
  by_cases hc : (pw (zd2 x)).cmp x < 0
  ·rw [if_pos hc]
   exact Rat.le_trans h1 (ziL (by omega) (by omega) (by omega))
  ·rw [if_neg hc]
   have h2 := (zpn (pw (zd2 x)) x).1 (by omega)
   exact Rat.le_trans h2 (ziL (by omega) hk0 (by omega))
def zec : List Dy := Dy.zero :: (((List.range 71).map fun (i : Nat) => pw ((i : Int) - 30)) ++ ((List.range 71).map fun (i : Nat) => (pw ((i : Int) - 30)).neg))
theorem zj5 : zec.length = 143 := by simp [zec]
theorem zha : Dy.zero ∈ zec := List.mem_cons_self ..
theorem zoN {k : Int} (h1 : -30 ≤ k) (h2 : k ≤ 40) : pw k ∈ zec := by
 refine List.mem_cons_of_mem _ (List.mem_append.2 (.inl (List.mem_map.2 ⟨(k + 30).toNat, List.mem_range.2 (by omega), ?_⟩)))
 rw [show (((k + 30).toNat : Nat) : Int) - 30 = k by omega]
theorem zl2 {k : Int} (h1 : -30 ≤ k) (h2 : k ≤ 40) : (pw k).neg ∈ zec := by
 refine List.mem_cons_of_mem _ (List.mem_append.2 (.inr (List.mem_map.2 ⟨(k + 30).toNat, List.mem_range.2 (by omega), ?_⟩)))
 rw [show (((k + 30).toNat : Nat) : Int) - 30 = k by omega]
theorem zlF {k : Int} (hk : k ≤ 65536) (h : (pw k).v ≤ (pw 40).v) : k ≤ 40 := by
 by_cases h1 : k ≤ 40
 ·exact h1
 ·exact absurd h (Rat.not_le.2 (pw_lt (by omega) (by omega) hk))
theorem znl {x : Dy} (hM : Mg 30000 x) : zd2 x + 1 ≤ 65536 := by
 have hb := zdl (zcv.1 hM)
 unfold zd2 dn; omega
theorem zlw {x : Dy} (hM : Mg 30000 x) (h1 : (upP x).v ≤ (pw 40).v) (h2 : -(pw 40).v ≤ (upP x).v) : upP x ∈ zec := by
 have hb := znl hM
 unfold upP at *
 by_cases h0 : x.sign = 0
 ·rw [if_pos h0]
  have := (sign_eq0 x).1 h0
  have e : x = Dy.zero := Dy.ext_v (by rw [this, Dy.v_zero])
  rw [e]; exact zha
 rw [if_neg h0] at *
 by_cases hs : x.sign < 0
 ·rw [if_pos hs] at *
  by_cases ht : zd2 x < -30
  ·rw [if_pos ht]; exact zha
  ·rw [if_neg ht] at *
   rw [Dy.v_neg] at h2
   exact zl2 (by omega) (zlF (by omega) (by grind))
 ·rw [if_neg hs] at *
  have hm : (max (if (pw (zd2 x)).cmp x < 0 then zd2 x + 1 else zd2 x) (-30) : Int) ≤ 65536 := by split <;> omega
  exact zoN (by omega) (zlF hm h1)
theorem zhq {α : Type} {p q : α → Bool} : ∀ {l : List α}, (∀ g ∈ l, p g = true → q g = true) → (∃ g ∈ l, q g = true ∧ p g = false) → l.countP p < l.countP q
 | [], _, ⟨g, hg, _⟩ => by cases hg
 | a :: l, h, ⟨g, hg, hq, hp⟩ => by
  have hle : l.countP p ≤ l.countP q := List.countP_mono_left fun x hx => h x (List.mem_cons_of_mem _ hx)
  rcases List.mem_cons.1 hg with rfl | hg
  ·rw [List.countP_cons_of_pos hq, List.countP_cons_of_neg (by rw [hp]; exact Bool.false_ne_true)]; omega
  ·have ih := zhq (l := l) (fun x hx => h x (List.mem_cons_of_mem _ hx)) ⟨g, hg, hq, hp⟩
   by_cases ha : p a = true
   ·rw [List.countP_cons_of_pos ha, List.countP_cons_of_pos (h a (List.mem_cons_self ..) ha)]; omega
   ·rw [List.countP_cons_of_neg ha]
    by_cases hqa : q a = true
    ·rw [List.countP_cons_of_pos hqa]; omega
    ·rw [List.countP_cons_of_neg hqa]; exact ih
theorem neg_neg' (x : Dy) : x.neg.neg = x := Dy.ext_v (by rw [Dy.v_neg, Dy.v_neg]; grind)
theorem grid_neg {x : Dy} (h : x ∈ zec) : x.neg ∈ zec := by
 rcases List.mem_cons.1 h with rfl | h
 ·have e : Dy.zero.neg = Dy.zero := Dy.ext_v (by rw [Dy.v_neg, Dy.v_zero]; grind)
  rw [e]; exact zha
 ·rcases List.mem_append.1 h with h | h
  ·obtain ⟨i, hi, rfl⟩ := List.mem_map.1 h
   have := List.mem_range.1 hi
   exact zl2 (by omega) (by omega)
  ·obtain ⟨i, hi, rfl⟩ := List.mem_map.1 h
   have := List.mem_range.1 hi
   rw [neg_neg']; exact zoN (by omega) (by omega)
def cntL (x : Dy) : Nat := zec.countP fun g => decide (g.v < x.v)
def cntH (x : Dy) : Nat := zec.countP fun g => decide (x.v < g.v)
theorem cntL_le (x : Dy) : cntL x ≤ 143 := by have := List.countP_le_length (l := zec) (p := fun g => decide (g.v < x.v)); rw [zj5] at this; exact this
theorem cntH_le (x : Dy) : cntH x ≤ 143 := by have := List.countP_le_length (l := zec) (p := fun g => decide (x.v < g.v)); rw [zj5] at this; exact this
theorem cntL_lt {x y : Dy} (hg : x ∈ zec) (h : x.v < y.v) : cntL x < cntL y :=
 zhq (fun g _ hg => decide_eq_true (by have := of_decide_eq_true hg; grind)) ⟨x, hg, decide_eq_true h, decide_eq_false (Rat.lt_irrefl)⟩
theorem cntH_lt {x y : Dy} (hg : x ∈ zec) (h : y.v < x.v) : cntH x < cntH y :=
 zhq (fun g _ hg => decide_eq_true (by have := of_decide_eq_true hg; grind)) ⟨x, hg, decide_eq_true h, decide_eq_false (Rat.lt_irrefl)⟩
def muA (a : Iv) : Nat := cntL a.lo + cntH a.hi
theorem muA_le (a : Iv) : muA a ≤ 286 := by have := cntL_le a.lo; have := cntH_le a.hi; unfold muA; omega
def loB (a r : Iv) : Dy := (a.hull r).lo.floor 64
def hiB (a r : Iv) : Dy := (a.hull r).hi.ceil 64
def lwB (a r : Iv) : Bool := decide ((loB a r).cmp a.lo ≠ 0)
def upB (a r : Iv) : Bool := decide ((hiB a r).cmp a.hi ≠ 0)
def loN (late : Bool) (a r : Iv) : Dy := if (late && lwB a r) = true then (upP (loB a r).neg).neg else loB a r
def hiN (late : Bool) (a r : Iv) : Dy := if (late && upB a r) = true then upP (hiB a r) else hiB a r
def newI (late : Bool) (a r : Iv) : Iv := if h : (loN late a r).v ≤ (hiN late a r).v then ⟨loN late a r, hiN late a r, h⟩ else Iv.zero
theorem zoP {x : Dy} {n : Nat} (h : n ≤ 65536) : (x.floor n).d ≤ n := Dy.d_nrm h
theorem zpx {x : Dy} {n : Nat} (h : n ≤ 65536) : (x.ceil n).d ≤ n := zoP (x := x.neg) h
theorem loB_le (a r : Iv) : (loB a r).v ≤ a.lo.v := Rat.le_trans (zii (by omega)) (ziR a.on_lo).1
theorem le_hiB (a r : Iv) : a.hi.v ≤ (hiB a r).v := Rat.le_trans (ziR a.on_hi).2 (zj2 (by omega))
theorem Mg.ceil {k : Nat} {x : Dy} (h : Mg k x) {den : Nat} : Mg (k + 1) (x.ceil den) := (h.neg.floor).neg
section
variable {a r : Iv} (late : Bool)
theorem zj1 (ha : a.Mg 9000) (hr : r.Mg 9000) : Mg 30000 (loB a r) := ((ha.hull hr).1.floor).mono (by omega)
theorem zj4 (ha : a.Mg 9000) (hr : r.Mg 9000) : Mg 30000 (hiB a r) := ((ha.hull hr).2.ceil).mono (by omega)
theorem loB_d (a r : Iv) : (loB a r).d ≤ 30000 := Nat.le_trans (zoP (by omega)) (by omega)
theorem hiB_d (a r : Iv) : (hiB a r).d ≤ 30000 := Nat.le_trans (zpx (by omega)) (by omega)
theorem loN_le (ha : a.Mg 9000) (hr : r.Mg 9000) : (loN late a r).v ≤ (loB a r).v := by
 unfold loN
 split
 ·have := le_upP (zj1 ha hr).neg (loB_d a r)
  rw [Dy.v_neg] at *; grind
 ·exact Rat.le_refl
theorem le_hiN (ha : a.Mg 9000) (hr : r.Mg 9000) : (hiB a r).v ≤ (hiN late a r).v := by
 unfold hiN
 split
 ·exact le_upP (zj4 ha hr) (hiB_d a r)
 ·exact Rat.le_refl
theorem zod (ha : a.Mg 9000) (hr : r.Mg 9000) : (loN late a r).v ≤ (hiN late a r).v := by
 have h1 := loN_le late ha hr
 have h2 := le_hiN late ha hr
 have h3 := loB_le a r
 have h4 := le_hiB a r
 have h5 := a.h
 grind
theorem zkT (ha : a.Mg 9000) (hr : r.Mg 9000) : (newI late a r).lo = loN late a r := by unfold newI; rw [dif_pos (zod late ha hr)]
theorem zkU (ha : a.Mg 9000) (hr : r.Mg 9000) : (newI late a r).hi = hiN late a r := by unfold newI; rw [dif_pos (zod late ha hr)]
def znd (a : Iv) : Prop := -(pw 40).v ≤ a.lo.v ∧ a.hi.v ≤ (pw 40).v
theorem pw40 : (pw 40).v = 2 ^ 40 := znP (j := 40) (by omega)
theorem znd.mg {a : Iv} (h : znd a) : a.Mg 9000 := by
 obtain ⟨h1, h2⟩ := h
 have h3 := a.h
 have e : (pw 40).v < (2 : Rat) ^ 41 := by rw [pw40]; exact (by decide : (2 : Rat) ^ 40 < 2 ^ 41)
 have : a.Mg 41 := ⟨by unfold Mg; grind, by unfold Mg; grind⟩
 exact this.mono (by omega)
theorem zoe {a : Iv} (h : decide (0 < a.mag.cmp (pw 40)) = false) : znd a := by
 have h := of_decide_eq_false h
 have h1 := (zcr a.mag (pw 40)).1 (by omega)
 have h2 := (zcr _ _).1 (zj0 a.on_lo)
 have h3 := (zcr _ _).1 (zj0 a.on_hi)
 have e1 := Dy.v_abs a.lo
 have e2 := Dy.v_abs a.hi
 unfold znd
 split at e1 <;> split at e2 <;> grind
theorem newI_mu (ha : a.Mg 9000) (hr : r.Mg 9000) (hn : znd (newI true a r)) : muA (newI true a r) + (if (lwB a r || upB a r) = true then 1 else 0) ≤ muA a := by
 obtain ⟨n1, n2⟩ := hn
 have n3 := (newI true a r).h
 have h3 := loB_le a r
 have h4 := le_hiB a r
 have h1 := loN_le true ha hr
 have h2 := le_hiN true ha hr
 unfold muA
 rw [zkT true ha hr, zkU true ha hr] at *
 have key1 : cntL (loN true a r) + (if lwB a r = true then 1 else 0) ≤ cntL a.lo := by
  unfold loN at *
  rw [Bool.true_and] at *
  by_cases hl : lwB a r = true
  ·rw [if_pos hl] at *
   have hlt : (loB a r).v < a.lo.v := by
    unfold lwB at hl
    have hl := of_decide_eq_true hl
    rcases Rat.le_iff_lt_or_eq.1 h3 with h | h
    ·exact h
    ·exact absurd ((zjf _ _).2 (Dy.ext_v h)) hl
   have hg : upP (loB a r).neg ∈ zec := zlw (zj1 ha hr).neg (by rw [Dy.v_neg] at n1; grind) (by rw [Dy.v_neg] at n3 n1; grind)
   have hg2 : (upP (loB a r).neg).neg ∈ zec := grid_neg hg
   have := cntL_lt (y := a.lo) hg2 (by grind)
   rw [if_pos hl]; omega
  ·rw [if_neg hl] at *
   have e : loB a r = a.lo := by
    unfold lwB at hl
    exact (zjf _ _).1 (by simpa using hl)
   rw [e, if_neg hl]; exact Nat.le_refl _
 have key2 : cntH (hiN true a r) + (if upB a r = true then 1 else 0) ≤ cntH a.hi := by
  unfold hiN at *
  rw [Bool.true_and] at *
  by_cases hl : upB a r = true
  ·rw [if_pos hl] at *
   have hlt : a.hi.v < (hiB a r).v := by
    unfold upB at hl
    have hl := of_decide_eq_true hl
    rcases Rat.le_iff_lt_or_eq.1 h4 with h | h
    ·exact h
    ·exact absurd ((zjf _ _).2 (Dy.ext_v h.symm)) hl
   have hg : upP (hiB a r) ∈ zec := zlw (zj4 ha hr) n2 (by grind)
   have := cntH_lt (y := a.hi) hg (by grind)
   rw [if_pos hl]; omega
  ·rw [if_neg hl] at *
   have e : hiB a r = a.hi := by
    unfold upB at hl
    exact (zjf _ _).1 (by simpa using hl)
   rw [e, if_neg hl]; exact Nat.le_refl _
 cases hl : lwB a r <;> cases hu : upB a r <;> rw [hl] at key1 <;> rw [hu] at key2 <;> simp at key1 key2 ⊢ <;> omega
end
def ixB (bs : List Blk) (D : List Int) (k : Nat) : Nat := (bs.getD (D.getD k 0).toNat Blk.zero).at 0
def nxI (late : Bool) (bs : List Blk) (D : List Int) (inv R : List Iv) (k : Nat) : Iv := newI late (inv.getD k Iv.zero) (R.getD (ixB bs D k) Iv.zero)
def nxL (late : Bool) (bs : List Blk) (D : List Int) (inv R : List Iv) (m : Nat) : Nat → List Iv
 | 0 => List.replicate m Iv.zero
 | k + 1 => (nxL late bs D inv R m k).set k (nxI late bs D inv R k)
def chgB (bs : List Blk) (D : List Int) (inv R : List Iv) (k : Nat) : Bool := lwB (inv.getD k Iv.zero) (R.getD (ixB bs D k) Iv.zero) || upB (inv.getD k Iv.zero) (R.getD (ixB bs D k) Iv.zero)
def chK (bs : List Blk) (D : List Int) (inv R : List Iv) : Nat → Bool
 | 0 => false
 | k + 1 => chK bs D inv R k || chgB bs D inv R k
section
variable {late : Bool} {bs : List Blk} {D : List Int} {inv R : List Iv} {m : Nat}
theorem ziT : ∀ k, (nxL late bs D inv R m k).length = m
 | 0 => List.length_replicate
 | k + 1 => by unfold nxL; rw [List.length_set]; exact ziT k
theorem zn8 : ∀ {k j : Nat}, k ≤ m → j < k → (nxL late bs D inv R m k).getD j Iv.zero = nxI late bs D inv R j
 | 0, j, _, hj => absurd hj (Nat.not_lt_zero j)
 | k + 1, j, hk, hj => by
  unfold nxL
  rw [zaL Iv.zero _ (by rw [ziT]; omega)]
  split
  ·rename_i e; rw [e]
  ·exact zn8 (by omega) (by omega)
def muL (l : List Iv) : Nat → Nat
 | 0 => 0
 | k + 1 => muL l k + muA (l.getD k Iv.zero)
theorem zom (l : List Iv) : ∀ k, muL l k ≤ 286 * k
 | 0 => Nat.le_refl _
 | k + 1 => by have := zom l k; have := muA_le (l.getD k Iv.zero); unfold muL; omega
theorem muL_lt {l : List Iv} (ha : ∀ k, k < m → (inv.getD k Iv.zero).Mg 9000) (hr : ∀ k, k < m → (R.getD (ixB bs D k) Iv.zero).Mg 9000) (hl : ∀ k, k < m → l.getD k Iv.zero = nxI true bs D inv R k) (hn : ∀ k, k < m → znd (l.getD k Iv.zero)) :
  ∀ k, k ≤ m → muL l k + (if chK bs D inv R k = true then 1 else 0) ≤ muL inv k
 | 0, _ => by simp [muL, chK]
 | k + 1, hk => by
  have ih := muL_lt ha hr hl hn k (by omega)
  have h1 := newI_mu (ha k (by omega)) (hr k (by omega)) (by have := hn k (by omega); rw [hl k (by omega)] at this; exact this)
  unfold muL chK
  rw [hl k (by omega)]
  unfold nxI
  have e : chgB bs D inv R k = (lwB (inv.getD k Iv.zero) (R.getD (ixB bs D k) Iv.zero) || upB (inv.getD k Iv.zero) (R.getD (ixB bs D k) Iv.zero)) := rfl
  rw [← e] at h1
  cases h2 : chK bs D inv R k <;> cases h3 : chgB bs D inv R k <;> rw [h2] at ih <;> rw [h3] at h1 <;> simp at ih h1 ⊢ <;> omega
end
theorem zni {x : Dy} (hM : Mg 30000 x) : Mg 100001 (upP x) := by
 have hb := znl hM
 have hp : ∀ k : Int, k ≤ 65536 → Mg 100001 (pw k) := fun k hk => by
  have h1 : Mg 1 (Dy.int 1) := Mg.int (by decide)
  exact (h1.shift k).mono (by unfold zbe; omega)
 unfold upP
 split
 ·exact hM.mono (by omega)
 split
 ·split
  ·exact Mg.zero _
  ·exact (hp _ (by omega)).neg
 ·exact hp _ (by split <;> omega)
theorem nxL_step {late : Bool} {bs : List Blk} {D : List Int} {inv R : List Iv} {m k : Nat} (ha : (inv.getD k Iv.zero).Mg 9000) (hr : (R.getD (ixB bs D k) Iv.zero).Mg 9000) :
  rws ivr (nxL late bs D inv R m (k + 1)) = (rws ivr (nxL late bs D inv R m k)).set k [.v (.bool (sg (loN late (inv.getD k Iv.zero) (R.getD (ixB bs D k) Iv.zero)))), .sl 1 (u32s (ms (loN late (inv.getD k Iv.zero) (R.getD (ixB bs D k) Iv.zero)))), .v (.int .i64 (dn (loN late (inv.getD k Iv.zero) (R.getD (ixB bs D k) Iv.zero)))), .v (.bool (sg (hiN late (inv.getD k Iv.zero) (R.getD (ixB bs D k) Iv.zero)))), .sl 1 (u32s (ms (hiN late (inv.getD k Iv.zero) (R.getD (ixB bs D k) Iv.zero)))), .v (.int .i64 (dn (hiN late (inv.getD k Iv.zero) (R.getD (ixB bs D k) Iv.zero))))] := by
 have e : nxL late bs D inv R m (k + 1) = (nxL late bs D inv R m k).set k (nxI late bs D inv R k) := rfl
 rw [e, ← zba]
 unfold nxI ivr
 rw [zkT late ha hr, zkU late ha hr]
theorem newI_mg (late : Bool) {a r : Iv} (ha : a.Mg 9000) (hr : r.Mg 9000) : (newI late a r).Mg 200000 := by
 have h1 : Mg 200000 (loN late a r) := by
  unfold loN; split
  ·exact ((zni (zj1 ha hr).neg).neg).mono (by omega)
  ·exact (zj1 ha hr).mono (by omega)
 have h2 : Mg 200000 (hiN late a r) := by
  unfold hiN; split
  ·exact (zni (zj4 ha hr)).mono (by omega)
  ·exact (zj4 ha hr).mono (by omega)
 exact ⟨by rw [zkT late ha hr]; exact h1, by rw [zkU late ha hr]; exact h2⟩
def newσ (σ : Sig) (c : Nat) (k : Option Nat) : Sig := fun b => if b = c then k else σ b
theorem zdJ {σ : Sig} {c b : Nat} {k : Option Nat} (h : b ≠ c) : newσ σ c k b = σ b := if_neg h
theorem zew {σ : Sig} {c : Nat} {k : Option Nat} : newσ σ c k c = k := if_pos rfl
theorem callG_o {C : Cx} {s : AS} {g : FuncId} {as args : List AV} {c0 nx n sz : Nat} {m : MB} {v : Value} (hcm : ∀ r ∈ m.rows, ∀ a ∈ r, Cl a) (hle : LeL as args)
  (h : CallN C.P C.G g args (.tup [.ps c0 sz 0 n, .v v]) [(c0, m)] nx) : zlr C s g as ⟨s.env, (s.next, m) :: s.mem, s.next + 1⟩ (.tup [.ps s.next sz 0 n, .v v]) := by
 intro D S0 w0 σ S a w vs hG hF hE hsz hr
 refine (h.runs S w vs hF.sbd (by rw [← hG.1]; exact hF.gs) (by rw [hsz, hle.length]) (hle.relN h.cla hr)).mono fun e w' hw => ?_
 obtain ⟨x, σ1, S1, rfl, hF1, hx⟩ := hw
 have hb : Below w.heap.size w w' := hF1.below.none
 have up : ∀ k, k < w.heap.size → S1 k → S k := fun k hk h1 => by
  rcases hF1.s1 k h1 with h2 | h2
  ·exact h2
  ·rcases h2 with h2 | h2
   ·omega
   ·exact h2.elim
 have hl0 : look [(c0, m)] c0 = some m := by simp [look]
 have hm0 := hF1.mem c0 m hl0
 have old : ∀ b k, σ b = some k → newσ σ s.next (σ1 c0) b = some k := fun b k hb' => by
  have := (hF.dom b k hb').1
  rw [zdJ (by omega)]; exact hb'
 have fresh : ∀ k, σ1 c0 = some k → w.heap.size ≤ k := fun k hk => by
  obtain ⟨k', c, e, g1, g2, _⟩ := hm0.named hk
  have : k' = k := Option.some.inj (g1.symm.trans hk)
  subst this
  rcases g2 with g2 | g2
  ·exact g2
  ·exact g2.elim
 have keep : Keeps σ S w w' := hF.keeps_below hb
 refine .inl ⟨x, rfl, newσ σ s.next (σ1 c0), S1, ⟨hF.below.then hb, fun b k hk => ?_, fun b b' k m1 m2 h1 h2 h3 h4 => ?_, hF1.sbd, fun k hk => hF1.s0 k (hF.s0 k hk), fun k hk => ?_, ⟨fun g l hg => hF1.s0 g (hF.glob.1 g l hg), fun k hk => old 0 k (hF.glob.2 k hk)⟩, fun b mm hb' => ?_⟩, fun t av ht => ?_, ?_⟩
 ·by_cases e : b = s.next
  ·subst e
   rw [zew] at hk
   exact ⟨Nat.lt_succ_self _, (hF1.dom c0 k hk).2⟩
  ·rw [zdJ e] at hk
   exact ⟨Nat.lt_succ_of_lt (hF.dom b k hk).1, Nat.lt_of_lt_of_le (hF.dom b k hk).2 hb.size⟩
 ·simp only [look] at h1 h2
  by_cases e1 : b = s.next <;> by_cases e2 : b' = s.next
  ·rw [e1, e2]
  ·rw [e1, zew] at h3
   rw [zdJ e2] at h4
   have := fresh k h3
   have := (hF.dom b' k h4).2
   omega
  ·rw [e2, zew] at h4
   rw [zdJ e1] at h3
   have := fresh k h4
   have := (hF.dom b k h3).2
   omega
  ·rw [zdJ e1] at h3
   rw [zdJ e2] at h4
   rw [if_neg (fun e => e1 e.symm)] at h1
   rw [if_neg (fun e => e2 e.symm)] at h2
   exact hF.inj b b' k m1 m2 h1 h2 h3 h4
 ·rcases hF1.s1 k hk with h2 | h2
  ·exact hF.s1 k h2
  ·rcases h2 with h2 | h2
   ·exact .inr (.inl (Nat.le_trans hF.below.size h2))
   ·exact h2.elim
 ·simp only [look] at hb'
  split at hb'
  ·rename_i e
   injection hb' with hb'
   subst e hb'
   rcases hm0 with ⟨q1, q2⟩ | ⟨k, c, e, g1, g2, g3, g4, g5, g6, g7⟩
   ·exact .inl ⟨q1, by rw [zew]; exact q2⟩
   ·refine .inr ⟨k, c, e, by rw [zew]; exact g1, .inl (Nat.le_trans hF.below.size (fresh k g1)), g3, g4, g5, g6, fun i r j av hi hj => ?_⟩
    obtain ⟨y, hy, hyr⟩ := g7 i r j av hi hj
    exact ⟨y, hy, (hcm r (List.mem_of_getElem? hi) av (List.mem_of_getElem? hj) _ _ _ _ hyr).mono (fun _ _ h => by cases h) (fun _ h => h) zaF⟩
  ·rename_i e
   rcases hF.mem b mm hb' with ⟨q1, q2⟩ | ⟨k, c, e', g1, g2, g3, g4, g5, g6, g7⟩
   ·exact .inl ⟨q1, by rw [zdJ (fun h => e h.symm)]; exact q2⟩
   ·have hk := za8 g4
    refine .inr ⟨k, c, e', old _ _ g1, g2, fun hs => g3 (up k hk hs), by rw [hb.block k hk]; exact g4, g5, g6, fun i r j av hi hj => ?_⟩
    obtain ⟨y, hy, hyr⟩ := g7 i r j av hi hj
    exact ⟨y, hy, hyr.mono old (fun k hk => hF1.s0 k hk) keep⟩
 ·obtain ⟨y, hy, hyr⟩ := hE t av ht
  exact ⟨y, hy, hyr.mono old (fun k hk => hF1.s0 k hk) keep⟩
 ·cases hx with
  | @tup cs _ hs hr =>
   refine .tup hs fun i y av hy hav => ?_
   match i with
   | 0 =>
    simp at hav; subst hav
    have h0 := hr 0 y _ hy rfl
    cases h0 with
    | @ps _ k _ _ _ off cap hk hn ho hs' => exact .ps (by rw [zew]; exact hk) hn ho hs'
    | ps0 => exact .ps0
   | 1 =>
    simp at hav; subst hav
    have h0 := hr 1 y _ hy rfl
    cases h0; exact .v _
   | i + 2 => simp at hav
section
variable {C : Cx} {s : AS} {n : Nat} {r : List It} {Q : Lab → AS → Prop} {d : Option Tmp}
theorem callF_o {g : FuncId} {as args : List AV} {c0 nx k sz : Nat} {m : MB} {v : Value} (hcm : ∀ r ∈ m.rows, ∀ a ∈ r, Cl a) (hle : LeL as args) (h : CallN C.P C.G g args (.tup [.ps c0 sz 0 k, .v v]) [(c0, m)] nx)
  (kk : ex C n r ((⟨s.env, (s.next, m) :: s.mem, s.next + 1⟩ : AS).put d (.tup [.ps s.next sz 0 k, .v v])) Q) : zfA C n r s Q g as d := zhv h.enters (callG_o hcm hle h) kk
end
theorem mapTk {α β : Type} (f : α → β) (d : α) (l : List α) {k : Nat} (h : k < l.length) : (l.take (k + 1)).map f = (l.take k).map f ++ [f (l.getD k d)] := by
 rw [List.take_succ_eq_append_getElem h, List.map_append, zaB h]; rfl
def clp (x : Int) : Int := max (-4294967296) (min x 4294967296)
def scl (x k : Int) : Int := if k < 0 then x / 2 ^ (-k).toNat else clp x * 2 ^ k.toNat
theorem zpq {x : Int} {j : Nat} (h : j ≤ 30) : -4611686018427387904 ≤ clp x * 2 ^ j ∧ clp x * 2 ^ j ≤ 4611686018427387904 := by
 have h1 : -4294967296 ≤ clp x ∧ clp x ≤ 4294967296 := by unfold clp; omega
 have h2 : (2 : Int) ^ j ≤ 1073741824 := by
  have : (2 : Nat) ^ j ≤ 1073741824 := Nat.le_trans (Nat.pow_le_pow_right (by omega) h) (by decide : (2 : Nat) ^ 30 ≤ 1073741824)
  have e : ((2 ^ j : Nat) : Int) = (2 : Int) ^ j := by simp
  rw [← e]; exact Int.ofNat_le.2 this
 have h3 : (0 : Int) ≤ 2 ^ j := Int.le_of_lt (Int.pow_pos (by omega))
 generalize (2 : Int) ^ j = P at *
 constructor
 ·have := Int.mul_le_mul_of_nonneg_right h1.1 h3
  omega
 ·have := Int.mul_le_mul_of_nonneg_right h1.2 h3
  omega
theorem zdV {x k : Int} (hk : k ≤ 30) (hx : -9223372036854775808 ≤ x ∧ x ≤ 9223372036854775807) : -9223372036854775808 ≤ scl x k ∧ scl x k ≤ 9223372036854775807 := by
 unfold scl
 split
 ·rename_i h
  have hp : (1 : Int) ≤ 2 ^ (-k).toNat := Int.pow_pos (by omega)
  constructor
  ·have h1 : x / 2 ^ (-k).toNat * 2 ^ (-k).toNat + 2 ^ (-k).toNat > x := by
    have := Int.emod_lt_of_pos x (show (0 : Int) < 2 ^ (-k).toNat by omega)
    have := Int.mul_ediv_add_emod x (2 ^ (-k).toNat)
    have e := Int.mul_comm (2 ^ (-k).toNat) (x / 2 ^ (-k).toNat)
    omega
   generalize (2 : Int) ^ (-k).toNat = P at *
   by_cases h0 : 0 ≤ x / P
   ·omega
   ·refine Int.le_trans hx.1 ?_
    have := Int.ediv_le_ediv (show (0 : Int) < P by omega) hx.1
    by_cases hx0 : 0 ≤ x
    ·exact absurd (Int.ediv_nonneg hx0 (by omega)) h0
    ·have : x ≤ x / P := by
      have h5 : x / P * P ≤ x := Int.ediv_mul_le x (by omega)
      have h6 : x / P * P + P > x := h1
      have h7 : (x / P) * (P - 1) ≤ 0 := Int.mul_nonpos_of_nonpos_of_nonneg (by omega) (by omega)
      have h8 : x / P * P = x / P * (P - 1) + x / P := by rw [Int.mul_sub]; omega
      have h9 : (x / P + 1) * (P - 1) ≤ 0 := Int.mul_nonpos_of_nonpos_of_nonneg (by omega) (by omega)
      have h10 : (x / P + 1) * (P - 1) = x / P * (P - 1) + (P - 1) := by rw [Int.add_mul]; omega
      omega
     exact this
  ·generalize (2 : Int) ^ (-k).toNat = P at *
   by_cases hx0 : 0 ≤ x
   ·exact Int.le_trans (Int.ediv_le_self P hx0) hx.2
   ·have := Int.ediv_neg_of_neg_of_pos (show x < 0 by omega) (show (0 : Int) < P by omega)
    omega
 ·have := zpq (x := x) (j := k.toNat) (by omega)
  omega
structure Ins where
 op : Int
 dst : Int
 a : Int
 b : Int
 sa : Int
 sb : Int
 imm : Int
def zbn (x : Ins) : List AV := [.v (.int .i64 x.op), .v (.int .i64 x.dst), .v (.int .i64 x.a), .v (.int .i64 x.b), .v (.int .i64 x.sa), .v (.int .i64 x.sb), .v (.int .i64 x.imm)]
theorem zaR : zae zbn := fun x a ha => by
 simp only [zbn, List.mem_cons, List.not_mem_nil, or_false] at ha
 rcases ha with rfl | rfl | rfl | rfl | rfl | rfl | rfl <;> exact Cl.v _
def Ins.zero : Ins := ⟨0, 0, 0, 0, 0, 0, 0⟩
structure InsOK (nP nC : Nat) (x : Ins) : Prop where
 op : 0 ≤ x.op ∧ x.op ≤ 10
 dst : 0 ≤ x.dst ∧ x.dst < nC
 a : if x.op = 1 then x.a = 0 ∧ x.sa = 0 else (0 ≤ x.a ∧ x.a < ((if x.op = 0 then nP else nC : Nat) : Int)) ∧ -62 ≤ x.sa ∧ x.sa ≤ 30
 b : if x.op = 3 ∨ x.op = 4 ∨ x.op = 7 ∨ x.op = 8 ∨ x.op = 9 then 0 ≤ x.b ∧ x.b < nC else x.b = 0
 sb : if x.op = 3 ∨ x.op = 4 ∨ x.op = 8 ∨ x.op = 9 then -62 ≤ x.sb ∧ x.sb ≤ 30 else x.sb = 0
 imm : if x.op = 1 ∨ x.op = 6 then -2147483648 ≤ x.imm ∧ x.imm < 2147483648 else x.imm = 0
def i32 (n : Int) : Prop := -2147483648 ≤ n ∧ n < 2147483648
def stp (inp cells : List Int) (x : Ins) : Int :=
 let u := cells.getD x.a.toNat 0
 let v := cells.getD x.b.toNat 0
 if x.op = 0 then scl (inp.getD x.a.toNat 0) x.sa else if x.op = 1 then x.imm else if x.op = 2 then scl u x.sa
 else if x.op = 3 then scl u x.sa + scl v x.sb else if x.op = 4 then scl u x.sa - scl v x.sb else if x.op = 5 then -scl u x.sa
 else if x.op = 10 then max (scl u x.sa) (-scl u x.sa) else if x.op = 6 then scl (u * x.imm) x.sa else if x.op = 7 then scl (u * v) x.sa
 else if x.op = 8 then min (scl u x.sa) (scl v x.sb) else max (scl u x.sa) (scl v x.sb)
def zjs (inp : List Int) (code : List Ins) (cells : List Int) : Nat → List Int
 | 0 => cells
 | k + 1 => (zjs inp code cells k).set ((code.getD k Ins.zero).dst).toNat (stp inp (zjs inp code cells k) (code.getD k Ins.zero))
theorem zlB (inp : List Int) (code : List Ins) (cells : List Int) : ∀ k, (zjs inp code cells k).length = cells.length
 | 0 => rfl
 | k + 1 => by unfold zjs; rw [List.length_set]; exact zlB inp code cells k
structure PgOK (ports : List (Int × Int × Int)) (init : List Int) (code : List Ins) (outs : List Int) : Prop where
 nP : ports.length ≤ 16
 nC : init.length ≤ 192
 nI : code.length ≤ 256
 nO : outs.length ≤ 16
 pts : ∀ i, i < ports.length → zbu (ports.getD i (0, 0, 0))
 ini : ∀ i, i < init.length → i32 (init.getD i 0)
 code : ∀ i, i < code.length → InsOK ports.length init.length (code.getD i Ins.zero)
 outs : ∀ i, i < outs.length → 0 ≤ outs.getD i 0 ∧ outs.getD i 0 < init.length
theorem insG {l : List Ins} {i : Nat} (h : i < l.length) : (rws zbn l).getD i [] = zbn (l.getD i Ins.zero) := by rw [zcS (f := zbn) Ins.zero h]
theorem zkW {sz : Nat} {r r' : List AV} (h : LeL r r') : MLe ⟨sz, [r]⟩ ⟨sz, [r']⟩ := zkV (n := 1) h
theorem byGQ {ρ : Nat → Option Nat} {mem M : List (Nat × MB)} (h : gMem ρ mem M := by (repeat' (first | exact trivial | exact .inl ⟨rfl, rfl⟩ | exact .inr ⟨_, _, rfl, rfl, rfl, .rows (zcT zbh _)⟩ | exact .inr ⟨_, _, rfl, rfl, rfl, .rows (zcT zan _)⟩ | exact .inr ⟨_, _, rfl, rfl, rfl, .rows (zcT zak _)⟩ | exact .inr ⟨_, _, rfl, rfl, rfl, .rows (zcT zaR _)⟩ | exact .inr ⟨_, _, rfl, rfl, rfl, .rows (vrows_cl _)⟩ | exact .inr ⟨_, _, rfl, rfl, rfl, .rows (mrows_cl _)⟩ | (refine .inr ⟨_, _, rfl, rfl, rfl, zl3 ?_⟩; (repeat' (first | exact trivial | exact .inr (.inr ⟨.refl _, Cl.v _⟩) | exact .inr (.inr ⟨.refl _, Cl.vec⟩) | exact .inr (.inr ⟨.refl _, Cl.mat⟩) | exact .inr (.inr ⟨.refl _, Cl.u32s⟩) | exact .inl ⟨_, _, _, _, _, rfl, rfl, rfl⟩ | exact .inr (.inl ⟨_, _, _, rfl, rfl⟩) | exact .inr (.inr ⟨.refl _, zdk⟩) | refine And.intro ?_ ?_))) | refine And.intro ?_ ?_))) : gMem ρ mem M := h
def zbs (w : World) (k : Nat) : Prop := ∃ c e, w.heap[k]? = some (.cells c e (0, 0)) ∧ 0 < c.size
theorem zbs.cell {w : World} {k : Nat} (h : zbs w k) : ∃ x, w.cell? ⟨k, 0, none⟩ = some x := by
 obtain ⟨c, e, h1, h2⟩ := h
 exact ⟨c[0], by simp [World.cell?, h1, h2]⟩
theorem zbs.frozen {w : World} {k : Nat} (h : zbs w k) : w.frozen? ⟨k, 0, none⟩ = false := by
 obtain ⟨c, e, h1, h2⟩ := h
 simp [World.frozen?, h1]
theorem zbs.lt {w : World} {k : Nat} (h : zbs w k) : k < w.heap.size := by
 obtain ⟨c, e, h1, h2⟩ := h
 exact za8 h1
theorem zbs.alloc {w : World} {k : Nat} (h : zbs w k) (o : Obj) : zbs (w.alloc o) k := by
 have hl := h.lt
 obtain ⟨c, e, h1, h2⟩ := h
 exact ⟨c, e, by rw [zcC _ _ hl]; exact h1, h2⟩
theorem zbs.set {w : World} {k j : Nat} (h : zbs w k) (v : Value) : zbs (w.setCell ⟨j, 0, none⟩ v) k := by
 obtain ⟨c, e, h1, h2⟩ := h
 by_cases hj : j = k
 ·subst hj
  exact ⟨c.setIfInBounds 0 v, e, by simp [World.setCell, Array.getElem?_modify, h1], by simpa using h2⟩
 ·exact ⟨c, e, by simp [World.setCell, Array.getElem?_modify, hj, h1], h2⟩
theorem zbs.get_set {w : World} {k : Nat} (h : zbs w k) (v : Value) : (w.setCell ⟨k, 0, none⟩ v).cell? ⟨k, 0, none⟩ = some v := by
 obtain ⟨c, e, h1, h2⟩ := h
 simp [World.setCell, World.cell?, Array.getElem?_modify, h1, h2]
theorem zbs.get_set_ne {w : World} {k j : Nat} (hj : j ≠ k) (v : Value) : (w.setCell ⟨j, 0, none⟩ v).cell? ⟨k, 0, none⟩ = w.cell? ⟨k, 0, none⟩ := by
 simp [World.setCell, World.cell?, Array.getElem?_modify, hj]
def RetR (S : Nat → Prop) (w0 : World) (res : AV) (e : Ending) (w' : World) : Prop := Below w0.heap.size w0 w' ∧ ∃ x, e = .returned x ∧ Rel nσ (zf4 S w0 w') w' x res
def TailD (C : Cx) (fn : Func) (st : AS) (rest : List Code) (res : AV) : Prop := ∀ (S : Nat → Prop) (w0 : World) (a : Act) (w : World), Sim ⟨fun _ => False, C.G, none, [], []⟩ S w0 C.nt st a w →
 zaJ C.P (bodyPostD C.P fn (RetR S w0 res)) (fun _ _ _ => False) (its rest) .normal a w
def EndsD (C : Cx) (fn : Func) (res : AV) (rest : List Code) (l : Lab) (s : AS) : Prop := (l = .ret ∧ Fin s.mem (resL C.ti s fn.results.toList) res) ∨ (l = .normal ∧ ∃ st, zaI s st ∧ TailD C fn st rest res)
theorem zke {C : Cx} {fn : Func} {res : AV} {rest : List Code} {s : AS} : EndsD C fn res rest .normal s = ∃ st, zaI s st ∧ TailD C fn st rest res := by simp [EndsD]
attribute [go_sem] zke
theorem zi1 {P : Program} {ti : zaN} (hT : zam P ti) {D : Base} {S0 S : Nat → Prop} {w0 w w' : World} {nt : Nat} {s : AS} {a : Act} {fn : Func} {res : AV} (hs : Sim D S0 w nt s a w') (hq : Fin s.mem (resL ti s fn.results.toList) res) (hres : Cl res)
  (hb : Below w0.heap.size w0 w') (hS : ∀ k, S0 k → S k ∨ w0.heap.size ≤ k) (ho : ∀ k, Own D w k → w0.heap.size ≤ k) : ∃ v, (results fn a.tmps).run P w' = .ok v w' ∧ RetR S w0 res (.returned v) w' := by
 obtain ⟨p, l, b, hr1, hp1, hpub, hle⟩ := hq
 obtain ⟨hd, hn, σ, S', hF, hE⟩ := hs
 obtain ⟨v, hv1, hv2⟩ := zch (P := P) hT hF hE hr1 hp1
 refine ⟨v, hv1, hb, v, rfl, ?_⟩
 have h1 := hle _ _ _ _ (zeP hF hv2 hpub)
 refine (hres _ _ _ _ h1).mono (fun _ _ h => h) (fun k hk => ?_) zaF
 rcases hk with hk | ⟨b, m, hm, hσ⟩
 ·rcases hF.s1 k hk with hk' | hk'
  ·rcases hS k hk' with h | h
   ·exact .inl h
   ·exact .inr ⟨h, hF.sbd k hk⟩
  ·exact .inr ⟨ho k hk', hF.sbd k hk⟩
 ·obtain ⟨k', c', e', g1, g2, _⟩ := (hF.mem b m hm).named hσ
  have : k' = k := Option.some.inj (g1.symm.trans hσ)
  subst this
  exact .inr ⟨ho k' g2, (hF.dom b _ hσ).2⟩
theorem zpz {C : Cx} (hT : zam C.P C.ti) (hmx : C.P.follows .mixedOrders = true) {f : FuncId} {fn : Func} {c : Code} {args : List AV} {res : AV} (q k n : Nat) (hent : zbS C.P f) (hf : C.P.funcs[f]? = some fn) (hb : fn.body = some c) (hnt : fn.ntmps = C.nt) (hargs : args.length ≤ C.nt)
  (hcl : ∀ x ∈ args, Cl x) (hres : Cl res) (h : ex C n (its ((zbd q c).take k)) (entry args) (EndsD C fn res ((zbd q c).drop k))) (hpn : C.pn = false := by rfl) (hkp : C.kp = [] := by rfl) : CallOK C.P C.G f args res := by
 refine ⟨hent, hcl, hres, fun S w vs hS hgs hsz hr => ?_⟩
 refine calls_of_wp_defers hf hb ?_
 have hlen : (vs ++ Array.replicate (fn.ntmps - vs.size) undef).size = C.nt := by simp [hnt, hsz]; omega
 have hsim : Sim ⟨fun _ => False, C.G, none, [], []⟩ S w C.nt (entry args) { tmps := vs ++ Array.replicate (fn.ntmps - vs.size) undef, defers := [] } w := by
  refine ⟨⟨rfl, fun p hp => by cases hp⟩, hlen, nσ, S, ⟨Bel.refl (fun g l hg => ⟨id, (hgs g l hg).2⟩), (fun b k h => by cases h), (fun b b' k m m' h => by simp [entry, look] at h), hS, (fun _ h => h), (fun _ h => .inl h), ⟨fun g l hg => (hgs g l hg).1, fun k hk => by cases hk⟩, (fun b m h => by simp [entry, look] at h)⟩, fun t av ht => ?_⟩
  obtain ⟨_, h2⟩ := zbK args 0 t av ht
  simp only [Nat.sub_zero] at h2
  have hlt : t < vs.size := by rw [hsz]; exact (List.getElem?_eq_some_iff.1 h2).1
  exact ⟨vs[t], by simp [Array.getElem?_append, hlt], hr t _ av (by simp [hlt]) h2⟩
 refine ziu (M := fun _ _ _ => False) q c _ w ?_
 rw [← List.take_append_drop k (zbd q c), zcH, ← zbI]
 refine zbb (D := ⟨fun _ => False, C.G, none, [], []⟩) (S0 := S) (w0 := w) hT ⟨rfl, fun _ => rfl, hkp.symm⟩ hmx n _ _ _ _ _ h _ _ hsim ⟨fun s a w' q hs => ?_, fun s a w' q hs => ?_, fun k s a w' q hs => ?_, fun hp => by rw [hpn] at hp; cases hp⟩
 ·rcases q with ⟨q, _⟩ | ⟨_, st, q, tail⟩
  ·cases q
  have hs' : Sim ⟨fun _ => False, C.G, none, [], []⟩ S w C.nt st a w' := by
   obtain ⟨hd, hn, σ, S', hF, hE⟩ := hs
   obtain ⟨σ2, S2, h1, h2⟩ := q _ _ _ _ _ _ hF (fun h => absurd rfl h)
   exact ⟨hd, hn, σ2, S2, h1, h2 a hE⟩
  exact tail S w a w' hs'
 ·rcases q with ⟨_, hq⟩ | ⟨q, _⟩
  case inr => cases q
  have hbel : Below w.heap.size w w' := by
   obtain ⟨hd, hn, σ, S', hF, hE⟩ := hs
   exact hF.below.none
  have hdf := hs.defers.1
  obtain ⟨v, h1, h2⟩ := zi1 (S := S) (w0 := w) hT hs hq hres hbel (fun k h => .inl h) (fun k h => h.resolve_right id)
  rw [zev (fun h => by cases h)]
  show Leaves C.P fn a.tmps (RetR S w res) a.defers .returning w'
  rw [hdf]
  exact ⟨v, h1, h2⟩
 ·rcases q with ⟨q, _⟩ | ⟨q, _⟩ <;> cases q
structure Deferred3 (C : Cx) (st : AS) (t6 t7 t8 : Nat) (g : FuncId) (S : Nat → Prop) (w0 : World) (a : Act) (w : World) (k6 k7 k8 : Nat) (D2 : Base) (S1 : Nat → Prop) : Prop where
 hD : D2.G = C.G ∧ D2.an = none
 df : D2.df = [{ target := .fn (.func g) #[.pointer (some ⟨k6, 0, none⟩), .pointer (some ⟨k7, 0, none⟩), .pointer (some ⟨k8, 0, none⟩)], args := #[] }]
 fx : D2.fx = [(t6, .pointer (some ⟨k6, 0, none⟩)), (t7, .pointer (some ⟨k7, 0, none⟩)), (t8, .pointer (some ⟨k8, 0, none⟩))]
 sim : Sim D2 S1 w C.nt st a w
 below : Below w0.heap.size w0 w
 hS : ∀ k, S1 k → S k ∨ w0.heap.size ≤ k
 ho : ∀ k, Own D2 w k → w0.heap.size ≤ k
 cell : ∀ k, k = k6 ∨ k = k7 ∨ k = k8 → D2.d k ∧ zbs w k
 ne : k6 ≠ k7 ∧ k6 ≠ k8 ∧ k7 ≠ k8
theorem znm {C : Cx} {fn : Func} {st : AS} {l2 : List Code} {res : AV} {id tf t6 t7 t8 b6 b7 b8 : Nat} {g : FuncId} {ty1 ty2 : TypeId} {pos1 pos2 : String} {af1 af2 : Array Edge}
  (hg : C.P.funcs.size = C.P.funcs.size) (h6 : look st.env t6 = some (.p b6 1 0 0)) (h7 : look st.env t7 = some (.p b7 1 0 0)) (h8 : look st.env t8 = some (.p b8 1 0 0)) (hf : look st.env tf = none) (hft : tf < C.nt ∧ tf ≠ t6 ∧ tf ≠ t7 ∧ tf ≠ t8)
  (m6 : ∃ m, look st.mem b6 = some m ∧ m.sz = 1 ∧ 0 < m.rows.length) (m7 : ∃ m, look st.mem b7 = some m ∧ m.sz = 1 ∧ 0 < m.rows.length) (m8 : ∃ m, look st.mem b8 = some m ∧ m.sz = 1 ∧ 0 < m.rows.length) (hne : b6 ≠ b7 ∧ b6 ≠ b8 ∧ b7 ≠ b8)
  (h : ∀ S w0 a w k6 k7 k8 D2 S1, Deferred3 C st t6 t7 t8 g S w0 a w k6 k7 k8 D2 S1 → zaJ C.P (bodyPostD C.P fn (RetR S w0 res)) (fun _ _ _ => False) (its l2) .normal a w) :
  TailD C fn st (.region id #[⟨some tf, .makeFunc (.func g) #[] #[.tmp t6, .tmp t7, .tmp t8], ty1, pos1, af1, none⟩, ⟨none, .defer ⟨.value (.tmp tf), #[], #[]⟩, ty2, pos2, af2, none⟩] false :: l2) res := by
 intro S w0 a w hs
 obtain ⟨hd, hn, σ, S1, hF, hE⟩ := hs
 have ptr : ∀ {t b : Nat}, look st.env t = some (.p b 1 0 0) → ∃ k, a.tmps[t]? = some (.pointer (some ⟨k, 0, none⟩)) ∧ σ b = some k := fun {t b} ht => by
  obtain ⟨x, hx, hr⟩ := hE t _ ht
  cases hr with
  | p h => exact ⟨_, hx, h⟩
 obtain ⟨k6, p6, s6⟩ := ptr h6
 obtain ⟨k7, p7, s7⟩ := ptr h7
 obtain ⟨k8, p8, s8⟩ := ptr h8
 have priv : ∀ {b k : Nat}, (∃ m, look st.mem b = some m ∧ m.sz = 1 ∧ 0 < m.rows.length) → σ b = some k → zbs w k := fun {b k} hm hs => by
  obtain ⟨m, q1, q2, q3⟩ := hm
  obtain ⟨k', c, e, g1, g2, g3, g4, g5, g6, _⟩ := (hF.mem b m q1).named hs
  have : k' = k := Option.some.inj (g1.symm.trans hs)
  subst this
  exact ⟨c, e, g4, by rw [q2] at g6; omega⟩
 let D2 : Base := ⟨fun k => ∃ b m, look st.mem b = some m ∧ σ b = some k, C.G, none, [{ target := .fn (.func g) #[.pointer (some ⟨k6, 0, none⟩), .pointer (some ⟨k7, 0, none⟩), .pointer (some ⟨k8, 0, none⟩)], args := #[] }], [(t6, .pointer (some ⟨k6, 0, none⟩)), (t7, .pointer (some ⟨k7, 0, none⟩)), (t8, .pointer (some ⟨k8, 0, none⟩))]⟩
 have pfresh : ∀ k, D2.d k → w0.heap.size ≤ k ∧ ¬ S1 k := fun k ⟨b, m, hm, hs⟩ => by
  obtain ⟨k', c, e, g1, g2, g3, _⟩ := (hF.mem b m hm).named hs
  have : k' = k := Option.some.inj (g1.symm.trans hs)
  subst this
  exact ⟨g2.resolve_right _root_.id, g3⟩
 let d : Deferred := { target := .fn (.func g) #[.pointer (some ⟨k6, 0, none⟩), .pointer (some ⟨k7, 0, none⟩), .pointer (some ⟨k8, 0, none⟩)], args := #[] }
 let a1 : Act := { tmps := a.tmps.setIfInBounds tf (.func (.func g) #[] #[.pointer (some ⟨k6, 0, none⟩), .pointer (some ⟨k7, 0, none⟩), .pointer (some ⟨k8, 0, none⟩)]), defers := d :: a.defers }
 have ev : ∀ {t k : Nat}, a.tmps[t]? = some (.pointer (some ⟨k, 0, none⟩)) → a.eval (.tmp t) = .pointer (some ⟨k, 0, none⟩) := fun h => by simp [Act.eval, Array.getD_eq_getD_getElem?, h]
 have hgo : zaJ C.P (bodyPostD C.P fn (RetR S w0 res)) (fun _ _ _ => False) (its l2) .normal a1 w := by
  refine h S w0 a1 w k6 k7 k8 D2 S1 ⟨⟨rfl, rfl⟩, rfl, rfl, ⟨⟨?_, fun p hp => ?_⟩, ?_, σ, S1, ⟨Bel.refl fun g l hg => ⟨fun hd => (pfresh g hd).2 (hF.gs g l hg).1, (hF.gs g l hg).2⟩, hF.dom, hF.inj, hF.sbd, fun _ h => h, fun _ h => .inl h, ⟨fun g l hg => (hF.gs g l hg).1, fun k hk => by cases hk⟩, fun b m hm => ?_⟩, fun t av ht => ?_⟩, hF.below.none, fun k hk => ?_, fun k hk => ?_, fun k hk => ?_, ?_⟩
  ·show d :: a.defers = [d]
   rw [hd.1]
  ·have hp : p = (t6, .pointer (some ⟨k6, 0, none⟩)) ∨ p = (t7, .pointer (some ⟨k7, 0, none⟩)) ∨ p = (t8, .pointer (some ⟨k8, 0, none⟩)) := by simpa [D2] using hp
   show (a.tmps.setIfInBounds tf _)[p.1]? = some p.2
   rcases hp with rfl | rfl | rfl
   ·rw [Array.getElem?_setIfInBounds_ne hft.2.1]; exact p6
   ·rw [Array.getElem?_setIfInBounds_ne hft.2.2.1]; exact p7
   ·rw [Array.getElem?_setIfInBounds_ne hft.2.2.2]; exact p8
  ·show (a.tmps.setIfInBounds tf _).size = C.nt
   rw [Array.size_setIfInBounds]; exact hn
  ·rcases hF.mem b m hm with hq | ⟨k, c, e, g1, g2, g3⟩
   ·exact .inl hq
   ·exact .inr ⟨k, c, e, g1, .inr ⟨b, m, hm, g1⟩, g3⟩
  ·obtain ⟨x, hx, hr⟩ := hE t av ht
   refine ⟨x, ?_, hr⟩
   show (a.tmps.setIfInBounds tf _)[t]? = some x
   rw [Array.getElem?_setIfInBounds_ne (fun e => by rw [← e, hf] at ht; cases ht)]; exact hx
  ·rcases hF.s1 k hk with q | q
   ·exact .inl q
   ·exact .inr (q.resolve_right _root_.id)
  ·rcases hk with q | q
   ·exact Nat.le_trans hF.below.none.size q
   ·exact (pfresh k q).1
  ·rcases hk with rfl | rfl | rfl
   ·obtain ⟨m, q1, q2⟩ := m6
    exact ⟨⟨b6, m, q1, s6⟩, priv ⟨m, q1, q2⟩ s6⟩
   ·obtain ⟨m, q1, q2⟩ := m7
    exact ⟨⟨b7, m, q1, s7⟩, priv ⟨m, q1, q2⟩ s7⟩
   ·obtain ⟨m, q1, q2⟩ := m8
    exact ⟨⟨b8, m, q1, s8⟩, priv ⟨m, q1, q2⟩ s8⟩
  ·obtain ⟨m6, q6, _⟩ := m6
   obtain ⟨m7, q7, _⟩ := m7
   obtain ⟨m8, q8, _⟩ := m8
   exact ⟨fun e => hne.1 (hF.inj _ _ _ _ _ q6 q7 s6 (e ▸ s7)), fun e => hne.2.1 (hF.inj _ _ _ _ _ q6 q8 s6 (e ▸ s8)), fun e => hne.2.2 (hF.inj _ _ _ _ _ q7 q8 s7 (e ▸ s8))⟩
 refine zg1 ?_
 show zaJ C.P _ _ (.op _ none :: .op _ none :: its l2) .normal a w
 simp only [zaJ]
 rw [if_pos (show zcu none a.tmps = true from rfl)]
 have e1 : (execOp a.eval ⟨some tf, .makeFunc (.func g) #[] #[.tmp t6, .tmp t7, .tmp t8], ty1, pos1, af1, none⟩).run C.P w = .ok (.value (.func (.func g) #[] #[.pointer (some ⟨k6, 0, none⟩), .pointer (some ⟨k7, 0, none⟩), .pointer (some ⟨k8, 0, none⟩)])) w := by
  have hmf : ∀ (fn : Fn) (first cap : Array Value) (w : World), (Instr.makeFunc fn first cap).run C.P w = .ok (.func fn first cap) w := fun _ _ _ _ => rfl
  simp [execOp, go_sem, hmf, p6, p7, p8]
 unfold Oper.wp
 rw [e1]
 simp only [Oper.upon]
 rw [if_pos (show zcu none _ = true from rfl)]
 have e2 : ∀ v : Value, (a.put (some tf) v).eval (.tmp tf) = v := fun v => by
  simp [Act.eval, Act.put, hn, hft.1]
 have e3 : (execOp (a.put (some tf) (.func (.func g) #[] #[.pointer (some ⟨k6, 0, none⟩), .pointer (some ⟨k7, 0, none⟩), .pointer (some ⟨k8, 0, none⟩)])).eval ⟨none, .defer ⟨.value (.tmp tf), #[], #[]⟩, ty2, pos2, af2, none⟩).run C.P w = .ok (.defer d) w := by
  simp [execOp, resolve, go_sem, Deferred.ofValue, d, Act.put, hn, hft.1]
 rw [e3]
 exact hgo
section
variable {C C2 : Cx} {fn : Func} {st s : AS} {t6 t7 t8 : Nat} {g : FuncId} {S S1 : Nat → Prop} {w0 w w' : World} {a a' : Act} {k6 k7 k8 : Nat} {D2 : Base} {res : AV}
theorem Deferred3.base (h : Deferred3 C st t6 t7 t8 g S w0 a w k6 k7 k8 D2 S1) (hb : Bel D2 w w') : Below w0.heap.size w0 w' := by
 refine h.below.trans ⟨hb.os, hb.tape, hb.output, hb.size, fun k hk => ?_⟩
 have hne : ¬ D2.d k := fun hd => by
  have := h.ho k (.inr hd)
  omega
 exact hb.block k (Nat.lt_of_lt_of_le hk h.below.size) hne
theorem ret_d (hT : zam C.P C.ti) (h : Deferred3 C st t6 t7 t8 g S w0 a w k6 k7 k8 D2 S1)
  (hi : ∀ w : World, (invoke (.fn (.func g) #[.pointer (some ⟨k6, 0, none⟩), .pointer (some ⟨k7, 0, none⟩), .pointer (some ⟨k8, 0, none⟩)]) #[]).run C.P w = .ok (.enter g #[.pointer (some ⟨k6, 0, none⟩), .pointer (some ⟨k7, 0, none⟩), .pointer (some ⟨k8, 0, none⟩)]) w)
  (idle : ∀ (p6 p7 p8 : Value) (w : World), CallsD C.P g #[p6, p7, p8] .returning w fun e u' w' => e = .returned (.tuple #[]) ∧ u' = .returning ∧ w' = w)
  (hs : Sim D2 S1 w C.nt s a' w') (hq : Fin s.mem (resL C.ti s fn.results.toList) res) (hres : Cl res) : bodyPostD C.P fn (RetR S w0 res) .ret a' w' := by
 have hbel : Bel D2 w w' := by
  obtain ⟨hd, hn, σ, S', hF, hE⟩ := hs
  exact hF.below
 obtain ⟨v, h1, h2⟩ := zi1 (S := S) (w0 := w0) hT hs hq hres (h.base hbel) h.hS h.ho
 have hdf := hs.defers.1
 show Leaves C.P fn a'.tmps (RetR S w0 res) a'.defers .returning w'
 rw [hdf, h.df]
 refine leaves_cons (by simp) (hi w') ((idle _ _ _ w').mono ?_)
 rintro e u' w2 ⟨rfl, rfl, rfl⟩
 exact ⟨v, h1, h2⟩
theorem pan_d (h : Deferred3 C st t6 t7 t8 g S w0 a w k6 k7 k8 D2 S1)
  (hi : ∀ w : World, (invoke (.fn (.func g) #[.pointer (some ⟨k6, 0, none⟩), .pointer (some ⟨k7, 0, none⟩), .pointer (some ⟨k8, 0, none⟩)]) #[]).run C.P w = .ok (.enter g #[.pointer (some ⟨k6, 0, none⟩), .pointer (some ⟨k7, 0, none⟩), .pointer (some ⟨k8, 0, none⟩)]) w)
  {v6 v7 v8 : Value}
  (catch_ : ∀ (w : World), zbs w k6 → zbs w k7 → zbs w k8 → CallsD C.P g #[.pointer (some ⟨k6, 0, none⟩), .pointer (some ⟨k7, 0, none⟩), .pointer (some ⟨k8, 0, none⟩)] (.panicking [{ v := .iface 91 (.agg #[]), recovered := false }]) w fun e u' w' => e = .returned (.tuple #[]) ∧ u' = .panicking [{ v := .iface 91 (.agg #[]), recovered := true }] ∧
   w' = (((w.alloc (.cells #[] 91)).setCell ⟨k6, 0, none⟩ v6).setCell ⟨k7, 0, none⟩ v7).setCell ⟨k8, 0, none⟩ v8)
  (hr : ∀ (tmps : Array Value) (w : World), tmps[t6]? = some (.pointer (some ⟨k6, 0, none⟩)) → tmps[t7]? = some (.pointer (some ⟨k7, 0, none⟩)) → tmps[t8]? = some (.pointer (some ⟨k8, 0, none⟩)) → w.cell? ⟨k6, 0, none⟩ = some v6 → w.cell? ⟨k7, 0, none⟩ = some v7 → w.cell? ⟨k8, 0, none⟩ = some v8 → (results fn tmps).run C.P w = .ok (.tuple #[v6, v7, v8]) w) :
  PanOK C2 D2 w (bodyPostD C.P fn (RetR S w0 (.tup [.v v6, .v v7, .v v8]))) := by
 intro _ ch a' w' hfr hb
 obtain ⟨hch, hbel⟩ := hb
 have hch : ch = _ := hch
 subst hch
 have cells : ∀ k, k = k6 ∨ k = k7 ∨ k = k8 → zbs w' k := fun k hk => by
  obtain ⟨hd, c, e, q1, q2⟩ := h.cell k hk
  obtain ⟨c', e', r1, r2⟩ := hbel.keptF k c e _ hd q1
  exact ⟨c', e', r1, by omega⟩
 have c6 := cells k6 (.inl rfl)
 have c7 := cells k7 (.inr (.inl rfl))
 have c8 := cells k8 (.inr (.inr rfl))
 have f6 := hfr.2 (t6, _) (by rw [h.fx]; exact List.mem_cons_self ..)
 have f7 := hfr.2 (t7, _) (by rw [h.fx]; exact List.mem_cons_of_mem _ (List.mem_cons_self ..))
 have f8 := hfr.2 (t8, _) (by rw [h.fx]; exact List.mem_cons_of_mem _ (List.mem_cons_of_mem _ (List.mem_cons_self ..)))
 show Leaves C.P fn a'.tmps _ a'.defers _ w'
 rw [hfr.1, h.df]
 refine leaves_cons (by simp) (hi w') ((catch_ w' c6 c7 c8).mono ?_)
 rintro e u' w2 ⟨rfl, rfl, rfl⟩
 have hl6 := h.ho k6 (.inr (h.cell k6 (.inl rfl)).1)
 have hl7 := h.ho k7 (.inr (h.cell k7 (.inr (.inl rfl))).1)
 have hl8 := h.ho k8 (.inr (h.cell k8 (.inr (.inr rfl))).1)
 refine ⟨.tuple #[v6, v7, v8], hr _ _ f6 f7 f8 ?_ ?_ ?_, ?_, _, rfl, ?_⟩
 ·rw [zbs.get_set_ne (fun e => h.ne.2.1 e.symm), zbs.get_set_ne (fun e => h.ne.1 e.symm)]
  exact (c6.alloc _).get_set _
 ·rw [zbs.get_set_ne (fun e => h.ne.2.2 e.symm)]
  exact ((c7.alloc _).set _).get_set _
 ·exact (((c8.alloc _).set _).set _).get_set _
 ·refine (h.base hbel).trans ?_
  have b1 : Below w0.heap.size w' (w'.alloc (.cells #[] 91)) := (Below.refl _ _).alloc (Nat.le_trans h.below.size hbel.size) _
  exact ((b1.setCell hl6 v6).setCell hl7 v7).setCell hl8 v8
 ·refine .tup rfl fun i x av hx ha => ?_
  match i with
  | 0 => simp at hx ha; subst hx ha; exact .v _
  | 1 => simp at hx ha; subst hx ha; exact .v _
  | 2 => simp at hx ha; subst hx ha; exact .v _
  | i + 3 => simp at ha
end
def zgk (bs : List Blk) (D : List Int) (V : List Dy) : List Dy := D.map fun i => V.getD ((bs.getD i.toNat Blk.zero).at 0) Dy.zero
theorem zoV {N : Nat} {D : List Int} {st : List Dy} {m : Nat} (hm : D.length = m) (hd : ∀ k, k < m → (D.getD k 0).toNat < N) (hs : ∀ k, k < m → Mg 9000 (st.getD k Dy.zero)) : ∀ k, k ≤ m → ∀ i, i < N → Mg 9000 ((exD N D st k).getD i Dy.zero)
 | 0, _, i, hi => by
  show Mg 9000 ((List.replicate N Dy.zero).getD i Dy.zero)
  rw [show (List.replicate N Dy.zero).getD i Dy.zero = Dy.zero by simp [List.getD, hi]]
  exact Mg.zero _
 | k + 1, hk, i, hi => by
  unfold exD
  exact zb0 (P := fun a => Mg 9000 a) (by rw [zdi]; exact hd k (by omega)) (zoV hm hd hs k (by omega)) (hs k (by omega)) i hi
theorem zoU {ins : List (Int × Int × Int)} {bs : List Blk} {inp : List Int} {V : List Dy} {O : List Int} {N oL : Nat} (hV : V.length = N) (h0 : ∀ i, i < N → Mg 9000 (V.getD i Dy.zero)) (ho : ∀ k, k < oL → (O.getD k 0).toNat < N) (hl : ∀ k, k < oL → lgD (exV ins bs inp V O k) = false) : ∀ k, k ≤ oL → ∀ i, i < N → Mg 9000 ((exO ins bs inp V O k).getD i Dy.zero)
 | 0, _ => h0
 | k + 1, hk => by
  unfold exO
  exact zb0 (P := fun a => Mg 9000 a) (by rw [zfZ, hV]; exact ho k (by omega)) (zoU hV h0 ho hl k (by omega)) ((zdX (hl k (by omega))).1.mono (by omega))
theorem nn_n {x : Dy} : 0 ≤ x.v ↔ 0 ≤ x.n := by
 have h := x.v_mul
 have hp := zbt x.d
 constructor
 ·intro hv
  have : (0 : Rat) ≤ (x.n : Rat) := by rw [← h]; exact Rat.mul_nonneg hv (Rat.le_of_lt hp)
  exact_mod_cast this
 ·intro hn
  have h0 : (0 : Rat) ≤ (x.n : Rat) := by exact_mod_cast hn
  rw [← h] at h0
  exact Rat.le_of_mul_le_mul_right (by rw [Rat.zero_mul]; exact h0) hp
theorem zkS {z : Int} {d : Nat} (h : 0 ≤ z) : 0 ≤ (nrm z d).n := by
 show 0 ≤ sgn (decide (z < 0)) _
 rw [decide_eq_false (by omega)]
 unfold sgn; simp
theorem ziW {x y : Dy} (hx : 0 ≤ x.v) (hy : 0 ≤ y.v) : 0 ≤ (x.mul y).v := nn_n.2 (zkS (Int.mul_nonneg (nn_n.1 hx) (nn_n.1 hy)))
theorem zir {x y : Dy} (hx : 0 ≤ x.v) (hy : 0 ≤ y.v) : 0 ≤ (x.add y).v := by rw [Dy.v_add]; grind
theorem zlW {x y : Dy} (hx : 0 ≤ x.v) : 0 ≤ (x.max y).v := by rw [Dy.v_max]; split <;> grind
theorem zpL (x : Dy) : 0 ≤ x.abs.v := by rw [Dy.v_abs]; split <;> grind
theorem zng : 0 ≤ Dy.zero.v := by rw [Dy.v_zero]; exact Rat.le_refl
theorem mag_nn (a : Iv) : 0 ≤ a.mag.v := Rat.le_trans (zpL a.lo) ((zcr _ _).1 (zj0 a.on_lo))
theorem zkE (f : Int) : 0 ≤ (zai f).v := by
 unfold zai
 refine nn_n.2 ?_
 unfold Dy.shift
 split
 ·exact zkS (by simp [Dy.int])
 ·exact zkS (Int.mul_nonneg (by simp [Dy.int]) (Int.le_of_lt (Int.pow_pos (by omega))))
theorem zl0 (b : Bool) (f : Int) : 0 ≤ (inx b (zai f)).v := by
 unfold inx; split
 ·exact zkE f
 ·exact zng
theorem zia {f fa g : Int} {x : Dy} (h : 0 ≤ x.v) : 0 ≤ (mvd f fa (zai g) x).v := by
 unfold mvd; split
 ·exact h
 ·exact zir h (zkE g)
theorem zpw {x : Dy} {n : Nat} (hn : n ≤ 65536) (h : 0 ≤ x.v) : 0 ≤ (x.ceil n).v := Rat.le_trans h (zj2 hn)
section
variable {ins : List (Int × Int × Int)} {fr : List Int} {R : List Iv} {er : List Dy} {f : Int} {b : Blk} {N : Nat}
theorem bdB_nn (hE : ∀ i, i < N → 0 ≤ (er.getD i Dy.zero).v) (hb : BlkOK ins.length N b) : 0 ≤ (bdB ins fr R er f b).v := by
 have hk1 := hb.kind
 unfold bdB
 simp only []
 by_cases h0 : b.k = 0
 ·rw [if_pos h0]; exact zl0 _ _
 rw [if_neg h0]
 by_cases h1 : b.k = 1
 ·rw [if_pos h1]; exact zl0 _ _
 rw [if_neg h1]
 by_cases h3 : b.k = 3 ∨ b.k = 4
 ·obtain ⟨_, hp, hq⟩ := hb.a2 (by omega)
  rw [if_pos h3]; exact zir (zia (hE _ hp)) (zia (hE _ hq))
 rw [if_neg h3]
 by_cases h5 : b.k = 5 ∨ b.k = 10
 ·obtain ⟨_, hp⟩ := hb.a1 (by omega)
  rw [if_pos h5]; exact zia (hE _ hp)
 rw [if_neg h5]
 by_cases h8 : b.k = 8 ∨ b.k = 9
 ·obtain ⟨_, hp, hq⟩ := hb.a2 (by omega)
  rw [if_pos h8]; exact zlW (zia (hE _ hp))
 rw [if_neg h8]
 by_cases h6 : b.k = 6
 ·obtain ⟨_, hp⟩ := hb.a1 (by omega)
  rw [if_pos h6]; exact zir (ziW (zpL _) (hE _ hp)) (zl0 _ _)
 rw [if_neg h6]
 by_cases h7 : b.k = 7
 ·obtain ⟨_, hp, hq⟩ := hb.a2 (by omega)
  rw [if_pos h7]; exact zir (zir (zir (ziW (mag_nn _) (hE _ hq)) (ziW (mag_nn _) (hE _ hp))) (ziW (hE _ hp) (hE _ hq))) (zl0 _ _)
 rw [if_neg h7]
 by_cases h11 : b.k = 11
 ·obtain ⟨_, hp⟩ := hb.a1 (by omega)
  rw [if_pos h11]; exact zlW (zia (hE _ hp))
 rw [if_neg h11]
 obtain ⟨_, hp⟩ := hb.a1 (by omega)
 exact zlW (zia (hE _ hp))
theorem bdB_mg (hE : ∀ i, i < N → Mg 9000 (er.getD i Dy.zero)) (hR : ∀ i, i < N → (R.getD i Iv.zero).Mg 9000) (hf : 0 ≤ f) (hb : BlkOK ins.length N b) : Mg 20000 (bdB ins fr R er f b) := by
 have hk1 := hb.kind
 have u : Mg 9000 (zai f) := (za5 f hf).mono (by omega)
 unfold bdB
 simp only []
 by_cases h0 : b.k = 0
 ·rw [if_pos h0]; exact (zc1 u).mono (by omega)
 rw [if_neg h0]
 by_cases h1 : b.k = 1
 ·rw [if_pos h1]; exact (zc1 u).mono (by omega)
 rw [if_neg h1]
 by_cases h3 : b.k = 3 ∨ b.k = 4
 ·obtain ⟨_, hp, hq⟩ := hb.a2 (by omega)
  rw [if_pos h3]; exact ((zaW (hE _ hp) u).add (zaW (hE _ hq) u)).mono (by omega)
 rw [if_neg h3]
 by_cases h5 : b.k = 5 ∨ b.k = 10
 ·obtain ⟨_, hp⟩ := hb.a1 (by omega)
  rw [if_pos h5]; exact (zaW (hE _ hp) u).mono (by omega)
 rw [if_neg h5]
 by_cases h8 : b.k = 8 ∨ b.k = 9
 ·obtain ⟨_, hp, hq⟩ := hb.a2 (by omega)
  rw [if_pos h8]; exact ((zaW (hE _ hp) u).max (zaW (hE _ hq) u)).mono (by omega)
 rw [if_neg h8]
 by_cases h6 : b.k = 6
 ·obtain ⟨_, hp⟩ := hb.a1 (by omega)
  rw [if_pos h6]
  have v1 := (zaP (hb.val (by omega))).abs.mul (hE _ hp)
  exact ((v1.mono (k' := 18000) (by omega)).add ((zc1 u).mono (by omega))).mono (by omega)
 rw [if_neg h6]
 by_cases h7 : b.k = 7
 ·obtain ⟨_, hp, hq⟩ := hb.a2 (by omega)
  rw [if_pos h7]
  have m1 := ((hR _ hp).mag).mul (hE _ hq)
  have m2 := ((hR _ hq).mag).mul (hE _ hp)
  have m3 := (hE _ hp).mul (hE _ hq)
  exact (((m1.add m2).add (m3.mono (by omega))).add ((zc1 u).mono (by omega))).mono (by omega)
 rw [if_neg h7]
 by_cases h11 : b.k = 11
 ·obtain ⟨_, hp⟩ := hb.a1 (by omega)
  rw [if_pos h11]; exact ((zaW (hE _ hp) u).max ((zc1 u).mono (by omega))).mono (by omega)
 rw [if_neg h11]
 obtain ⟨_, hp⟩ := hb.a1 (by omega)
 exact ((zaW (hE _ hp) u).max ((zc1 u).mono (by omega))).mono (by omega)
end
theorem pw_succ {k : Int} (h : -60000 ≤ k ∧ k ≤ 60000) : (pw k).shift 1 = pw (k + 1) := by
 refine Dy.ext_v ?_
 have e := zbX (x := pw k) (j := 1) (by omega)
 have e : ((pw k).shift 1).v = (pw k).v * 2 ^ 1 := e
 rw [e]
 obtain ⟨E, hE⟩ : ∃ E : Nat, E = 65536 := ⟨_, rfl⟩
 have e1 := pw_v (k := k) (E := E) (by omega) (by omega)
 have e2 := pw_v (k := k + 1) (E := E) (by omega) (by omega)
 rw [show (k + 1 + (E : Nat)).toNat = (k + (E : Nat)).toNat + 1 by omega, zbY, ← e1] at e2
 have hp := zbt E
 have h3 : (pw k).v * 2 ^ 1 * 2 ^ E = (pw (k + 1)).v * 2 ^ E := by rw [e2]; grind
 exact Rat.le_antisymm (Rat.le_of_mul_le_mul_right (by rw [h3]; exact Rat.le_refl) hp) (Rat.le_of_mul_le_mul_right (by rw [h3]; exact Rat.le_refl) hp)
structure EOK (x : Dy) : Prop where
 nn : 0 ≤ x.v
 le : x.v ≤ 2 ^ 40
 d : x.d ≤ 62
theorem EOK.mg {x : Dy} (h : EOK x) : Mg 41 x := by
 have e : (2 : Rat) ^ 40 < 2 ^ 41 := by decide
 have := h.nn; have := h.le
 unfold Mg
 constructor <;> grind
theorem EOK.lg {x : Dy} (h : EOK x) : lgD x = false := by
 have h1 := zcv.1 h.mg
 have h2 := zdl h1
 have := h.d
 unfold lgD dn
 exact decide_eq_false (by omega)
theorem EOK.zero : EOK Dy.zero := ⟨zng, by rw [Dy.v_zero]; exact Rat.le_of_lt (zbt 40), Nat.zero_le _⟩
theorem int40 : (Dy.int 1099511627776).v = 2 ^ 40 := by rw [Dy.v_int]; decide
theorem zoS {x : Dy} (h : decide (0 < x.cmp (Dy.int 1099511627776)) = false) : x.v ≤ 2 ^ 40 := by
 have h := of_decide_eq_false h
 rw [← int40]; exact (zcr _ _).1 (by omega)
theorem pw_d {k : Int} (h : -62 ≤ k ∧ k ≤ 60000) : (pw k).d ≤ 62 := by
 have hc : zbe k = k := by unfold zbe; omega
 unfold pw Dy.shift
 rw [hc]
 split
 ·exact Nat.le_trans (Dy.d_nrm (by simp [Dy.int]; omega)) (by simp [Dy.int]; omega)
 ·exact Nat.le_trans (Dy.d_nrm (by omega)) (by omega)
theorem max_d {x y : Dy} {n : Nat} (hx : x.d ≤ n) (hy : y.d ≤ n) : (x.max y).d ≤ n := by unfold Dy.max; split <;> assumption
theorem mg_le_pw {x : Dy} {k : Nat} (h : Mg k x) (hk : k ≤ 65536) : x.v ≤ (pw (k : Int)).v := by
 rw [znP hk]
 unfold Mg at h
 exact Rat.le_of_lt h.2
def erO (ins : List (Int × Int × Int)) (bs : List Blk) (fr : List Int) (R : List Iv) (O : List Int) (E : List Dy) : Nat → List Dy
 | 0 => E
 | k + 1 => (erO ins bs fr R O E k).set (O.getD k 0).toNat ((bdB ins fr R (erO ins bs fr R O E k) (fr.getD (O.getD k 0).toNat 0) (bs.getD (O.getD k 0).toNat Blk.zero)).ceil 62)
def erV (ins : List (Int × Int × Int)) (bs : List Blk) (fr : List Int) (R : List Iv) (O : List Int) (E : List Dy) (k : Nat) : Dy := (bdB ins fr R (erO ins bs fr R O E k) (fr.getD (O.getD k 0).toNat 0) (bs.getD (O.getD k 0).toNat Blk.zero)).ceil 62
theorem zoX (ins : List (Int × Int × Int)) (bs : List Blk) (fr : List Int) (R : List Iv) (O : List Int) (E : List Dy) : ∀ k, (erO ins bs fr R O E k).length = E.length
 | 0 => rfl
 | k + 1 => by unfold erO; rw [List.length_set]; exact zoX ins bs fr R O E k
def ErrOK (ins : List (Int × Int × Int)) (bs : List Blk) (fr : List Int) (R : List Iv) (O : List Int) (N m oL : Nat) (av : AV) : Prop := ∃ (E : List Dy) (ok : Bool), av = .tup [.sl 3 (rws zaj E), .v (.bool ok)] ∧ (ok = true → E.length = N ∧ ∀ i, i < N → EOK (E.getD i Dy.zero)) ∧
 (m = 0 → (∀ k, k < oL → decide (0 < (erV ins bs fr R O (List.replicate N Dy.zero) k).cmp (Dy.int 1099511627776)) = false) → ok = true ∧ E = erO ins bs fr R O (List.replicate N Dy.zero) oL)
inductive Pos : AV → Prop
 | v (x : Value) : Pos (.v x)
 | agg {l : List AV} (h : ∀ a ∈ l, Pos a) : Pos (.agg l)
 | sl {sz : Nat} {rows : List (List AV)} (h0 : 0 < sz) (h : ∀ r ∈ rows, ∀ a ∈ r, Pos a) : Pos (.sl sz rows)
open Classical in
noncomputable def pinL (S : Nat → Prop) (w : World) : GL := (List.range w.heap.size).filterMap fun k => if S k then (match w.heap[k]? with | some (.cells c _ _) => if c.size = 0 then none else some (k, c.toList) | _ => none) else none
theorem pin_mem {S : Nat → Prop} {w : World} {k : Nat} {c : Array Value} {e : TypeId} {f : Nat × Nat} (hS : S k) (h : w.heap[k]? = some (.cells c e f)) (h0 : c.size ≠ 0) : (k, c.toList) ∈ pinL S w := by
 refine List.mem_filterMap.2 ⟨k, List.mem_range.2 (za8 h), ?_⟩
 rw [if_pos hS, h]
 exact if_neg h0
theorem znQ {S : Nat → Prop} {w : World} {g : Nat} {l : List Value} (h : (g, l) ∈ pinL S w) : S g ∧ ∃ c e f, w.heap[g]? = some (.cells c e f) ∧ c.size ≠ 0 ∧ l = c.toList := by
 obtain ⟨k, hk, h⟩ := List.mem_filterMap.1 h
 split at h
 ·rename_i hS
  split at h
  ·rename_i c e f hc
   split at h
   ·cases h
   ·rename_i h0
    have h := Option.some.inj h
    injection h with h1 h2
    subst h1 h2
    exact ⟨hS, c, e, f, hc, h0, rfl⟩
  ·cases h
 ·cases h
theorem pin_gs {S : Nat → Prop} {w : World} : GS (pinL S w) S w := fun g l h => by
 obtain ⟨hS, c, e, f, hc, h0, rfl⟩ := znQ h
 refine ⟨hS, c, e, f, hc, fun j x hx => by simpa using hx, .inl ⟨fun h => h0 (by rw [← Array.length_toList, h]; rfl), Array.length_toList.symm⟩⟩
theorem pin_rel {S : Nat → Prop} {w : World} {x : Value} {av : AV} (h : Rel nσ S w x av) : Pos av → ∀ S' w', GS (pinL S w) S' w' → Rel nσ S' w' x av := by
 induction h with
 | v x => intro _ _ _ _; exact .v _
 | p h => cases h
 | ps h => cases h
 | ps0 => intro hp; cases hp
 | top x => intro hp; cases hp
 | nil => intro _ _ _ _; exact .nil
 | e => intro _ _ _ _; exact .e
 | rp => intro hp; cases hp
 | tup => intro hp; cases hp
 | fn => intro hp; cases hp
 | agg h hr ih =>
  intro hp S' w' hg
  cases hp with
  | agg hp => exact .agg h fun i x av h1 h2 => ih i x av h1 h2 (hp av (List.mem_of_getElem? h2)) S' w' hg
 | @sl k off cap sz rows c hk hc hl hcell hr ih =>
  intro hp S' w' hg
  cases hp with
  | sl h0 hp =>
   cases rows with
   | nil => exact .e
   | cons r0 rows =>
    have cellc : ∀ {o : Nat} {y : Value}, w.cell? ⟨k, o, none⟩ = some y → ∃ cc e f, w.heap[k]? = some (.cells cc e f) ∧ cc[o]? = some y := fun {o y} h => by
     unfold World.cell? at h
     split at h
     ·rename_i cc e f hc
      exact ⟨cc, e, f, hc, by simpa using h⟩
     ·cases h
    have key : ∀ {o : Nat} {y : Value}, w.cell? ⟨k, o, none⟩ = some y → S' k ∧ w'.cell? ⟨k, o, none⟩ = some y := fun {o y} h => by
     obtain ⟨cc, e, f, h1, h2⟩ := cellc h
     have hlt := (Array.getElem?_eq_some_iff.1 h2).1
     obtain ⟨hS, c2, e2, f2, g1, g2, _⟩ := hg k _ (pin_mem hk h1 (by omega))
     exact ⟨hS, by rw [zbm g1]; exact g2 o y (by simpa using h2)⟩
    have hr0 : r0.length = sz := hl r0 (List.mem_cons_self ..)
    obtain ⟨a0, ha0⟩ : ∃ a0, r0[0]? = some a0 := ⟨_, List.getElem?_eq_getElem (by omega)⟩
    have hS := (key (hcell 0 r0 0 a0 rfl ha0)).1
    exact .sl c hS hc hl (fun i r j av h1 h2 => (key (hcell i r j av h1 h2)).2) (fun i r j av h1 h2 => ih i r j av h1 h2 (hp r (List.mem_of_getElem? h1) av (List.mem_of_getElem? h2)) S' w' hg)
theorem gs_app {G L : GL} {S : Nat → Prop} {w : World} : GS (G ++ L) S w ↔ GS G S w ∧ GS L S w :=
 ⟨fun h => ⟨fun g l hm => h g l (List.mem_append.2 (.inl hm)), fun g l hm => h g l (List.mem_append.2 (.inr hm))⟩, fun h g l hm => by
  rcases List.mem_append.1 hm with hm | hm
  ·exact h.1 g l hm
  ·exact h.2 g l hm⟩
def LeG (G : GL) (a b : AV) : Prop := ∀ S w x, GS G S w → Rel nσ S w x a → Rel nσ S w x b
theorem LeG.refl {G : GL} (a : AV) : LeG G a a := fun _ _ _ _ h => h
theorem LeG.agg {G : GL} {l m : List AV} (h : PubL (LeG G) l m) : LeG G (.agg l) (.agg m) := fun S w x hg hr => by
 obtain ⟨cs, rfl, hs, hc⟩ := zeO hr
 obtain ⟨hl, hp⟩ := h.spec
 exact .agg (by rw [hs, hl]) fun i y b hy hb => by
  obtain ⟨a, ha, hab⟩ := hp i b hb
  exact hab S w y hg (hc i y a hy ha)
theorem LeG.pin {G : GL} {S : Nat → Prop} {w : World} {x : Value} {av : AV} (h : Rel nσ S w x av) (hp : Pos av) : LeG (G ++ pinL S w) (.v x) av := fun S' w' y hg hr => by
 rw [zdZ hr]
 exact pin_rel h hp S' w' (gs_app.1 hg).2
theorem CallX.more {P : Program} {G G' : GL} {f : FuncId} {args args' : List AV} {Φ : AV → Prop} (h : CallX P G f args Φ) (hG : ∀ S w, GS G' S w → GS G S w) (hcl : ∀ x ∈ args', Cl x) (hle : PubL (LeG G') args' args) : CallX P G' f args' Φ := by
 refine ⟨h.enters, hcl, fun S w vs hS hg hsz hr => h.runs S w vs hS (hG S w hg) (by rw [hsz, hle.spec.1]) fun i x av hx hav => ?_⟩
 obtain ⟨a, ha, hab⟩ := hle.spec.2 i av hav
 exact hab S w x hg (hr i x a hx ha)
theorem CallOK.more {P : Program} {G G' : GL} {f : FuncId} {args args' : List AV} {res : AV} (h : CallOK P G f args res) (hG : ∀ S w, GS G' S w → GS G S w) (hcl : ∀ x ∈ args', Cl x) (hle : PubL (LeG G') args' args) : CallOK P G' f args' res := by
 refine ⟨h.enters, hcl, h.clr, fun S w vs hS hg hsz hr => h.runs S w vs hS (hG S w hg) (by rw [hsz, hle.spec.1]) fun i x av hx hav => ?_⟩
 obtain ⟨a, ha, hab⟩ := hle.spec.2 i av hav
 exact hab S w x hg (hr i x a hx ha)
def zne (a : AV) : Prop := ∀ σ S w x, Rel σ S w x a → ∃ oa ln cp, x = .slice oa ln cp
theorem zne.sl {sz : Nat} {rows : List (List AV)} : zne (.sl sz rows) := fun _ _ _ _ h => by
 cases h <;> exact ⟨_, _, _, rfl⟩
theorem zne.v {oa : Option Addr} {ln cp : Nat} : zne (.v (.slice oa ln cp)) := fun _ _ _ _ h => by
 cases h; exact ⟨_, _, _, rfl⟩
def zz3 : List AV := [.v (.slice none 0 0), .v (.slice none 0 0), .v (.slice none 0 0)]
def stM (dd : List AV) (o7 o9 r : AV) (N : Nat) (fr : List Int) (x2 : Value) : AS :=
 ⟨[(2, .p 0 3 0 0), (4, .p 1 3 0 0), (7, o7), (9, o9), (11, .p 2 3 0 0)], [(0, ⟨3, [dd]⟩), (1, ⟨3, [zz3]⟩), (2, ⟨3, [[.ps 3 1 0 N, r, .v x2]]⟩), (3, ⟨1, rws zad fr⟩)], 4⟩
def stF (dd : List AV) (o7 o9 : AV) (x0 x1 : Value) (y2 : AV) : AS :=
 ⟨[(2, .rp dd), (4, .p 1 3 0 0), (7, o7), (9, o9), (11, .p 2 3 0 0)], [(1, ⟨3, [zz3]⟩), (2, ⟨3, [[.v x0, .v x1, y2]]⟩)], 4⟩
abbrev DN (G : GL) : Base := ⟨fun _ => False, G, none, [], []⟩
structure Frozen (C : Cx) (S0 : Nat → Prop) (w0 : World) (dd : List AV) (o7 o9 r : AV) (N : Nat) (fr : List Int) (w : World) (a : Act) (x0 x1 x2 : Value) (D1 : Base) (S1 : Nat → Prop) : Prop where
 hD : D1.G = C.G ++ pinL S1 w ∧ D1.an = none ∧ D1.fx.map Prod.fst = [2, 4, 7, 9, 11] ∧ D1.df = []
 sim : Sim D1 S1 w C.nt (stF dd o7 o9 x0 x1 (.v x2)) a w
 r0 : Rel nσ S1 w x0 (.sl 1 (rws zad fr))
 r1 : Rel nσ S1 w x1 r
 hS : ∀ k, S1 k → S0 k ∨ w0.heap.size ≤ k
 ho : ∀ k, Own D1 w k → w0.heap.size ≤ k
 below : Below w0.heap.size w0 w
 nd : ∀ k, S1 k → ¬ D1.d k
 thaw : ∀ a' w' y2, zne y2 → Sim D1 S1 w C.nt (stF dd o7 o9 x0 x1 y2) a' w' → ∃ oa ln cp, Sim (DN C.G) S0 w0 C.nt (stM dd o7 o9 r N fr (.slice oa ln cp)) a' w'
theorem zk8 {C : Cx} {S0 : Nat → Prop} {w0 : World} {dd : List AV} {o7 o9 r : AV} {N : Nat} {fr : List Int} {w : World} {a : Act} {x2 : Value} (hN : fr.length = N) (hr : Cl r) (hs : Sim (DN C.G) S0 w0 C.nt (stM dd o7 o9 r N fr x2) a w) :
  ∃ x0 x1 D1 S1, Frozen C S0 w0 dd o7 o9 r N fr w a x0 x1 x2 D1 S1 := by
 obtain ⟨⟨hdf, _⟩, hn, σ, S, hF, hE⟩ := hs
 obtain ⟨p2, e2, q2⟩ := hE 2 _ rfl
 obtain ⟨p4, e4, q4⟩ := hE 4 _ rfl
 obtain ⟨p7, e7, q7⟩ := hE 7 _ rfl
 obtain ⟨p9, e9, q9⟩ := hE 9 _ rfl
 obtain ⟨p11, e11, q11⟩ := hE 11 _ rfl
 obtain ⟨k0, s0, rfl⟩ := zjJ q2
 obtain ⟨k1, s1, rfl⟩ := zjJ q4
 obtain ⟨k2, s2, rfl⟩ := zjJ q11
 have m0 := (hF.mem 0 _ rfl).named s0
 have m1 := (hF.mem 1 _ rfl).named s1
 have m2 := (hF.mem 2 _ rfl).named s2
 obtain ⟨k0', c0, t0, u0, v0, g0, h0, l0, z0, y0⟩ := m0
 obtain ⟨k1', c1, t1, u1, v1, g1, h1, l1, z1, y1⟩ := m1
 obtain ⟨k2', c2, t2, u2, v2, g2, h2, l2, z2, y2⟩ := m2
 obtain rfl : k0' = k0 := Option.some.inj (u0.symm.trans s0)
 obtain rfl : k1' = k1 := Option.some.inj (u1.symm.trans s1)
 obtain rfl : k2' = k2 := Option.some.inj (u2.symm.trans s2)
 obtain ⟨x0, hx0, r0⟩ := y2 0 _ 0 _ rfl rfl
 obtain ⟨x1, hx1, r1⟩ := y2 0 _ 1 _ rfl rfl
 obtain ⟨x2', hx2, r2⟩ := y2 0 _ 2 _ rfl rfl
 obtain rfl : x2' = x2 := zdZ r2
 have ne01 : k0' ≠ k1' := fun e => absurd (hF.inj 0 1 _ _ _ rfl rfl s0 (e ▸ s1)) (by decide)
 have ne02 : k0' ≠ k2' := fun e => absurd (hF.inj 0 2 _ _ _ rfl rfl s0 (e ▸ s2)) (by decide)
 have ne12 : k1' ≠ k2' := fun e => absurd (hF.inj 1 2 _ _ _ rfl rfl s1 (e ▸ s2)) (by decide)
 have ne31 : ∀ k, σ 3 = some k → k ≠ k1' := fun k hk e => absurd (hF.inj 3 1 _ _ _ rfl rfl hk (e ▸ s1)) (by decide)
 have ne32 : ∀ k, σ 3 = some k → k ≠ k2' := fun k hk e => absurd (hF.inj 3 2 _ _ _ rfl rfl hk (e ▸ s2)) (by decide)
 let mf : List (Nat × MB) := [(0, ⟨3, [dd]⟩), (3, ⟨1, rws zad fr⟩)]
 let S1 : Nat → Prop := zkC σ mf S
 have inS1 : ∀ k, S1 k → S k ∨ k = k0' ∨ σ 3 = some k := fun k hk => by
  rcases hk with hk | ⟨b, m, hm, hb⟩
  ·exact .inl hk
  ·simp only [mf, look] at hm
   split at hm
   ·rename_i e; subst e; exact .inr (.inl (Option.some.inj (hb.symm.trans s0)))
   ·split at hm
    ·rename_i e; subst e; exact .inr (.inr hb)
    ·cases hm
 have own3 : ∀ k, σ 3 = some k → Own (DN C.G) w0 k ∧ ¬ S k ∧ k < w.heap.size := fun k hk => by
  obtain ⟨k', c, e, a1, a2, a3, a4, _⟩ := (hF.mem 3 _ rfl).named hk
  obtain rfl : k' = k := Option.some.inj (a1.symm.trans hk)
  exact ⟨a2, a3, za8 a4⟩
 let D1 : Base := ⟨fun k => k = k1' ∨ k = k2', C.G ++ pinL S1 w, none, [], [(2, .pointer (some ⟨k0', 0 * 3 + 0, none⟩)), (4, .pointer (some ⟨k1', 0 * 3 + 0, none⟩)), (7, p7), (9, p9), (11, .pointer (some ⟨k2', 0 * 3 + 0, none⟩))]⟩
 have nd : ∀ k, S1 k → ¬ D1.d k := fun k hk hd => by
  rcases inS1 k hk with h | h | h
  ·rcases hd with rfl | rfl
   ·exact g1 h
   ·exact g2 h
  ·subst h
   rcases hd with h | h
   ·exact ne01 h
   ·exact ne02 h
  ·rcases hd with h2 | h2
   ·exact ne31 k h h2
   ·exact ne32 k h h2
 have sub : ∀ b m, look mf b = some m → look (stM dd o7 o9 r N fr x2').mem b = some m := fun b m hm => by
  simp only [mf, look] at hm
  split at hm
  ·rename_i e; subst e; exact hm
  ·split at hm
   ·rename_i e; subst e; exact hm
   ·cases hm
 have hFs := hF.sub sub
 have up : ∀ {x : Value} {av b : AV}, Rel σ S w x av → Pub mf av b → Rel σ S1 w x b := fun h hp => zeP hFs h hp
 have r0' : Rel nσ S1 w x0 (.sl 1 (rws zad fr)) := by
  have key : Rel σ S1 w x0 (.sl 1 (((rws zad fr).drop 0).take N)) := up r0 (.one (.one (.ps (m := ⟨1, rws zad fr⟩) rfl rfl (by show 0 + N ≤ (rws zad fr).length; rw [zab]; omega))))
  rw [List.drop_zero, List.take_of_length_le (by rw [zab]; omega)] at key
  exact (show Cl (.sl 1 (rws zad fr)) from zdk) _ _ _ _ key
 refine ⟨x0, x1, D1, S1, ⟨rfl, rfl, rfl, rfl⟩, ⟨⟨hdf, fun p hp => ?_⟩, hn, σ, S1, ⟨Bel.refl fun g l hg => ?_, hF.dom, fun b b' k m m' h1 h2 h3 h4 => ?_, fun k hk => ?_, fun k hk => hk, fun k hk => .inl hk, ⟨fun g l hg => ?_, fun k hk => by cases hk⟩, fun b m hm => ?_⟩, fun t av ht => ?_⟩, r0', (hr _ _ _ _ (up r1 .same)), fun k hk => ?_, fun k hk => ?_, hF.below.none, nd, fun a' w' y2 hy hs' => ?_⟩
 ·simp only [D1, List.mem_cons, List.not_mem_nil, or_false] at hp
  rcases hp with rfl | rfl | rfl | rfl | rfl <;> assumption
 ·rcases List.mem_append.1 hg with hg | hg
  ·have := hF.gs g l hg
   exact ⟨nd g (.inl this.1), this.2⟩
  ·have := pin_gs (S := S1) (w := w) g l hg
   exact ⟨nd g this.1, this.2⟩
 ·have : ∀ {b m}, look (stF dd o7 o9 x0 x1 (.v x2')).mem b = some m → b = 1 ∨ b = 2 := fun {b m} hm => by
   simp only [stF, look] at hm
   split at hm
   ·rename_i e; exact .inl e.symm
   ·split at hm
    ·rename_i e; exact .inr e.symm
    ·cases hm
  rcases this h1 with rfl | rfl <;> rcases this h2 with rfl | rfl
  ·rfl
  ·exact absurd ((Option.some.inj (s1.symm.trans h3)).trans (Option.some.inj (s2.symm.trans h4)).symm) ne12
  ·exact absurd ((Option.some.inj (s1.symm.trans h4)).trans (Option.some.inj (s2.symm.trans h3)).symm) ne12
  ·rfl
 ·rcases inS1 k hk with h | h | h
  ·exact hF.sbd k h
  ·subst h; exact za8 h0
  ·exact (own3 k h).2.2
 ·rcases List.mem_append.1 hg with hg | hg
  ·exact .inl (hF.gs g l hg).1
  ·exact (znQ hg).1
 ·simp only [stF, look] at hm
  split at hm
  ·rename_i e
   subst e
   injection hm with hm
   subst hm
   exact .inr ⟨k1', c1, t1, s1, .inr (.inl rfl), fun h => nd _ h (.inl rfl), h1, l1, z1, fun i r j av hi hj => by
    obtain ⟨x, hx, hr⟩ := y1 i r j av hi hj
    exact ⟨x, hx, hr.mono (fun _ _ h => h) (fun _ h => .inl h) zaF⟩⟩
  ·split at hm
   ·rename_i e
    subst e
    injection hm with hm
    subst hm
    refine .inr ⟨k2', c2, t2, s2, .inr (.inr rfl), fun h => nd _ h (.inr rfl), h2, fun r hr => by simp at hr; subst hr; rfl, z2, fun i r j av hi hj => ?_⟩
    match i with
    | 0 =>
     simp at hi
     subst hi
     match j with
     | 0 => simp at hj; subst hj; exact ⟨x0, hx0, .v _⟩
     | 1 => simp at hj; subst hj; exact ⟨x1, hx1, .v _⟩
     | 2 => simp at hj; subst hj; exact ⟨x2', hx2, .v _⟩
     | j + 3 => simp at hj
    | i + 1 => simp at hi
   ·cases hm
 ·simp only [stF, look] at ht
  have more : ∀ {x av}, Rel σ S w x av → Rel σ S1 w x av := fun h => h.mono (fun _ _ h => h) (fun _ h => .inl h) zaF
  repeat' split at ht
  ·rename_i e
   subst e
   injection ht with ht
   subst ht
   exact ⟨_, e2, up q2 (.one (.one (.p (m := ⟨3, [dd]⟩) rfl rfl (by simp))))⟩
  ·rename_i e; subst e; injection ht with ht; subst ht; exact ⟨_, e4, more q4⟩
  ·rename_i e; subst e; injection ht with ht; subst ht; exact ⟨_, e7, more q7⟩
  ·rename_i e; subst e; injection ht with ht; subst ht; exact ⟨_, e9, more q9⟩
  ·rename_i e; subst e; injection ht with ht; subst ht; exact ⟨_, e11, more q11⟩
  ·cases ht
 ·rcases inS1 k hk with h | h | h
  ·exact (hF.s1 k h).imp id fun h => h.resolve_right id
  ·subst h; exact .inr (v0.resolve_right id)
  ·exact .inr ((own3 k h).1.resolve_right id)
 ·rcases hk with h | h | h
  ·exact Nat.le_trans hF.below.size h
  ·subst h; exact v1.resolve_right id
  ·subst h; exact v2.resolve_right id
 ·obtain ⟨⟨hdf', hfx⟩, hn', σ', S', hF', hE'⟩ := hs'
  have f2 := hfx (2, _) (List.mem_cons_self ..)
  have f4 := hfx (4, _) (List.mem_cons_of_mem _ (List.mem_cons_self ..))
  have f7 := hfx (7, _) (List.mem_cons_of_mem _ (List.mem_cons_of_mem _ (List.mem_cons_self ..)))
  have f9 := hfx (9, _) (List.mem_cons_of_mem _ (List.mem_cons_of_mem _ (List.mem_cons_of_mem _ (List.mem_cons_self ..))))
  have f11 := hfx (11, _) (List.mem_cons_of_mem _ (List.mem_cons_of_mem _ (List.mem_cons_of_mem _ (List.mem_cons_of_mem _ (List.mem_cons_self ..)))))
  have hb := hF'.below
  have s1' : σ' 1 = some k1' := by
   obtain ⟨x, hx, hr⟩ := hE' 4 _ rfl
   obtain ⟨k, hk, rfl⟩ := zjJ hr
   have := Option.some.inj (hx.symm.trans f4)
   simp at this
   rw [← this]; exact hk
  have s2' : σ' 2 = some k2' := by
   obtain ⟨x, hx, hr⟩ := hE' 11 _ rfl
   obtain ⟨k, hk, rfl⟩ := zjJ hr
   have := Option.some.inj (hx.symm.trans f11)
   simp at this
   rw [← this]; exact hk
  have m1' := (hF'.mem 1 _ rfl).named s1'
  have m2' := (hF'.mem 2 _ rfl).named s2'
  obtain ⟨_, c1', t1', u1', _, _, h1', l1', z1', y1'⟩ := m1'
  obtain rfl := Option.some.inj (u1'.symm.trans s1')
  obtain ⟨_, c2', t2', u2', _, _, h2', l2', z2', y2'⟩ := m2'
  obtain rfl := Option.some.inj (u2'.symm.trans s2')
  obtain ⟨_, hx0', q0⟩ := y2' 0 _ 0 _ rfl rfl
  obtain rfl := zdZ q0
  obtain ⟨_, hx1', q1⟩ := y2' 0 _ 1 _ rfl rfl
  obtain rfl := zdZ q1
  obtain ⟨x3, hx3', q3⟩ := y2' 0 _ 2 _ rfl rfl
  obtain ⟨oa, ln, cp, rfl⟩ := hy _ _ _ _ q3
  have ndS : ∀ k, S k → ¬ D1.d k := fun k hk => nd k (.inl hk)
  have keep : Keeps σ S w w' := ⟨fun k hk => hb.block k (hF.sbd k hk) (ndS k hk), fun b k c e f hs hc => by
   by_cases hd : D1.d k
   ·exact hb.kept k c e f hd hc
   ·exact ⟨c, e, f, by rw [hb.block k (za8 hc) hd]; exact hc, Nat.le_refl _⟩⟩
  have up' : ∀ {x : Value} {av : AV}, Rel σ S w x av → Rel σ S w' x av := fun h => h.mono (fun _ _ h => h) (fun _ h => h) keep
  have nd0 : ¬ D1.d k0' := fun h => by
   rcases h with h | h
   ·exact ne01 h
   ·exact ne02 h
  refine ⟨oa, ln, cp, ⟨hdf', fun p hp => by cases hp⟩, hn', σ, S, ⟨⟨hb.os.trans hF.below.os, hb.tape.trans hF.below.tape, hb.output.trans hF.below.output, Nat.le_trans hF.below.size hb.size, fun k hk hd => ?_, fun k c e f hd => hd.elim, hF.below.glob⟩, fun b k hk => ⟨(hF.dom b k hk).1, Nat.lt_of_lt_of_le (hF.dom b k hk).2 hb.size⟩, fun b b' k m m' h1 h2 h3 h4 => ?_, fun k hk => Nat.lt_of_lt_of_le (hF.sbd k hk) hb.size, hF.s0, hF.s1, hF.glob, fun b m hm => ?_⟩, fun t av ht => ?_⟩
  ·have : ¬ D1.d k := fun h => by
    rcases h with rfl | rfl
    ·have := v1.resolve_right id; omega
    ·have := v2.resolve_right id; omega
   rw [hb.block k (Nat.lt_of_lt_of_le hk hF.below.size) this]
   exact hF.below.block k hk hd
  ·have key : ∀ {b m}, look (stM dd o7 o9 r N fr (.slice oa ln cp)).mem b = some m → ∃ m', look (stM dd o7 o9 r N fr x2').mem b = some m' := fun {b m} hm => by
    simp only [stM, look] at hm ⊢
    repeat' split at hm
    all_goals first | cases hm | skip
    all_goals (rename_i e; subst e; exact ⟨_, rfl⟩)
   obtain ⟨m1, k1⟩ := key h1
   obtain ⟨m2, k2⟩ := key h2
   exact hF.inj b b' k _ _ k1 k2 h3 h4
  ·simp only [stM, look] at hm
   repeat' split at hm
   ·rename_i e
    subst e
    injection hm with hm
    subst hm
    exact .inr ⟨k0', c0, t0, s0, v0, g0, by rw [hb.block _ (za8 h0) nd0]; exact h0, l0, z0, fun i r j av hi hj => by
     obtain ⟨x, hx, hr⟩ := y0 i r j av hi hj
     exact ⟨x, hx, up' hr⟩⟩
   ·rename_i e
    subst e
    injection hm with hm
    subst hm
    refine .inr ⟨_, c1', t1', s1, v1, g1, h1', l1', z1', fun i r j av hi hj => ?_⟩
    obtain ⟨x, hx, hr⟩ := y1' i r j av hi hj
    refine ⟨x, hx, ?_⟩
    have hi : i = 0 ∧ r = zz3 := by
     match i with
     | 0 => simp at hi; exact ⟨rfl, hi.symm⟩
     | i + 1 => simp at hi
    obtain ⟨rfl, rfl⟩ := hi
    match j with
    | 0 => simp [zz3] at hj; subst hj; rw [zdZ hr]; exact .v _
    | 1 => simp [zz3] at hj; subst hj; rw [zdZ hr]; exact .v _
    | 2 => simp [zz3] at hj; subst hj; rw [zdZ hr]; exact .v _
    | j + 3 => simp [zz3] at hj
   ·rename_i e
    subst e
    injection hm with hm
    subst hm
    refine .inr ⟨_, c2', t2', s2, v2, g2, h2', fun r hr => by simp at hr; subst hr; rfl, z2', fun i r j av hi hj => ?_⟩
    match i with
    | 0 =>
     simp at hi
     subst hi
     match j with
     | 0 => simp at hj; subst hj; exact ⟨_, hx0', up' r0⟩
     | 1 => simp at hj; subst hj; exact ⟨_, hx1', up' r1⟩
     | 2 => simp at hj; subst hj; exact ⟨_, hx3', .v _⟩
     | j + 3 => simp at hj
    | i + 1 => simp at hi
   ·rename_i e
    subst e
    injection hm with hm
    subst hm
    rcases hF.mem 3 _ rfl with q | ⟨k, c, e, a1, a2, a3, a4, a5, a6, a7⟩
    ·exact .inl q
    ·have nd3 : ¬ D1.d k := fun h => by
      rcases h with h | h
      ·exact ne31 k a1 h
      ·exact ne32 k a1 h
     exact .inr ⟨k, c, e, a1, a2, a3, by rw [hb.block _ (za8 a4) nd3]; exact a4, a5, a6, fun i r j av hi hj => by
      obtain ⟨x, hx, hr⟩ := a7 i r j av hi hj
      exact ⟨x, hx, up' hr⟩⟩
   ·cases hm
  ·simp only [stM, look] at ht
   repeat' split at ht
   ·rename_i e; subst e; injection ht with ht; subst ht; exact ⟨_, f2, up' q2⟩
   ·rename_i e; subst e; injection ht with ht; subst ht; exact ⟨_, f4, up' q4⟩
   ·rename_i e; subst e; injection ht with ht; subst ht; exact ⟨_, f7, up' q7⟩
   ·rename_i e; subst e; injection ht with ht; subst ht; exact ⟨_, f9, up' q9⟩
   ·rename_i e; subst e; injection ht with ht; subst ht; exact ⟨_, f11, up' q11⟩
   ·cases ht
def zgq : List Int → Nat
 | [] => 0
 | x :: l => x.toNat + zgq l
def FinX (ti : zaN) (rs : List ResultVar) (Φ : AV → Prop) (s : AS) : Prop := ∃ res, Φ res ∧ Cl res ∧ Fin s.mem (resL ti s rs) res
def zhE (ti : zaN) (rs : List ResultVar) (Φ : AV → Prop) (dd : List AV) (o7 o9 : AV) (N : Nat) (Inv : AV → List Int → Prop) (l : Lab) (s : AS) : Prop :=
 (l = .ret ∧ FinX ti rs Φ s) ∨ (l = .normal ∧ ∃ r fr oa ln cp, Inv r fr ∧ zaI s (stM dd o7 o9 r N fr (.slice oa ln cp)))
def zfE (ti : zaN) (rs : List ResultVar) (Φ : AV → Prop) (dd : List AV) (o7 o9 r : AV) (fr : List Int) (x0 x1 : Value) (P2 : Prop) (l : Lab) (s : AS) : Prop :=
 (l = .normal ∧ P2 ∧ ∃ y2, zne y2 ∧ zaI s (stF dd o7 o9 x0 x1 y2)) ∨
 (l = .ret ∧ ∃ e, Cl e ∧ Φ (.tup [.agg [.sl 1 (rws zad fr), r, e], .v (.bool true), .v .nilIface]) ∧ Fin s.mem (resL ti s rs) (.tup [.agg [.v x0, .v x1, e], .v (.bool true), .v .nilIface]))
def zhF (ti : zaN) (rs : List ResultVar) (Φ : AV → Prop) (dd : List AV) (o7 o9 r : AV) (N : Nat) (fr : List Int) (x2 : Value) (Inv : AV → List Int → Prop) (l : Lab) (s : AS) : Prop :=
 (l = .normal ∧ ∃ fr', Inv r fr' ∧ zgq fr' < zgq fr ∧ zaI s (stM dd o7 o9 r N fr' x2)) ∨ (l = .ret ∧ FinX ti rs Φ s)
theorem zla {ti : zaN} {rs : List ResultVar} {Φ : AV → Prop} {dd : List AV} {o7 o9 : AV} {N : Nat} {Inv : AV → List Int → Prop} {s : AS} : zhE ti rs Φ dd o7 o9 N Inv .ret s = ∃ res, Φ res ∧ Cl res ∧ Fin s.mem (resL ti s rs) res := by simp [zhE, FinX]
theorem zhH {ti : zaN} {rs : List ResultVar} {Φ : AV → Prop} {dd : List AV} {o7 o9 : AV} {N : Nat} {Inv : AV → List Int → Prop} {s : AS} : zhE ti rs Φ dd o7 o9 N Inv .normal s = ∃ r fr oa ln cp, Inv r fr ∧ zaI s (stM dd o7 o9 r N fr (.slice oa ln cp)) := by simp [zhE]
theorem zkd {ti : zaN} {rs : List ResultVar} {Φ : AV → Prop} {dd : List AV} {o7 o9 r : AV} {fr : List Int} {x0 x1 : Value} {P2 : Prop} {s : AS} : zfE ti rs Φ dd o7 o9 r fr x0 x1 P2 .ret s = ∃ e, Cl e ∧ Φ (.tup [.agg [.sl 1 (rws zad fr), r, e], .v (.bool true), .v .nilIface]) ∧ Fin s.mem (resL ti s rs) (.tup [.agg [.v x0, .v x1, e], .v (.bool true), .v .nilIface]) := by simp [zfE]
theorem zhk {ti : zaN} {rs : List ResultVar} {Φ : AV → Prop} {dd : List AV} {o7 o9 r : AV} {fr : List Int} {x0 x1 : Value} {P2 : Prop} {s : AS} : zfE ti rs Φ dd o7 o9 r fr x0 x1 P2 .normal s = (P2 ∧ ∃ y2, zne y2 ∧ zaI s (stF dd o7 o9 x0 x1 y2)) := by simp [zfE]
theorem zlb {ti : zaN} {rs : List ResultVar} {Φ : AV → Prop} {dd : List AV} {o7 o9 r : AV} {N : Nat} {fr : List Int} {x2 : Value} {Inv : AV → List Int → Prop} {s : AS} : zhF ti rs Φ dd o7 o9 r N fr x2 Inv .ret s = ∃ res, Φ res ∧ Cl res ∧ Fin s.mem (resL ti s rs) res := by simp [zhF, FinX]
theorem zhI {ti : zaN} {rs : List ResultVar} {Φ : AV → Prop} {dd : List AV} {o7 o9 r : AV} {N : Nat} {fr : List Int} {x2 : Value} {Inv : AV → List Int → Prop} {s : AS} : zhF ti rs Φ dd o7 o9 r N fr x2 Inv .normal s = ∃ fr', Inv r fr' ∧ zgq fr' < zgq fr ∧ zaI s (stM dd o7 o9 r N fr' x2) := by simp [zhF]
attribute [go_sem] zla zhH zkd zhk zlb zhI
theorem sumN_set {l : List Int} : ∀ {i : Nat} {x : Int}, i < l.length → x.toNat < (l.getD i 0).toNat → zgq (l.set i x) < zgq l := by
 induction l with
 | nil => intro i x h; exact absurd h (Nat.not_lt_zero i)
 | cons y l ih =>
  intro i x h hx
  cases i with
  | zero =>
   have hx : x.toNat < y.toNat := hx
   show x.toNat + zgq l < y.toNat + zgq l
   omega
  | succ i =>
   have := ih (i := i) (x := x) (by simpa using h) hx
   show y.toNat + zgq (l.set i x) < y.toNat + zgq l
   omega
theorem zeK {D : Base} {S0 : Nat → Prop} {w0 : World} {nt : Nat} {s s' : AS} {a : Act} {w : World} (h : Sim D S0 w0 nt s a w) (hw : zaI s s') (hn : 0 < s'.next) : Sim D S0 w0 nt s' a w := by
 obtain ⟨hd, hn', σ, S', hF, hE⟩ := h
 obtain ⟨σ2, S2, h1, h2⟩ := hw _ _ _ _ _ _ hF (fun _ => hn)
 exact ⟨hd, hn', σ2, S2, h1, h2 a hE⟩
theorem zpA {P : Program} {G : GL} {ti : zaN} {nt : Nat} (hT : zam P ti) (hmx : P.follows .mixedOrders = true) {f : FuncId} {fn : Func} {c : Code} {args : List AV} {Φ : AV → Prop} (q k n : Nat) (hent : zbS P f) (hf : P.funcs[f]? = some fn) (hb : fn.body = some c) (hnt : fn.ntmps = nt) (hargs : args.length ≤ nt)
  (hcl : ∀ x ∈ args, Cl x) (dd : List AV) (o7 o9 : AV) (N : Nat) (Inv Inv2 : AV → List Int → Prop) (hI : ∀ r fr, Inv r fr → fr.length = N ∧ Cl r ∧ Pos r ∧ zne r)
  {b0 b1 : Nat} {c1 : Code} (hsplit : (zbd q c).drop k = [.block b0 (.loop (.block b1 c1))]) (q2 k2 : Nat)
  (hpre : ex ⟨P, G, ti, nt, false, false, []⟩ n (its ((zbd q c).take k)) (entry args) (zhE ti fn.results.toList Φ dd o7 o9 N Inv))
  (hread : ∀ r fr x0 x1 oa ln cp G', (∃ o l c, x0 = .slice o l c) → (∃ o l c, x1 = .slice o l c) → Inv r fr → (∀ S w, GS G' S w → GS G S w) → LeG G' (.v x0) (.sl 1 (rws zad fr)) → LeG G' (.v x1) r →
   ex ⟨P, G', ti, nt, false, false, [2, 4, 7, 9, 11]⟩ n (its ((zbd q2 c1).take k2)) (stF dd o7 o9 x0 x1 (.v (.slice oa ln cp))) (zfE ti fn.results.toList Φ dd o7 o9 r fr x0 x1 (Inv2 r fr)))
  (hdec : ∀ r fr oa ln cp, Inv r fr → Inv2 r fr → ex ⟨P, G, ti, nt, false, false, []⟩ n (its ((zbd q2 c1).drop k2)) (stM dd o7 o9 r N fr (.slice oa ln cp)) (zhF ti fn.results.toList Φ dd o7 o9 r N fr (.slice oa ln cp) Inv)) : CallX P G f args Φ := by
 refine ⟨hent, hcl, fun S w vs hS hgs hsz hr => ?_⟩
 refine calls_of_wp hf hb ?_
 have hlen : (vs ++ Array.replicate (fn.ntmps - vs.size) undef).size = nt := by simp [hnt, hsz]; omega
 have hsim : Sim (DN G) S w nt (entry args) { tmps := vs ++ Array.replicate (fn.ntmps - vs.size) undef, defers := [] } w := by
  refine ⟨⟨rfl, fun p hp => by cases hp⟩, hlen, nσ, S, ⟨Bel.refl (fun g l hg => ⟨id, (hgs g l hg).2⟩), (fun b k h => by cases h), (fun b b' k m m' h => by simp [entry, look] at h), hS, (fun _ h => h), (fun _ h => .inl h), ⟨fun g l hg => (hgs g l hg).1, fun k hk => by cases hk⟩, (fun b m h => by simp [entry, look] at h)⟩, fun t av ht => ?_⟩
  obtain ⟨_, h2⟩ := zbK args 0 t av ht
  simp only [Nat.sub_zero] at h2
  have hlt : t < vs.size := by rw [hsz]; exact (List.getElem?_eq_some_iff.1 h2).1
  exact ⟨vs[t], by simp [Array.getElem?_append, hlt], hr t _ av (by simp [hlt]) h2⟩
 let R : Ending → World → Prop := fun e w' => Below w.heap.size w w' ∧ ∃ x res, Φ res ∧ e = .returned x ∧ Rel nσ (zf4 S w w') w' x res
 have fin : ∀ (s : AS) (a : Act) (w' : World), FinX ti fn.results.toList Φ s → Sim (DN G) S w nt s a w' → bodyPost P fn R .ret a w' := fun s a w' hq hs => by
  obtain ⟨res, hφ, hres, hq⟩ := hq
  have hbel : Below w.heap.size w w' := by
   obtain ⟨hd, hn, σ, S', hF, hE⟩ := hs
   exact hF.below.none
  obtain ⟨v, h1, h2, x, h3, h4⟩ := zi1 (S := S) (w0 := w) hT hs hq hres hbel (fun k h => .inl h) (fun k h => h.resolve_right id)
  exact ⟨hs.defers.1, v, h1, h2, x, res, hφ, h3, h4⟩
 refine ziu (M := fun _ _ _ => False) q c _ w ?_
 rw [← List.take_append_drop k (zbd q c), zcH, ← zbI]
 refine zbb (C := ⟨P, G, ti, nt, false, false, []⟩) (D := DN G) (S0 := S) (w0 := w) hT ⟨rfl, fun _ => rfl, rfl⟩ hmx n _ _ _ _ _ hpre _ _ hsim ⟨fun s a w' q hs => ?_, fun s a w' q hs => ?_, fun k s a w' q hs => ?_, fun hp => by cases hp⟩
 case refine_3 => rcases q with ⟨q, _⟩ | ⟨q, _⟩ <;> cases q
 case refine_2 =>
  rcases q with ⟨_, hq⟩ | ⟨q, _⟩
  case inr => cases q
  rw [zev (fun h => by cases h)]
  exact fin s a w' hq hs
 rcases q with ⟨q, _⟩ | ⟨_, r, fr, oa, ln, cp, hi, hw⟩
 case inl => cases q
 have hs := zeK hs hw (Nat.succ_pos _)
 rw [hsplit]
 show zaJ P _ _ [.code (.block b0 (.loop (.block b1 c1)))] .normal a w'
 refine zfM ?_
 simp only [zaJ]
 refine wp_loop_ghost (fun n a w' => ∃ r fr oa ln cp, Inv r fr ∧ zgq fr = n ∧ Sim (DN G) S w nt (stM dd o7 o9 r N fr (.slice oa ln cp)) a w') (zgq fr) ⟨r, fr, oa, ln, cp, hi, rfl, hs⟩ ?_
 clear hi hs hw r fr oa ln cp
 rintro m a1 w1 ⟨r, fr, oa, ln, cp, hi, rfl, hs⟩
 have go : zaJ P (Exit.then (fun a' w' => ∃ n', n' < zgq fr ∧ ∃ r fr oa ln cp, Inv r fr ∧ zgq fr = n' ∧ Sim (DN G) S w nt (stM dd o7 o9 r N fr (.slice oa ln cp)) a' w') (zaJ P (bodyPost P fn R) (fun _ _ _ => False) [.blk b0])) (fun _ _ _ => False) [.code (.block b1 c1)] .normal a1 w1 := by
  refine zfM (zfh q2 c1 _ _ _ ?_)
  rw [← List.take_append_drop k2 (zbd q2 c1), zcH, List.append_assoc, ← zbI]
  obtain ⟨hl, hclr, hpos, hsl⟩ := hI r fr hi
  obtain ⟨x0, x1, D1, S1, F⟩ := zk8 (C := ⟨P, G, ti, nt, false, false, []⟩) hl hclr hs
  have hG' : ∀ S' w', GS (G ++ pinL S1 w1) S' w' → GS G S' w' := fun S' w' h => (gs_app.1 h).1
  have hx := hread r fr x0 x1 oa ln cp (G ++ pinL S1 w1) (zne.sl _ _ _ _ F.r0) (hsl _ _ _ _ F.r1) hi hG' (LeG.pin F.r0 (.sl (by decide) (fun r hr a ha => by
   obtain ⟨x, _, rfl⟩ := List.mem_map.1 hr
   simp [zad] at ha
   subst ha
   exact .v _))) (LeG.pin F.r1 hpos)
  refine zbb (C := ⟨P, G ++ pinL S1 w1, ti, nt, false, false, [2, 4, 7, 9, 11]⟩) (D := D1) (S0 := S1) (w0 := w1) hT ⟨F.hD.1, fun _ => F.hD.2.1, F.hD.2.2.1⟩ hmx n _ _ _ _ _ hx _ _ F.sim ⟨fun s a w' q hs' => ?_, fun s a w' q hs' => ?_, fun k s a w' q hs => ?_, fun hp => by cases hp⟩
  case refine_3 => rcases q with ⟨q, _⟩ | ⟨q, _⟩ <;> cases q
  case refine_2 =>
   rcases q with ⟨q, _⟩ | ⟨_, e, hce, hφ, hq⟩
   case inl => cases q
   have hbel1 : Bel D1 w1 w' := by
    obtain ⟨hd, hn, σ, S', hF, hE⟩ := hs'
    exact hF.below
   have hsz1 : ∀ k, S1 k → k < w1.heap.size := by
    obtain ⟨hd, hn, σ, S', hF, hE⟩ := F.sim
    exact fun k hk => hF.sbd k (hF.s0 k hk)
   have hbel : Below w.heap.size w w' := by
    refine F.below.trans ⟨hbel1.os, hbel1.tape, hbel1.output, hbel1.size, fun k hk => ?_⟩
    have hne : ¬ D1.d k := fun hd => by
     have := F.ho k (.inr hd)
     omega
    exact hbel1.block k (Nat.lt_of_lt_of_le hk F.below.size) hne
   have hce' : Cl (.tup [.agg [.v x0, .v x1, e], .v (.bool true), .v .nilIface]) := by
    have h1 : Cl (.agg [.v x0, .v x1, e]) := Cl.agg (fun a ha => by
     simp only [List.mem_cons, List.not_mem_nil, or_false] at ha
     rcases ha with rfl | rfl | rfl
     ·exact .v _
     ·exact .v _
     ·exact hce)
    refine Cl.tup (fun a ha => ?_)
    simp only [List.mem_cons, List.not_mem_nil, or_false] at ha
    rcases ha with rfl | rfl | rfl
    ·exact h1
    ·exact .v _
    ·exact .v _
   obtain ⟨v, h1, h2, x, h3, h4⟩ := zi1 (S := S) (w0 := w) hT hs' hq hce' hbel F.hS F.ho
   have hup : ∀ {y : Value} {av : AV}, Rel nσ S1 w1 y av → Rel nσ (zf4 S w w') w' y av := fun h => h.mono (fun _ _ h => h) (fun k hk => (F.hS k hk).imp id fun h => ⟨h, Nat.lt_of_lt_of_le (hsz1 k hk) hbel1.size⟩) ⟨fun k hk => hbel1.block k (hsz1 k hk) (F.nd k hk), fun b k c e f hs => by cases hs⟩
   have h5 : Rel nσ (zf4 S w w') w' x (.tup [.agg [.sl 1 (rws zad fr), r, e], .v (.bool true), .v .nilIface]) := by
    obtain ⟨cs, rfl, hsz, hc⟩ := zkP h4
    refine .tup hsz fun i y av hy hav => ?_
    match i with
    | 0 =>
     simp at hav
     subst hav
     obtain ⟨ds, rfl, dsz, hd⟩ := zeO (hc 0 y _ hy rfl)
     refine .agg dsz fun i y av hy hav => ?_
     match i with
     | 0 => simp at hav; subst hav; rw [zdZ (hd 0 y _ hy rfl)]; exact hup F.r0
     | 1 => simp at hav; subst hav; rw [zdZ (hd 1 y _ hy rfl)]; exact hup F.r1
     | 2 => simp at hav; subst hav; exact hd 2 y _ hy rfl
     | i + 3 => simp at hav
    | 1 => simp at hav; subst hav; exact hc 1 y _ hy rfl
    | 2 => simp at hav; subst hav; exact hc 2 y _ hy rfl
    | i + 3 => simp at hav
   have key : bodyPost P fn R .ret a w' := ⟨hs'.defers.1.trans F.hD.2.2.2, v, h1, h2, x, _, hφ, h3, h5⟩
   rw [← zbI, zev (fun h => by cases h)]
   exact key
  rcases q with ⟨_, hi2, y2, hy2, hw2⟩ | ⟨q, _⟩
  case inr => cases q
  have hs2 := zeK hs' hw2 (Nat.succ_pos _)
  obtain ⟨oa', ln', cp', hs3⟩ := F.thaw _ _ _ hy2 hs2
  rw [← zbI]
  refine zbb (C := ⟨P, G, ti, nt, false, false, []⟩) (D := DN G) (S0 := S) (w0 := w) hT ⟨rfl, fun _ => rfl, rfl⟩ hmx n _ _ _ _ _ (hdec r fr oa' ln' cp' hi hi2) _ _ hs3 ⟨fun s a w' q hs => ?_, fun s a w' q hs => ?_, fun k s a w' q hs => ?_, fun hp => by cases hp⟩
  case refine_3 => rcases q with ⟨q, _⟩ | ⟨q, _⟩ <;> cases q
  case refine_2 =>
   rcases q with ⟨q, _⟩ | ⟨_, hq⟩
   case inl => cases q
   exact fin s a w' hq hs
  rcases q with ⟨_, fr', hi', hlt, hw'⟩ | ⟨q, _⟩
  case inr => cases q
  exact ⟨zgq fr', hlt, r, fr', oa', ln', cp', hi', rfl, zeK hs hw' (Nat.succ_pos _)⟩
 simp only [zaJ] at go
 refine wp_mono go fun e a w q => ?_
 cases e <;> exact q
section
variable {C : Cx} {s : AS}
theorem zpK {n : Nat} {r : List It} {Q : Lab → AS → Prop} {d : Option Tmp} {u : TypeId} {pos : String} {af : Array Edge} {g : Option (Nat × Bool)} (hT : zam C.P C.ti) {x y : Operand} {t tx e : TypeId} {q1 q2 : Nat} {q3 : List Z} {z : TyI} (ht : C.ti t = some ⟨q1, q2, q3, .slc e⟩) (hz : C.ti e = some z) (htx : isSlcT (C.ti tx) = true)
  {b sz k : Nat} {m : MB} {rows : List (List AV)} (hx : ev s x = some (.ps b sz 0 k)) (hm : look s.mem b = some m) (hc : z.size = sz ∧ m.sz = sz ∧ 0 < sz) (hy : srcY sz (ev s y) = some rows)
  (hp : True ∧ k ≤ m.rows.length ∧ (k + rows.length) * z.bytes ≤ 140737488355328 ∧ k + rows.length ≤ 9223372036854775807) (hrows : zb1 b sz rows)
  (kk : ex C n r ((⟨s.env, (s.next, ⟨sz, m.rows.take k ++ rows⟩) :: dropM b s.mem, s.next + 1⟩ : AS).put d (.ps s.next sz 0 (k + rows.length))) Q) :
  after C n r s Q ⟨d, .call ⟨.builtin .append, #[x, y], #[t, tx]⟩, u, pos, af, g⟩ none := zdE (znX (znY hT rfl ht hz htx hx hm hy hc hp.2 hrows)) kk
end
def QUp (Q Q' : Lab → AS → Prop) : Prop := ∀ l s, (∀ k, l ≠ Lab.lp k) → Q l s → Q' l s
theorem zf8 {b : Nat} {l : List (Int × Int × Int)} : zb1 b 3 (rws zaD l) := zh2 zbJ (fun x => ⟨rfl, fun a ha => by
 simp only [zaD, List.mem_cons, List.not_mem_nil, or_false] at ha
 rcases ha with rfl | rfl | rfl <;> rfl⟩)
theorem znc {ρ : Nat → Option Nat} {mem M : List (Nat × MB)} (h : gMem ρ mem M := by (repeat' (first | exact trivial | exact .inl ⟨rfl, rfl⟩ | exact .inr ⟨_, _, rfl, rfl, rfl, .rows (zcT zbh _)⟩ | exact .inr ⟨_, _, rfl, rfl, rfl, .rows (zcT zan _)⟩ | exact .inr ⟨_, _, rfl, rfl, rfl, .rows (zcT zak _)⟩ | exact .inr ⟨_, _, rfl, rfl, rfl, .rows (zcT zaR _)⟩ | exact .inr ⟨_, _, rfl, rfl, rfl, .rows (zcT zbJ _)⟩ | exact .inr ⟨_, _, rfl, rfl, rfl, .rows (vrows_cl _)⟩ | exact .inr ⟨_, _, rfl, rfl, rfl, .rows (mrows_cl _)⟩ | (refine .inr ⟨_, _, rfl, rfl, rfl, zl3 ?_⟩; (repeat' (first | exact trivial | exact .inr (.inr ⟨.refl _, Cl.v _⟩) | exact .inr (.inr ⟨.refl _, Cl.vec⟩) | exact .inr (.inr ⟨.refl _, Cl.mat⟩) | exact .inr (.inr ⟨.refl _, Cl.u32s⟩) | exact .inl ⟨_, _, _, _, _, rfl, rfl, rfl⟩ | exact .inr (.inl ⟨_, _, _, rfl, rfl⟩) | exact .inr (.inr ⟨.refl _, zdk⟩) | refine And.intro ?_ ?_))) | refine And.intro ?_ ?_))) : gMem ρ mem M := h
def rawV (b : Blk) (f : Int) : Int := if b.k = 11 ∨ b.k = 1 ∨ b.k = 2 then (zdW b.vn b.ve f).toInt else 0
def rawU (b : Blk) (f : Int) : Int := if b.k = 11 then (zdW b.un b.ue f).toInt else 0
def rawI (b : Blk) (f : Int) : Int := if b.k = 2 then (zdW b.vn b.ve f).toInt else 0
def zaY (g : Nat → Int) (n j : Nat) : List Int := (List.range n).map fun i => if i < j then g i else 0
theorem zaC (g : Nat → Int) (n j : Nat) : (zaY g n j).length = n := by unfold zaY; rw [List.length_map, List.length_range]
theorem zfI (g : Nat → Int) (n : Nat) : zaY g n 0 = List.replicate n 0 := by
 refine List.ext_getElem (by rw [zaC, List.length_replicate]) fun i h1 h2 => ?_
 simp [zaY]
theorem zeu (g : Nat → Int) {n j i : Nat} (h : i < n) : (zaY g n j).getD i 0 = if i < j then g i else 0 := by
 rw [zaB (by rw [zaC]; exact h)]
 simp [zaY]
theorem zgR (g : Nat → Int) {n j : Nat} (h : j < n) : (zaY g n j).set j (g j) = zaY g n (j + 1) := by
 refine List.ext_getElem (by rw [List.length_set, zaC, zaC]) fun i h1 h2 => ?_
 rw [List.getElem_set]
 have hi : i < n := by rw [zaC] at h2; exact h2
 have e1 : ∀ (h : i < (zaY g n j).length), (zaY g n j)[i] = if i < j then g i else 0 := fun h => by simp [zaY]
 have e2 : (zaY g n (j + 1))[i] = if i < j + 1 then g i else 0 := by simp [zaY]
 rw [e1, e2]
 split
 ·rename_i e; subst e; rw [if_pos (by omega)]
 ·by_cases h : i < j
  ·rw [if_pos h, if_pos (by omega)]
  ·rw [if_neg h, if_neg (by omega)]
theorem zfJ (g : Nat → Int) {n j : Nat} (h : g j = 0) : zaY g n (j + 1) = zaY g n j := by
 refine List.ext_getElem (by rw [zaC, zaC]) fun i h1 h2 => ?_
 simp only [zaY, List.getElem_map, List.getElem_range]
 by_cases h : i < j
 ·rw [if_pos h, if_pos (by omega)]
 ·rw [if_neg h]
  by_cases e : i = j
  ·subst e; rw [if_pos (by omega)]; assumption
  ·rw [if_neg (by omega)]
def clK (bs : List Blk) (k : Nat) : List Int := ((List.range k).filter fun i => decide ((bs.getD i Blk.zero).k = 11)).map fun (i : Nat) => (i : Int)
def clB (bs : List Blk) : List Int := clK bs bs.length
theorem clK_yes {bs : List Blk} {k : Nat} (h : (bs.getD k Blk.zero).k = 11) : clK bs (k + 1) = clK bs k ++ [(k : Int)] := by
 unfold clK; rw [List.range_succ, List.filter_append, List.map_append]; simp only [List.filter_cons, h, decide_true, if_true, List.filter_nil, List.map_cons, List.map_nil]
theorem clK_no {bs : List Blk} {k : Nat} (h : ¬ (bs.getD k Blk.zero).k = 11) : clK bs (k + 1) = clK bs k := by
 unfold clK; rw [List.range_succ, List.filter_append, List.map_append]; simp only [List.filter_cons, h, decide_false, Bool.false_eq_true, if_false, List.filter_nil, List.map_nil, List.append_nil]
theorem clK_le (bs : List Blk) (k : Nat) : (clK bs k).length ≤ k := by
 unfold clK; rw [List.length_map]; exact Nat.le_trans (List.length_filter_le ..) (by rw [List.length_range]; exact Nat.le_refl _)
theorem clB_at {bs : List Blk} {k : Nat} (h : k < (clB bs).length) : 0 ≤ (clB bs).getD k 0 ∧ ((clB bs).getD k 0).toNat < bs.length ∧ (bs.getD ((clB bs).getD k 0).toNat Blk.zero).k = 11 := by
 have hm : (clB bs).getD k 0 ∈ clB bs := by rw [zaB h]; exact List.getElem_mem _
 generalize (clB bs).getD k 0 = x at *
 obtain ⟨i, hi, rfl⟩ := List.mem_map.1 hm
 obtain ⟨h1, h2⟩ := List.mem_filter.1 hi
 exact ⟨by omega, by simpa using List.mem_range.1 h1, by simpa using h2⟩
def zdS (n : Nat) (D : List Int) : Nat → List Int
 | 0 => List.replicate n 0
 | k + 1 => (zdS n D k).set (D.getD k 0).toNat ((n + k : Nat) : Int)
def zd1 (n m : Nat) (C0 L : List Int) : Nat → List Int
 | 0 => C0
 | k + 1 => (zd1 n m C0 L k).set (L.getD k 0).toNat ((n + m + 2 * k : Nat) : Int)
def zic (I0 V U L : List Int) : Nat → List Int
 | 0 => I0
 | k + 1 => zic I0 V U L k ++ [V.getD (L.getD k 0).toNat 0, U.getD (L.getD k 0).toNat 0]
theorem zcs (n : Nat) (D : List Int) : ∀ k, (zdS n D k).length = n
 | 0 => List.length_replicate
 | k + 1 => by unfold zdS; rw [List.length_set]; exact zcs n D k
theorem zek (n m : Nat) (C0 L : List Int) : ∀ k, (zd1 n m C0 L k).length = C0.length
 | 0 => rfl
 | k + 1 => by unfold zd1; rw [List.length_set]; exact zek n m C0 L k
theorem zey (I0 V U L : List Int) : ∀ k, (zic I0 V U L k).length = I0.length + 2 * k
 | 0 => rfl
 | k + 1 => by unfold zic; rw [List.length_append, zey I0 V U L k]; simp only [List.length_cons, List.length_nil]; omega
def zib (ins : List (Int × Int × Int)) (fr cell V : List Int) (i : Nat) (b : Blk) : List Ins :=
 let f := fr.getD i 0
 let fp := fr.getD (b.at 0) 0
 let fq := fr.getD (b.at 1) 0
 let p : Int := (b.at 0 : Nat)
 let q : Int := (b.at 1 : Nat)
 let c := cell.getD i 0
 if b.k = 0 then [⟨0, i, p, 0, f - (ins.getD (b.at 0) (0, 0, 0)).2.2, 0, 0⟩]
 else if b.k = 1 then [⟨1, i, 0, 0, 0, 0, V.getD i 0⟩]
 else if b.k = 6 then [⟨6, i, p, 0, f - fp + b.ve, 0, b.vn⟩]
 else if b.k = 7 then [⟨7, i, p, q, f - fp - fq, 0, 0⟩]
 else if b.k = 11 then [⟨9, i, p, c, f - fp, 0, 0⟩, ⟨8, i, i, c + 1, 0, 0, 0⟩]
 else if b.k = 5 then [⟨5, i, p, 0, f - fp, 0, 0⟩]
 else if b.k = 10 then [⟨10, i, p, 0, f - fp, 0, 0⟩]
 else [⟨b.k, i, p, q, f - fp, f - fq, 0⟩]
def zbr (ins : List (Int × Int × Int)) (bs : List Blk) (fr cell V O : List Int) : Nat → List Ins
 | 0 => []
 | k + 1 => zbr ins bs fr cell V O k ++ zib ins fr cell V (O.getD k 0).toNat (bs.getD (O.getD k 0).toNat Blk.zero)
def mv1 (bs : List Blk) (fr cell D : List Int) (k : Nat) : Ins :=
 ⟨2, cell.getD (D.getD k 0).toNat 0, ((bs.getD (D.getD k 0).toNat Blk.zero).at 0 : Nat), 0, fr.getD (D.getD k 0).toNat 0 - fr.getD ((bs.getD (D.getD k 0).toNat Blk.zero).at 0) 0, 0, 0⟩
def mv2 (cell D : List Int) (k : Nat) : Ins := ⟨2, D.getD k 0, cell.getD (D.getD k 0).toNat 0, 0, 0, 0, 0⟩
def za9 (l : List Ins) (g : Nat → Ins) : Nat → List Ins
 | 0 => l
 | k + 1 => za9 l g k ++ [g k]
theorem zcQ (l : List Ins) (g : Nat → Ins) : ∀ k, (za9 l g k).length = l.length + k
 | 0 => rfl
 | k + 1 => by unfold za9; rw [List.length_append, zcQ l g k]; rfl
theorem zpy {C : Cx} (hT : zam C.P C.ti) (hmx : C.P.follows .mixedOrders = true) {f : FuncId} {fn : Func} {c : Code} {args : List AV} {res : AV} (q n : Nat) (hent : zbS C.P f) (hf : C.P.funcs[f]? = some fn) (hb : fn.body = some c) (hnt : fn.ntmps = C.nt) (hargs : args.length ≤ C.nt)
  (hcl : ∀ x ∈ args, Cl x) (hres : Cl res) (h : ex C n (its (zbd q c)) (entry args) (Ends C.ti fn.results.toList res)) (hpn : C.pn = false := by rfl) (hkp : C.kp = [] := by rfl) : CallOK C.P C.G f args res := by
 refine ⟨hent, hcl, hres, fun S w vs hS hgs hsz hr => ?_⟩
 refine calls_of_wp hf hb ?_
 have hlen : (vs ++ Array.replicate (fn.ntmps - vs.size) undef).size = C.nt := by simp [hnt, hsz]; omega
 have hsim : Sim ⟨fun _ => False, C.G, none, [], []⟩ S w C.nt (entry args) { tmps := vs ++ Array.replicate (fn.ntmps - vs.size) undef, defers := [] } w := by
  refine ⟨⟨rfl, fun p hp => by cases hp⟩, hlen, nσ, S, ⟨Bel.refl (fun g l hg => ⟨id, (hgs g l hg).2⟩), (fun b k h => by cases h), (fun b b' k m m' h => by simp [entry, look] at h), hS, (fun _ h => h), (fun _ h => .inl h), ⟨fun g l hg => (hgs g l hg).1, fun k hk => by cases hk⟩, (fun b m h => by simp [entry, look] at h)⟩, fun t av ht => ?_⟩
  obtain ⟨_, h2⟩ := zbK args 0 t av ht
  simp only [Nat.sub_zero] at h2
  have hlt : t < vs.size := by rw [hsz]; exact (List.getElem?_eq_some_iff.1 h2).1
  exact ⟨vs[t], by simp [Array.getElem?_append, hlt], hr t _ av (by simp [hlt]) h2⟩
 have fin : ∀ (e : Exit) (s : AS) (a : Act) (w' : World), (e = .normal ∨ e = .ret) → Fin s.mem (resL C.ti s fn.results.toList) res → Sim ⟨fun _ => False, C.G, none, [], []⟩ S w C.nt s a w' → bodyPost C.P fn (fun e w' => Below w.heap.size w w' ∧ ∃ x, e = .returned x ∧ Rel nσ (zf4 S w w') w' x res) e a w' := fun e s a w' he hq hs => ?_
 ·refine ziu (M := fun _ _ _ => False) q c _ w ?_
  exact zbb (D := ⟨fun _ => False, C.G, none, [], []⟩) (S0 := S) (w0 := w) (R := bodyPost C.P fn fun e w' => Below w.heap.size w w' ∧ ∃ x, e = .returned x ∧ Rel nσ (zf4 S w w') w' x res) (M := fun _ _ _ => False) hT ⟨rfl, fun _ => rfl, hkp.symm⟩ hmx n _ _ _ h _ _ hsim
   ⟨fun s a w q hs => fin _ s a w (.inl rfl) q.2 hs, fun s a w q hs => fin _ s a w (.inr rfl) q.2 hs, fun k s a w q hs => (by rcases q.1 with q | q <;> cases q), fun hp => (by rw [hpn] at hp; cases hp)⟩
 ·obtain ⟨p, l, b, hr1, hp1, hpub, hle⟩ := hq
  obtain ⟨hd, hn, σ, S', hF, hE⟩ := hs
  have hv := zch (P := C.P) hT hF hE hr1 hp1
  obtain ⟨v, hv1, hv2⟩ := hv
  have hfin : Below w.heap.size w w' ∧ ∃ x, Ending.returned v = .returned x ∧ Rel nσ (zf4 S w w') w' x res := by
   refine ⟨hF.below.none, v, rfl, ?_⟩
   have h1 := hle _ _ _ _ (zeP hF hv2 hpub)
   refine (hres _ _ _ _ h1).mono (fun _ _ h => h) (fun k hk => ?_) zaF
   rcases hk with hk | ⟨b, m, hm, hσ⟩
   ·rcases hF.s1 k hk with hk' | hk'
    ·exact .inl hk'
    ·exact .inr ⟨hk'.resolve_right id, hF.sbd k hk⟩
   ·obtain ⟨k', c', e', g1, g2, _⟩ := (hF.mem b m hm).named hσ
    have : k' = k := Option.some.inj (g1.symm.trans hσ)
    subst this
    exact .inr ⟨g2.resolve_right id, (hF.dom b _ hσ).2⟩
  rcases he with rfl | rfl
  ·exact ⟨hd.1, v, hv1, hfin⟩
  ·exact ⟨hd.1, v, hv1, hfin⟩
theorem zdO {a b : Int} (h : a ≤ b) : (a : Rat) ≤ b := Rat.intCast_le_intCast.2 h
theorem intQ_lt {a b : Int} (h : a < b) : (a : Rat) < b := Rat.intCast_lt_intCast.2 h
def Apx (F : Nat) (c : Int) (x e : Rat) : Prop := (x - e) * 2 ^ F ≤ c ∧ (c : Rat) ≤ (x + e) * 2 ^ F
theorem Apx.mono {F : Nat} {c : Int} {x e e' : Rat} (h : Apx F c x e) (he : e ≤ e') : Apx F c x e' := by
 have h1 := zau (zbt F) (show x - e' ≤ x - e by grind)
 have h2 := zau (zbt F) (show x + e ≤ x + e' by grind)
 obtain ⟨g1, g2⟩ := h
 exact ⟨Rat.le_trans h1 g1, Rat.le_trans g2 h2⟩
theorem znx {z k : Int} {P Q : Nat} (hk : k = (P : Int) - Q) (h : k < 0) : scl z k * 2 ^ Q ≤ z * 2 ^ P ∧ z * 2 ^ P < (scl z k + 1) * 2 ^ Q := by
 unfold scl
 rw [if_pos h]
 obtain ⟨j, hj⟩ : ∃ j : Nat, (-k).toNat = j := ⟨_, rfl⟩
 obtain rfl : Q = P + j := by omega
 rw [hj]
 have hD : (0 : Int) < 2 ^ j := Int.pow_pos (by omega)
 have hP : (0 : Int) < 2 ^ P := Int.pow_pos (by omega)
 have e1 : (2 : Int) ^ (P + j) = 2 ^ j * 2 ^ P := by rw [Int.pow_add, Int.mul_comm]
 rw [e1, ← Int.mul_assoc, ← Int.mul_assoc]
 constructor
 ·exact Int.mul_le_mul_of_nonneg_right (Int.ediv_mul_le z (by omega)) (by omega)
 ·refine Int.mul_lt_mul_of_pos_right ?_ hP
  have := Int.lt_ediv_add_one_mul_self z hD
  exact this
theorem zkI {z k : Int} {P Q : Nat} (hk : k = (P : Int) - Q) (h : 0 ≤ k) (hz : -4294967296 ≤ z ∧ z ≤ 4294967296) : scl z k * 2 ^ Q = z * 2 ^ P := by
 unfold scl
 rw [if_neg (by omega), show clp z = z by unfold clp; omega]
 obtain rfl : P = k.toNat + Q := by omega
 rw [Int.pow_add, Int.mul_assoc]
theorem zny {z k : Int} {P Q : Nat} {t w : Rat} (hk : k = (P : Int) - Q) (h1 : (t - w) * 2 ^ Q ≤ (z : Rat) * 2 ^ P) (h2 : (z : Rat) * 2 ^ P ≤ (t + w) * 2 ^ Q) (hb : 0 ≤ k → t + w ≤ 4294967296 ∧ -4294967296 ≤ t - w) :
  t - (w + if k < 0 then 1 else 0) ≤ (scl z k : Rat) ∧ (scl z k : Rat) ≤ t + w := by
 have eP : (((2 : Int) ^ P : Int) : Rat) = 2 ^ P := zdI P
 have eQ : (((2 : Int) ^ Q : Int) : Rat) = 2 ^ Q := zdI Q
 have hQ := zbt Q
 by_cases h : k < 0
 ·rw [if_pos h]
  obtain ⟨g1, g2⟩ := znx (z := z) hk h
  have g1 := zdO g1
  have g2 := intQ_lt g2
  rw [Rat.intCast_mul, Rat.intCast_mul, eP, eQ] at g1 g2
  rw [Rat.intCast_add] at g2
  constructor
  ·have h3 : (t - w) * 2 ^ Q < ((scl z k : Rat) + ((1 : Int) : Rat)) * 2 ^ Q := by grind
   have h4 : t - w < (scl z k : Rat) + ((1 : Int) : Rat) := Rat.lt_of_mul_lt_mul_right h3 (Rat.le_of_lt hQ)
   have : ((1 : Int) : Rat) = 1 := rfl
   grind
  ·exact zaZ hQ (Rat.le_trans g1 h2)
 ·rw [if_neg h]
  obtain ⟨b1, b2⟩ := hb (by omega)
  obtain ⟨j, rfl⟩ : ∃ j, P = j + Q := ⟨k.toNat, by omega⟩
  have e1 : (2 : Rat) ^ (j + Q) = 2 ^ j * 2 ^ Q := zbY j Q
  rw [e1, ← Rat.mul_assoc] at h1 h2
  have h1 := zaZ hQ h1
  have h2 := zaZ hQ h2
  have hz1 : (z : Rat) * 2 ^ j ≤ ((4294967296 : Int) : Rat) := Rat.le_trans h2 b1
  have hz2 : ((-4294967296 : Int) : Rat) ≤ (z : Rat) * 2 ^ j := Rat.le_trans b2 h1
  rw [← zdI j, ← Rat.intCast_mul, Rat.intCast_le_intCast] at hz1 hz2
  have hp : (1 : Int) ≤ 2 ^ j := Int.pow_pos (by omega)
  have hz : -4294967296 ≤ z ∧ z ≤ 4294967296 := by
   generalize (2 : Int) ^ j = D at *
   constructor
   ·refine Decidable.byContradiction fun hc => ?_
    have := Int.mul_le_mul_of_nonneg_right (show z ≤ -4294967297 by omega) (show 0 ≤ D by omega)
    omega
   ·refine Decidable.byContradiction fun hc => ?_
    have := Int.mul_le_mul_of_nonneg_right (show 4294967297 ≤ z by omega) (show 0 ≤ D by omega)
    omega
  have e2 : scl z k = z * 2 ^ j := by
   unfold scl
   rw [if_neg h, show clp z = z by unfold clp; omega, show k.toNat = j by omega]
  rw [e2, Rat.intCast_mul, zdI]
  constructor <;> grind
theorem apx_move {F G : Nat} {c k : Int} {x e u : Rat} (hk : k = (F : Int) - G) (h : Apx G c x e) (hc : i32 c) (hu : u * 2 ^ F = 1) : Apx F (scl c k) x (if G ≤ F then e else e + u) := by
 obtain ⟨g1, g2⟩ := h
 have hF := zbt F
 have hG := zbt G
 unfold i32 at hc
 by_cases hg : G ≤ F
 ·rw [if_pos hg]
  have h0 := zdO (Int.le_of_eq (zkI (z := c) hk (by omega) (by omega)))
  have h0' := zdO (Int.le_of_eq (zkI (z := c) hk (by omega) (by omega)).symm)
  rw [Rat.intCast_mul, Rat.intCast_mul, zdI, zdI] at h0 h0'
  have a1 := zau hF g1
  have a2 := zau hF g2
  constructor
  ·refine zaZ hG ?_
   grind
  ·refine zaZ hG ?_
   grind
 ·rw [if_neg hg]
  have a1 := zau hF g1
  have a2 := zau hF g2
  obtain ⟨q1, q2⟩ := zny (z := c) (k := k) (P := F) (Q := G) (t := x * 2 ^ F) (w := e * 2 ^ F) hk (by grind) (by grind) (by omega)
  rw [if_pos (by omega)] at q1
  constructor
  ·grind
  ·grind
theorem Apx.add {F : Nat} {a b : Int} {x y e d : Rat} (h : Apx F a x e) (g : Apx F b y d) : Apx F (a + b) (x + y) (e + d) := by
 obtain ⟨h1, h2⟩ := h
 obtain ⟨g1, g2⟩ := g
 unfold Apx
 rw [Rat.intCast_add]
 constructor <;> grind
theorem Apx.neg {F : Nat} {a : Int} {x e : Rat} (h : Apx F a x e) : Apx F (-a) (-x) e := by
 obtain ⟨h1, h2⟩ := h
 unfold Apx
 rw [Rat.intCast_neg]
 constructor <;> grind
theorem Apx.sub {F : Nat} {a b : Int} {x y e d : Rat} (h : Apx F a x e) (g : Apx F b y d) : Apx F (a - b) (x - y) (e + d) := by
 have := h.add g.neg
 rw [← Int.sub_eq_add_neg] at this
 rwa [show x - y = x + -y by grind]
theorem Apx.mx {F : Nat} {a b : Int} {x y : Dy} {e : Rat} (h : Apx F a x.v e) (g : Apx F b y.v e) : Apx F (max a b) (x.max y).v e := by
 have hp := zbt F
 obtain ⟨h1, h2⟩ := h
 obtain ⟨g1, g2⟩ := g
 have l1 := zbC x y
 have l2 := zbW x y
 unfold Apx
 constructor
 ·rcases zkZ x y with q | q <;> rw [q]
  ·exact Rat.le_trans h1 (zdO (Int.le_max_left a b))
  ·exact Rat.le_trans g1 (zdO (Int.le_max_right a b))
 ·by_cases hab : a ≤ b
  ·rw [Int.max_eq_right hab]
   exact Rat.le_trans g2 (zau hp (by grind))
  ·rw [Int.max_eq_left (by omega)]
   exact Rat.le_trans h2 (zau hp (by grind))
theorem Apx.mn {F : Nat} {a b : Int} {x y : Dy} {e : Rat} (h : Apx F a x.v e) (g : Apx F b y.v e) : Apx F (min a b) (x.min y).v e := by
 have hp := zbt F
 obtain ⟨h1, h2⟩ := h
 obtain ⟨g1, g2⟩ := g
 have l1 := zck x y
 have l2 := zdM x y
 unfold Apx
 constructor
 ·by_cases hab : a ≤ b
  ·rw [Int.min_eq_left hab]
   exact Rat.le_trans (zau hp (by grind)) h1
  ·rw [Int.min_eq_right (by omega)]
   exact Rat.le_trans (zau hp (by grind)) g1
 ·rcases zkX x y with q | q <;> rw [q]
  ·exact Rat.le_trans (zdO (Int.min_le_left a b)) h2
  ·exact Rat.le_trans (zdO (Int.min_le_right a b)) g2
theorem abs_max (x : Dy) : x.abs.v = (x.max x.neg).v := by
 rw [Dy.v_abs, Dy.v_max, Dy.v_neg]
 split <;> split <;> grind
theorem Apx.ab {F : Nat} {a : Int} {x : Dy} {e : Rat} (h : Apx F a x.v e) : Apx F (max a (-a)) x.abs.v e := by
 rw [abs_max]
 refine h.mx ?_
 rw [Dy.v_neg]
 exact h.neg
theorem zbG {n k : Int} (hk : -1000 ≤ k ∧ k ≤ 1000) : ((Dy.int n).shift k).v * 2 ^ (-k).toNat = n * 2 ^ k.toNat := by
 by_cases h : k < 0
 ·obtain ⟨j, rfl⟩ : ∃ j : Nat, k = -(j : Int) := ⟨(-k).toNat, by omega⟩
  have hd : (Dy.int n).d = 0 := rfl
  rw [zgL (by rw [hd]; omega), Dy.v_int, show (- -(j : Int)).toNat = j by omega, show (-(j : Int)).toNat = 0 by omega, Rat.div_mul_cancel (p2ne j)]
  have : (2 : Rat) ^ 0 = 1 := rfl
  grind
 ·obtain ⟨j, rfl⟩ : ∃ j : Nat, k = (j : Int) := ⟨k.toNat, by omega⟩
  rw [zbX (by omega), Dy.v_int, show (-(j : Int)).toNat = 0 by omega, show ((j : Int)).toNat = j by omega]
  have : (2 : Rat) ^ 0 = 1 := rfl
  grind
theorem znA {n e : Int} (he : -62 ≤ e ∧ e ≤ 30) {F : Nat} (hF : F ≤ 30) : (scN n e).shift F = (Dy.int n).shift (e + F) := by
 refine Dy.ext_v ?_
 rw [zbX (by omega)]
 have h1 := zbG (n := n) (k := e) (by omega)
 have h2 := zbG (n := n) (k := e + F) (by omega)
 unfold scN
 generalize ((Dy.int n).shift e).v = X at *
 generalize ((Dy.int n).shift (e + F)).v = Y at *
 refine zep (d := (-e).toNat + (-(e + F)).toNat) ?_
 rw [zbY]
 by_cases c1 : e < 0
 ·by_cases c2 : e + F < 0
  ·have e1 : (-e).toNat = (-(e + F)).toNat + F := by omega
   rw [show e.toNat = 0 by omega] at h1
   rw [show (e + F).toNat = 0 by omega] at h2
   rw [e1, zbY] at h1 ⊢
   grind
  ·have e1 : F = (-e).toNat + (e + F).toNat := by omega
   have e2 : (2 : Rat) ^ F = 2 ^ (-e).toNat * 2 ^ (e + F).toNat := by rw [← zbY, ← e1]
   rw [show e.toNat = 0 by omega] at h1
   rw [show (-(e + F)).toNat = 0 by omega] at h2 ⊢
   rw [e2]
   grind
 ·have e2 : (2 : Rat) ^ (e + F).toNat = 2 ^ e.toNat * 2 ^ F := by rw [← zbY]; congr 1; omega
  rw [show (-e).toNat = 0 by omega] at h1 ⊢
  rw [show (-(e + F)).toNat = 0 by omega] at h2 ⊢
  rw [e2] at h2
  grind
theorem zjy {F : Nat} (hF : F ≤ 30) : (zai (F : Int)).v * 2 ^ F = 1 := by
 have h := zbG (n := 1) (k := 0 - (F : Int)) (by omega)
 rw [show (-(0 - (F : Int))).toNat = F by omega, show (0 - (F : Int)).toNat = 0 by omega] at h
 unfold zai
 rw [h]
 have e1 : (((1 : Int)) : Rat) = 1 := rfl
 have e2 : (2 : Rat) ^ 0 = 1 := rfl
 rw [e1, e2]
 grind
theorem toInt_v {x : Dy} (h : x.fits = true) : ((x.toInt : Int) : Rat) = x.v := by
 unfold Dy.toInt
 rw [if_pos h]
 have h := of_decide_eq_true h
 have := x.v_mul
 rw [h.1] at this
 have e : (2 : Rat) ^ 0 = 1 := rfl
 grind
theorem ziK {n e : Int} (hs : zbO n e) {F : Nat} (hF : F ≤ 30) (h : zb5 n e F = true) {u : Rat} (hu : u = (zai (F : Int)).v) : Apx F (zdW n e F).toInt (scN n e).v (if zbp (scN n e) F = true then 0 else u) ∧ i32 (zdW n e F).toInt ∧ ((zdW n e F).toInt : Rat) ≤ (scN n e).v * 2 ^ F := by
 unfold zb5 at h
 rw [Bool.and_eq_true] at h
 have h2 := of_decide_eq_true h.2
 have hv := toInt_v h.1
 have e1 : zdW n e F = ((scN n e).shift F).floor 0 := by unfold zdW; rw [znA hs.2 hF]
 obtain ⟨f1, f2⟩ := Dy.v_floor ((scN n e).shift F) (den := 0) (by omega)
 rw [← e1, ← hv] at f1 f2
 have e2 : ((scN n e).shift F).v = (scN n e).v * 2 ^ F := zbX (by omega)
 have u1 := zjy hF
 rw [← hu] at u1
 refine ⟨?_, h2, by rw [← e2]; exact f1⟩
 unfold Apx
 by_cases hw : zbp (scN n e) F = true
 ·rw [if_pos hw]
  unfold zbp at hw
  have hw := of_decide_eq_true hw
  have : ((scN n e).shift F).floor 0 = (scN n e).shift F := Dy.floor_fine (by unfold dn at hw; omega) (by omega)
  rw [hv, e1, this, e2]
  constructor <;> grind
 ·rw [if_neg hw]
  have : (1 : Rat) / 2 ^ 0 = 1 := by decide +kernel
  rw [this] at f2
  have hp := zbt F
  constructor
  ·grind
  ·have hu0 : 0 ≤ u := by
    refine zaZ hp ?_
    rw [u1]
    have : (0 : Rat) * 2 ^ F = 0 := by grind
    rw [this]; decide
   have := Rat.mul_nonneg hu0 (Rat.le_of_lt hp)
   grind
set_option maxHeartbeats 400000
theorem zn5 {a b : Iv} {x : Dy} (h : a.ins b = true) (hx : a.On x) : b.On x := by
 have h := of_decide_eq_true h
 exact ⟨Rat.le_trans h.1 hx.1, Rat.le_trans hx.2 h.2⟩
theorem zmE (x : Dy) : (Iv.pt x).On x := ⟨Rat.le_refl, Rat.le_refl⟩
theorem dn_pt {x : Dy} {k : Nat} (h : x.d ≤ k) : (Iv.pt x).Dn k := ⟨h, h⟩
theorem dn_sp2 {x y : Dy} {k : Nat} (h : x.d ≤ k) (g : y.d ≤ k) : (Iv.sp2 x y).Dn k := by
 unfold Iv.sp2 Iv.Dn Dy.min Dy.max
 simp only []
 constructor <;> split <;> assumption
theorem on_sp2 {x y z : Dy} (h1 : x.v ≤ z.v) (h2 : z.v ≤ y.v) : (Iv.sp2 x y).On z := ⟨Rat.le_trans (zck x y) h1, Rat.le_trans h2 (zbW x y)⟩
theorem znB {n e : Int} (h : -62 ≤ e ∧ e ≤ 30) : (scN n e).d ≤ 62 := by
 unfold scN Dy.shift
 have hc : zbe e = e := by unfold zbe; omega
 rw [hc]
 have hd : (Dy.int n).d = 0 := rfl
 rw [hd]
 split
 ·refine Nat.le_trans (Dy.d_nrm (by omega)) (by omega)
 ·refine Nat.le_trans (Dy.d_nrm (by omega)) (by omega)
theorem znv {n : Int} {f : Nat} (h : f ≤ 62) : ((Dy.int n).shift (-(f : Int))).d ≤ 62 := znB (n := n) (e := -(f : Int)) (by omega)
theorem znu {n : Int} {f : Nat} (h : f ≤ 62) : (Dy.int n).shift (-(f : Int)) = (Dy.int n).mul ((Dy.int 1).shift (-(f : Int))) := by
 have h1 := zbG (n := n) (k := -(f : Int)) (by omega)
 have h2 := zbG (n := 1) (k := -(f : Int)) (by omega)
 have hd := znv (n := 1) h
 refine Dy.ext_v ?_
 rw [Dy.v_mul_of _ _ (by show 0 + _ ≤ _; omega), Dy.v_int]
 rw [show (- -(f : Int)).toNat = f by omega, show (-(f : Int)).toNat = 0 by omega] at h1 h2
 have e0 : (2 : Rat) ^ 0 = 1 := rfl
 have e1 : ((1 : Int) : Rat) = 1 := rfl
 rw [e0] at h1 h2
 rw [e1] at h2
 refine zep (d := f) ?_
 rw [h1, Rat.mul_assoc, h2]
 grind
section
variable {ins : List (Int × Int × Int)} {inp : List Int} {R : List Iv} {V : List Dy} {N : Nat} {b : Blk}
theorem exB_on (hb : BlkOK ins.length N b) (hk : b.k ≠ 2) (hP : ∀ i, i < ins.length → zbu (ins.getD i (0, 0, 0))) (hI : ∀ i, i < ins.length → (ins.getD i (0, 0, 0)).1 ≤ inp.getD i 0 ∧ inp.getD i 0 ≤ (ins.getD i (0, 0, 0)).2.1)
  (hR : ∀ i, i < N → (R.getD i Iv.zero).Dn 4096) (ho : ∀ a ∈ zhz b, (R.getD a.toNat Iv.zero).On (V.getD a.toNat Dy.zero)) (hd : ∀ a ∈ zhz b, (V.getD a.toNat Dy.zero).d ≤ 4096) : (rnB ins R b).On (exB ins inp V b) := by
 have hk1 := hb.kind
 have hbf : b.k ≠ 0 → zhz b = b.a := fun h0 => by unfold zhz; rw [if_neg (by omega)]
 unfold rnB exB
 simp only []
 by_cases h0 : b.k = 0
 ·rw [if_pos h0, if_pos h0]
  have hp := (hb.inp h0).1
  obtain ⟨⟨q1, q2⟩, q3, q4, q5⟩ := hP _ hp
  obtain ⟨i1, i2⟩ := hI _ hp
  generalize ins.getD (b.at 0) (0, 0, 0) = p at *
  generalize inp.getD (b.at 0) 0 = n at *
  obtain ⟨f, hf⟩ : ∃ f : Nat, p.2.2 = (f : Int) := ⟨p.2.2.toNat, by omega⟩
  rw [hf, znu (n := n) (by omega)]
  have o1 : (Iv.sp2 (Dy.int p.1) (Dy.int p.2.1)).On (Dy.int n) := on_sp2 (zlv.2 i1) (zlv.2 i2)
  have dI : (Iv.sp2 (Dy.int p.1) (Dy.int p.2.1)).Dn 4096 := dn_sp2 (Nat.zero_le _) (Nat.zero_le _)
  have ds : ((Dy.int 1).shift (-(f : Int))).d ≤ 4096 := Nat.le_trans (znv (by omega)) (by omega)
  have dn : (Dy.int n).d ≤ 4096 := Nat.zero_le _
  generalize (Dy.int 1).shift (-(f : Int)) = u at *
  generalize Dy.int n = x at *
  generalize Iv.sp2 (Dy.int p.1) (Dy.int p.2.1) = I at *
  exact zn4 (by omega) o1 (zmE u) dI (dn_pt ds) dn ds
 rw [if_neg h0, if_neg h0]
 rw [hbf h0] at ho hd
 by_cases h1 : b.k = 1
 ·rw [if_pos h1, if_pos h1]; exact zmE _
 rw [if_neg h1, if_neg h1]
 have two : b.a.length = 2 → b.a = [((b.at 0 : Nat) : Int), ((b.at 1 : Nat) : Int)] → ((R.getD (b.at 0) Iv.zero).On (V.getD (b.at 0) Dy.zero) ∧ (V.getD (b.at 0) Dy.zero).d ≤ 4096) ∧ (R.getD (b.at 1) Iv.zero).On (V.getD (b.at 1) Dy.zero) ∧ (V.getD (b.at 1) Dy.zero).d ≤ 4096 := fun _ ha => by
  rw [ha] at ho hd
  have o1 := ho _ (List.mem_cons_self ..)
  have o2 := ho _ (List.mem_cons_of_mem _ (List.mem_cons_self ..))
  have d1 := hd _ (List.mem_cons_self ..)
  have d2 := hd _ (List.mem_cons_of_mem _ (List.mem_cons_self ..))
  rw [Int.toNat_natCast] at o1 o2 d1 d2
  exact ⟨⟨o1, d1⟩, o2, d2⟩
 have one : b.a = [((b.at 0 : Nat) : Int)] → (R.getD (b.at 0) Iv.zero).On (V.getD (b.at 0) Dy.zero) ∧ (V.getD (b.at 0) Dy.zero).d ≤ 4096 := fun ha => by
  rw [ha] at ho hd
  have o1 := ho _ (List.mem_cons_self ..)
  have d1 := hd _ (List.mem_cons_self ..)
  rw [Int.toNat_natCast] at o1 d1
  exact ⟨o1, d1⟩
 by_cases h3 : b.k = 3
 ·obtain ⟨ha, hp, hq⟩ := hb.a2 (.inl h3)
  obtain ⟨⟨o1, _⟩, o2, _⟩ := two (by rw [ha]; rfl) ha
  rw [if_pos h3, if_pos h3]; exact on_add o1 o2
 rw [if_neg h3, if_neg h3]
 by_cases h4 : b.k = 4
 ·obtain ⟨ha, hp, hq⟩ := hb.a2 (.inr (.inl h4))
  obtain ⟨⟨o1, _⟩, o2, _⟩ := two (by rw [ha]; rfl) ha
  rw [if_pos h4, if_pos h4]; exact on_sub o1 o2
 rw [if_neg h4, if_neg h4]
 by_cases h7 : b.k = 7
 ·obtain ⟨ha, hp, hq⟩ := hb.a2 (by omega)
  obtain ⟨⟨o1, d1⟩, o2, d2⟩ := two (by rw [ha]; rfl) ha
  rw [if_pos h7, if_pos h7]; exact zn4 (k := 4096) (by omega) o1 o2 (hR _ hp) (hR _ hq) d1 d2
 rw [if_neg h7, if_neg h7]
 by_cases h5 : b.k = 5
 ·obtain ⟨ha, hp⟩ := hb.a1 (by omega)
  rw [if_pos h5, if_pos h5]; exact on_neg (one ha).1
 rw [if_neg h5, if_neg h5]
 by_cases h10 : b.k = 10
 ·obtain ⟨ha, hp⟩ := hb.a1 (by omega)
  rw [if_pos h10, if_pos h10]; exact on_abs (one ha).1
 rw [if_neg h10, if_neg h10]
 by_cases h6 : b.k = 6
 ·obtain ⟨ha, hp⟩ := hb.a1 (by omega)
  have hs := hb.val (by omega)
  have hd6 : b.val.d ≤ 4096 := Nat.le_trans (znB hs.2) (by omega)
  rw [if_pos h6, if_pos h6, Dy.mul_comm b.val]; exact zn4 (k := 4096) (by omega) (one ha).1 (zmE _) (hR _ hp) (dn_pt hd6) (one ha).2 hd6
 rw [if_neg h6, if_neg h6]
 by_cases h8 : b.k = 8
 ·obtain ⟨ha, hp, hq⟩ := hb.a2 (by omega)
  obtain ⟨⟨o1, d1⟩, o2, d2⟩ := two (by rw [ha]; rfl) ha
  rw [if_pos h8, if_pos h8]; exact on_min o1 o2
 rw [if_neg h8, if_neg h8]
 by_cases h9 : b.k = 9
 ·obtain ⟨ha, hp, hq⟩ := hb.a2 (by omega)
  obtain ⟨⟨o1, d1⟩, o2, d2⟩ := two (by rw [ha]; rfl) ha
  rw [if_pos h9, if_pos h9]; exact on_max o1 o2
 rw [if_neg h9, if_neg h9]
 have h11 : b.k = 11 := by omega
 obtain ⟨ha, hp⟩ := hb.a1 (by omega)
 rw [Iv.clip_ref _ (hb.ord h11)]
 exact on_max (zmE _) (on_min (zmE _) (one ha).1)
end
structure CtOK (ins : List (Int × Int × Int)) (bs : List Blk) (outs : List Int) (fr : List Int) (R : List Iv) (E : List Dy) : Prop where
 dg : DgOK ins bs outs
 hf : ∀ i, i < bs.length → 0 ≤ fr.getD i 0 ∧ fr.getD i 0 ≤ 30
 hR : ∀ i, i < bs.length → (R.getD i Iv.zero).Dn 4096
 hE : ∀ i, i < bs.length → 0 ≤ (E.getD i Dy.zero).v ∧ (E.getD i Dy.zero).d ≤ 62
 sc : ∀ i, i < bs.length → scB ins fr (fr.getD i 0) (bs.getD i Blk.zero) = true
 rg : ∀ i, i < bs.length → rgB ins R i (bs.getD i Blk.zero) = true
 bd : ∀ i, i < bs.length → (bdB ins fr R E (fr.getD i 0) (bs.getD i Blk.zero)).v ≤ (E.getD i Dy.zero).v
 ft : ∀ i, i < bs.length → ftB fr R E i (bs.getD i Blk.zero) = true
structure Good (fr : List Int) (R : List Iv) (E : List Dy) (i : Nat) (c : Int) (x : Dy) : Prop where
 ap : Apx (fr.getD i 0).toNat c x.v (E.getD i Dy.zero).v
 on : (R.getD i Iv.zero).On x
 d : x.d ≤ 4096
 i32 : i32 c
theorem abs_bd {x : Dy} {m : Rat} (h : x.abs.v ≤ m) : -m ≤ x.v ∧ x.v ≤ m := by
 rw [Dy.v_abs] at h
 split at h <;> constructor <;> grind
theorem zlU : zcX.v = 2147483647 := by
 unfold zcX
 rw [Dy.v_int]
 rfl
theorem fit_v {a : Iv} {e : Dy} {F : Nat} (hF : F ≤ 30) (h : ((a.mag.add e).shift (F : Int)).cmp zcX ≤ 0) : (a.mag.v + e.v) * 2 ^ F ≤ 2147483647 := by
 have h := (zcr _ _).1 h
 rw [zbX (by omega), Dy.v_add, zlU] at h
 exact h
theorem fit_bd {a : Iv} {e x : Dy} {F : Nat} (hF : F ≤ 30) (h : ((a.mag.add e).shift (F : Int)).cmp zcX ≤ 0) (hx : a.On x) : (x.v + e.v) * 2 ^ F ≤ 2147483647 ∧ -2147483647 ≤ (x.v - e.v) * 2 ^ F := by
 have h := fit_v hF h
 obtain ⟨m1, m2⟩ := abs_bd ((zcr _ _).1 (zj0 hx))
 have hp := zbt F
 have a1 := zau hp (show x.v + e.v ≤ a.mag.v + e.v by grind)
 have a2 := zau hp (show -(a.mag.v + e.v) ≤ x.v - e.v by grind)
 constructor
 ·exact Rat.le_trans a1 h
 ·grind
theorem apx_i32 {F : Nat} {c : Int} {x e : Rat} (h : Apx F c x e) (h1 : (x + e) * 2 ^ F ≤ 2147483647) (h2 : -2147483647 ≤ (x - e) * 2 ^ F) : i32 c := by
 obtain ⟨a1, a2⟩ := h
 have b1 : (c : Rat) ≤ ((2147483647 : Int) : Rat) := Rat.le_trans a2 h1
 have b2 : ((-2147483647 : Int) : Rat) ≤ (c : Rat) := Rat.le_trans h2 a1
 rw [Rat.intCast_le_intCast] at b1 b2
 unfold i32
 omega
set_option maxHeartbeats 1000000
def stI (inp cells : List Int) (x : Ins) : List Int := cells.set x.dst.toNat (stp inp cells x)
def zcG (inp : List Int) : List Int → List Ins → List Int
 | cells, [] => cells
 | cells, x :: r => zcG inp (stI inp cells x) r
def zd0 (inp : List Int) : List Int → List Ins → Prop
 | _, [] => True
 | cells, x :: r => i32 (stp inp cells x) ∧ zd0 inp (stI inp cells x) r
theorem zcV (inp : List Int) : ∀ (a b : List Ins) (cells : List Int), zcG inp cells (a ++ b) = zcG inp (zcG inp cells a) b
 | [], b, cells => rfl
 | x :: a, b, cells => zcV inp a b (stI inp cells x)
theorem zcK (inp : List Int) : ∀ (a b : List Ins) (cells : List Int), zd0 inp cells (a ++ b) ↔ zd0 inp cells a ∧ zd0 inp (zcG inp cells a) b
 | [], b, cells => by show _ ↔ True ∧ _; exact ⟨fun h => ⟨trivial, h⟩, fun h => h.2⟩
 | x :: a, b, cells => by
  have := zcK inp a b (stI inp cells x)
  show _ ∧ zd0 inp (stI inp cells x) (a ++ b) ↔ (_ ∧ _) ∧ zd0 inp (zcG inp (stI inp cells x) a) b
  rw [this]
  exact ⟨fun h => ⟨⟨h.1, h.2.1⟩, h.2.2⟩, fun h => ⟨h.1.1, h.1.2, h.2⟩⟩
theorem ziI (inp : List Int) : ∀ (a : List Ins) (cells : List Int), (zcG inp cells a).length = cells.length
 | [], cells => rfl
 | x :: a, cells => by
  show (zcG inp (stI inp cells x) a).length = _
  rw [ziI inp a]; unfold stI; rw [List.length_set]
theorem zgW (inp : List Int) (code : List Ins) (cells : List Int) : ∀ k, k ≤ code.length → zjs inp code cells k = zcG inp cells (code.take k)
 | 0, _ => by rw [List.take_zero]; rfl
 | k + 1, h => by
  have e : code.take (k + 1) = code.take k ++ [code.getD k Ins.zero] := by
   rw [zaB (by omega)]
   exact (List.take_append_getElem (by omega)).symm
  rw [e, zcV, ← zgW inp code cells k (by omega)]
  rfl
theorem zlP {inp : List Int} {code : List Ins} {cells : List Int} (h : zd0 inp cells code) {k : Nat} (hk : k < code.length) : i32 (stp inp (zjs inp code cells k) (code.getD k Ins.zero)) := by
 have e : code = code.take k ++ (code.getD k Ins.zero :: code.drop (k + 1)) := by
  rw [zaB hk, ← List.drop_eq_getElem_cons hk, List.take_append_drop]
 rw [zgW inp code cells k (by omega)]
 rw [e, zcK] at h
 exact h.2.1
theorem zlC (inp : List Int) (code : List Ins) (cells : List Int) : zjs inp code cells code.length = zcG inp cells code := by
 rw [zgW inp code cells _ (Nat.le_refl _), List.take_length]
theorem ziN {a b r s : Rat} (h1 : -r ≤ a) (h2 : a ≤ r) (g1 : -s ≤ b) (g2 : b ≤ s) : -(r * s) ≤ a * b ∧ a * b ≤ r * s := by
 have hr : 0 ≤ r := by grind
 have hs : 0 ≤ s := by grind
 by_cases ha : 0 ≤ a
 ·have q1 := Rat.mul_le_mul_of_nonneg_left g2 ha
  have q2 := Rat.mul_le_mul_of_nonneg_left g1 ha
  have q3 := Rat.mul_le_mul_of_nonneg_right h2 hs
  constructor <;> grind
 ·have q1 := Rat.mul_le_mul_of_nonneg_left g2 (show 0 ≤ -a by grind)
  have q2 := Rat.mul_le_mul_of_nonneg_left g1 (show 0 ≤ -a by grind)
  have q3 := Rat.mul_le_mul_of_nonneg_right (show -a ≤ r by grind) hs
  constructor <;> grind
theorem ziH {F P Q : Nat} {z k : Int} {x e E u : Rat} (hk : k = (P : Int) - Q) (h1 : (x - e) * 2 ^ F * 2 ^ Q ≤ (z : Rat) * 2 ^ P) (h2 : (z : Rat) * 2 ^ P ≤ (x + e) * 2 ^ F * 2 ^ Q) (hu : u * 2 ^ F = 1) (hE : (e + if k < 0 then u else 0) ≤ E)
  (b1 : (x + E) * 2 ^ F ≤ 2147483647) (b2 : -2147483647 ≤ (x - E) * 2 ^ F) : Apx F (scl z k) x E := by
 have hp := zbt F
 refine Apx.mono (e := e + if k < 0 then u else 0) ?_ hE
 obtain ⟨q1, q2⟩ := zny (z := z) (k := k) (P := P) (Q := Q) (t := x * 2 ^ F) (w := e * 2 ^ F) hk (by rw [show x * 2 ^ F - e * 2 ^ F = (x - e) * 2 ^ F by grind]; exact h1) (by rw [show x * 2 ^ F + e * 2 ^ F = (x + e) * 2 ^ F by grind]; exact h2) (fun h => by
  rw [if_neg (by omega)] at hE
  have a1 := zau hp (show x + e ≤ x + E by grind)
  have a2 := zau hp (show x - E ≤ x - e by grind)
  constructor <;> grind)
 constructor
 ·split
  ·rename_i h; rw [if_pos h] at q1; grind
  ·rename_i h; rw [if_neg h] at q1; grind
 ·split
  ·rename_i h
   have : (0 : Rat) ≤ u * 2 ^ F := by rw [hu]; decide
   grind
  ·grind
theorem scl_up {F G : Nat} {c k : Int} {x e : Rat} (hk : k = (F : Int) - G) (h : (c : Rat) ≤ (x + e) * 2 ^ G) (hc : i32 c) : (scl c k : Rat) ≤ (x + e) * 2 ^ F := by
 have hG := zbt G
 unfold i32 at hc
 by_cases hk0 : k < 0
 ·obtain ⟨g1, _⟩ := znx (z := c) hk hk0
  have g1 := zdO g1
  rw [Rat.intCast_mul, Rat.intCast_mul, zdI, zdI] at g1
  have := zau (zbt F) h
  refine zaZ hG ?_
  grind
 ·have g1 := zdO (Int.le_of_eq (zkI (z := c) hk (by omega) (by omega)))
  rw [Rat.intCast_mul, Rat.intCast_mul, zdI, zdI] at g1
  have := zau (zbt F) h
  refine zaZ hG ?_
  grind
theorem zgr {c : Int} (hc : i32 c) : scl c 0 = c := by
 unfold i32 at hc
 unfold scl
 rw [if_neg (by omega), show clp c = c by unfold clp; omega]
 simp
theorem mag_d {a : Iv} {k : Nat} (h : a.Dn k) : a.mag.d ≤ k := by
 have e1 : a.lo.abs.d = a.lo.d := rfl
 have e2 : a.hi.abs.d = a.hi.d := rfl
 unfold Iv.mag Iv.abs
 split
 ·exact max_d (by rw [e1]; exact h.1) (by rw [e2]; exact h.2)
 ·exact max_d (by rw [e1]; exact h.1) (by rw [e2]; exact h.2)
theorem mvd_v {f fa : Int} {u x : Dy} : (mvd f fa u x).v = if fa ≤ f then x.v else x.v + u.v := by
 unfold mvd; split
 ·rfl
 ·exact Dy.v_add x u
theorem zmK {b : Bool} {u : Dy} : (inx b u).v = if b = true then u.v else 0 := by
 unfold inx; split
 ·rfl
 ·exact Dy.v_zero
section
variable {ins : List (Int × Int × Int)} {bs : List Blk} {outs fr : List Int} {R : List Iv} {E : List Dy} {inp : List Int}
theorem CtOK.fF (H : CtOK ins bs outs fr R E) {i : Nat} (hi : i < bs.length) : ∃ F : Nat, fr.getD i 0 = (F : Int) ∧ F ≤ 30 ∧ (fr.getD i 0).toNat = F := by
 obtain ⟨h1, h2⟩ := H.hf i hi
 exact ⟨(fr.getD i 0).toNat, by omega, by omega, rfl⟩
theorem CtOK.good (H : CtOK ins bs outs fr R E) {i : Nat} (hi : i < bs.length) {c : Int} {x : Dy} (ha : Apx (fr.getD i 0).toNat c x.v (E.getD i Dy.zero).v) (ho : (R.getD i Iv.zero).On x) (hd : x.d ≤ 4096) : Good fr R E i c x := by
 obtain ⟨F, h1, h2, h3⟩ := H.fF hi
 have hft := H.ft i hi
 unfold ftB at hft
 rw [Bool.and_eq_true] at hft
 have g := of_decide_eq_true hft.1
 rw [h1] at g
 obtain ⟨b1, b2⟩ := fit_bd h2 g ho
 rw [h3] at ha
 exact ⟨by rw [h3]; exact ha, ho, hd, apx_i32 ha b1 b2⟩
theorem CtOK.lim (H : CtOK ins bs outs fr R E) {i F : Nat} (hi : i < bs.length) (hF : fr.getD i 0 = (F : Int)) {x : Dy} (ho : (R.getD i Iv.zero).On x) : (x.v + (E.getD i Dy.zero).v) * 2 ^ F ≤ 2147483647 ∧ -2147483647 ≤ (x.v - (E.getD i Dy.zero).v) * 2 ^ F := by
 have h2 := H.hf i hi
 have hft := H.ft i hi
 unfold ftB at hft
 rw [Bool.and_eq_true] at hft
 have g := of_decide_eq_true hft.1
 rw [hF] at g
 exact fit_bd (by omega) g ho
theorem CtOK.moved (H : CtOK ins bs outs fr R E) {p F : Nat} (hp : p < bs.length) (hF : F ≤ 30) {c : Int} {x : Dy} (g : Good fr R E p c x) : Apx F (scl c ((F : Int) - fr.getD p 0)) x.v (mvd (F : Int) (fr.getD p 0) (zai (F : Int)) (E.getD p Dy.zero)).v := by
 obtain ⟨G, h1, h2, h3⟩ := H.fF hp
 have ga := g.ap
 rw [h3] at ga
 have := apx_move (F := F) (k := (F : Int) - G) rfl ga g.i32 (zjy hF)
 rw [mvd_v, h1]
 by_cases hg : G ≤ F
 ·rw [if_pos hg] at this
  rw [if_pos (by omega)]; exact this
 ·rw [if_neg hg] at this
  rw [if_neg (by omega)]; exact this
end
set_option maxHeartbeats 1000000
section
variable {ins : List (Int × Int × Int)} {bs : List Blk} {outs fr : List Int} {R : List Iv} {E : List Dy} {inp : List Int}
theorem apx_inp {F PF : Nat} (hF : F ≤ 30) (hP : PF ≤ 30) {z : Int} {E : Rat} (hE : (inx (decide ((F : Int) < PF)) (zai (F : Int))).v ≤ E)
  (b1 : (((Dy.int z).shift (-(PF : Int))).v + E) * 2 ^ F ≤ 2147483647) (b2 : -2147483647 ≤ (((Dy.int z).shift (-(PF : Int))).v - E) * 2 ^ F) : Apx F (scl z ((F : Int) - PF)) ((Dy.int z).shift (-(PF : Int))).v E := by
 have h1 := zbG (n := z) (k := -(PF : Int)) (by omega)
 rw [show (- -(PF : Int)).toNat = PF by omega, show (-(PF : Int)).toNat = 0 by omega] at h1
 have e0 : (2 : Rat) ^ 0 = 1 := rfl
 rw [e0] at h1
 generalize ((Dy.int z).shift (-(PF : Int))).v = x at *
 have hz : x * 2 ^ F * 2 ^ PF = (z : Rat) * 2 ^ F := by
  rw [show x * 2 ^ F * 2 ^ PF = (x * 2 ^ PF) * 2 ^ F by grind, h1]; grind
 refine ziH (P := F) (Q := PF) (e := 0) rfl ?_ ?_ (zjy hF) ?_ b1 b2
 ·rw [show x - 0 = x by grind, hz]; exact Rat.le_refl
 ·rw [show x + 0 = x by grind, hz]; exact Rat.le_refl
 ·rw [zmK] at hE
  split
  ·rename_i h
   rw [if_pos (decide_eq_true (by omega))] at hE
   grind
  ·rename_i h
   rw [if_neg (by rw [decide_eq_true_eq]; omega)] at hE
   grind
theorem apx_gain {F FA : Nat} (hF : F ≤ 30) {c vn ve : Int} {X : Dy} {e : Rat} (hs : zbO vn ve) (hg : Apx FA c X.v e) {E : Rat} (hE : (scN vn ve).abs.v * e + (inx (decide ((F : Int) - FA + ve < 0)) (zai (F : Int))).v ≤ E)
  (b1 : ((scN vn ve).v * X.v + E) * 2 ^ F ≤ 2147483647) (b2 : -2147483647 ≤ ((scN vn ve).v * X.v - E) * 2 ^ F) : Apx F (scl (c * vn) ((F : Int) - FA + ve)) ((scN vn ve).v * X.v) E := by
 have h1 := zbG (n := vn) (k := ve) (by have := hs.2; omega)
 have hv : ((scN vn ve)).v * 2 ^ (-ve).toNat = vn * 2 ^ ve.toNat := h1
 clear h1
 have ha := Dy.v_abs (scN vn ve)
 generalize (scN vn ve).abs.v = A at *
 generalize (scN vn ve).v = v at *
 obtain ⟨g1, g2⟩ := hg
 have hm : -(A * (e * 2 ^ FA)) ≤ v * (c - X.v * 2 ^ FA) ∧ v * (c - X.v * 2 ^ FA) ≤ A * (e * 2 ^ FA) := ziN (by split at ha <;> grind) (by split at ha <;> grind) (by grind) (by grind)
 have hp : (0 : Rat) < 2 ^ F * 2 ^ (-ve).toNat := Rat.mul_pos (zbt _) (zbt _)
 have m1 := zau hp hm.1
 have m2 := zau hp hm.2
 refine ziH (P := F + ve.toNat) (Q := FA + (-ve).toNat) (e := A * e) (by omega) ?_ ?_ (zjy hF) ?_ b1 b2
 ·rw [Rat.intCast_mul, zbY, zbY]
  have : (c : Rat) * vn * (2 ^ F * 2 ^ ve.toNat) = c * (v * 2 ^ (-ve).toNat) * 2 ^ F := by rw [hv]; grind
  rw [this]
  grind
 ·rw [Rat.intCast_mul, zbY, zbY]
  have : (c : Rat) * vn * (2 ^ F * 2 ^ ve.toNat) = c * (v * 2 ^ (-ve).toNat) * 2 ^ F := by rw [hv]; grind
  rw [this]
  grind
 ·rw [zmK] at hE
  split
  ·rename_i h
   rw [if_pos (decide_eq_true (by omega))] at hE
   grind
  ·rename_i h
   rw [if_neg (by rw [decide_eq_true_eq]; omega)] at hE
   grind
theorem apx_mul {F FP FQ : Nat} (hF : F ≤ 30) {c d : Int} {X Y : Rat} {e g mX mY : Rat} (h1 : Apx FP c X e) (h2 : Apx FQ d Y g) (x1 : -mX ≤ X) (x2 : X ≤ mX) (y1 : -mY ≤ Y) (y2 : Y ≤ mY) (he : 0 ≤ e) (hg : 0 ≤ g) {E : Rat} (hE : mX * g + mY * e + e * g + (inx (decide ((F : Int) - FP - FQ < 0)) (zai (F : Int))).v ≤ E)
  (b1 : (X * Y + E) * 2 ^ F ≤ 2147483647) (b2 : -2147483647 ≤ (X * Y - E) * 2 ^ F) : Apx F (scl (c * d) ((F : Int) - FP - FQ)) (X * Y) E := by
 obtain ⟨g1, g2⟩ := h1
 obtain ⟨k1, k2⟩ := h2
 have hpP := zbt FP
 have hpQ := zbt FQ
 have q1 := ziN (a := (c : Rat) - X * 2 ^ FP) (b := (d : Rat) - Y * 2 ^ FQ) (r := e * 2 ^ FP) (s := g * 2 ^ FQ) (by grind) (by grind) (by grind) (by grind)
 have q2 := ziN (a := X) (b := (d : Rat) - Y * 2 ^ FQ) (r := mX) (s := g * 2 ^ FQ) x1 x2 (by grind) (by grind)
 have q3 := ziN (a := Y) (b := (c : Rat) - X * 2 ^ FP) (r := mY) (s := e * 2 ^ FP) y1 y2 (by grind) (by grind)
 have p2 := zau hpP q2.1
 have p2' := zau hpP q2.2
 have p3 := zau hpQ q3.1
 have p3' := zau hpQ q3.2
 have t1 : -((mX * g + mY * e + e * g) * (2 ^ FP * 2 ^ FQ)) ≤ (c : Rat) * d - X * Y * (2 ^ FP * 2 ^ FQ) := by
  have a1 := q1.1
  grind
 have t2 : (c : Rat) * d - X * Y * (2 ^ FP * 2 ^ FQ) ≤ (mX * g + mY * e + e * g) * (2 ^ FP * 2 ^ FQ) := by
  have a1 := q1.2
  grind
 clear q1 q2 q3 p2 p2' p3 p3' g1 g2 k1 k2
 generalize mX * g + mY * e + e * g = w at *
 have hpF := zbt F
 have m1 := zau hpF t1
 have m2 := zau hpF t2
 refine ziH (P := F) (Q := FP + FQ) (e := w) (by omega) ?_ ?_ (zjy hF) ?_ b1 b2
 ·rw [Rat.intCast_mul, zbY]
  grind
 ·rw [Rat.intCast_mul, zbY]
  grind
 ·rw [zmK] at hE
  split
  ·rename_i h
   rw [if_pos (decide_eq_true (by omega))] at hE
   grind
  ·rename_i h
   rw [if_neg (by rw [decide_eq_true_eq]; omega)] at hE
   grind
theorem Good.mag {i : Nat} {c : Int} {x : Dy} (h : Good fr R E i c x) : -(R.getD i Iv.zero).mag.v ≤ x.v ∧ x.v ≤ (R.getD i Iv.zero).mag.v := abs_bd ((zcr _ _).1 (zj0 h.on))
theorem one_ins {N i : Nat} {cells : List Int} {X : Dy} {l : List Ins} {x : Ins} (hl : l = [x]) (hd : x.dst = (i : Int)) (h : Good fr R E i (stp inp cells x) X) : ∃ n, zd0 inp cells l ∧ zcG inp cells l = cells.set i n ∧ Good fr R E i n X := by
 subst hl
 refine ⟨stp inp cells x, ⟨h.i32, trivial⟩, ?_, h⟩
 show stI inp cells x = _
 unfold stI
 rw [hd, Int.toNat_natCast]
end
set_option maxHeartbeats 2000000
section
variable {ins : List (Int × Int × Int)} {bs : List Blk} {outs fr : List Int} {R : List Iv} {E : List Dy} {inp : List Int}
structure ConOK (b : Blk) (f : Int) (N i : Nat) (cell V cells : List Int) : Prop where
 con : b.k = 1 → V.getD i 0 = (zdW b.vn b.ve f).toInt
 clip : b.k = 11 → ∃ c : Nat, cell.getD i 0 = (c : Int) ∧ N ≤ c ∧ cells.getD c 0 = (zdW b.vn b.ve f).toInt ∧ cells.getD (c + 1) 0 = (zdW b.un b.ue f).toInt
theorem blk_run (H : CtOK ins bs outs fr R E) {i : Nat} (hi : i < bs.length) {cell V cells : List Int} {vals : List Dy} (hlen : bs.length ≤ cells.length) (hk : (bs.getD i Blk.zero).k ≠ 2)
  (hI : ∀ i, i < ins.length → (ins.getD i (0, 0, 0)).1 ≤ inp.getD i 0 ∧ inp.getD i 0 ≤ (ins.getD i (0, 0, 0)).2.1)
  (ho : ∀ a ∈ zhz (bs.getD i Blk.zero), Good fr R E a.toNat (cells.getD a.toNat 0) (vals.getD a.toNat Dy.zero)) (hx : (exB ins inp vals (bs.getD i Blk.zero)).d ≤ 4096)
  (hc : ConOK (bs.getD i Blk.zero) (fr.getD i 0) bs.length i cell V cells) :
  ∃ n, zd0 inp cells (zib ins fr cell V i (bs.getD i Blk.zero)) ∧ zcG inp cells (zib ins fr cell V i (bs.getD i Blk.zero)) = cells.set i n ∧ Good fr R E i n (exB ins inp vals (bs.getD i Blk.zero)) := by
 have hb := H.dg.blk i hi
 have hon : (R.getD i Iv.zero).On (exB ins inp vals (bs.getD i Blk.zero)) := by
  have h1 := H.rg i hi
  unfold rgB at h1
  rw [if_neg hk] at h1
  exact zn5 h1 (exB_on hb hk H.dg.ports hI (fun i hi => H.hR i hi) (fun a ha => (ho a ha).on) (fun a ha => (ho a ha).d))
 obtain ⟨F, hF, hF30, hFt⟩ := H.fF hi
 obtain ⟨b1, b2⟩ := H.lim hi hF hon
 have hbd := H.bd i hi
 have hsc := H.sc i hi
 have hft := H.ft i hi
 have mk : ∀ {x : Ins}, zib ins fr cell V i (bs.getD i Blk.zero) = [x] → x.dst = (i : Int) → Apx F (stp inp cells x) (exB ins inp vals (bs.getD i Blk.zero)).v (E.getD i Dy.zero).v → ∃ n, zd0 inp cells (zib ins fr cell V i (bs.getD i Blk.zero)) ∧ zcG inp cells (zib ins fr cell V i (bs.getD i Blk.zero)) = cells.set i n ∧ Good fr R E i n (exB ins inp vals (bs.getD i Blk.zero)) := fun h1 h2 h3 => one_ins (N := bs.length) h1 h2 (H.good hi (by rw [hFt]; exact h3) hon hx)
 obtain ⟨hcc, hcl⟩ := hc
 have hbe : bs.getD i Blk.zero = bs.getD i Blk.zero := rfl
 generalize bs.getD i Blk.zero = b at *
 rw [hF] at hbd hcc hcl hsc
 have hbf : b.k ≠ 0 → zhz b = b.a := fun h0 => by unfold zhz; rw [if_neg (by omega)]
 have hk1 := hb.kind
 have one : b.k ≠ 0 → b.a = [((b.at 0 : Nat) : Int)] → Good fr R E (b.at 0) (cells.getD (b.at 0) 0) (vals.getD (b.at 0) Dy.zero) := fun h0 ha => by
  rw [hbf h0, ha] at ho
  have o1 := ho _ (List.mem_cons_self ..)
  rw [Int.toNat_natCast] at o1
  exact o1
 have two : b.k ≠ 0 → b.a = [((b.at 0 : Nat) : Int), ((b.at 1 : Nat) : Int)] → Good fr R E (b.at 0) (cells.getD (b.at 0) 0) (vals.getD (b.at 0) Dy.zero) ∧ Good fr R E (b.at 1) (cells.getD (b.at 1) 0) (vals.getD (b.at 1) Dy.zero) := fun h0 ha => by
  rw [hbf h0, ha] at ho
  have o1 := ho _ (List.mem_cons_self ..)
  have o2 := ho _ (List.mem_cons_of_mem _ (List.mem_cons_self ..))
  rw [Int.toNat_natCast] at o1 o2
  exact ⟨o1, o2⟩
 clear ho
 unfold bdB at hbd
 unfold zib at mk ⊢
 simp only [hF] at hbd mk ⊢
 by_cases h0 : b.k = 0
 ·rw [if_pos h0] at hbd mk ⊢
  have hp := (hb.inp h0).1
  obtain ⟨_, _, q4, q5⟩ := H.dg.ports _ hp
  obtain ⟨PF, hPF⟩ : ∃ PF : Nat, (ins.getD (b.at 0) (0, 0, 0)).2.2 = (PF : Int) := ⟨((ins.getD (b.at 0) (0, 0, 0)).2.2).toNat, by omega⟩
  have e : exB ins inp vals b = (Dy.int (inp.getD (b.at 0) 0)).shift (-(PF : Int)) := by
   unfold exB; simp only []; rw [if_pos h0, hPF]
  rw [e] at b1 b2 mk ⊢
  rw [hPF] at hbd mk ⊢
  refine mk rfl rfl ?_
  have := apx_inp (F := F) (PF := PF) (z := inp.getD (b.at 0) 0) hF30 (by omega) hbd b1 b2
  show Apx F (scl (inp.getD (((b.at 0 : Nat) : Int)).toNat 0) _) _ _
  rw [Int.toNat_natCast]
  exact this
 rw [if_neg h0] at hbd mk ⊢
 by_cases h1 : b.k = 1
 ·rw [if_pos h1] at hbd mk ⊢
  have e : exB ins inp vals b = b.val := by unfold exB; simp only []; rw [if_neg h0, if_pos h1]
  rw [e] at mk ⊢
  have hraw : zb5 b.vn b.ve F = true := by
   unfold scB at hsc
   simp only [] at hsc
   rw [if_neg h0, if_pos h1] at hsc
   exact hsc
  obtain ⟨r1, r2, _⟩ := ziK (hb.val (.inl h1)) hF30 hraw rfl
  refine mk rfl rfl ?_
  show Apx F (V.getD i 0) _ _
  rw [hcc h1]
  refine r1.mono (Rat.le_trans ?_ hbd)
  rw [zmK]
  unfold Blk.val
  cases zbp (scN b.vn b.ve) F <;> exact Rat.le_refl
 rw [if_neg h1] at hbd mk ⊢
 have hab : b.val.abs.d = b.val.d := rfl
 by_cases h6 : b.k = 6
 ·obtain ⟨ha, hp⟩ := hb.a1 (by omega)
  have g := one h0 ha
  have hs := hb.val (by omega)
  have hv : b.val.d ≤ 62 := znB hs.2
  obtain ⟨FA, hA, hA30, hAt⟩ := H.fF hp
  have e : exB ins inp vals b = b.val.mul (vals.getD (b.at 0) Dy.zero) := by unfold exB; simp [h6]
  have gd := g.d
  have ga := g.ap
  rw [hAt] at ga
  have ed := (H.hE _ hp).2
  rw [e] at b1 b2 mk ⊢
  rw [Dy.v_mul_of _ _ (by omega)] at b1 b2 mk
  simp only [h6, reduceIte, Int.reduceEq, or_self] at hbd mk ⊢
  rw [hA] at hbd mk ⊢
  rw [Dy.v_add, Dy.v_mul_of _ _ (by omega)] at hbd
  refine mk rfl rfl ?_
  have := apx_gain hF30 hs ga hbd b1 b2
  show Apx F (scl (cells.getD (((b.at 0 : Nat) : Int)).toNat 0 * b.vn) _) _ _
  rw [Int.toNat_natCast]
  exact this
 by_cases h7 : b.k = 7
 ·obtain ⟨ha, hp, hq⟩ := hb.a2 (by omega)
  obtain ⟨g, g'⟩ := two h0 ha
  obtain ⟨FA, hA, hA30, hAt⟩ := H.fF hp
  obtain ⟨FB, hB, hB30, hBt⟩ := H.fF hq
  have e : exB ins inp vals b = (vals.getD (b.at 0) Dy.zero).mul (vals.getD (b.at 1) Dy.zero) := by unfold exB; simp [h7]
  have gd := g.d
  have ga := g.ap
  have gd' := g'.d
  have ga' := g'.ap
  rw [hAt] at ga
  rw [hBt] at ga'
  obtain ⟨e1, ed⟩ := H.hE _ hp
  obtain ⟨e2, ed'⟩ := H.hE _ hq
  have m1 := mag_d (H.hR _ hp)
  have m2 := mag_d (H.hR _ hq)
  obtain ⟨x1, x2⟩ := g.mag
  obtain ⟨y1, y2⟩ := g'.mag
  rw [e] at b1 b2 mk ⊢
  rw [Dy.v_mul_of _ _ (by omega)] at b1 b2 mk
  simp only [h7, reduceIte, Int.reduceEq, or_self] at hbd mk ⊢
  rw [hA, hB] at hbd mk ⊢
  rw [Dy.v_add, Dy.v_add, Dy.v_add, Dy.v_mul_of _ _ (by omega), Dy.v_mul_of _ _ (by omega), Dy.v_mul_of _ _ (by omega)] at hbd
  refine mk rfl rfl ?_
  have := apx_mul hF30 ga ga' x1 x2 y1 y2 e1 e2 hbd b1 b2
  show Apx F (scl (cells.getD (((b.at 0 : Nat) : Int)).toNat 0 * cells.getD (((b.at 1 : Nat) : Int)).toNat 0) _) _ _
  rw [Int.toNat_natCast, Int.toNat_natCast]
  exact this
 by_cases h5 : b.k = 5
 ·obtain ⟨ha, hp⟩ := hb.a1 (by omega)
  have g := one h0 ha
  have e : exB ins inp vals b = (vals.getD (b.at 0) Dy.zero).neg := by unfold exB; simp [h5]
  rw [e] at mk ⊢
  simp only [h5, reduceIte, Int.reduceEq, or_self, true_or] at hbd mk ⊢
  refine mk rfl rfl ?_
  have := (H.moved hp hF30 g).neg.mono hbd
  rw [Dy.v_neg]
  show Apx F (-scl (cells.getD (((b.at 0 : Nat) : Int)).toNat 0) _) _ _
  rw [Int.toNat_natCast]
  exact this
 by_cases h10 : b.k = 10
 ·obtain ⟨ha, hp⟩ := hb.a1 (by omega)
  have g := one h0 ha
  have e : exB ins inp vals b = (vals.getD (b.at 0) Dy.zero).abs := by unfold exB; simp [h10]
  rw [e] at mk ⊢
  simp only [h10, reduceIte, Int.reduceEq, or_self, or_true] at hbd mk ⊢
  refine mk rfl rfl ?_
  have := (H.moved hp hF30 g).ab.mono hbd
  show Apx F (Max.max (scl (cells.getD (((b.at 0 : Nat) : Int)).toNat 0) _) (-scl (cells.getD (((b.at 0 : Nat) : Int)).toNat 0) _)) _ _
  rw [Int.toNat_natCast]
  exact this
 by_cases h3 : b.k = 3
 ·obtain ⟨ha, hp, hq⟩ := hb.a2 (by omega)
  obtain ⟨g, g'⟩ := two h0 ha
  have e : exB ins inp vals b = (vals.getD (b.at 0) Dy.zero).add (vals.getD (b.at 1) Dy.zero) := by unfold exB; simp [h3]
  rw [e] at mk ⊢
  rw [Dy.v_add] at mk
  simp only [h3, reduceIte, Int.reduceEq, or_self, true_or] at hbd mk ⊢
  rw [Dy.v_add] at hbd
  refine mk rfl rfl ?_
  have := ((H.moved hp hF30 g).add (H.moved hq hF30 g')).mono hbd
  show Apx F (scl (cells.getD (((b.at 0 : Nat) : Int)).toNat 0) _ + scl (cells.getD (((b.at 1 : Nat) : Int)).toNat 0) _) _ _
  rw [Int.toNat_natCast, Int.toNat_natCast]
  exact this
 by_cases h4 : b.k = 4
 ·obtain ⟨ha, hp, hq⟩ := hb.a2 (by omega)
  obtain ⟨g, g'⟩ := two h0 ha
  have e : exB ins inp vals b = (vals.getD (b.at 0) Dy.zero).sub (vals.getD (b.at 1) Dy.zero) := by unfold exB; simp [h4]
  rw [e] at mk ⊢
  rw [Dy.v_sub] at mk
  simp only [h4, reduceIte, Int.reduceEq, or_self, or_true] at hbd mk ⊢
  rw [Dy.v_add] at hbd
  refine mk rfl rfl ?_
  have := ((H.moved hp hF30 g).sub (H.moved hq hF30 g')).mono hbd
  show Apx F (scl (cells.getD (((b.at 0 : Nat) : Int)).toNat 0) _ - scl (cells.getD (((b.at 1 : Nat) : Int)).toNat 0) _) _ _
  rw [Int.toNat_natCast, Int.toNat_natCast]
  exact this
 by_cases h8 : b.k = 8
 ·obtain ⟨ha, hp, hq⟩ := hb.a2 (by omega)
  obtain ⟨g, g'⟩ := two h0 ha
  have e : exB ins inp vals b = (vals.getD (b.at 0) Dy.zero).min (vals.getD (b.at 1) Dy.zero) := by unfold exB; simp [h8]
  rw [e] at mk ⊢
  simp only [h8, reduceIte, Int.reduceEq, or_self, true_or] at hbd mk ⊢
  refine mk rfl rfl ?_
  have := (((H.moved hp hF30 g).mono (zbC _ _)).mn ((H.moved hq hF30 g').mono (zbW _ _))).mono hbd
  show Apx F (Min.min (scl (cells.getD (((b.at 0 : Nat) : Int)).toNat 0) _) (scl (cells.getD (((b.at 1 : Nat) : Int)).toNat 0) _)) _ _
  rw [Int.toNat_natCast, Int.toNat_natCast]
  exact this
 by_cases h9 : b.k = 9
 ·obtain ⟨ha, hp, hq⟩ := hb.a2 (by omega)
  obtain ⟨g, g'⟩ := two h0 ha
  have e : exB ins inp vals b = (vals.getD (b.at 0) Dy.zero).max (vals.getD (b.at 1) Dy.zero) := by unfold exB; simp [h9]
  rw [e] at mk ⊢
  simp only [h9, reduceIte, Int.reduceEq, or_self, or_true] at hbd mk ⊢
  refine mk rfl rfl ?_
  have := (((H.moved hp hF30 g).mono (zbC _ _)).mx ((H.moved hq hF30 g').mono (zbW _ _))).mono hbd
  show Apx F (Max.max (scl (cells.getD (((b.at 0 : Nat) : Int)).toNat 0) _) (scl (cells.getD (((b.at 1 : Nat) : Int)).toNat 0) _)) _ _
  rw [Int.toNat_natCast, Int.toNat_natCast]
  exact this
 have h11 : b.k = 11 := by omega
 clear mk
 obtain ⟨ha, hp⟩ := hb.a1 (by omega)
 have g := one h0 ha
 have e : exB ins inp vals b = b.val.max (b.upp.min (vals.getD (b.at 0) Dy.zero)) := by unfold exB; simp [h11]
 obtain ⟨c, c1, c2, c3, c4⟩ := hcl h11
 unfold scB at hsc
 simp only [h11, reduceIte, Int.reduceEq, or_self] at hsc hbd ⊢
 rw [Bool.and_eq_true, Bool.and_eq_true] at hsc
 obtain ⟨⟨_, s2⟩, s3⟩ := hsc
 obtain ⟨r1, r2, _⟩ := ziK (hb.val (.inr (.inr (.inr h11)))) hF30 s2 rfl
 obtain ⟨t1, t2, _⟩ := ziK (hb.upp h11) hF30 s3 rfl
 have gm := H.moved hp hF30 g
 have w1 := zbC (mvd (F : Int) (fr.getD (b.at 0) 0) (zai (F : Int)) (E.getD (b.at 0) Dy.zero)) (inx (!zbp b.val F || !zbp b.upp F) (zai (F : Int)))
 have w2 := zbW (mvd (F : Int) (fr.getD (b.at 0) 0) (zai (F : Int)) (E.getD (b.at 0) Dy.zero)) (inx (!zbp b.val F || !zbp b.upp F) (zai (F : Int)))
 rw [zmK] at w2
 have hu := zkE (F : Int)
 generalize ((mvd (F : Int) (fr.getD (b.at 0) 0) (zai (F : Int)) (E.getD (b.at 0) Dy.zero)).max (inx (!zbp b.val F || !zbp b.upp F) (zai (F : Int)))).v = M at *
 have gm := gm.mono w1
 have r1 : Apx F (zdW b.vn b.ve F).toInt b.val.v M := r1.mono (Rat.le_trans (by
  show (if zbp b.val F = true then 0 else _) ≤ _
  cases zbp b.val F <;> cases zbp b.upp F <;> simp <;> first | exact Rat.le_refl | exact hu) w2)
 have t1 : Apx F (zdW b.un b.ue F).toInt b.upp.v M := t1.mono (Rat.le_trans (by
  show (if zbp b.upp F = true then 0 else _) ≤ _
  cases zbp b.val F <;> cases zbp b.upp F <;> simp <;> first | exact Rat.le_refl | exact hu) w2)
 have up : (scl (cells.getD (b.at 0) 0) ((F : Int) - fr.getD (b.at 0) 0) : Rat) ≤ ((2147483647 : Int) : Rat) := by
  obtain ⟨FA, hA, hA30, hAt⟩ := H.fF hp
  have ga := g.ap.2
  rw [hAt] at ga
  have := scl_up (F := F) (k := (F : Int) - FA) rfl ga g.i32
  rw [hA]
  refine Rat.le_trans this ?_
  unfold ftB at hft
  rw [h11, hF] at hft
  simp only [ne_eq, not_true_eq_false, decide_false, Bool.false_or, Bool.and_eq_true] at hft
  have h2 := (zcr _ _).1 (of_decide_eq_true hft.2)
  rw [zbX (by omega), Dy.v_add, zlU] at h2
  refine Rat.le_trans (zau (zbt F) ?_) h2
  have := g.on.2
  grind
 rw [Rat.intCast_le_intCast] at up
 generalize hmv : scl (cells.getD (b.at 0) 0) ((F : Int) - fr.getD (b.at 0) 0) = mv at *
 have f1 := (gm.mx r1).mn t1
 have ev : (((vals.getD (b.at 0) Dy.zero).max b.val).min b.upp).v = (exB ins inp vals b).v := by
  rw [e, Dy.v_min, Dy.v_max, Dy.v_max, Dy.v_min]
  have := hb.ord h11
  repeat' split
  all_goals grind
 rw [ev] at f1
 have s1 : stp inp cells ⟨9, i, (b.at 0 : Nat), cell.getD i 0, (F : Int) - fr.getD (b.at 0) 0, 0, 0⟩ = Max.max mv (zdW b.vn b.ve F).toInt := by
  show Max.max (scl (cells.getD (((b.at 0 : Nat) : Int)).toNat 0) _) (scl (cells.getD (cell.getD i 0).toNat 0) 0) = _
  rw [Int.toNat_natCast, hmv, c1, Int.toNat_natCast, c3, zgr r2]
 have i1 : i32 (Max.max mv (zdW b.vn b.ve F).toInt) := by unfold i32 at *; omega
 have hci : ∀ x : Int, (cells.set i x).getD (c + 1) 0 = cells.getD (c + 1) 0 := fun x => by rw [zaL 0 x (by omega), if_neg (by omega)]
 have hii : ∀ x : Int, (cells.set i x).getD i 0 = x := fun x => by rw [zaL 0 x (by omega), if_pos rfl]
 have hcn : (((c : Nat) : Int) + 1).toNat = c + 1 := by omega
 have s2 : stp inp (cells.set i (Max.max mv (zdW b.vn b.ve F).toInt)) ⟨8, i, i, cell.getD i 0 + 1, 0, 0, 0⟩ = Min.min (Max.max mv (zdW b.vn b.ve F).toInt) (zdW b.un b.ue F).toInt := by
  show Min.min (scl ((cells.set i (Max.max mv (zdW b.vn b.ve F).toInt)).getD ((i : Int)).toNat 0) 0) (scl ((cells.set i (Max.max mv (zdW b.vn b.ve F).toInt)).getD (cell.getD i 0 + 1).toNat 0) 0) = _
  rw [Int.toNat_natCast, hii, zgr i1, c1, hcn, hci, c4, zgr t2]
 have gd : Good fr R E i (Min.min (Max.max mv (zdW b.vn b.ve F).toInt) (zdW b.un b.ue F).toInt) (exB ins inp vals b) := H.good hi (by rw [hFt]; exact f1.mono hbd) hon hx
 refine ⟨_, ⟨by rw [s1]; exact i1, ?_⟩, ?_, gd⟩
 ·refine ⟨?_, trivial⟩
  unfold stI
  rw [s1]
  show i32 (stp inp (cells.set ((i : Int)).toNat _) _)
  rw [Int.toNat_natCast, s2]
  exact gd.i32
 ·show stI inp (stI inp cells _) _ = _
  unfold stI
  rw [s1]
  show (cells.set ((i : Int)).toNat _).set ((i : Int)).toNat (stp inp (cells.set ((i : Int)).toNat _) _) = _
  rw [Int.toNat_natCast, s2, List.set_set]
end
set_option maxHeartbeats 2000000
theorem zej (l : List Ins) (g : Nat → Ins) : ∀ k, za9 l g k = l ++ za9 [] g k
 | 0 => (List.append_nil l).symm
 | k + 1 => by
  show za9 l g k ++ [g k] = l ++ (za9 [] g k ++ [g k])
  rw [zej l g k, List.append_assoc]
theorem ze5 {l : List Int} {k : Nat} (hk : k < l.length) {x : Int} : x ∈ l.take (k + 1) ↔ x ∈ l.take k ∨ x = l.getD k 0 := by
 have e : l.take (k + 1) = l.take k ++ [l.getD k 0] := by
  rw [zaB hk]; exact (List.take_append_getElem hk).symm
 rw [e, List.mem_append, List.mem_singleton]
theorem zeG {l : List Int} (h : l.Nodup) {k : Nat} (hk : k < l.length) : l.getD k 0 ∉ l.take k := fun hm => by
 have e : l = l.take k ++ (l.getD k 0 :: l.drop (k + 1)) := by
  rw [zaB hk, ← List.drop_eq_getElem_cons hk, List.take_append_drop]
 rw [e] at h
 exact (List.nodup_append.1 h).2.2 _ hm _ (List.mem_cons_self ..) rfl
theorem zgt {l : List Int} (h : l.Nodup) {j k : Nat} (hjk : j < k) (hk : k < l.length) : l.getD j 0 ≠ l.getD k 0 := fun e => by
 refine zeG h hk ?_
 rw [← e, zaB (show j < l.length by omega)]
 exact List.mem_take_iff_getElem.2 ⟨j, by omega, rfl⟩
theorem zf0 (bs : List Blk) : (zaq bs).Nodup := by
 unfold zaq
 unfold List.Nodup
 rw [List.pairwise_map]
 exact ((List.nodup_range).filter _).imp (fun h e => h (by omega))
theorem zps (bs : List Blk) : (clB bs).Nodup := by
 unfold clB clK
 unfold List.Nodup
 rw [List.pairwise_map]
 exact ((List.nodup_range).filter _).imp (fun h e => h (by omega))
theorem zlf {bs : List Blk} {i : Nat} (hi : i < bs.length) (h : zav bs i = 2) : ∃ k, k < (zaq bs).length ∧ (zaq bs).getD k 0 = (i : Int) := by
 have hm : (i : Int) ∈ zaq bs := by
  unfold zaq
  exact List.mem_map.2 ⟨i, List.mem_filter.2 ⟨List.mem_range.2 hi, decide_eq_true h⟩, rfl⟩
 exact zgu 0 hm
theorem zpr {bs : List Blk} {i : Nat} (hi : i < bs.length) (h : (bs.getD i Blk.zero).k = 11) : ∃ k, k < (clB bs).length ∧ (clB bs).getD k 0 = (i : Int) := by
 have hm : (i : Int) ∈ clB bs := by
  unfold clB clK
  exact List.mem_map.2 ⟨i, List.mem_filter.2 ⟨List.mem_range.2 hi, decide_eq_true h⟩, rfl⟩
 exact zgu 0 hm
theorem zbA {bs : List Blk} {k : Nat} (h : k < (zaq bs).length) : ∃ i : Nat, (zaq bs).getD k 0 = (i : Int) ∧ i < bs.length ∧ zav bs i = 2 := by
 have hm : (zaq bs).getD k 0 ∈ zaq bs := zez h
 generalize (zaq bs).getD k 0 = v at *
 unfold zaq at hm
 obtain ⟨i, hi, rfl⟩ := List.mem_map.1 hm
 obtain ⟨h1, h2⟩ := List.mem_filter.1 hi
 exact ⟨i, rfl, by simpa using h1, by simpa [zav] using h2⟩
structure LayOK (bs : List Blk) (fr cell V : List Int) (nC : Nat) : Prop where
 sz : bs.length + (zaq bs).length ≤ nC
 con : ∀ i, i < bs.length → (bs.getD i Blk.zero).k = 1 → V.getD i 0 = (zdW (bs.getD i Blk.zero).vn (bs.getD i Blk.zero).ve (fr.getD i 0)).toInt
 del : ∀ k, k < (zaq bs).length → cell.getD ((zaq bs).getD k 0).toNat 0 = ((bs.length + k : Nat) : Int)
 clip : ∀ i, i < bs.length → (bs.getD i Blk.zero).k = 11 → ∃ c : Nat, cell.getD i 0 = (c : Int) ∧ bs.length + (zaq bs).length ≤ c ∧ c + 1 < nC
def zpP (bs : List Blk) (fr cell cells : List Int) : Prop := ∀ i, i < bs.length → (bs.getD i Blk.zero).k = 11 → cells.getD (cell.getD i 0).toNat 0 = (zdW (bs.getD i Blk.zero).vn (bs.getD i Blk.zero).ve (fr.getD i 0)).toInt ∧ cells.getD ((cell.getD i 0).toNat + 1) 0 = (zdW (bs.getD i Blk.zero).un (bs.getD i Blk.zero).ue (fr.getD i 0)).toInt
section
variable {ins : List (Int × Int × Int)} {bs : List Blk} {outs fr : List Int} {R : List Iv} {E : List Dy} {inp cell V : List Int} {nC : Nat}
structure OrdInv (fr : List Int) (R : List Iv) (E : List Dy) (bs : List Blk) (C0 C : List Int) (X : List Dy) (l : List Int) : Prop where
 len : C.length = C0.length
 lx : X.length = bs.length
 hi : ∀ j, bs.length ≤ j → C.getD j 0 = C0.getD j 0
 del : ∀ i, i < bs.length → zav bs i = 2 → C.getD i 0 = C0.getD i 0
 good : ∀ i, i < bs.length → (zav bs i = 2 ∨ (i : Int) ∈ l) → Good fr R E i (C.getD i 0) (X.getD i Dy.zero)
 i32 : ∀ j, j < C0.length → i32 (C.getD j 0)
theorem zn0 (H : CtOK ins bs outs fr R E) (hL : LayOK bs fr cell V nC) {O : List Int} (ht : Topo bs O) {C0 : List Int} (hC : C0.length = nC) (hcl : zpP bs fr cell C0) (h32 : ∀ j, j < C0.length → i32 (C0.getD j 0))
  (hI : ∀ i, i < ins.length → (ins.getD i (0, 0, 0)).1 ≤ inp.getD i 0 ∧ inp.getD i 0 ≤ (ins.getD i (0, 0, 0)).2.1) {X0 : List Dy} (hX : X0.length = bs.length) (hd : ∀ i, i < bs.length → zav bs i = 2 → Good fr R E i (C0.getD i 0) (X0.getD i Dy.zero))
  (hl : ∀ k, k < O.length → lgD (exV ins bs inp X0 O k) = false) : ∀ k, k ≤ O.length → zd0 inp C0 (zbr ins bs fr cell V O k) ∧ OrdInv fr R E bs C0 (zcG inp C0 (zbr ins bs fr cell V O k)) (exO ins bs inp X0 O k) (O.take k)
 | 0, _ => ⟨trivial, rfl, hX, fun _ _ => rfl, fun _ _ _ => rfl, fun i hi h => (by
   rcases h with h | h
   ·exact hd i hi h
   ·rw [List.take_zero] at h; cases h), h32⟩
 | k + 1, hk => by
  obtain ⟨h1, J⟩ := zn0 H hL ht hC hcl h32 hI hX hd hl k (by omega)
  have hnC := hL.sz
  have hm : O.getD k 0 ∈ O := zez (by omega)
  obtain ⟨r1, r2, r3⟩ := ht.rng _ hm
  have hnt := zeG ht.nodup (k := k) (by omega)
  have hdp := ht.deps k (by omega)
  have hlk := (zdX (hl k (by omega))).2
  have e1 : zbr ins bs fr cell V O (k + 1) = zbr ins bs fr cell V O k ++ zib ins fr cell V (O.getD k 0).toNat (bs.getD (O.getD k 0).toNat Blk.zero) := rfl
  have e2 : exO ins bs inp X0 O (k + 1) = (exO ins bs inp X0 O k).set (O.getD k 0).toNat (exB ins inp (exO ins bs inp X0 O k) (bs.getD (O.getD k 0).toNat Blk.zero)) := rfl
  have e3 : ∀ x, x ∈ O.take (k + 1) ↔ x ∈ O.take k ∨ x = O.getD k 0 := fun x => ze5 (by omega)
  unfold exV at hlk
  obtain ⟨i, hi⟩ : ∃ i : Nat, O.getD k 0 = (i : Int) := ⟨(O.getD k 0).toNat, by omega⟩
  rw [hi] at e1 e2 hlk hdp r2 r3 hnt
  simp only [hi] at e3
  rw [Int.toNat_natCast] at e1 e2 hlk hdp r2 r3
  have hb := H.dg.blk i r2
  obtain ⟨n, n1, n2, n3⟩ := blk_run (V := V) (cell := cell) (cells := zcG inp C0 (zbr ins bs fr cell V O k)) (vals := exO ins bs inp X0 O k) H r2 (by rw [J.len]; omega) r3 hI (fun a ha => by
   have ha2 := hb.bef.2 a ha
   exact J.good a.toNat (by omega) (hdp a ha)) hlk ⟨fun h => hL.con i r2 h, fun h => by
    obtain ⟨c, c1, c2, c3⟩ := hL.clip i r2 h
    obtain ⟨q1, q2⟩ := hcl i r2 h
    rw [c1, Int.toNat_natCast] at q1 q2
    exact ⟨c, c1, by omega, by rw [J.hi c (by omega)]; exact q1, by rw [J.hi (c + 1) (by omega)]; exact q2⟩⟩
  rw [e1, zcK, zcV, n2, e2]
  have hli : i < (zcG inp C0 (zbr ins bs fr cell V O k)).length := by rw [J.len]; omega
  generalize zcG inp C0 (zbr ins bs fr cell V O k) = C at *
  have hlx : i < (exO ins bs inp X0 O k).length := by rw [J.lx]; exact r2
  generalize exB ins inp (exO ins bs inp X0 O k) (bs.getD i Blk.zero) = x at *
  generalize exO ins bs inp X0 O k = X at *
  refine ⟨⟨h1, n1⟩, by rw [List.length_set]; exact J.len, by rw [List.length_set]; exact J.lx, fun j hj => ?_, fun j hj h2 => ?_, fun j hj h2 => ?_, fun j hj => ?_⟩
  ·rw [zaL 0 n hli, if_neg (by omega)]; exact J.hi j hj
  ·rw [zaL 0 n hli, if_neg (fun e => r3 (by subst e; exact h2))]; exact J.del j hj h2
  ·rw [zaL 0 n hli, zaL Dy.zero x hlx]
   by_cases e : i = j
   ·subst e
    rw [if_pos rfl, if_pos rfl]; exact n3
   ·rw [if_neg e, if_neg e]
    refine J.good j hj (h2.imp id fun h3 => ?_)
    rcases (e3 _).1 h3 with h4 | h4
    ·exact h4
    ·omega
  ·rw [zaL 0 n hli]
   split
   ·exact n3.i32
   ·exact J.i32 j hj
def nvL (bs : List Blk) (fr C : List Int) (i : Nat) : Int := scl (C.getD ((bs.getD i Blk.zero).at 0) 0) (fr.getD i 0 - fr.getD ((bs.getD i Blk.zero).at 0) 0)
theorem zn9 (H : CtOK ins bs outs fr R E) {C : List Int} {X : List Dy} (hg : ∀ i, i < bs.length → Good fr R E i (C.getD i 0) (X.getD i Dy.zero)) {i : Nat} (hi : i < bs.length) (hk : zav bs i = 2) : Good fr R E i (nvL bs fr C i) (X.getD ((bs.getD i Blk.zero).at 0) Dy.zero) := by
 have hb := H.dg.blk i hi
 unfold zav at hk
 have hrg := H.rg i hi
 have hbd := H.bd i hi
 obtain ⟨F, hF, hF30, hFt⟩ := H.fF hi
 unfold nvL
 generalize bs.getD i Blk.zero = b at *
 obtain ⟨ha, hp⟩ := hb.a1 (.inl hk)
 have g := hg _ hp
 unfold rgB at hrg
 rw [if_pos hk] at hrg
 refine H.good hi ?_ (zn5 hrg (on_hull2 g.on)) g.d
 unfold bdB at hbd
 rw [hF] at hbd
 simp only [hk, reduceIte, Int.reduceEq, or_self] at hbd
 rw [hFt, hF]
 exact (H.moved hp hF30 g).mono (Rat.le_trans (zbC _ _) hbd)
theorem zok (H : CtOK ins bs outs fr R E) (hL : LayOK bs fr cell V nC) {C : List Int} (hC : C.length = nC) {X : List Dy} (hg : ∀ i, i < bs.length → Good fr R E i (C.getD i 0) (X.getD i Dy.zero)) (h32 : ∀ j, j < C.length → i32 (C.getD j 0)) :
  ∀ k, k ≤ (zaq bs).length → zd0 inp C (za9 [] (mv1 bs fr cell (zaq bs)) k) ∧ (zcG inp C (za9 [] (mv1 bs fr cell (zaq bs)) k)).length = C.length ∧
   (∀ j, j < k → (zcG inp C (za9 [] (mv1 bs fr cell (zaq bs)) k)).getD (bs.length + j) 0 = nvL bs fr C ((zaq bs).getD j 0).toNat) ∧
   (∀ x, (x < bs.length ∨ bs.length + k ≤ x) → (zcG inp C (za9 [] (mv1 bs fr cell (zaq bs)) k)).getD x 0 = C.getD x 0) ∧ ∀ j, j < C.length → i32 ((zcG inp C (za9 [] (mv1 bs fr cell (zaq bs)) k)).getD j 0)
 | 0, _ => ⟨trivial, rfl, fun j h => absurd h (Nat.not_lt_zero j), fun _ _ => rfl, h32⟩
 | k + 1, hk => by
  obtain ⟨h1, h2, h3, h4, h5⟩ := zok H hL hC hg h32 k (by omega)
  have hnC := hL.sz
  obtain ⟨i, hi, hin, hik⟩ := zbA (bs := bs) (k := k) (by omega)
  have hcd := hL.del k (by omega)
  have gn := zn9 H hg hin hik
  have e1 : za9 [] (mv1 bs fr cell (zaq bs)) (k + 1) = za9 [] (mv1 bs fr cell (zaq bs)) k ++ [mv1 bs fr cell (zaq bs) k] := rfl
  rw [e1, zcK, zcV]
  generalize zcG inp C (za9 [] (mv1 bs fr cell (zaq bs)) k) = C1 at *
  have hb := H.dg.blk i hin
  have hp : (bs.getD i Blk.zero).at 0 < bs.length := (hb.a1 (.inl hik)).2
  have hs : stp inp C1 (mv1 bs fr cell (zaq bs) k) = nvL bs fr C i := by
   show scl (C1.getD (((bs.getD ((zaq bs).getD k 0).toNat Blk.zero).at 0 : Nat) : Int).toNat 0) (fr.getD ((zaq bs).getD k 0).toNat 0 - fr.getD ((bs.getD ((zaq bs).getD k 0).toNat Blk.zero).at 0) 0) = _
   rw [hi, Int.toNat_natCast, Int.toNat_natCast, h4 _ (.inl hp)]
   rfl
  have hst : stI inp C1 (mv1 bs fr cell (zaq bs) k) = C1.set (bs.length + k) (nvL bs fr C i) := by
   unfold stI
   rw [hs]
   show C1.set (cell.getD ((zaq bs).getD k 0).toNat 0).toNat _ = _
   rw [hcd, Int.toNat_natCast]
  have hl : bs.length + k < C1.length := by rw [h2]; omega
  show (_ ∧ i32 (stp inp C1 (mv1 bs fr cell (zaq bs) k)) ∧ True) ∧ (stI inp C1 (mv1 bs fr cell (zaq bs) k)).length = _ ∧ (∀ j, j < k + 1 → (stI inp C1 (mv1 bs fr cell (zaq bs) k)).getD _ 0 = _) ∧ (∀ x, _ → (stI inp C1 (mv1 bs fr cell (zaq bs) k)).getD x 0 = _) ∧ ∀ j, _ → i32 ((stI inp C1 (mv1 bs fr cell (zaq bs) k)).getD j 0)
  rw [hs, hst]
  refine ⟨⟨h1, gn.i32, trivial⟩, by rw [List.length_set]; exact h2, fun j hj => ?_, fun x hx => ?_, fun j hj => ?_⟩
  ·rw [zaL 0 _ hl]
   by_cases e : j = k
   ·subst e; rw [if_pos rfl, hi, Int.toNat_natCast]
   ·rw [if_neg (by omega)]; exact h3 j (by omega)
  ·rw [zaL 0 _ hl, if_neg (by omega)]; exact h4 x (by omega)
  ·rw [zaL 0 _ hl]
   split
   ·exact gn.i32
   ·exact h5 j hj
theorem zoj (hL : LayOK bs fr cell V nC) {C : List Int} (hC : C.length = nC) (h32 : ∀ j, j < C.length → i32 (C.getD j 0)) :
  ∀ k, k ≤ (zaq bs).length → zd0 inp C (za9 [] (mv2 cell (zaq bs)) k) ∧ (zcG inp C (za9 [] (mv2 cell (zaq bs)) k)).length = C.length ∧
   (∀ j, j < k → (zcG inp C (za9 [] (mv2 cell (zaq bs)) k)).getD ((zaq bs).getD j 0).toNat 0 = C.getD (bs.length + j) 0) ∧
   (∀ x, (∀ j, j < k → ((zaq bs).getD j 0).toNat ≠ x) → (zcG inp C (za9 [] (mv2 cell (zaq bs)) k)).getD x 0 = C.getD x 0) ∧ ∀ j, j < C.length → i32 ((zcG inp C (za9 [] (mv2 cell (zaq bs)) k)).getD j 0)
 | 0, _ => ⟨trivial, rfl, fun j h => absurd h (Nat.not_lt_zero j), fun _ _ => rfl, h32⟩
 | k + 1, hk => by
  obtain ⟨h1, h2, h3, h4, h5⟩ := zoj hL hC h32 k (by omega)
  have hnC := hL.sz
  obtain ⟨i, hi, hin, hik⟩ := zbA (bs := bs) (k := k) (by omega)
  have hcd := hL.del k (by omega)
  have hne : ∀ j, j < k → ((zaq bs).getD j 0).toNat ≠ i := fun j hj e => by
   refine zgt (zf0 bs) hj (by omega) ?_
   obtain ⟨i', hi', _⟩ := zbA (bs := bs) (k := j) (by omega)
   rw [hi', Int.toNat_natCast] at e
   rw [hi', hi, e]
  have hn2 : ∀ j, j < k → ((zaq bs).getD j 0).toNat ≠ bs.length + k := fun j hj e => by
   obtain ⟨i', hi', hl', _⟩ := zbA (bs := bs) (k := j) (by omega)
   rw [hi', Int.toNat_natCast] at e
   omega
  have e1 : za9 [] (mv2 cell (zaq bs)) (k + 1) = za9 [] (mv2 cell (zaq bs)) k ++ [mv2 cell (zaq bs) k] := rfl
  rw [e1, zcK, zcV]
  generalize zcG inp C (za9 [] (mv2 cell (zaq bs)) k) = C1 at *
  have hv := h32 (bs.length + k) (by omega)
  have hs : stp inp C1 (mv2 cell (zaq bs) k) = C.getD (bs.length + k) 0 := by
   show scl (C1.getD (cell.getD ((zaq bs).getD k 0).toNat 0).toNat 0) 0 = _
   rw [hcd, Int.toNat_natCast, h4 _ hn2, zgr hv]
  have hst : stI inp C1 (mv2 cell (zaq bs) k) = C1.set i (C.getD (bs.length + k) 0) := by
   unfold stI
   rw [hs]
   show C1.set ((zaq bs).getD k 0).toNat _ = _
   rw [hi, Int.toNat_natCast]
  have hl : i < C1.length := by rw [h2]; omega
  show (_ ∧ i32 (stp inp C1 (mv2 cell (zaq bs) k)) ∧ True) ∧ (stI inp C1 (mv2 cell (zaq bs) k)).length = _ ∧ (∀ j, j < k + 1 → (stI inp C1 (mv2 cell (zaq bs) k)).getD _ 0 = _) ∧ (∀ x, _ → (stI inp C1 (mv2 cell (zaq bs) k)).getD x 0 = _) ∧ ∀ j, _ → i32 ((stI inp C1 (mv2 cell (zaq bs) k)).getD j 0)
  rw [hs, hst]
  refine ⟨⟨h1, hv, trivial⟩, by rw [List.length_set]; exact h2, fun j hj => ?_, fun x hx => ?_, fun j hj => ?_⟩
  ·rw [zaL 0 _ hl]
   by_cases e : j = k
   ·subst e; rw [hi, Int.toNat_natCast, if_pos rfl]
   ·rw [if_neg (Ne.symm (hne j (by omega)))]; exact h3 j (by omega)
  ·have hxi := hx k (by omega)
   rw [hi, Int.toNat_natCast] at hxi
   rw [zaL 0 _ hl, if_neg hxi]; exact h4 x (fun j hj => hx j (by omega))
  ·rw [zaL 0 _ hl]
   split
   ·exact hv
   ·exact h5 j hj
end
set_option maxHeartbeats 2000000
theorem zmi {n : Nat} {D : List Int} (hn : D.Nodup) (hd : ∀ k, k < D.length → ∃ i : Nat, D.getD k 0 = (i : Int) ∧ i < n) : ∀ k, k ≤ D.length → ∀ j, j < k → (zdS n D k).getD (D.getD j 0).toNat 0 = ((n + j : Nat) : Int)
 | 0, _, j, h => absurd h (Nat.not_lt_zero j)
 | k + 1, hk, j, hj => by
  obtain ⟨i, hi, hin⟩ := hd k (by omega)
  obtain ⟨i', hi', _⟩ := hd j (by omega)
  show ((zdS n D k).set (D.getD k 0).toNat _).getD _ 0 = _
  rw [hi, hi', Int.toNat_natCast, Int.toNat_natCast, zaL 0 _ (by rw [zcs]; exact hin)]
  by_cases e : j = k
  ·subst e
   rw [if_pos (by omega)]
  ·have := zgt hn (show j < k by omega) (by omega)
   rw [hi, hi'] at this
   rw [if_neg (by omega)]
   have ih := zmi (n := n) hn hd k (by omega) j (by omega)
   rw [hi', Int.toNat_natCast] at ih
   exact ih
theorem zkq {n : Nat} {D : List Int} (hd : ∀ k, k < D.length → ∃ i : Nat, D.getD k 0 = (i : Int) ∧ i < n) {x : Nat} (hx : x < n) : ∀ k, k ≤ D.length → (∀ j, j < k → D.getD j 0 ≠ (x : Int)) → (zdS n D k).getD x 0 = 0
 | 0, _, _ => by
  show (List.replicate n (0 : Int)).getD x 0 = 0
  simp [List.getD, hx]
 | k + 1, hk, h => by
  obtain ⟨i, hi, hin⟩ := hd k (by omega)
  have hne := h k (by omega)
  show ((zdS n D k).set (D.getD k 0).toNat _).getD _ 0 = _
  rw [hi] at hne ⊢
  rw [Int.toNat_natCast, zaL 0 _ (by rw [zcs]; exact hin), if_neg (by omega)]
  exact zkq hd hx k (by omega) fun j hj => h j (by omega)
theorem zht {n m : Nat} {C0 L : List Int} (hl : ∀ k, k < L.length → ∃ i : Nat, L.getD k 0 = (i : Int) ∧ i < C0.length) {x : Nat} : ∀ k, k ≤ L.length → (∀ j, j < k → L.getD j 0 ≠ (x : Int)) → (zd1 n m C0 L k).getD x 0 = C0.getD x 0
 | 0, _, _ => rfl
 | k + 1, hk, h => by
  obtain ⟨i, hi, hin⟩ := hl k (by omega)
  have hne := h k (by omega)
  show ((zd1 n m C0 L k).set (L.getD k 0).toNat _).getD _ 0 = _
  rw [hi] at hne ⊢
  rw [Int.toNat_natCast, zaL 0 _ (by rw [zek]; exact hin), if_neg (by omega)]
  exact zht hl k (by omega) fun j hj => h j (by omega)
theorem zmj {n m : Nat} {C0 L : List Int} (hn : L.Nodup) (hl : ∀ k, k < L.length → ∃ i : Nat, L.getD k 0 = (i : Int) ∧ i < C0.length) : ∀ k, k ≤ L.length → ∀ j, j < k → (zd1 n m C0 L k).getD (L.getD j 0).toNat 0 = ((n + m + 2 * j : Nat) : Int)
 | 0, _, j, h => absurd h (Nat.not_lt_zero j)
 | k + 1, hk, j, hj => by
  obtain ⟨i, hi, hin⟩ := hl k (by omega)
  obtain ⟨i', hi', _⟩ := hl j (by omega)
  show ((zd1 n m C0 L k).set (L.getD k 0).toNat _).getD _ 0 = _
  rw [hi, hi', Int.toNat_natCast, Int.toNat_natCast, zaL 0 _ (by rw [zek]; exact hin)]
  by_cases e : j = k
  ·subst e
   rw [if_pos (by omega)]
  ·have := zgt hn (show j < k by omega) (by omega)
   rw [hi, hi'] at this
   rw [if_neg (by omega)]
   have ih := zmj (n := n) (m := m) hn hl k (by omega) j (by omega)
   rw [hi', Int.toNat_natCast] at ih
   exact ih
theorem zfu {l m : List Int} {x : Nat} (h : x < l.length) : (l ++ m).getD x 0 = l.getD x 0 := by simp [List.getD, List.getElem?_append_left h]
theorem zhb {l m : List Int} {x : Nat} (h : l.length ≤ x) : (l ++ m).getD x 0 = m.getD (x - l.length) 0 := by simp [List.getD, List.getElem?_append_right h]
theorem zk6 {I0 V U L : List Int} {x : Nat} (hx : x < I0.length) : ∀ k, (zic I0 V U L k).getD x 0 = I0.getD x 0
 | 0 => rfl
 | k + 1 => by
  have hl := zey I0 V U L k
  show (zic I0 V U L k ++ _).getD x 0 = _
  rw [zfu (h := by omega)]
  exact zk6 hx k
theorem zoM {I0 V U L : List Int} : ∀ k, ∀ j, j < k → (zic I0 V U L k).getD (I0.length + 2 * j) 0 = V.getD (L.getD j 0).toNat 0 ∧ (zic I0 V U L k).getD (I0.length + 2 * j + 1) 0 = U.getD (L.getD j 0).toNat 0
 | 0, j, h => absurd h (Nat.not_lt_zero j)
 | k + 1, j, hj => by
  have hl := zey I0 V U L k
  show (zic I0 V U L k ++ _).getD _ 0 = _ ∧ (zic I0 V U L k ++ _).getD _ 0 = _
  by_cases e : j = k
  ·subst e
   rw [zhb (h := by omega), zhb (h := by omega), hl, show I0.length + 2 * j - (I0.length + 2 * j) = 0 by omega, show I0.length + 2 * j + 1 - (I0.length + 2 * j) = 1 by omega]
   exact ⟨rfl, rfl⟩
  ·rw [zfu (h := by omega), zfu (h := by omega)]
   exact zoM k j (by omega)
def bV (bs : List Blk) (fr : List Int) (i : Nat) : Int := rawV (bs.getD i Blk.zero) (fr.getD i 0)
def bU (bs : List Blk) (fr : List Int) (i : Nat) : Int := rawU (bs.getD i Blk.zero) (fr.getD i 0)
def bI (bs : List Blk) (fr : List Int) (i : Nat) : Int := rawI (bs.getD i Blk.zero) (fr.getD i 0)
def zb7 (bs : List Blk) : List Int := zd1 bs.length (zaq bs).length (zdS bs.length (zaq bs) (zaq bs).length) (clB bs) (clB bs).length
def pV (bs : List Blk) (fr : List Int) : List Int := zaY (bV bs fr) bs.length bs.length
def zcA (bs : List Blk) (fr : List Int) : List Int := zic (zaY (bI bs fr) bs.length bs.length ++ List.replicate (zaq bs).length 0) (pV bs fr) (zaY (bU bs fr) bs.length bs.length) (clB bs) (clB bs).length
def pO (bs : List Blk) : List Int := (ordB bs).getD []
def pC0 (ins : List (Int × Int × Int)) (bs : List Blk) (fr : List Int) : List Ins := zbr ins bs fr (zb7 bs) (pV bs fr) (pO bs) (pO bs).length
def zcB (ins : List (Int × Int × Int)) (bs : List Blk) (fr : List Int) : List Ins := za9 (za9 (pC0 ins bs fr) (mv1 bs fr (zb7 bs) (zaq bs)) (zaq bs).length) (mv2 (zb7 bs) (zaq bs)) (zaq bs).length
def pNC (bs : List Blk) : Nat := bs.length + (zaq bs).length + 2 * (clB bs).length
theorem zgh {bs : List Blk} {k : Nat} (h : k < (clB bs).length) : ∃ i : Nat, (clB bs).getD k 0 = (i : Int) ∧ i < bs.length ∧ (bs.getD i Blk.zero).k = 11 := by
 obtain ⟨h1, h2, h3⟩ := clB_at h
 exact ⟨((clB bs).getD k 0).toNat, by omega, h2, h3⟩
theorem zeg (bs : List Blk) : (zaq bs).length ≤ bs.length := by
 unfold zaq; rw [List.length_map]; exact Nat.le_trans (List.length_filter_le ..) (by rw [List.length_range]; exact Nat.le_refl _)
theorem zpt (bs : List Blk) : (clB bs).length ≤ bs.length := clK_le bs _
theorem zdt (bs : List Blk) (fr : List Int) : (zcA bs fr).length = pNC bs := by
 unfold zcA pNC
 rw [zey, List.length_append, zaC, List.length_replicate]
theorem zjR (bs : List Blk) {k : Nat} (hk : k < (zaq bs).length) : (zb7 bs).getD ((zaq bs).getD k 0).toNat 0 = ((bs.length + k : Nat) : Int) := by
 obtain ⟨i, hi, hin, h2⟩ := zbA hk
 have h := zmi (n := bs.length) (zf0 bs) (fun k hk => by obtain ⟨i, a, b, _⟩ := zbA hk; exact ⟨i, a, b⟩) (zaq bs).length (Nat.le_refl _) k hk
 rw [hi, Int.toNat_natCast] at h ⊢
 unfold zb7
 rw [zht (fun k hk => by obtain ⟨i, a, b, _⟩ := zgh hk; exact ⟨i, a, by rw [zcs]; exact b⟩) _ (Nat.le_refl _) (fun j hj e => by
  obtain ⟨i', a, b, c⟩ := zgh hj
  rw [a] at e
  have : i' = i := by omega
  subst this
  unfold zav at h2
  rw [h2] at c
  cases c)]
 exact h
theorem zfO (bs : List Blk) {k : Nat} (hk : k < (clB bs).length) : (zb7 bs).getD ((clB bs).getD k 0).toNat 0 = ((bs.length + (zaq bs).length + 2 * k : Nat) : Int) := by
 unfold zb7
 exact zmj (zps bs) (fun k hk => by obtain ⟨i, a, b, _⟩ := zgh hk; exact ⟨i, a, by rw [zcs]; exact b⟩) _ (Nat.le_refl _) k hk
theorem pLay (bs : List Blk) (fr : List Int) : LayOK bs fr (zb7 bs) (pV bs fr) (pNC bs) := by
 refine ⟨by unfold pNC; omega, fun i hi hk => ?_, fun k hk => zjR bs hk, fun i hi hk => ?_⟩
 ·unfold pV
  rw [zeu _ hi, if_pos hi]
  unfold bV rawV
  rw [if_pos (.inr (.inl hk))]
 ·obtain ⟨k, hk, e⟩ := zpr hi hk
  have h := zfO bs hk
  rw [e, Int.toNat_natCast] at h
  exact ⟨_, h, by omega, by unfold pNC; omega⟩
theorem zlJ {bs : List Blk} {fr : List Int} {i : Nat} (hi : i < bs.length) : (zcA bs fr).getD i 0 = bI bs fr i := by
 unfold zcA
 rw [zk6 (by rw [List.length_append, zaC]; omega), zfu (h := by rw [zaC]; exact hi), zeu _ hi, if_pos hi]
theorem znU {bs : List Blk} {fr : List Int} {j : Nat} (h1 : bs.length ≤ j) (h2 : j < bs.length + (zaq bs).length) : (zcA bs fr).getD j 0 = 0 := by
 unfold zcA
 rw [zk6 (by rw [List.length_append, zaC, List.length_replicate]; omega), zhb (h := by rw [zaC]; exact h1), zaC]
 simp [List.getD, show j - bs.length < (zaq bs).length by omega]
theorem zlK {bs : List Blk} {fr : List Int} {k : Nat} (hk : k < (clB bs).length) : (zcA bs fr).getD (bs.length + (zaq bs).length + 2 * k) 0 = bV bs fr ((clB bs).getD k 0).toNat ∧ (zcA bs fr).getD (bs.length + (zaq bs).length + 2 * k + 1) 0 = bU bs fr ((clB bs).getD k 0).toNat := by
 obtain ⟨i, hi, hin, _⟩ := zgh hk
 have h := zoM (I0 := zaY (bI bs fr) bs.length bs.length ++ List.replicate (zaq bs).length 0) (V := pV bs fr) (U := zaY (bU bs fr) bs.length bs.length) (L := clB bs) (clB bs).length k hk
 rw [List.length_append, zaC, List.length_replicate] at h
 unfold zcA
 rw [h.1, h.2, hi, Int.toNat_natCast]
 unfold pV
 rw [zeu _ hin, if_pos hin, zeu _ hin, if_pos hin]
 exact ⟨rfl, rfl⟩
theorem pClip (bs : List Blk) (fr : List Int) : zpP bs fr (zb7 bs) (zcA bs fr) := fun i hi h11 => by
 obtain ⟨k, hk, e⟩ := zpr hi h11
 have h := zfO bs hk
 obtain ⟨h1, h2⟩ := zlK (bs := bs) (fr := fr) hk
 rw [e, Int.toNat_natCast] at h h1 h2
 rw [h, Int.toNat_natCast, h1, h2]
 unfold bV bU rawV rawU
 rw [if_pos (.inl h11), if_pos h11]
 exact ⟨rfl, rfl⟩
section
variable {ins : List (Int × Int × Int)} {bs : List Blk} {outs fr : List Int} {R : List Iv} {E : List Dy} {inp : List Int}
theorem CtOK.raws (H : CtOK ins bs outs fr R E) {i : Nat} (hi : i < bs.length) : ((bs.getD i Blk.zero).k = 1 ∨ (bs.getD i Blk.zero).k = 2 ∨ (bs.getD i Blk.zero).k = 11 → zb5 (bs.getD i Blk.zero).vn (bs.getD i Blk.zero).ve (fr.getD i 0) = true) ∧ ((bs.getD i Blk.zero).k = 11 → zb5 (bs.getD i Blk.zero).un (bs.getD i Blk.zero).ue (fr.getD i 0) = true) := by
 have h := H.sc i hi
 generalize bs.getD i Blk.zero = b at *
 unfold scB at h
 constructor
 ·rintro (hk | hk | hk)
  ·simp only [hk, reduceIte, Int.reduceEq] at h
   exact h
  ·simp only [hk, reduceIte, Int.reduceEq, Bool.and_eq_true] at h
   exact h.2
  ·simp only [hk, reduceIte, Int.reduceEq, Bool.and_eq_true] at h
   exact h.1.2
 ·intro hk
  simp only [hk, reduceIte, Int.reduceEq, Bool.and_eq_true] at h
  exact h.2
theorem ziJ {n e f : Int} (h : zb5 n e f = true) : i32 (zdW n e f).toInt := by
 unfold zb5 at h
 rw [Bool.and_eq_true] at h
 have h2 := of_decide_eq_true h.2
 exact h2
theorem zlt : i32 0 := by unfold i32; omega
theorem zjP (H : CtOK ins bs outs fr R E) : ∀ j, j < pNC bs → i32 ((zcA bs fr).getD j 0) := fun j hj => by
 unfold pNC at hj
 by_cases h1 : j < bs.length
 ·rw [zlJ h1]
  unfold bI rawI
  split
  ·rename_i h
   exact ziJ ((H.raws h1).1 (.inr (.inl h)))
  ·exact zlt
 by_cases h2 : j < bs.length + (zaq bs).length
 ·rw [znU (by omega) h2]
  exact zlt
 ·obtain ⟨k, hk⟩ : ∃ k, j = bs.length + (zaq bs).length + 2 * k ∨ j = bs.length + (zaq bs).length + 2 * k + 1 := ⟨(j - (bs.length + (zaq bs).length)) / 2, by omega⟩
  have hkl : k < (clB bs).length := by omega
  obtain ⟨i, hi, hin, h11⟩ := zgh hkl
  obtain ⟨g1, g2⟩ := zlK (bs := bs) (fr := fr) hkl
  rw [hi, Int.toNat_natCast] at g1 g2
  rcases hk with rfl | rfl
  ·rw [g1]
   unfold bV rawV
   rw [if_pos (.inl h11)]
   exact ziJ ((H.raws hin).1 (.inr (.inr h11)))
  ·rw [g2]
   unfold bU rawU
   rw [if_pos h11]
   exact ziJ ((H.raws hin).2 h11)
structure StOK (bs : List Blk) (fr : List Int) (R : List Iv) (E : List Dy) (C : List Int) (st : List Dy) : Prop where
 len : C.length = pNC bs
 clip : zpP bs fr (zb7 bs) C
 i32 : ∀ j, j < pNC bs → i32 (C.getD j 0)
 sl : st.length = (zaq bs).length
 good : ∀ k, k < (zaq bs).length → Good fr R E ((zaq bs).getD k 0).toNat (C.getD ((zaq bs).getD k 0).toNat 0) (st.getD k Dy.zero)
 lg : ∀ k, k < (zaq bs).length → lgD (st.getD k Dy.zero) = false
theorem lgD_of {x : Dy} {k : Nat} (h : Mg k x) (hk : k + x.d ≤ 4096) : lgD x = false := by
 have h1 := zcv.1 h
 have h2 : zeE x.n.natAbs ≤ k + x.d := zdl h1
 unfold lgD
 exact decide_eq_false (by unfold dn; omega)
theorem scN_lg {n e : Int} (h : zbO n e) : lgD (scN n e) = false := lgD_of (zaP h) (by have := znB (n := n) h.2; omega)
theorem st0 (H : CtOK ins bs outs fr R E) : StOK bs fr R E (zcA bs fr) ((zaq bs).map fun i => scN (bs.getD i.toNat Blk.zero).vn (bs.getD i.toNat Blk.zero).ve) := by
 refine ⟨zdt bs fr, pClip bs fr, zjP H, by rw [List.length_map], fun k hk => ?_, fun k hk => ?_⟩
 ·obtain ⟨i, hi, hin, h2⟩ := zbA hk
  unfold zav at h2
  have e : (((zaq bs).map fun i => scN (bs.getD i.toNat Blk.zero).vn (bs.getD i.toNat Blk.zero).ve).getD k Dy.zero) = scN (bs.getD i Blk.zero).vn (bs.getD i Blk.zero).ve := by
   rw [zaB (by rw [List.length_map]; exact hk), List.getElem_map, ← zaB (d := 0) hk, hi, Int.toNat_natCast]
  rw [e, hi, Int.toNat_natCast, zlJ hin]
  have hb := H.dg.blk i hin
  have hs := hb.val (.inr (.inl h2))
  have hr := (H.raws hin).1 (.inr (.inl h2))
  have hbd := H.bd i hin
  have hrg := H.rg i hin
  obtain ⟨F, hF, hF30, hFt⟩ := H.fF hin
  unfold bI rawI
  rw [if_pos h2]
  generalize bs.getD i Blk.zero = b at *
  rw [hF] at hr hbd ⊢
  obtain ⟨r1, r2, _⟩ := ziK hs hF30 hr rfl
  unfold rgB at hrg
  rw [if_pos h2] at hrg
  unfold bdB at hbd
  simp only [h2, reduceIte, Int.reduceEq, or_self] at hbd
  refine H.good hin ?_ (zn5 hrg (ziR (zmE _))) (Nat.le_trans (znB hs.2) (by omega))
  rw [hFt]
  refine r1.mono (Rat.le_trans ?_ (Rat.le_trans (zbW _ _) hbd))
  rw [zmK]
  unfold Blk.val
  cases zbp (scN b.vn b.ve) F <;> exact Rat.le_refl
 ·obtain ⟨i, hi, hin, h2⟩ := zbA hk
  rw [zaB (by rw [List.length_map]; exact hk), List.getElem_map, ← zaB (d := 0) hk, hi, Int.toNat_natCast]
  exact scN_lg ((H.dg.blk i hin).val (.inr (.inl h2)))
end
set_option maxHeartbeats 2000000
section
variable {nP nC : Nat} {op dst a b sa sb imm : Int}
theorem zfr (ho : op = 0 ∨ op = 2 ∨ op = 5 ∨ op = 10) (hd : 0 ≤ dst ∧ dst < nC) (ha : 0 ≤ a ∧ a < ((if op = 0 then nP else nC : Nat) : Int)) (hs : -62 ≤ sa ∧ sa ≤ 30) : InsOK nP nC ⟨op, dst, a, 0, sa, 0, 0⟩ := by
 refine ⟨by show 0 ≤ op ∧ op ≤ 10; omega, hd, ?_, ?_, ?_, ?_⟩
 ·show if op = 1 then _ else _
  rw [if_neg (by omega)]; exact ⟨ha, hs⟩
 ·show if op = 3 ∨ op = 4 ∨ op = 7 ∨ op = 8 ∨ op = 9 then _ else _
  rw [if_neg (by omega)]
 ·show if op = 3 ∨ op = 4 ∨ op = 8 ∨ op = 9 then _ else _
  rw [if_neg (by omega)]
 ·show if op = 1 ∨ op = 6 then _ else _
  rw [if_neg (by omega)]
theorem zoL (hd : 0 ≤ dst ∧ dst < nC) (hi : i32 imm) : InsOK nP nC ⟨1, dst, 0, 0, 0, 0, imm⟩ :=
 ⟨by show (0 : Int) ≤ 1 ∧ (1 : Int) ≤ 10; omega, hd, ⟨rfl, rfl⟩, rfl, rfl, hi⟩
theorem insOK_gn (hd : 0 ≤ dst ∧ dst < nC) (ha : 0 ≤ a ∧ a < nC) (hs : -62 ≤ sa ∧ sa ≤ 30) (hi : i32 imm) : InsOK nP nC ⟨6, dst, a, 0, sa, 0, imm⟩ :=
 ⟨by show (0 : Int) ≤ 6 ∧ (6 : Int) ≤ 10; omega, hd, ⟨ha, hs⟩, rfl, rfl, hi⟩
theorem insOK_ml (hd : 0 ≤ dst ∧ dst < nC) (ha : 0 ≤ a ∧ a < nC) (hb : 0 ≤ b ∧ b < nC) (hs : -62 ≤ sa ∧ sa ≤ 30) : InsOK nP nC ⟨7, dst, a, b, sa, 0, 0⟩ :=
 ⟨by show (0 : Int) ≤ 7 ∧ (7 : Int) ≤ 10; omega, hd, ⟨ha, hs⟩, hb, rfl, rfl⟩
theorem ziY (ho : op = 3 ∨ op = 4 ∨ op = 8 ∨ op = 9) (hd : 0 ≤ dst ∧ dst < nC) (ha : 0 ≤ a ∧ a < nC) (hb : 0 ≤ b ∧ b < nC) (hs : -62 ≤ sa ∧ sa ≤ 30) (hs' : -62 ≤ sb ∧ sb ≤ 30) : InsOK nP nC ⟨op, dst, a, b, sa, sb, 0⟩ := by
 refine ⟨by show 0 ≤ op ∧ op ≤ 10; omega, hd, ?_, ?_, ?_, ?_⟩
 ·show if op = 1 then _ else _
  rw [if_neg (by omega)]
  refine ⟨?_, hs⟩
  show 0 ≤ a ∧ a < ((if op = 0 then nP else nC : Nat) : Int)
  rw [if_neg (by omega)]; exact ha
 ·show if op = 3 ∨ op = 4 ∨ op = 7 ∨ op = 8 ∨ op = 9 then _ else _
  rw [if_pos (by omega)]; exact hb
 ·show if op = 3 ∨ op = 4 ∨ op = 8 ∨ op = 9 then _ else _
  rw [if_pos (by omega)]; exact hs'
 ·show if op = 1 ∨ op = 6 then _ else _
  rw [if_neg (by omega)]
end
section
variable {ins : List (Int × Int × Int)} {bs : List Blk} {outs fr : List Int} {R : List Iv} {E : List Dy} {inp : List Int}
theorem zcy {n : Int} (h : zcg n = true) : -62 ≤ n ∧ n ≤ 30 := of_decide_eq_true h
theorem insB_ok (H : CtOK ins bs outs fr R E) {i : Nat} (hi : i < bs.length) (hk : (bs.getD i Blk.zero).k ≠ 2) : ∀ x ∈ zib ins fr (zb7 bs) (pV bs fr) i (bs.getD i Blk.zero), InsOK ins.length (pNC bs) x := by
 have hb := H.dg.blk i hi
 have hsc := H.sc i hi
 have hV := (pLay bs fr).con i hi
 have hcl := (pLay bs fr).clip i hi
 have hr1 := (H.raws hi).1
 have hnC : bs.length ≤ pNC bs := by unfold pNC; omega
 generalize pNC bs = nC at *
 generalize pV bs fr = V at *
 generalize zb7 bs = cell at *
 generalize bs.getD i Blk.zero = b at *
 have hkd := hb.kind
 have hdi : (0 : Int) ≤ i ∧ (i : Int) < nC := by omega
 unfold scB at hsc
 unfold zib
 simp only [] at hsc ⊢
 by_cases h0 : b.k = 0
 ·simp only [h0, reduceIte] at hsc ⊢
  have hp := (hb.inp h0).1
  intro x hx
  rw [List.mem_singleton] at hx
  subst hx
  exact zfr (.inl rfl) hdi (by rw [if_pos rfl]; omega) (zcy hsc)
 by_cases h1 : b.k = 1
 ·simp only [h1, reduceIte, Int.reduceEq] at hsc ⊢
  intro x hx
  rw [List.mem_singleton] at hx
  subst hx
  refine zoL hdi ?_
  rw [hV h1]
  exact ziJ (hr1 (.inl h1))
 by_cases h6 : b.k = 6
 ·simp only [h6, reduceIte, Int.reduceEq] at hsc ⊢
  obtain ⟨_, hp⟩ := hb.a1 (by omega)
  have hv := hb.val (by omega)
  intro x hx
  rw [List.mem_singleton] at hx
  subst hx
  exact insOK_gn hdi (by omega) (zcy hsc) (by unfold zbO at hv; unfold i32; omega)
 by_cases h7 : b.k = 7
 ·simp only [h7, reduceIte, Int.reduceEq] at hsc ⊢
  obtain ⟨_, hp, hq⟩ := hb.a2 (by omega)
  intro x hx
  rw [List.mem_singleton] at hx
  subst hx
  exact insOK_ml hdi (by omega) (by omega) (zcy hsc)
 by_cases h11 : b.k = 11
 ·simp only [h11, reduceIte, Int.reduceEq, Bool.and_eq_true] at hsc ⊢
  obtain ⟨_, hp⟩ := hb.a1 (by omega)
  obtain ⟨c, c1, c2, c3⟩ := hcl h11
  rw [c1]
  intro x hx
  rw [List.mem_cons, List.mem_singleton] at hx
  rcases hx with hx | hx
  ·subst hx
   exact ziY (.inr (.inr (.inr rfl))) hdi (by omega) (by omega) (zcy hsc.1.1) (by omega)
  ·subst hx
   exact ziY (.inr (.inr (.inl rfl))) hdi hdi (by omega) (by omega) (by omega)
 by_cases h5 : b.k = 5
 ·simp only [h5, reduceIte, Int.reduceEq, true_or] at hsc ⊢
  obtain ⟨_, hp⟩ := hb.a1 (by omega)
  intro x hx
  rw [List.mem_singleton] at hx
  subst hx
  exact zfr (.inr (.inr (.inl rfl))) hdi (by rw [if_neg (by omega)]; omega) (zcy hsc)
 by_cases h10 : b.k = 10
 ·simp only [h10, reduceIte, Int.reduceEq, or_true] at hsc ⊢
  obtain ⟨_, hp⟩ := hb.a1 (by omega)
  intro x hx
  rw [List.mem_singleton] at hx
  subst hx
  exact zfr (.inr (.inr (.inr rfl))) hdi (by rw [if_neg (by omega)]; omega) (zcy hsc)
 obtain ⟨_, hp, hq⟩ := hb.a2 (by omega)
 rw [if_neg h0, if_neg h1, if_neg h6, if_neg h7, if_neg hk, if_neg h11, if_neg (show ¬ (b.k = 5 ∨ b.k = 10) by omega), Bool.and_eq_true] at hsc
 rw [if_neg h0, if_neg h1, if_neg h6, if_neg h7, if_neg h11, if_neg h5, if_neg h10]
 intro x hx
 rw [List.mem_singleton] at hx
 subst hx
 exact ziY (by omega) hdi (by omega) (by omega) (zcy hsc.1) (zcy hsc.2)
theorem zjc (H : CtOK ins bs outs fr R E) {O : List Int} (ho : ∀ k, k < O.length → (O.getD k 0).toNat < bs.length ∧ (bs.getD (O.getD k 0).toNat Blk.zero).k ≠ 2) : ∀ k, k ≤ O.length → (∀ x ∈ zbr ins bs fr (zb7 bs) (pV bs fr) O k, InsOK ins.length (pNC bs) x) ∧ (zbr ins bs fr (zb7 bs) (pV bs fr) O k).length ≤ 2 * k
 | 0, _ => ⟨fun x hx => (by cases hx), Nat.le_refl _⟩
 | k + 1, hk => by
  obtain ⟨h1, h2⟩ := zjc H ho k (by omega)
  obtain ⟨o1, o2⟩ := ho k (by omega)
  have h3 := insB_ok H o1 o2
  have h4 : (zib ins fr (zb7 bs) (pV bs fr) (O.getD k 0).toNat (bs.getD (O.getD k 0).toNat Blk.zero)).length ≤ 2 := by
   unfold zib
   simp only []
   repeat' split
   all_goals simp
  show (∀ x ∈ zbr ins bs fr (zb7 bs) (pV bs fr) O k ++ _, _) ∧ (zbr ins bs fr (zb7 bs) (pV bs fr) O k ++ _).length ≤ _
  refine ⟨fun x hx => ?_, by rw [List.length_append]; omega⟩
  rcases List.mem_append.1 hx with hx | hx
  ·exact h1 x hx
  ·exact h3 x hx
theorem zhr {l : List Ins} {g : Nat → Ins} {P : Ins → Prop} (hl : ∀ x ∈ l, P x) : ∀ k, (∀ j, j < k → P (g j)) → ∀ x ∈ za9 l g k, P x
 | 0, _, x, hx => hl x hx
 | k + 1, hg, x, hx => by
  rcases List.mem_append.1 hx with hx | hx
  ·exact zhr hl k (fun j hj => hg j (by omega)) x hx
  ·rw [List.mem_singleton] at hx
   subst hx
   exact hg k (by omega)
theorem pO_ok (H : CtOK ins bs outs fr R E) : Topo bs (pO bs) ∧ (∀ i, i < bs.length → zav bs i = 2 ∨ (i : Int) ∈ pO bs) ∧ (∀ k, k < (pO bs).length → 0 ≤ (pO bs).getD k 0 ∧ ((pO bs).getD k 0).toNat < bs.length ∧ (bs.getD ((pO bs).getD k 0).toNat Blk.zero).k ≠ 2) ∧ (pO bs).length ≤ bs.length := by
 obtain ⟨h1, h2⟩ := H.dg.ordOK
 refine ⟨h1, h2, fun k hk => h1.rng _ (zez hk), ?_⟩
 have hs : ∀ x ∈ (pO bs).map Int.toNat, x ∈ List.range bs.length := fun x hx => by
  obtain ⟨v, hv, rfl⟩ := List.mem_map.1 hx
  exact List.mem_range.2 (h1.rng v hv).2.1
 have hn : ((pO bs).map Int.toNat).Nodup := by
  unfold List.Nodup
  rw [List.pairwise_map]
  refine (List.Pairwise.and_mem.1 h1.nodup).imp fun h e => ?_
  obtain ⟨ha, hb, hne⟩ := h
  have := (h1.rng _ ha).1
  have := (h1.rng _ hb).1
  exact hne (by omega)
 have := hn.length_le_of_subset hs
 rw [List.length_map, List.length_range] at this
 exact this
theorem zlL (H : CtOK ins bs outs fr R E) : ∀ x ∈ zcB ins bs fr, InsOK ins.length (pNC bs) x := by
 obtain ⟨ht, hall, ho, _⟩ := pO_ok H
 have hL := pLay bs fr
 have hnC : bs.length + (zaq bs).length ≤ pNC bs := hL.sz
 unfold zcB
 refine zhr (zhr ((zjc H (fun k hk => ⟨(ho k hk).2.1, (ho k hk).2.2⟩) _ (Nat.le_refl _)).1) _ fun k hk => ?_) _ fun k hk => ?_
 ·obtain ⟨i, hi, hin, h2⟩ := zbA hk
  unfold zav at h2
  have hc := hL.del k hk
  unfold mv1
  rw [hi, Int.toNat_natCast] at hc ⊢
  rw [hc]
  obtain ⟨_, hp⟩ := (H.dg.blk i hin).a1 (.inl h2)
  have hsc := H.sc i hin
  unfold scB at hsc
  simp only [h2, reduceIte, Int.reduceEq, Bool.and_eq_true] at hsc
  exact zfr (.inr (.inl rfl)) (by omega) (by rw [if_neg (by omega)]; omega) (zcy hsc.1)
 ·obtain ⟨i, hi, hin, h2⟩ := zbA hk
  have hc := hL.del k hk
  unfold mv2
  rw [hi, Int.toNat_natCast] at hc ⊢
  rw [hc]
  exact zfr (.inr (.inl rfl)) (by omega) (by rw [if_neg (by omega)]; omega) (by omega)
theorem znV (H : CtOK ins bs outs fr R E) : (pC0 ins bs fr).length ≤ 2 * bs.length := by
 obtain ⟨ht, hall, ho, hle⟩ := pO_ok H
 have := (zjc H (fun k hk => ⟨(ho k hk).2.1, (ho k hk).2.2⟩) _ (Nat.le_refl _)).2
 unfold pC0
 omega
theorem zjQ (ins : List (Int × Int × Int)) (bs : List Blk) (fr : List Int) : (zcB ins bs fr).length = (pC0 ins bs fr).length + (zaq bs).length + (zaq bs).length := by
 unfold zcB
 rw [zcQ, zcQ]
theorem pgOK (H : CtOK ins bs outs fr R E) (h40 : bs.length ≤ 40) : PgOK ins (zcA bs fr) (zcB ins bs fr) outs := by
 have l1 := zeg bs
 have l2 := zpt bs
 have l3 := znV H
 refine ⟨H.dg.nI, by rw [zdt]; unfold pNC; omega, by rw [zjQ]; omega, H.dg.nO, H.dg.ports, ?_, fun i hi => ?_, fun i hi => ?_⟩
 ·rw [zdt]; exact zjP H
 ·rw [zdt]; exact zlL H _ (zez hi)
 ·have := H.dg.outs i hi
  rw [zdt]
  unfold pNC
  omega
theorem insOK_sh {nP nC : Nat} {x : Ins} (h : InsOK nP nC x) : (-62 ≤ x.sa ∧ x.sa ≤ 30) ∧ -62 ≤ x.sb ∧ x.sb ≤ 30 := by
 have h1 := h.a
 have h2 := h.sb
 split at h1 <;> split at h2 <;> omega
theorem exD_at {N : Nat} {D : List Int} {st : List Dy} (hn : D.Nodup) (hd : ∀ k, k < D.length → ∃ i : Nat, D.getD k 0 = (i : Int) ∧ i < N) : ∀ k, k ≤ D.length → ∀ j, j < k → (exD N D st k).getD (D.getD j 0).toNat Dy.zero = st.getD j Dy.zero
 | 0, _, j, h => absurd h (Nat.not_lt_zero j)
 | k + 1, hk, j, hj => by
  obtain ⟨i, hi, hin⟩ := hd k (by omega)
  obtain ⟨i', hi', _⟩ := hd j (by omega)
  show ((exD N D st k).set (D.getD k 0).toNat _).getD _ Dy.zero = _
  rw [hi, hi', Int.toNat_natCast, Int.toNat_natCast, zaL Dy.zero _ (by rw [zdi]; exact hin)]
  by_cases e : j = k
  ·subst e
   rw [if_pos (by omega)]
  ·have := zgt hn (show j < k by omega) (by omega)
   rw [hi, hi'] at this
   rw [if_neg (by omega)]
   have ih := exD_at (N := N) (st := st) hn hd k (by omega) j (by omega)
   rw [hi', Int.toNat_natCast] at ih
   exact ih
theorem exD_lg {N : Nat} {D : List Int} {st : List Dy} (hd : ∀ k, k < D.length → (D.getD k 0).toNat < N) (hs : ∀ k, k < D.length → lgD (st.getD k Dy.zero) = false) : ∀ k, k ≤ D.length → ∀ i, i < N → lgD ((exD N D st k).getD i Dy.zero) = false
 | 0, _, i, hi => by
  show lgD ((List.replicate N Dy.zero).getD i Dy.zero) = false
  rw [show (List.replicate N Dy.zero).getD i Dy.zero = Dy.zero by simp [List.getD, hi]]
  exact EOK.zero.lg
 | k + 1, hk, i, hi => by
  exact zb0 (P := fun x => lgD x = false) (by rw [zdi]; exact hd k (by omega)) (exD_lg hd hs k (by omega)) (hs k (by omega)) i hi
theorem exO_lg {N : Nat} {O : List Int} {X : List Dy} (hX : X.length = N) (ho : ∀ k, k < O.length → (O.getD k 0).toNat < N) (h0 : ∀ i, i < N → lgD (X.getD i Dy.zero) = false) (hl : ∀ k, k < O.length → lgD (exV ins bs inp X O k) = false) : ∀ k, k ≤ O.length → ∀ i, i < N → lgD ((exO ins bs inp X O k).getD i Dy.zero) = false
 | 0, _, i, hi => h0 i hi
 | k + 1, hk, i, hi => by
  exact zb0 (P := fun x => lgD x = false) (by rw [zfZ, hX]; exact ho k (by omega)) (exO_lg hX ho h0 hl k (by omega)) (hl k (by omega)) i hi
def zfj (ins : List (Int × Int × Int)) (bs : List Blk) (inp : List Int) (st : List Dy) : List Dy := exO ins bs inp (exD bs.length (zaq bs) st (zaq bs).length) (pO bs) (pO bs).length
theorem znT (ins : List (Int × Int × Int)) (bs : List Blk) (inp : List Int) (st : List Dy) : (zfj ins bs inp st).length = bs.length := by unfold zfj; rw [zfZ, zdi]
theorem tick (H : CtOK ins bs outs fr R E) {C : List Int} {st : List Dy} (h : StOK bs fr R E C st)
  (hI : ∀ i, i < ins.length → (ins.getD i (0, 0, 0)).1 ≤ inp.getD i 0 ∧ inp.getD i 0 ≤ (ins.getD i (0, 0, 0)).2.1)
  (hl : ∀ k, k < (pO bs).length → lgD (exV ins bs inp (exD bs.length (zaq bs) st (zaq bs).length) (pO bs) k) = false) :
  zd0 inp C (zcB ins bs fr) ∧ StOK bs fr R E (zcG inp C (zcB ins bs fr)) (zgk bs (zaq bs) (zfj ins bs inp st)) ∧
   ∀ i, i < bs.length → Good fr R E i (if zav bs i = 2 then C.getD i 0 else (zcG inp C (zcB ins bs fr)).getD i 0) ((zfj ins bs inp st).getD i Dy.zero) := by
 obtain ⟨ht, hall, ho, _⟩ := pO_ok H
 have hL := pLay bs fr
 have hdn : ∀ k, k < (zaq bs).length → ∃ i : Nat, (zaq bs).getD k 0 = (i : Int) ∧ i < bs.length := fun k hk => by obtain ⟨i, a, b, _⟩ := zbA hk; exact ⟨i, a, b⟩
 have hX0 := zdi bs.length (zaq bs) st (zaq bs).length
 have hd0 : ∀ i, i < bs.length → zav bs i = 2 → Good fr R E i (C.getD i 0) ((exD bs.length (zaq bs) st (zaq bs).length).getD i Dy.zero) := fun i hi hk => by
  obtain ⟨k, hk, e⟩ := zlf hi hk
  have g := h.good k hk
  have e2 := exD_at (N := bs.length) (st := st) (zf0 bs) hdn _ (Nat.le_refl _) k hk
  rw [e, Int.toNat_natCast] at g e2
  rw [e2]; exact g
 obtain ⟨k1, J⟩ := zn0 H hL ht h.len h.clip (by rw [h.len]; exact h.i32) hI hX0 hd0 hl _ (Nat.le_refl _)
 have hvl : ∀ i, i < bs.length → lgD ((zfj ins bs inp st).getD i Dy.zero) = false := exO_lg hX0 (fun k hk => (ho k hk).2.1) (exD_lg (fun k hk => by obtain ⟨i, a, b⟩ := hdn k hk; omega) h.lg _ (Nat.le_refl _)) hl _ (Nat.le_refl _)
 have ev : exO ins bs inp (exD bs.length (zaq bs) st (zaq bs).length) (pO bs) (pO bs).length = zfj ins bs inp st := rfl
 have ec : zbr ins bs fr (zb7 bs) (pV bs fr) (pO bs) (pO bs).length = pC0 ins bs fr := rfl
 rw [ec] at k1 J
 rw [ev, List.take_length] at J
 have g1 : ∀ i, i < bs.length → Good fr R E i ((zcG inp C (pC0 ins bs fr)).getD i 0) ((zfj ins bs inp st).getD i Dy.zero) := fun i hi => J.good i hi (hall i hi)
 have l1 : (zcG inp C (pC0 ins bs fr)).length = pNC bs := by rw [ziI]; exact h.len
 obtain ⟨a1, a2, a3, a4, a5⟩ := zok (inp := inp) H hL l1 g1 (by rw [l1, ← h.len]; exact J.i32) _ (Nat.le_refl _)
 have ep : zcG inp C (zcB ins bs fr) = zcG inp (zcG inp (zcG inp C (pC0 ins bs fr)) (za9 [] (mv1 bs fr (zb7 bs) (zaq bs)) (zaq bs).length)) (za9 [] (mv2 (zb7 bs) (zaq bs)) (zaq bs).length) := by
  unfold zcB
  rw [zej, zcV, zej, zcV]
 have eo : zd0 inp C (zcB ins bs fr) ↔ (zd0 inp C (pC0 ins bs fr) ∧ zd0 inp (zcG inp C (pC0 ins bs fr)) (za9 [] (mv1 bs fr (zb7 bs) (zaq bs)) (zaq bs).length)) ∧ zd0 inp (zcG inp (zcG inp C (pC0 ins bs fr)) (za9 [] (mv1 bs fr (zb7 bs) (zaq bs)) (zaq bs).length)) (za9 [] (mv2 (zb7 bs) (zaq bs)) (zaq bs).length) := by
  unfold zcB
  rw [zej, zcK, zej, zcK, zcV]
 rw [eo, ep]
 generalize zcG inp C (pC0 ins bs fr) = C1 at *
 have l2 := a2.trans l1
 obtain ⟨b1, b2, b3, b4, b5⟩ := zoj (inp := inp) hL l2 (by rw [l2, ← l1]; exact a5) _ (Nat.le_refl _)
 generalize zcG inp C1 (za9 [] (mv1 bs fr (zb7 bs) (zaq bs)) (zaq bs).length) = C2 at *
 generalize zcG inp C2 (za9 [] (mv2 (zb7 bs) (zaq bs)) (zaq bs).length) = C3 at *
 have hlow : ∀ x, bs.length ≤ x → C3.getD x 0 = C2.getD x 0 := fun x hx => b4 x fun j hj e => by
  obtain ⟨i, q1, q2⟩ := hdn j hj
  rw [q1, Int.toNat_natCast] at e
  omega
 have hhi : ∀ x, bs.length + (zaq bs).length ≤ x → C3.getD x 0 = C.getD x 0 := fun x hx => by
  rw [hlow x (by omega), a4 x (.inr hx), J.hi x (by omega)]
 refine ⟨⟨⟨k1, a1⟩, b1⟩, ⟨by rw [b2, l2], fun i hi h11 => ?_, by rw [← l2]; exact b5, by unfold zgk; rw [List.length_map], fun k hk => ?_, fun k hk => ?_⟩, fun i hi => ?_⟩
 ·obtain ⟨c, c1, c2, c3⟩ := hL.clip i hi h11
  have := h.clip i hi h11
  rw [c1, Int.toNat_natCast] at this ⊢
  rw [hhi c c2, hhi (c + 1) (by omega)]
  exact this
 ·obtain ⟨i, q1, q2, q3⟩ := zbA hk
  have e1 := b3 k hk
  rw [a3 k hk] at e1
  rw [q1, Int.toNat_natCast] at e1 ⊢
  rw [e1]
  have e2 : (zgk bs (zaq bs) (zfj ins bs inp st)).getD k Dy.zero = (zfj ins bs inp st).getD ((bs.getD i Blk.zero).at 0) Dy.zero := by
   unfold zgk
   rw [zaB (by rw [List.length_map]; exact hk), List.getElem_map, ← zaB (d := 0) hk, q1, Int.toNat_natCast]
  rw [e2]
  exact zn9 H g1 q2 q3
 ·obtain ⟨i, q1, q2, q3⟩ := zbA hk
  have e2 : (zgk bs (zaq bs) (zfj ins bs inp st)).getD k Dy.zero = (zfj ins bs inp st).getD ((bs.getD i Blk.zero).at 0) Dy.zero := by
   unfold zgk
   rw [zaB (by rw [List.length_map]; exact hk), List.getElem_map, ← zaB (d := 0) hk, q1, Int.toNat_natCast]
  rw [e2]
  unfold zav at q3
  exact hvl _ ((H.dg.blk i q2).a1 (.inl q3)).2
 ·have g := g1 i hi
  by_cases h2 : zav bs i = 2
  ·rw [if_pos h2]
   rw [J.del i hi h2] at g
   exact g
  ·rw [if_neg h2, b4 i (fun j hj e => by
    obtain ⟨i', q1, q2, q3⟩ := zbA hj
    rw [q1, Int.toNat_natCast] at e
    subst e
    exact h2 q3), a4 i (.inl hi)]
   exact g
end
def lsR (l : List Int) : List AV := [.sl 1 (rws zad l)]
theorem zjg : zae lsR := fun x a ha => by
 simp only [lsR, List.mem_cons, List.not_mem_nil, or_false] at ha
 subst ha
 exact Cl.rws zbh
theorem fit_ls {rows : List (List AV)} (h : ∀ r ∈ rows, zeo [.sl [.int .i64]] r) : ∃ l : List (List Int), rows = rws lsR l ∧ l.length = rows.length := by
 induction rows with
 | nil => exact ⟨[], rfl, rfl⟩
 | cons r rows ih =>
  obtain ⟨l, rfl, h2⟩ := ih fun x hx => h x (List.mem_cons_of_mem _ hx)
  have hr := h r (List.mem_cons_self ..)
  obtain ⟨s, r2, rfl, m2, w2, hr⟩ := hr.sl
  obtain rfl := hr.nil
  obtain ⟨a, b1, rfl, z1⟩ := zhg w2
  exact ⟨a :: l, rfl, by simp [h2]⟩
theorem zoR {rows : List (List AV)} (h : ∀ r ∈ rows, zeo [.int .i64, .int .i64, .int .i64] r) : ∃ l : List (Int × Int × Int), rows = rws zaD l ∧ l.length = rows.length := by
 induction rows with
 | nil => exact ⟨[], rfl, rfl⟩
 | cons r rows ih =>
  obtain ⟨l, rfl, h2⟩ := ih fun x hx => h x (List.mem_cons_of_mem _ hx)
  have hr := h r (List.mem_cons_self ..)
  obtain ⟨k, r1, rfl, w1, hr⟩ := hr.i64
  obtain ⟨vn, r3, rfl, w3, hr⟩ := hr.i64
  obtain ⟨ve, r4, rfl, w4, hr⟩ := hr.i64
  obtain rfl := hr.nil
  exact ⟨(k, vn, ve) :: l, rfl, by simp [h2]⟩
theorem lsg {l : List (List Int)} {i : Nat} (h : i < l.length) : (rws lsR l).getD i [] = [.sl 1 (rws zad (l.getD i []))] := by rw [zcS (f := lsR) [] h]; rfl
section
variable {ins : List (Int × Int × Int)} {bs : List Blk} {outs fr : List Int} {R : List Iv} {E : List Dy} {inp : List Int}
theorem on_mg {k : Nat} {a : Iv} {x : Dy} (h : a.Mg k) (g : a.On x) : Mg k x := by
 obtain ⟨⟨h1, _⟩, _, h2⟩ := h
 obtain ⟨g1, g2⟩ := g
 unfold Mg
 constructor <;> grind
theorem good_off (H : CtOK ins bs outs fr R E) {i : Nat} (hi : i < bs.length) {c : Int} {x : Dy} (g : Good fr R E i c x) : ((((Dy.int c).shift (0 - fr.getD i 0)).sub x).abs).cmp (E.getD i Dy.zero) ≤ 0 := by
 obtain ⟨F, hF, hF30, hFt⟩ := H.fF hi
 obtain ⟨a1, a2⟩ := g.ap
 rw [hFt] at a1 a2
 rw [zcr, hF]
 have h1 := zbG (n := c) (k := 0 - (F : Int)) (by omega)
 rw [show (-(0 - (F : Int))).toNat = F by omega, show (0 - (F : Int)).toNat = 0 by omega] at h1
 have e0 : (2 : Rat) ^ 0 = 1 := rfl
 rw [e0] at h1
 have hp := zbt F
 rw [Dy.v_abs, Dy.v_sub]
 generalize ((Dy.int c).shift (0 - (F : Int))).v = y at *
 have b1 : x.v - (E.getD i Dy.zero).v ≤ y := zaZ hp (by rw [h1]; grind)
 have b2 : y ≤ x.v + (E.getD i Dy.zero).v := zaZ hp (by rw [h1]; grind)
 split <;> grind
end
attribute [go_sem] IntKind.bits.eq_def
section
variable {C : Cx} {n : Nat} {r : List It} {s : AS} {Q : Lab → AS → Prop} {o : Oper} {all l : List Oper} {fps : List FP} {fp : FP} {d : Option Tmp} {u : TypeId} {pos : String} {af : Array Edge} {g : Option (Nat × Bool)}
theorem aP {p : Prop} {v : AV} {u : Upd} (h : ex C n r ((s.upd u).put o.dst v) Q) (hp : p := by first | omega | exact trivial) : after C n r s Q o (some ⟨p, v, u⟩) := zm3 hp h
theorem dP {p : Prop} {v : AV} {u : Upd} (h : zax C n r (bump ((s.upd u).put o.dst v) (s.next + 1)) Q all l (fp :: fps)) (hp : p := by first | omega | exact trivial) : za0 C n r s Q all o (some ⟨p, v, u⟩) fp l fps := zhJ hp h
theorem aI {t : TypeId} {len : Nat} {parts : List (Nat × Operand)} (h : zfQ C n r s Q d (aLit C.ti s t len parts)) (hT : zam C.P C.ti := by exact za1) : after C n r s Q ⟨d, .buildSlice t len parts.toArray, u, pos, af, g⟩ none := aL hT h
theorem dI {t : TypeId} {len : Nat} {parts : List (Nat × Operand)} (h : zcj C n r s Q all d (aLit C.ti s t len parts) fp l fps) (hT : zam C.P C.ti := by exact za1) : za0 C n r s Q all ⟨d, .buildSlice t len parts.toArray, u, pos, af, g⟩ none fp l fps := dL hT h
theorem cA {f : FuncId} {as : List AV} {res : AV} (k : ex C n r (s.put d res) Q) (h : CallOK C.P C.G f as res := by assumption) : zfA C n r s Q f as d := zmk h k
theorem dA {f : FuncId} {as : List AV} {res : AV} (k : zax C n r (bump (s.put d res) (s.next + 1)) Q all l ((none, none) :: fps)) (h : CallOK C.P C.G f as res := by assumption) : zgn C n r s Q all f as d l fps := zl9 h k
theorem cW {f : FuncId} {as args : List AV} {res : AV} {m : MB} (b : Nat) (h : CallW C.P C.G f args m res m) (k : ex C n r (s.put d res) Q) (h1 : look s.mem b = some m := by rfl) (h2 : 0 < m.rows.length := by first | ((try simp only [zab, List.length_cons, List.length_nil]); omega) | fail) (h3 : ∀ r ∈ m.rows, ∀ a ∈ r, Cl a := by first | exact zhw | fail) (h4 : RenL b as args := by first | ((repeat' (first | exact .nil | refine .cons ?_ ?_ | exact Ren.ps _ _ _ _ | exact Ren.box _ _ _ _ | exact Ren.cl zdk | exact Ren.p _ _ _ _)); done) | fail) : zfA C n r s Q f as d := ziq b h1 h2 h3 h4 h k
theorem dW {f : FuncId} {as args : List AV} {res : AV} {m : MB} (b : Nat) (h : CallW C.P C.G f args m res m) (k : zax C n r (bump (s.put d res) (s.next + 1)) Q all l ((some b, none) :: fps)) (h1 : look s.mem b = some m := by rfl) (h2 : 0 < m.rows.length := by first | ((try simp only [zab, List.length_cons, List.length_nil]); omega) | fail) (h3 : ∀ r ∈ m.rows, ∀ a ∈ r, Cl a := by first | exact zhw | fail) (h4 : RenL b as args := by first | ((repeat' (first | exact .nil | refine .cons ?_ ?_ | exact Ren.ps _ _ _ _ | exact Ren.box _ _ _ _ | exact Ren.cl zdk | exact Ren.p _ _ _ _)); done) | fail) : zgn C n r s Q all f as d l fps := zik b h1 h2 h3 h4 h k
theorem tW (l : List Nat) {e : Eff} (k : ex C n r (((thawL l s).upd e.upd).put o.dst e.val) Q) (h1 : zfH l s := by first | ((repeat' (first | exact trivial | exact fun _ => ⟨rfl, Nat.le_of_ble_eq_true rfl⟩ | exact fun h => absurd h (by decide) | refine And.intro ?_ ?_)); done) | fail) (h2 : isCall o.op = false := by rfl) (h3 : aop C.ti (thawL l s) o.op = some e := by rfl) (h4 : e.need := by exact trivial) (hT : zam C.P C.ti := by exact za1) : after C n r s Q o none := zhB hT l h1 h2 h3 h4 k
theorem zmT {a b : Nat} (h : a ≤ b := by (try simp only [List.length_cons, List.length_nil, List.length_append, zaa, List.length_map, zab]); omega) : a ≤ b := h
section
variable {x y : Operand} {t tx e : TypeId} {q1 q2 : Nat} {q3 : List Z} {z : TyI} {b sz k : Nat} {m : MB} {rows : List (List AV)}
theorem dAp (kk : zax C n r (bump ((⟨s.env, (s.next, ⟨sz, m.rows.take k ++ rows⟩) :: dropM b s.mem, s.next + 1⟩ : AS).put d (.ps s.next sz 0 (k + rows.length))) (s.next + 1)) Q all l ((some b, some s.next) :: fps)) (hT : zam C.P C.ti := by exact za1) (h1 : C.ti t = some ⟨q1, q2, q3, .slc e⟩ := by rfl) (h2 : C.ti e = some z := by rfl) (h3 : isSlcT (C.ti tx) = true := by rfl) (h4 : ev s x = some (.ps b sz 0 k) := by rfl) (h5 : look s.mem b = some m := by rfl) (h6 : z.size = sz ∧ m.sz = sz ∧ 0 < sz := by exact ⟨rfl, rfl, by decide⟩) (h7 : srcY sz (ev s y) = some rows := by rfl) (h8 : True ∧ k ≤ m.rows.length ∧ (k + rows.length) * z.bytes ≤ 140737488355328 ∧ k + rows.length ≤ 9223372036854775807 := by first | exact ⟨trivial, zmT, zmT, zmT⟩ | fail) (h9 : zb1 b sz rows := by first | exact zbj | exact zf8 | exact rowsOK_insR) : za0 C n r s Q all ⟨d, .call ⟨.builtin .append, #[x, y], #[t, tx]⟩, u, pos, af, g⟩ none fp l fps := zi7 hT h1 h2 h3 h4 h5 h6 h7 h8 h9 kk
theorem aAp (kk : ex C n r ((⟨s.env, (s.next, ⟨sz, m.rows.take k ++ rows⟩) :: dropM b s.mem, s.next + 1⟩ : AS).put d (.ps s.next sz 0 (k + rows.length))) Q) (hT : zam C.P C.ti := by exact za1) (h1 : C.ti t = some ⟨q1, q2, q3, .slc e⟩ := by rfl) (h2 : C.ti e = some z := by rfl) (h3 : isSlcT (C.ti tx) = true := by rfl) (h4 : ev s x = some (.ps b sz 0 k) := by rfl) (h5 : look s.mem b = some m := by rfl) (h6 : z.size = sz ∧ m.sz = sz ∧ 0 < sz := by exact ⟨rfl, rfl, by decide⟩) (h7 : srcY sz (ev s y) = some rows := by rfl) (h8 : True ∧ k ≤ m.rows.length ∧ (k + rows.length) * z.bytes ≤ 140737488355328 ∧ k + rows.length ≤ 9223372036854775807 := by first | exact ⟨trivial, zmT, zmT, zmT⟩ | fail) (h9 : zb1 b sz rows := by first | exact zbj | exact zf8 | exact rowsOK_insR) : after C n r s Q ⟨d, .call ⟨.builtin .append, #[x, y], #[t, tx]⟩, u, pos, af, g⟩ none := zpK hT h1 h2 h3 h4 h5 h6 h7 h8 h9 kk
end
end
theorem lL {C : Cx} {n : Nat} {r : List It} {s : AS} {Q : Lab → AS → Prop} {α : Type} {c : Code} {k : Nat} (st : α → AS) (cond : α → Prop) (μ : α → Nat) (x0 : α) (h0 : cond x0) (hw : zaI s (st x0)) (round : ∀ x, cond x → ex C n (.code c :: .lp k :: r) (st x) (zdr k st cond (fun y => μ y < μ x) Q)) (hk : fresh r = k := by exact zpD) (hn : ∀ x, C.an = true → 0 < (st x).next := by exact fun _ h => by first | (cases h; done) | exact Nat.le_of_ble_eq_true rfl) : zcZ C n r s Q c := l_loop st cond μ x0 k hk hn h0 hw round
def never : Nat := 0
theorem zc0 : never = 0 := rfl
structure Hid (p : Prop) : Prop where
 out : p
inductive Lnd (b : Nat) : Prop
 | mk : Lnd b
inductive Thw (l : List Nat) : Prop
 | mk : Thw l
section
variable {C : Cx} {n : Nat} {r : List It} {s : AS} {Q : Lab → AS → Prop} {o : Oper} {all l : List Oper} {fps : List FP} {d : Option Tmp} {f : FuncId} {as args : List AV} {res : AV} {m : MB} {b : Nat}
theorem tV {l : List Nat} {e : Eff} (k : ex C n r (((thawL l s).upd e.upd).put o.dst e.val) Q) (hz : Thw l := by assumption) (h1 : zfH l s := by first | ((repeat' (first | exact trivial | exact fun _ => ⟨rfl, Nat.le_of_ble_eq_true rfl⟩ | exact fun h => absurd h (by decide) | refine And.intro ?_ ?_)); done) | fail) (h2 : isCall o.op = false := by rfl) (h3 : aop C.ti (thawL l s) o.op = some e := by rfl) (h4 : e.need := by exact trivial) (hT : zam C.P C.ti := by exact za1) : after C n r s Q o none := zhB hT l h1 h2 h3 h4 k
theorem cV (h : CallW C.P C.G f args m res m) (k : ex C n r (s.put d res) Q) (hb : Lnd b := by assumption) (h4 : RenL b as args := by first | ((repeat' (first | exact .nil | refine .cons ?_ ?_ | exact Ren.ps _ _ _ _ | exact Ren.box _ _ _ _ | exact Ren.cl zdk | exact Ren.p _ _ _ _)); done) | fail) (h1 : look s.mem b = some m := by rfl) (h2 : 0 < m.rows.length := by first | ((try simp only [zab, List.length_cons, List.length_nil]); omega) | fail) (h3 : ∀ r ∈ m.rows, ∀ a ∈ r, Cl a := by first | exact zhw | fail) : zfA C n r s Q f as d := ziq b h1 h2 h3 h4 h k
theorem dV (h : CallW C.P C.G f args m res m) (k : zax C n r (bump (s.put d res) (s.next + 1)) Q all l ((some b, none) :: fps)) (hb : Lnd b := by assumption) (h4 : RenL b as args := by first | ((repeat' (first | exact .nil | refine .cons ?_ ?_ | exact Ren.ps _ _ _ _ | exact Ren.box _ _ _ _ | exact Ren.cl zdk | exact Ren.p _ _ _ _)); done) | fail) (h1 : look s.mem b = some m := by rfl) (h2 : 0 < m.rows.length := by first | ((try simp only [zab, List.length_cons, List.length_nil]); omega) | fail) (h3 : ∀ r ∈ m.rows, ∀ a ∈ r, Cl a := by first | exact zhw | fail) : zgn C n r s Q all f as d l fps := zik b h1 h2 h3 h4 h k
end
theorem wk {S G' G : Prop} (s : S) (k : G') (h : S → Hid G' → G := by
 intro sx kk
 repeat' (first | simp only [go_sem, seval, sx] | simp (disch := omega) only [wA] | (with_reducible first | refine cA ?_ | refine dA ?_) | refine aI ?_ | refine dI ?_ | refine dG ?_ | ((first | refine cC ?_ ?_ | refine gS ?_ ?_ | refine dS ?_ ?_) <;> intro hc <;> simp only [hc] <;> try simp only [dcA] at hc <;> try omega) | refine aP ?_ | refine dP ?_)
 exact kk.out) : G := h s ⟨k⟩
theorem we {S G : Prop} (s : S) (h : S → G := by
 intro sx
 repeat' (first | simp only [go_sem, seval, sx] | simp (disch := omega) only [wA] | (with_reducible first | refine cA ?_ | refine dA ?_) | refine aI ?_ | refine dI ?_ | refine dG ?_ | ((first | refine cC ?_ ?_ | refine gS ?_ ?_ | refine dS ?_ ?_) <;> intro hc <;> simp only [hc] <;> try simp only [dcA] at hc <;> try omega) | refine aP ?_ | refine dP ?_)
 all_goals exact zal trivial rfl) : G := h s
theorem wf {S G : Prop} (s : S) (h : S → G := by
 intro sx
 repeat' (first | simp only [go_sem, seval, sx] | simp (disch := omega) only [wA] | (with_reducible first | refine cA ?_ | refine dA ?_) | refine aI ?_ | refine dI ?_ | refine dG ?_ | ((first | refine cC ?_ ?_ | refine gS ?_ ?_ | refine dS ?_ ?_) <;> intro hc <;> simp only [hc] <;> try simp only [dcA] at hc <;> try omega) | refine aP ?_ | refine dP ?_)
 all_goals exact zdx trivial rfl (MLe.refl _)) : G := h s
theorem wkr {S G' G : Prop} (s : S) (k : G') (h : S → Hid G' → G := by
 intro sx kk
 repeat' (first | simp only [go_sem, seval, zab, sx] | simp (disch := omega) only [wA] | (with_reducible first | refine cA ?_ | refine dA ?_) | refine aI ?_ | refine dI ?_ | refine dG ?_ | ((first | refine cC ?_ ?_ | refine gS ?_ ?_ | refine dS ?_ ?_) <;> intro hc <;> simp only [hc] <;> try simp only [dcA] at hc <;> try omega) | refine aP ?_ | refine dP ?_)
 exact kk.out) : G := h s ⟨k⟩
theorem wer {S G : Prop} (s : S) (h : S → G := by
 intro sx
 repeat' (first | simp only [go_sem, seval, zab, sx] | simp (disch := omega) only [wA] | (with_reducible first | refine cA ?_ | refine dA ?_) | refine aI ?_ | refine dI ?_ | refine dG ?_ | ((first | refine cC ?_ ?_ | refine gS ?_ ?_ | refine dS ?_ ?_) <;> intro hc <;> simp only [hc] <;> try simp only [dcA] at hc <;> try omega) | refine aP ?_ | refine dP ?_)
 all_goals exact zal trivial rfl) : G := h s
theorem wfr {S G : Prop} (s : S) (h : S → G := by
 intro sx
 repeat' (first | simp only [go_sem, seval, zab, sx] | simp (disch := omega) only [wA] | (with_reducible first | refine cA ?_ | refine dA ?_) | refine aI ?_ | refine dI ?_ | refine dG ?_ | ((first | refine cC ?_ ?_ | refine gS ?_ ?_ | refine dS ?_ ?_) <;> intro hc <;> simp only [hc] <;> try simp only [dcA] at hc <;> try omega) | refine aP ?_ | refine dP ?_)
 all_goals exact zdx trivial rfl (MLe.refl _)) : G := h s
theorem wku {S G' G : Prop} (s : S) (k : G') (h : S → Hid G' → G := by
 intro sx kk
 repeat' (first | simp only [go_sem, seval, zaa, sx] | simp (disch := omega) only [wA] | (with_reducible first | refine cA ?_ | refine dA ?_) | refine aI ?_ | refine dI ?_ | refine dG ?_ | ((first | refine cC ?_ ?_ | refine gS ?_ ?_ | refine dS ?_ ?_) <;> intro hc <;> simp only [hc] <;> try simp only [dcA] at hc <;> try omega) | refine aP ?_ | refine dP ?_)
 exact kk.out) : G := h s ⟨k⟩
theorem weu {S G : Prop} (s : S) (h : S → G := by
 intro sx
 repeat' (first | simp only [go_sem, seval, zaa, sx] | simp (disch := omega) only [wA] | (with_reducible first | refine cA ?_ | refine dA ?_) | refine aI ?_ | refine dI ?_ | refine dG ?_ | ((first | refine cC ?_ ?_ | refine gS ?_ ?_ | refine dS ?_ ?_) <;> intro hc <;> simp only [hc] <;> try simp only [dcA] at hc <;> try omega) | refine aP ?_ | refine dP ?_)
 all_goals exact zal trivial rfl) : G := h s
theorem wfrt {S G : Prop} (tl : List Nat) (s : S) (h : S → Thw tl → G := by
 intro sx tz
 repeat' (first | simp only [go_sem, seval, zab, sx] | simp (disch := omega) only [wA] | (with_reducible first | refine cA ?_ | refine dA ?_) | refine tV ?_ | refine zcI rfl rfl ?_ | refine aI ?_ | refine dI ?_ | refine dG ?_ | ((first | refine cC ?_ ?_ | refine gS ?_ ?_ | refine dS ?_ ?_) <;> intro hc <;> simp only [hc] <;> try simp only [dcA] at hc <;> try omega) | refine aP ?_ | refine dP ?_)
 all_goals exact zdx trivial rfl (MLe.refl _)) : G := h s .mk
theorem zgo {S G : Prop} (tl : List Nat) (s : S) (h : S → Thw tl → G := by
 intro sx tz
 repeat' (first | simp only [go_sem, seval, zab, List.length_cons, List.length_nil, sx] | simp (disch := omega) only [wA] | (with_reducible first | refine cA ?_ | refine dA ?_) | refine tV ?_ | refine zcI rfl rfl ?_ | refine aI ?_ | refine dI ?_ | refine dG ?_ | ((first | refine cC ?_ ?_ | refine gS ?_ ?_ | refine dS ?_ ?_) <;> intro hc <;> simp only [hc] <;> try simp only [dcA] at hc <;> try omega) | refine aP ?_ | refine dP ?_)
 all_goals exact zal trivial rfl) : G := h s .mk
theorem wflt {S G : Prop} (tl : List Nat) (s : S) (h : S → Thw tl → G := by
 intro sx tz
 repeat' (first | simp only [go_sem, seval, zab, List.length_cons, List.length_nil, sx] | simp (disch := omega) only [wA] | (with_reducible first | refine cA ?_ | refine dA ?_) | refine tV ?_ | refine zcI rfl rfl ?_ | refine aI ?_ | refine dI ?_ | refine dG ?_ | ((first | refine cC ?_ ?_ | refine gS ?_ ?_ | refine dS ?_ ?_) <;> intro hc <;> simp only [hc] <;> try simp only [dcA] at hc <;> try omega) | refine aP ?_ | refine dP ?_)
 all_goals exact zdx trivial rfl (MLe.refl _)) : G := h s .mk
theorem wkrq {S G' G E0 E1 : Prop} (tl : List Nat) (tb : Nat) (e0 : E0) (e1 : E1) (s : S) (k : G') (h : S → E0 → E1 → Lnd tb → Thw tl → Hid G' → G := by
 intro sx e0 e1 tb tz kk
 repeat' (first | simp only [go_sem, seval, zab, sx] | simp (disch := omega) only [wA] | refine cV e0 ?_ | refine dV e0 ?_ | refine cV e1 ?_ | refine dV e1 ?_ | (with_reducible first | refine cA ?_ | refine dA ?_) | refine tV ?_ | refine zcI rfl rfl ?_ | refine aI ?_ | refine dI ?_ | refine dG ?_ | ((first | refine cC ?_ ?_ | refine gS ?_ ?_ | refine dS ?_ ?_) <;> intro hc <;> simp only [hc] <;> try simp only [dcA] at hc <;> try omega) | refine aP ?_ | refine dP ?_)
 exact kk.out) : G := h s e0 e1 .mk .mk ⟨k⟩
theorem wfrq {S G E0 E1 : Prop} (tl : List Nat) (tb : Nat) (e0 : E0) (e1 : E1) (s : S) (h : S → E0 → E1 → Lnd tb → Thw tl → G := by
 intro sx e0 e1 tb tz
 repeat' (first | simp only [go_sem, seval, zab, sx] | simp (disch := omega) only [wA] | refine cV e0 ?_ | refine dV e0 ?_ | refine cV e1 ?_ | refine dV e1 ?_ | (with_reducible first | refine cA ?_ | refine dA ?_) | refine tV ?_ | refine zcI rfl rfl ?_ | refine aI ?_ | refine dI ?_ | refine dG ?_ | ((first | refine cC ?_ ?_ | refine gS ?_ ?_ | refine dS ?_ ?_) <;> intro hc <;> simp only [hc] <;> try simp only [dcA] at hc <;> try omega) | refine aP ?_ | refine dP ?_)
 all_goals exact zdx trivial rfl (MLe.refl _)) : G := h s e0 e1 .mk .mk
theorem zjw {S G E0 E1 : Prop} (tl : List Nat) (tb : Nat) (e0 : E0) (e1 : E1) (s : S) (h : S → E0 → E1 → Lnd tb → Thw tl → G := by
 intro sx e0 e1 tb tz
 repeat' (first | simp only [go_sem, seval, zab, List.length_cons, List.length_nil, sx] | simp (disch := omega) only [wA] | refine cV e0 ?_ | refine dV e0 ?_ | refine cV e1 ?_ | refine dV e1 ?_ | (with_reducible first | refine cA ?_ | refine dA ?_) | refine tV ?_ | refine zcI rfl rfl ?_ | refine aI ?_ | refine dI ?_ | refine dG ?_ | ((first | refine cC ?_ ?_ | refine gS ?_ ?_ | refine dS ?_ ?_) <;> intro hc <;> simp only [hc] <;> try simp only [dcA] at hc <;> try omega) | refine aP ?_ | refine dP ?_)
 all_goals exact zdx trivial rfl (MLe.refl _)) : G := h s e0 e1 .mk .mk
theorem zc2 {p0 p1 : Prop} (a0 : p0) (a1 : p1) : p0 ∧ p1 := ⟨a0, a1⟩
theorem zc3 {p0 p1 p2 : Prop} (a0 : p0) (a1 : p1) (a2 : p2) : p0 ∧ p1 ∧ p2 := ⟨a0, a1, a2⟩
theorem zc4 {p0 p1 p2 p3 : Prop} (a0 : p0) (a1 : p1) (a2 : p2) (a3 : p3) : p0 ∧ p1 ∧ p2 ∧ p3 := ⟨a0, a1, a2, a3⟩
theorem zc5 {p0 p1 p2 p3 p4 : Prop} (a0 : p0) (a1 : p1) (a2 : p2) (a3 : p3) (a4 : p4) : p0 ∧ p1 ∧ p2 ∧ p3 ∧ p4 := ⟨a0, a1, a2, a3, a4⟩
theorem zc6 {p0 p1 p2 p3 p4 p5 : Prop} (a0 : p0) (a1 : p1) (a2 : p2) (a3 : p3) (a4 : p4) (a5 : p5) : p0 ∧ p1 ∧ p2 ∧ p3 ∧ p4 ∧ p5 := ⟨a0, a1, a2, a3, a4, a5⟩
theorem zc7 {p0 p1 p2 p3 p4 p5 p6 : Prop} (a0 : p0) (a1 : p1) (a2 : p2) (a3 : p3) (a4 : p4) (a5 : p5) (a6 : p6) : p0 ∧ p1 ∧ p2 ∧ p3 ∧ p4 ∧ p5 ∧ p6 := ⟨a0, a1, a2, a3, a4, a5, a6⟩
theorem zc8 {p0 p1 p2 p3 p4 p5 p6 p7 : Prop} (a0 : p0) (a1 : p1) (a2 : p2) (a3 : p3) (a4 : p4) (a5 : p5) (a6 : p6) (a7 : p7) : p0 ∧ p1 ∧ p2 ∧ p3 ∧ p4 ∧ p5 ∧ p6 ∧ p7 := ⟨a0, a1, a2, a3, a4, a5, a6, a7⟩
theorem zc10 {p0 p1 p2 p3 p4 p5 p6 p7 p8 p9 : Prop} (a0 : p0) (a1 : p1) (a2 : p2) (a3 : p3) (a4 : p4) (a5 : p5) (a6 : p6) (a7 : p7) (a8 : p8) (a9 : p9) : p0 ∧ p1 ∧ p2 ∧ p3 ∧ p4 ∧ p5 ∧ p6 ∧ p7 ∧ p8 ∧ p9 := ⟨a0, a1, a2, a3, a4, a5, a6, a7, a8, a9⟩
theorem zc11 {p0 p1 p2 p3 p4 p5 p6 p7 p8 p9 p10 : Prop} (a0 : p0) (a1 : p1) (a2 : p2) (a3 : p3) (a4 : p4) (a5 : p5) (a6 : p6) (a7 : p7) (a8 : p8) (a9 : p9) (a10 : p10) : p0 ∧ p1 ∧ p2 ∧ p3 ∧ p4 ∧ p5 ∧ p6 ∧ p7 ∧ p8 ∧ p9 ∧ p10 := ⟨a0, a1, a2, a3, a4, a5, a6, a7, a8, a9, a10⟩
theorem zc12 {p0 p1 p2 p3 p4 p5 p6 p7 p8 p9 p10 p11 : Prop} (a0 : p0) (a1 : p1) (a2 : p2) (a3 : p3) (a4 : p4) (a5 : p5) (a6 : p6) (a7 : p7) (a8 : p8) (a9 : p9) (a10 : p10) (a11 : p11) : p0 ∧ p1 ∧ p2 ∧ p3 ∧ p4 ∧ p5 ∧ p6 ∧ p7 ∧ p8 ∧ p9 ∧ p10 ∧ p11 := ⟨a0, a1, a2, a3, a4, a5, a6, a7, a8, a9, a10, a11⟩
theorem zc13 {p0 p1 p2 p3 p4 p5 p6 p7 p8 p9 p10 p11 p12 : Prop} (a0 : p0) (a1 : p1) (a2 : p2) (a3 : p3) (a4 : p4) (a5 : p5) (a6 : p6) (a7 : p7) (a8 : p8) (a9 : p9) (a10 : p10) (a11 : p11) (a12 : p12) : p0 ∧ p1 ∧ p2 ∧ p3 ∧ p4 ∧ p5 ∧ p6 ∧ p7 ∧ p8 ∧ p9 ∧ p10 ∧ p11 ∧ p12 := ⟨a0, a1, a2, a3, a4, a5, a6, a7, a8, a9, a10, a11, a12⟩
theorem okC {P : Program} {G : GL} {ti : zaN} (nt : Nat) {f : FuncId} {fn : Func} {c : Code} {rs : Array ResultVar} {args : List AV} {res : AV} (hent : zbS P f) (hf : P.funcs[f]? = some fn) (hnt : fn.ntmps = nt) (hr : fn.results = rs) (h : ex ⟨P, G, ti, nt, false, false, []⟩ 3000 [.code c] (entry args) (Ends ti rs.toList res)) (hT : zam P ti := by exact za1) (hm : P.follows .mixedOrders = true := by exact zgl) (hb : fn.body = some c := by rfl) (ha : args.length ≤ nt := by simp) (hcl : ∀ x ∈ args, Cl x := by first | exact zhN | exact byClT) (hres : Cl res := by exact zdk) : CallOK P G f args res := zll (C := ⟨P, G, ti, nt, false, false, []⟩) hT hm 3000 hent hf hb hnt ha hcl hres (by rw [hr]; exact h)
theorem okX {P : Program} {G : GL} {ti : zaN} (nt : Nat) {f : FuncId} {fn : Func} {c : Code} {rs : Array ResultVar} {args : List AV} {Φ : AV → Prop} (hent : zbS P f) (hf : P.funcs[f]? = some fn) (hnt : fn.ntmps = nt) (hr : fn.results = rs) (h : ex ⟨P, G, ti, nt, false, false, []⟩ 3000 [.code c] (entry args) (EndsX ti rs.toList Φ)) (hT : zam P ti := by exact za1) (hm : P.follows .mixedOrders = true := by exact zgl) (hb : fn.body = some c := by rfl) (ha : args.length ≤ nt := by simp) (hcl : ∀ x ∈ args, Cl x := by exact zhN) : CallX P G f args Φ := call_x (C := ⟨P, G, ti, nt, false, false, []⟩) hT hm 3000 hent hf hb hnt ha hcl (by rw [hr]; exact h)
theorem okW {P : Program} {G : GL} {ti : zaN} (nt : Nat) {f : FuncId} {fn : Func} {c : Code} {rs : Array ResultVar} {args : List AV} {res : AV} {m m' : MB} (hent : zbS P f) (hf : P.funcs[f]? = some fn) (hnt : fn.ntmps = nt) (hr : fn.results = rs) (h : ex ⟨P, G, ti, nt, true, false, []⟩ 3000 [.code c] (entryW args m) (EndsW ti rs.toList res m')) (hT : zam P ti := by exact za1) (hm : P.follows .mixedOrders = true := by exact zgl) (hb : fn.body = some c := by rfl) (ha : args.length ≤ nt := by simp) (hres : Cl res := by exact zdk) (hcl : ∀ r ∈ m'.rows, ∀ a ∈ r, Cl a := by first | exact zhw | exact byClM) : CallW P G f args m res m' := call_w (C := ⟨P, G, ti, nt, true, false, []⟩) hT hm rfl 3000 hent hf hb hnt ha hres hcl (by rw [hr]; exact h)
abbrev AD (x : Dy) : AV := .agg [.v (.bool (sg x)), .sl 1 (u32s (ms x)), .v (.int .i64 (dn x))]
abbrev AJ (a : Iv) : AV := .agg [.v (.bool (sg a.lo)), .sl 1 (u32s (ms a.lo)), .v (.int .i64 (dn a.lo)), .v (.bool (sg a.hi)), .sl 1 (u32s (ms a.hi)), .v (.int .i64 (dn a.hi))]
abbrev AG (ins : List (Int × Int × Int)) (bs : List Blk) (outs : List Int) : AV := .agg [.sl 3 (rws zaD ins), .sl 6 (rws zao bs), .sl 1 (rws zad outs)]
attribute [go_sem] AD AJ AG
end Go.Ax
