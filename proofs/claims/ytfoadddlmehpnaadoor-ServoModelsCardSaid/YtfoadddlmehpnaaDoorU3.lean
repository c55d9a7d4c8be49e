/- The abstract executor and plain facts, part 3 (of several texts, laid together). -/
import Derived.Test.YtfoadddlmehpnaaDoorU1
import Derived.Test.YtfoadddlmehpnaaDoorU2
import Derived.Lib.ItoaNum
import Derived.Lib.Repeat
import Derived.MakeChecks
import Derived.LaidMore
import Derived.Stop.Joined
import Derived.Handed
import Derived.LaidLaws
import Derived.Lib.LaidTab
set_option linter.unusedSimpArgs false
set_option linter.unusedVariables false
set_option linter.deprecated false
/- The rules of the walk, as one set. -/
namespace Go
open Go.Ax
attribute [go_sem] Ax.ex_nil Ax.ex_blk Ax.ex_lp Ax.ex_skip Ax.ex_seq Ax.ex_block Ax.ex_ret Ax.l_region Ax.lap_cons Ax.lap_nil Ax.la_nil Ax.la_assoc Ax.la_op Ax.la_call Ax.la_guard
attribute [go_sem] Ax.lda_nil Ax.lda_assoc Ax.lda_op Ax.lda_call Ax.lda_guard Ax.gdA_zero Ax.gdA_succ Ax.gdA_nil Ax.gdA_assoc Ax.l_nil Ax.l_op Ax.l_call Ax.l_guard Ax.l_exit
attribute [go_sem] Ax.exit_hit Ax.exit_blk Ax.exit_lp Ax.exit_code Ax.ex_cond Ax.condT Ax.condF Ax.ex_loop Ax.ex_op_plain Ax.ex_call Ax.call_fn Ax.after_true Ax.guard_tt Ax.guard_ff
attribute [go_sem] Ax.guard_tf Ax.guard_ft Ax.guard_undef Ax.drawGuard_undef Ax.gdVal Ax.l_draw Ax.ld_nil Ax.ld_op Ax.ld_call Ax.ld_guard Ax.draw_plain Ax.draw_callo Ax.drawCall_fn
attribute [go_sem] Ax.drawAfter_true Ax.drawGuard_tt Ax.drawGuard_ff Ax.drawGuard_tf Ax.drawGuard_ft Ax.l_unroll_succ Ax.unrollQ_end Ax.unrollQ_ret Ax.unrollQ_normal Ax.round_end
attribute [go_sem] Ax.round_other Ax.unrollQ_other Nat.zero_ne_one Nat.one_ne_zero Ax.round_ret Ax.round_normal Ax.ends_ret Ax.ends_normal Nat.max_def Ax.isCall.eq_def
attribute [go_sem] Ax.dstOK.eq_def Ax.look_hit Ax.look_miss Ax.look.eq_1 Ax.ev_tmp Ax.ev_const Ax.ev_func Ax.ev_global Ax.evL Ax.entry Ax.entryW Ax.endsW_ret Ax.endsW_normal
attribute [go_sem] Ax.entryEnv Ax.AS.put.eq_def Ax.AS.upd.eq_def Ax.bump Ax.AV.cells.eq_def Ax.AV.one.eq_def Value.oneCell'.eq_def Ax.blockOf.eq_def Ax.rdOf.eq_def Ax.wrOf.eq_def
attribute [go_sem] Ax.aop_move Ax.aop_assign Ax.aMove_some Ax.aop_pick Ax.aop_alloc Ax.aop_box Ax.aop_build Ax.aop_load Ax.aop_store Ax.aop_nil Ax.aop_bin Ax.aop_un Ax.aop_convert
attribute [go_sem] Ax.aop_iface Ax.aop_fieldAddr Ax.aop_field Ax.aop_indexAddr Ax.aop_index Ax.aop_extract Ax.aop Ax.aBin.eq_def Ax.aUn.eq_def Ax.aPick.eq_def Ax.aAlloc.eq_def
attribute [go_sem] Ax.aBox.eq_def Ax.aLoad.eq_def Ax.aStore.eq_def Ax.aNilCheck.eq_def Ax.aFieldAddr.eq_def Ax.aField.eq_def Ax.aIndexAddr.eq_def Ax.aIndex.eq_def Ax.aBuild.eq_def
attribute [go_sem] Ax.aConvert.eq_def Ax.aMakeInterface.eq_def Ax.aAssert.eq_def Ax.aExtract.eq_def Ax.aMakeFunc.eq_def Ax.aLen.eq_def Ax.aMin.eq_def Ax.aMax.eq_def Ax.aLenT.eq_def
attribute [go_sem] Ax.aBuiltin.eq_def Ax.headT Ax.ibin.eq_def Ax.ishift.eq_def Ax.isShift.eq_def Ax.eqNil.eq_def Ax.eqBool.eq_def Ax.toEff.eq_def Ax.isNilConst.eq_def
attribute [go_sem] Ax.isBoolT.eq_def Ax.isIfaceT.eq_def Ax.isSlcT.eq_def Ax.isStrT.eq_def Ax.strBin.eq_def Ax.aop_makeSlice Ax.aop_slice Ax.aMakeSlice.eq_def Ax.aSlice.eq_def
attribute [go_sem] Ax.bndOf.eq_def Option.isSome_none Option.map_none Ax.pk_bool Ax.pk.eq_def Ax.behind.eq_def Ax.shiftPtr.eq_def Ax.partOf.eq_def Ax.fillA Ax.placed
attribute [go_sem] Ax.stPlace.eq_def Ax.TK.agg.eq_def Ax.Z.val.eq_def Ax.resL Ax.resOne.eq_def List.cons_append List.nil_append List.append_nil List.getElem?_cons_zero
attribute [go_sem] List.getElem?_cons_succ List.length_cons List.length_nil List.take_succ_cons List.take_zero List.drop_succ_cons List.drop_zero List.map_cons List.map_nil
attribute [go_sem] List.all_cons List.all_nil List.head?_cons List.set_cons_zero List.set_cons_succ List.getD_cons_zero List.getD_cons_succ List.toList_toArray Option.bind_some
attribute [go_sem] Option.bind_none Option.isSome_some Option.map_some Option.getD_some Nat.zero_add Nat.add_zero Nat.zero_mul Nat.mul_zero Nat.one_mul Nat.mul_one
attribute [go_sem] Nat.min_eq_left Int.one_mul Int.mul_one Bool.or_self Bool.or_false Bool.or_true Bool.false_or Bool.true_or Bool.and_true Bool.and_false
attribute [go_sem] Bool.true_and Bool.false_and Bool.not_true Bool.not_false Bool.false_eq_true Bool.true_eq_false Bool.and_self Bool.decide_eq_true true_and and_true false_and
attribute [go_sem] and_false and_self if_true if_false ite_true ite_false eq_self true_implies imp_self implies_true not_true_eq_false not_false_eq_true ne_eq decide_true
attribute [go_sem] decide_false Ax.w64l Int.zero_add Int.toNat_zero Option.bind_eq_bind Ax.veqs Ax.veq Ax.vals Int.toNat_natCast Ax.thawS Ax.thawE Ax.thaw.eq_def Ax.dropM Ax.killT
attribute [go_sem] Ax.isB.eq_def Ax.AV.priv.eq_def List.any_cons List.any_nil List.contains_cons List.contains_nil List.elem_nil Bool.cond_true Bool.cond_false cond_true cond_false
attribute [go_sem] Ax.litThen_some Ax.drawLitThen_some Ax.aLit.eq_def Ax.aRows
end Go

/- A body whose first part is walked by the executor and whose last part is shown apart. -/
namespace Go.Ax
open Go Go.RowKit

theorem real_append {P : Program} {R : Exit → Act → World → Prop} {M : Nat → Act → World → Prop} (r2 : List It) : ∀ (r1 : List It) (e : Exit) (a : Act) (w : World), Real P (Real P R M r2) M r1 e a w = Real P R M (r1 ++ r2) e a w
  | [], e, a, w => rfl
  | i :: r1, e, a, w => by
    have ih : Real P (Real P R M r2) M r1 = Real P R M (r1 ++ r2) := by funext e a w; exact real_append r2 r1 e a w
    rw [List.cons_append]
    cases i with
    | code c => cases e <;> simp only [Real, ih]
    | op o g => cases e <;> simp only [Real, ih]
    | blk id => cases e <;> simp only [Real, ih]
    | lp k => cases e <;> simp only [Real, ih]

theorem bodyPost_mono {P : Program} {fn : Func} {R R' : Ending → World → Prop} (h : ∀ e w, R e w → R' e w) {e : Exit} {a : Act} {w : World} (q : bodyPost P fn R e a w) : bodyPost P fn R' e a w := by
  cases e with
  | normal => obtain ⟨h1, v, h2, h3⟩ := q; exact ⟨h1, v, h2, h _ _ h3⟩
  | ret => obtain ⟨h1, v, h2, h3⟩ := q; exact ⟨h1, v, h2, h _ _ h3⟩
  | panic ch => obtain ⟨h1, h2⟩ := q; exact ⟨h1, h _ _ h2⟩
  | outgrown => exact h _ _ q
  | exit id => exact q
  | goto l => exact q
def splitC : Nat → Code → List Code × Code
  | n + 1, .seq a b => (a :: (splitC n b).1, (splitC n b).2)
  | _, c => ([], c)
def its (l : List Code) : List It := l.map .code
theorem real_codes {P : Program} {R : Exit → Act → World → Prop} {M : Nat → Act → World → Prop} {e : Exit} (he : e ≠ .normal) {a : Act} {w : World} : ∀ (l : List Code), Real P R M (its l) e a w = R e a w
  | [] => rfl
  | c :: l => by
    have := real_codes (P := P) (R := R) (M := M) he (a := a) (w := w) l
    cases e with
    | normal => exact absurd rfl he
    | _ => simpa only [its, List.map_cons, Real] using this
theorem wp_split {P : Program} {R : Exit → Act → World → Prop} {M : Nat → Act → World → Prop} : ∀ (n : Nat) (c : Code) (a : Act) (w : World), Real P R M (its (splitC n c).1 ++ [.code (splitC n c).2]) .normal a w → c.wp P R a w
  | 0, c, a, w, h => by cases c <;> exact h
  | n + 1, c, a, w, h => by
    cases c with
    | seq x y =>
      have h : x.wp P (Real P R M (its (splitC n y).1 ++ [.code (splitC n y).2])) a w := h
      have e1 : its (splitC n y).1 ++ [It.code (splitC n y).2] = its ((splitC n y).1 ++ [(splitC n y).2]) := by simp [its]
      refine wp_seq (wp_mono h fun e a w q => ?_)
      cases e with
      | normal => exact wp_split n y a w q
      | _ =>
        rw [e1, real_codes (by intro h; cases h)] at q
        exact q
    | _ => exact h

section
/-- The last part, for whatever world and act that the state at the split fits. -/
def TailOK (C : Cx) (fn : Func) (st : AS) (rest : Code) (y : Value) : Prop := ∀ (S : Nat → Prop) (w0 : World) (a : Act) (w : World), Sim ⟨fun _ => False, C.G, none⟩ S w0 C.nt st a w → rest.wp C.P (bodyPost C.P fn fun e w' => e = .returned y ∧ Below w.heap.size w w') a w

/-- How the first part ends: it returns, or comes to the split in a state for which the last part is shown. -/
def EndsT (C : Cx) (fn : Func) (y : Value) (rest : Code) (l : Lab) (s : AS) : Prop := (l = .ret ∧ Fin s.mem (resL C.ti s fn.results.toList) (.v y)) ∨ (l = .normal ∧ ∃ st, Weak s st ∧ TailOK C fn st rest y)
theorem endsT_ret {C : Cx} {fn : Func} {y : Value} {rest : Code} {s : AS} : EndsT C fn y rest .ret s = Fin s.mem (resL C.ti s fn.results.toList) (.v y) := by simp [EndsT]
theorem endsT_normal {C : Cx} {fn : Func} {y : Value} {rest : Code} {s : AS} : EndsT C fn y rest .normal s = ∃ st, Weak s st ∧ TailOK C fn st rest y := by simp [EndsT]
attribute [go_sem] endsT_ret endsT_normal

theorem call_ok_tail {C : Cx} (hT : TypesOK C.P C.ti) (hmx : C.P.follows .mixedOrders = true) {f : FuncId} {fn : Func} {c : Code} {args : List AV} {y : Value} (k n : Nat) (hent : Enters C.P f) (hf : C.P.funcs[f]? = some fn) (hb : fn.body = some c) (hnt : fn.ntmps = C.nt) (hargs : args.length ≤ C.nt)
    (hcl : ∀ x ∈ args, Cl x) (h : ex C n (its (splitC k c).1) (entry args) (EndsT C fn y (splitC k c).2)) : CallOK C.P C.G f args (.v y) := by
  refine ⟨hent, hcl, Cl.v _, fun S w vs hS hgs hsz hr => ?_⟩
  refine calls_of_wp hf hb ?_
  have hlen : (vs ++ Array.replicate (fn.ntmps - vs.size) undef).size = C.nt := by simp [hnt, hsz]; omega
  have hsim : Sim ⟨fun _ => False, C.G, none⟩ S w C.nt (entry args) { tmps := vs ++ Array.replicate (fn.ntmps - vs.size) undef, defers := [] } w := by
    refine ⟨rfl, hlen, nσ, S, ⟨Bel.refl (fun g l hg => ⟨id, (hgs g l hg).2⟩), (fun b k h => by cases h), (fun b b' k m m' h => by simp [entry, look] at h), hS, (fun _ h => h), (fun _ h => .inl h), ⟨fun g l hg => (hgs g l hg).1, fun k hk => by cases hk⟩, (fun b m h => by simp [entry, look] at h)⟩, fun t av ht => ?_⟩
    obtain ⟨_, h2⟩ := look_entry args 0 t av ht
    simp only [Nat.sub_zero] at h2
    have hlt : t < vs.size := by rw [hsz]; exact (List.getElem?_eq_some_iff.1 h2).1
    exact ⟨vs[t], by simp [Array.getElem?_append, hlt], hr t _ av (by simp [hlt]) h2⟩
  refine wp_split (M := fun _ _ _ => False) k c _ w ?_
  rw [← real_append]
  refine ex_sound (D := ⟨fun _ => False, C.G, none⟩) (S0 := S) (w0 := w) hT ⟨rfl, fun _ => rfl⟩ hmx n _ _ _ _ _ h _ _ hsim ⟨fun s a w' q hs => ?_, fun s a w' q hs => ?_, fun k s a w' q hs => ?_⟩
  · rcases q with ⟨q, _⟩ | ⟨_, st, q, tail⟩
    · cases q
    have hs' : Sim ⟨fun _ => False, C.G, none⟩ S w C.nt st a w' := by
      obtain ⟨hd, hn, σ, S', hF, hE⟩ := hs
      obtain ⟨σ2, S2, h1, h2⟩ := q _ _ _ _ _ _ hF (fun h => absurd rfl h)
      exact ⟨hd, hn, σ2, S2, h1, h2 a hE⟩
    have hbel : Below w.heap.size w w' := by
      obtain ⟨hd, hn, σ, S', hF, hE⟩ := hs'
      exact hF.below.none
    have hw := tail S w a w' hs'
    show ((splitC k c).2).wp C.P _ a w'
    refine wp_mono hw fun e a2 w2 q2 => ?_
    have key : bodyPost C.P fn (fun e w' => Below w.heap.size w w' ∧ ∃ x, e = .returned x ∧ Rel nσ (Grow S w w') w' x (.v y)) e a2 w2 := bodyPost_mono (fun e w3 h => ⟨hbel.trans (h.2.mono hbel.size), y, h.1, .v _⟩) q2
    cases e <;> exact key
  · rcases q with ⟨_, p, l, b, hr1, hp1, hpub, hle⟩ | ⟨q, _⟩
    · obtain ⟨hd, hn, σ, S', hF, hE⟩ := hs
      obtain ⟨v, hv1, hv2⟩ := results_run (P := C.P) hT hF hE hr1 hp1
      have hvy : v = y := rel_v (hle _ _ _ _ (pub_rel hF hv2 hpub))
      show bodyPost C.P fn (fun e w' => Below w.heap.size w w' ∧ ∃ x, e = .returned x ∧ Rel nσ (Grow S w w') w' x (.v y)) .ret a w'
      exact ⟨hd, v, hv1, hF.below.none, v, rfl, by rw [hvy]; exact .v _⟩
    · cases q
  · rcases q with ⟨q, _⟩ | ⟨q, _⟩ <;> cases q
end
end Go.Ax

/- Decimal numerals by groups of nine digits. -/
namespace Go.Ax
open Go Go.RowKit

def pdig (k r : Nat) : List UInt8 := List.replicate (k - (Lib.decDigits r).length) 48 ++ Lib.decDigits r
theorem decDigits_small {u : Nat} (h : u < 10) : Lib.decDigits u = [UInt8.ofNat (48 + u)] := by rw [Lib.decDigits, dif_pos h]
theorem decDigits_big {u : Nat} (h : ¬ u < 10) : Lib.decDigits u = Lib.decDigits (u / 10) ++ [UInt8.ofNat (48 + u % 10)] := by rw [Lib.decDigits, dif_neg h]
theorem decDigits_len : ∀ (k u : Nat), u < 10 ^ (k + 1) → (Lib.decDigits u).length ≤ k + 1
  | 0, u, h => by rw [decDigits_small (by simpa using h)]; simp
  | k + 1, u, h => by
    by_cases h0 : u < 10
    · rw [decDigits_small h0]; simp
    · rw [decDigits_big h0, List.length_append]
      have := decDigits_len k (u / 10) (by rw [Nat.pow_succ] at h; omega)
      simp; omega
theorem decDigits_pos (u : Nat) : 0 < (Lib.decDigits u).length := by
  by_cases h0 : u < 10
  · rw [decDigits_small h0]; simp
  · rw [decDigits_big h0, List.length_append]; simp
theorem pdig_succ {k r : Nat} (hk : 0 < k) (h : r < 10 ^ (k + 1)) : pdig (k + 1) r = pdig k (r / 10) ++ [UInt8.ofNat (48 + r % 10)] := by
  unfold pdig
  by_cases h0 : r < 10
  · have e1 : r / 10 = 0 := by omega
    have e2 : r % 10 = r := by omega
    rw [e1, e2, decDigits_small h0, decDigits_small (by omega : (0 : Nat) < 10)]
    simp only [List.length_cons, List.length_nil]
    rw [show k + 1 - (0 + 1) = (k - (0 + 1)) + 1 by omega, List.replicate_succ']
    rfl
  · rw [decDigits_big h0]
    simp only [List.length_append, List.length_cons, List.length_nil]
    rw [show k + 1 - ((Lib.decDigits (r / 10)).length + (0 + 1)) = k - (Lib.decDigits (r / 10)).length by omega, List.append_assoc]
theorem decDigits_split : ∀ (k q r : Nat), 0 < q → r < 10 ^ (k + 1) → Lib.decDigits (q * 10 ^ (k + 1) + r) = Lib.decDigits q ++ pdig (k + 1) r
  | 0, q, r, hq, hr => by
    have hr : r < 10 := by simpa using hr
    rw [Nat.pow_succ, Nat.pow_zero, Nat.one_mul, decDigits_big (by omega), show (q * 10 + r) / 10 = q by omega, show (q * 10 + r) % 10 = r by omega]
    unfold pdig
    rw [decDigits_small hr]; rfl
  | k + 1, q, r, hq, hr => by
    have hp : 0 < 10 ^ (k + 1) := Nat.pow_pos (by omega)
    have h1 : 1 ≤ q * 10 ^ (k + 1) := Nat.mul_pos hq hp
    have e0 : q * 10 ^ (k + 1 + 1) = q * 10 ^ (k + 1) * 10 := by rw [Nat.pow_succ 10 (k + 1), Nat.mul_assoc]
    rw [e0, decDigits_big (by omega), show (q * 10 ^ (k + 1) * 10 + r) / 10 = q * 10 ^ (k + 1) + r / 10 by omega, show (q * 10 ^ (k + 1) * 10 + r) % 10 = r % 10 by omega,
      decDigits_split k q (r / 10) hq (by rw [Nat.pow_succ] at hr; omega), pdig_succ (by omega) hr, List.append_assoc]

/-- The number of groups of nine digits, the least first. -/
def val9 : List Nat → Nat
  | [] => 0
  | g :: l => g + 1000000000 * val9 l
/-- Their text. -/
def txt9 : List Nat → List UInt8
  | [] => []
  | [g] => Lib.decDigits g
  | g :: l => txt9 l ++ pdig 9 g
def Gr : List Nat → Prop
  | [] => True
  | g :: l => g < 1000000000 ∧ Gr l
theorem txt9_cons {g : Nat} {l : List Nat} (h : l ≠ []) : txt9 (g :: l) = txt9 l ++ pdig 9 g := by
  cases l with
  | nil => exact absurd rfl h
  | cons a l => rfl
theorem txt9_val : ∀ (l : List Nat), Gr l → l ≠ [] → (∀ x, l.getLast? = some x → x ≠ 0) → txt9 l = Lib.decDigits (val9 l) ∧ 0 < val9 l
  | [], _, h, _ => absurd rfl h
  | [g], hg, _, h => ⟨by simp [txt9, val9], by have := h g rfl; simp [val9]; omega⟩
  | g :: a :: l, hg, _, h => by
    obtain ⟨h1, h2⟩ := txt9_val (a :: l) hg.2 (by simp) (fun x hx => h x (by simpa using hx))
    refine ⟨?_, by simp only [val9] at h2 ⊢; omega⟩
    rw [txt9_cons (by simp), h1]
    show _ = Lib.decDigits (g + 1000000000 * val9 (a :: l))
    have := decDigits_split 8 (val9 (a :: l)) g h2 (by simpa using hg.1)
    rw [show g + 1000000000 * val9 (a :: l) = val9 (a :: l) * 10 ^ (8 + 1) + g by rw [show (10 : Nat) ^ (8 + 1) = 1000000000 by decide]; omega, this]
theorem val9_append : ∀ (l m : List Nat), val9 (l ++ m) = val9 l + 1000000000 ^ l.length * val9 m
  | [], m => by simp [val9]
  | g :: l, m => by
    simp only [List.cons_append, val9, val9_append l m, List.length_cons, Nat.pow_succ]
    rw [Nat.mul_add, Nat.add_assoc, ← Nat.mul_assoc, Nat.mul_comm 1000000000 (1000000000 ^ l.length)]
theorem Gr.append : ∀ {l m : List Nat}, Gr l → Gr m → Gr (l ++ m)
  | [], _, _, h => h
  | _ :: _, _, h, k => ⟨h.1, Gr.append h.2 k⟩
theorem Gr.get {l : List Nat} (h : Gr l) : ∀ {g : Nat}, g ∈ l → g < 1000000000 := by
  induction l with
  | nil => intro g hg; simp at hg
  | cons a l ih =>
    intro g hg
    rcases List.mem_cons.1 hg with rfl | hg
    · exact h.1
    · exact ih h.2 hg
/-- Written from the top down. -/
theorem txt9_drop {l : List Nat} {i : Nat} (h : i + 1 < l.length) : txt9 (l.drop i) = txt9 (l.drop (i + 1)) ++ pdig 9 (l.getD i 0) := by
  have e : l.drop i = l.getD i 0 :: l.drop (i + 1) := by
    rw [List.drop_eq_getElem_cons (by omega)]
    simp [List.getD, show i < l.length by omega]
  rw [e, txt9_cons (fun h0 => by have := congrArg List.length h0; simp at this; omega)]
theorem txt9_top {l : List Nat} {i : Nat} (h : i + 1 = l.length) : txt9 (l.drop i) = Lib.decDigits (l.getD i 0) := by
  have e : l.drop i = [l.getD i 0] := by
    rw [List.drop_eq_getElem_cons (by omega), List.drop_eq_nil_of_le (by omega)]
    simp [List.getD, show i < l.length by omega]
  rw [e, txt9]

theorem Gr.drop : ∀ {l : List Nat} (n : Nat), Gr l → Gr (l.drop n)
  | _, 0, h => h
  | [], _ + 1, _ => trivial
  | _ :: _, n + 1, h => Gr.drop n h.2
theorem pdig_len {r : Nat} (h : r < 1000000000) : (pdig 9 r).length = 9 := by
  have := decDigits_len 8 r (by simpa using h)
  unfold pdig
  rw [List.length_append, List.length_replicate]; omega
theorem txt9_len : ∀ (l : List Nat), Gr l → (txt9 l).length ≤ 9 * l.length
  | [], _ => by simp [txt9]
  | [g], h => by have := decDigits_len 8 g (by simpa using h.1); simp [txt9]; omega
  | g :: a :: l, h => by
    rw [txt9_cons (by simp), List.length_append, pdig_len h.1]
    have := txt9_len (a :: l) h.2
    simp only [List.length_cons] at this ⊢; omega
/-- A string out of its bytes. -/
def strV (l : List UInt8) : Value := .string ⟨l.toArray⟩
def strs (l : List (List UInt8)) : List (List AV) := l.map fun s => [.v (strV s)]
theorem strs_length (l : List (List UInt8)) : (strs l).length = l.length := by simp [strs]
theorem strs_append (l m : List (List UInt8)) : strs (l ++ m) = strs l ++ strs m := by simp [strs]
theorem strs_getD {l : List (List UInt8)} {i : Nat} (h : i < l.length) : (strs l).getD i [] = [.v (strV (l.getD i []))] := by simp [strs, List.getD, h]
theorem strs_snoc {l : List (List UInt8)} {k : Nat} {s : List UInt8} (h : l.length = k) : (strs l).take k ++ [[.v (.string ⟨s.toArray⟩)]] = strs (l ++ [s]) := by
  rw [List.take_of_length_le (by rw [strs_length]; omega), strs_append]; rfl
theorem Cl.strs {sz : Nat} {l : List (List UInt8)} : Cl (.sl sz (Ax.strs l)) := Cl.sl (fun r hr a ha => by
  simp only [Ax.strs, List.mem_map] at hr
  obtain ⟨s, _, rfl⟩ := hr
  simp only [List.mem_cons, List.not_mem_nil, or_false] at ha
  subst ha; exact Cl.v _)
theorem noRows_strs {b : Nat} {l : List (List UInt8)} : ∀ r ∈ strs l, ∀ a ∈ r, NO b a := fun r hr a ha => by
  simp only [strs, List.mem_map] at hr
  obtain ⟨s, _, rfl⟩ := hr
  simp only [List.mem_cons, List.not_mem_nil, or_false] at ha
  subst ha; exact NO.v
theorem nbRows_strs {n : Nat} {l : List (List UInt8)} : nbRows n (strs l) := by
  induction l with
  | nil => trivial
  | cons s l ih => exact ⟨⟨NB.v, trivial⟩, ih⟩
theorem grp_bd {m k n L : Nat} (h0 : 0 < m) (h : m * 536870912 ^ k ≤ n) (hn : n < 4294967296 ^ L) : k ≤ 2 * L := by
  rcases Nat.lt_or_ge (2 * L) k with h1 | h1
  · exfalso
    have h2 : 536870912 ^ (2 * L) ≤ 536870912 ^ k := Nat.pow_le_pow_right (by omega) (by omega)
    have h3 : 4294967296 ^ L ≤ (536870912 ^ 2) ^ L := Nat.pow_le_pow_left (by decide) L
    rw [← Nat.pow_mul] at h3
    have h4 : 1 * 536870912 ^ k ≤ m * 536870912 ^ k := Nat.mul_le_mul_right _ h0
    omega
  · exact h1
theorem grp_step {m k n : Nat} (h : m * 536870912 ^ k ≤ n) : m / 1000000000 * 536870912 ^ (k + 1) ≤ n := by
  refine Nat.le_trans ?_ h
  rw [Nat.pow_succ, Nat.mul_comm (536870912 ^ k), ← Nat.mul_assoc]
  exact Nat.mul_le_mul_right _ (by omega)
theorem grp_val {m n : Nat} {gs : List Nat} (h : val9 gs + 1000000000 ^ gs.length * m = n) : val9 (gs ++ [m % 1000000000]) + 1000000000 ^ (gs.length + 1) * (m / 1000000000) = n := by
  rw [val9_append, ← h, Nat.pow_succ, Nat.mul_assoc, Nat.add_assoc, ← Nat.mul_add]
  simp only [val9, Nat.mul_zero, Nat.add_zero]
  rw [Nat.mod_add_div]
theorem bytes_append (a b : List UInt8) : (⟨a.toArray⟩ : ByteArray) ++ ⟨b.toArray⟩ = ⟨(a ++ b).toArray⟩ := by
  apply ByteArray.ext
  rw [ByteArray.data_append]
  simp
theorem bytes_eq (a b : List UInt8) : ((⟨a.toArray⟩ : ByteArray) = ⟨b.toArray⟩) = (a = b) := by
  apply propext
  refine ⟨fun h => ?_, fun h => by rw [h]⟩
  have h1 := congrArg (fun x : ByteArray => x.data.toList) h
  simpa using h1
end Go.Ax

/- The abstract executor: append that names its result anew (so it may stand in a region that draws its order); names are turned back. -/
namespace Go.Ax
open Go Go.RowKit

section
variable {P : Program} {ti : Types} {D : Base} {S0 : Nat → Prop} {w0 : World} {σ : Sig} {S : Nat → Prop} {w : World} {mem : List (Nat × MB)} {U : Nat → Prop}

/-- Block b goes on under a new name, with its first rows. -/
theorem Fit.alias (hF : Fit D S0 w0 σ S mem U w) {b next k0 k : Nat} {m : MB} (hid : ¬ U next) (hm : look mem b = some m) (hσ : σ b = some k0) :
    Fit D S0 w0 (upd σ next k0) S ((next, ⟨m.sz, m.rows.take k⟩) :: dropM b mem) (fun c => U c ∨ c = next) w where
  below := hF.below
  dom c k1 hk := by
    unfold upd at hk
    split at hk
    · injection hk with hk; subst hk; rename_i hc; exact ⟨.inr hc, (hF.dom b _ hσ).2⟩
    · have := hF.dom c k1 hk; exact ⟨.inl this.1, this.2⟩
  inj c c' k1 m1 m2 h1 h2 h3 h4 := by
    simp only [look] at h1 h2
    unfold upd at h3 h4
    by_cases e1 : c = next <;> by_cases e2 : c' = next
    · rw [e1, e2]
    · rw [if_pos e1] at h3; rw [if_neg e2] at h4
      rw [if_neg (fun e => e2 e.symm)] at h2
      injection h3 with h3; subst h3
      obtain ⟨n1, n2⟩ := look_dropM _ _ _ h2
      exact (n1 (hF.inj c' b k0 m2 m n2 hm h4 hσ)).elim
    · rw [if_neg e1] at h3; rw [if_pos e2] at h4
      rw [if_neg (fun e => e1 e.symm)] at h1
      injection h4 with h4; subst h4
      obtain ⟨n1, n2⟩ := look_dropM _ _ _ h1
      exact (n1 (hF.inj c b k0 m1 m n2 hm h3 hσ)).elim
    · rw [if_neg e1] at h3; rw [if_neg e2] at h4
      rw [if_neg (fun e => e1 e.symm)] at h1; rw [if_neg (fun e => e2 e.symm)] at h2
      exact hF.inj c c' k1 m1 m2 (look_dropM _ _ _ h1).2 (look_dropM _ _ _ h2).2 h3 h4
  sbd := hF.sbd
  s0 := hF.s0
  s1 := hF.s1
  glob := ⟨hF.glob.1, fun k hk => upd_old hF hid 0 k (hF.glob.2 k hk) _⟩
  mem c mc hmc := by
    have up : ∀ {x : Value} {av : AV}, Rel σ S w x av → Rel (upd σ next k0) S w x av := fun hr => hr.mono (fun b k hb => upd_old hF hid b k hb _) (fun _ h => h) keeps_refl
    simp only [look] at hmc
    split at hmc
    · rename_i hc
      injection hmc with hmc
      subst hmc hc
      obtain ⟨k1, c1, e1, g1, g2, g3, g4, g5, g6, g7⟩ := (hF.mem b m hm).named hσ
      have : k1 = k0 := Option.some.inj (g1.symm.trans hσ)
      subst this
      refine .inr ⟨k1, c1, e1, by simp [upd], g2, g3, g4, fun r hr => g5 r (List.mem_of_mem_take hr), ?_, fun i r j av hi hj => ?_⟩
      · simp only [List.length_take]
        exact Nat.le_trans (Nat.mul_le_mul_right _ (Nat.min_le_right ..)) g6
      · simp only [List.getElem?_take] at hi
        split at hi
        · obtain ⟨x, hx, hr⟩ := g7 i r j av hi hj
          exact ⟨x, hx, up hr⟩
        · cases hi
    · rename_i hc
      obtain ⟨n1, n2⟩ := look_dropM _ _ _ hmc
      rcases hF.mem c mc n2 with ⟨h1, h2⟩ | ⟨k1, c1, e1, g1, g2, g3, g4, g5, g6, g7⟩
      · refine .inl ⟨h1, ?_⟩
        unfold upd; rw [if_neg (fun e => hc e.symm)]; exact h2
      · refine .inr ⟨k1, c1, e1, upd_old hF hid c k1 g1 _, g2, g3, g4, g5, g6, fun i r j av hi hj => ?_⟩
        obtain ⟨x, hx, hr⟩ := g7 i r j av hi hj
        exact ⟨x, hx, up hr⟩

/-- A new name for nothing. -/
theorem Fit.none (hF : Fit D S0 w0 σ S mem U w) {next sz : Nat} (hid : ¬ U next) : Fit D S0 w0 σ S ((next, ⟨sz, []⟩) :: mem) (fun c => U c ∨ c = next) w where
  below := hF.below
  dom c k1 hk := ⟨.inl (hF.dom c k1 hk).1, (hF.dom c k1 hk).2⟩
  inj c c' k1 m1 m2 h1 h2 h3 h4 := by
    have ne : ∀ c, σ c = some k1 → c ≠ next := fun c hc e => hid (e ▸ (hF.dom c k1 hc).1)
    simp only [look] at h1 h2
    rw [if_neg (fun e => ne c h3 e.symm)] at h1
    rw [if_neg (fun e => ne c' h4 e.symm)] at h2
    exact hF.inj c c' k1 m1 m2 h1 h2 h3 h4
  sbd := hF.sbd
  s0 := hF.s0
  s1 := hF.s1
  glob := hF.glob
  mem c mc hmc := by
    simp only [look] at hmc
    split at hmc
    · rename_i hc
      injection hmc with hmc
      subst hmc hc
      refine .inl ⟨rfl, ?_⟩
      cases hs : σ next with
      | none => rfl
      | some k => exact (hid (hF.dom next k hs).1).elim
    · exact hF.mem c mc hmc

def srcY (sz : Nat) : Option AV → Option (List (List AV))
  | some (.sl sz' rows) => if sz' = sz then some rows else none
  | some (.v (.slice none 0 0)) => some []
  | _ => none
theorem srcY_A {sz : Nat} {a : Option AV} {rows : List (List AV)} (h : srcY sz a = some rows) : srcA mem sz a = some (True, rows) := by
  unfold srcY at h
  split at h
  · split at h
    · rename_i sz' rows' hsz; injection h with h; subst h; simp [srcA, hsz]
    · cases h
  · injection h with h; subst h; rfl
  · cases h
end

section
variable {C : Cx} {s : AS} {o : Oper}

theorem opR_app (hT : TypesOK C.P C.ti) {x y : Operand} {t tx e : TypeId} {q1 q2 : Nat} {q3 : List Z} {z : TyI} (ho : o.op = .call ⟨.builtin .append, #[x, y], #[t, tx]⟩) (ht : C.ti t = some ⟨q1, q2, q3, .slc e⟩) (hz : C.ti e = some z) (htx : isSlcT (C.ti tx) = true)
    {b sz k : Nat} {m : MB} {rows : List (List AV)} (hx : ev s x = some (.ps b sz 0 k)) (hm : look s.mem b = some m) (hy : srcY sz (ev s y) = some rows)
    (hc : z.size = sz ∧ m.sz = sz ∧ 0 < sz) (hp : k ≤ m.rows.length ∧ (k + rows.length) * z.bytes ≤ 140737488355328 ∧ k + rows.length ≤ 9223372036854775807)
    (hrows : RowsOK b sz rows) (rd wr : Option Nat) : OpR C s o ⟨.ps s.next sz 0 (k + rows.length), .app b ⟨sz, m.rows.take k ++ rows⟩, rd, wr⟩ := by
  intro D S0 w0 σ S U a w K Q hG hid hF hE hK
  simp only [AS.upd, grown] at hK
  obtain ⟨c1, c2, c3⟩ := hc
  obtain ⟨p2, p3, p4⟩ := hp
  obtain ⟨i, d, h1, h2, h3, h4, h5, h6⟩ := underlying_of hT ht
  have hd := slc_desc h5
  subst hd
  obtain ⟨i', d', g1, g2, g3, g4, g5, ⟨zv, hz1, hz2, hz3⟩, g7⟩ := underlying_of hT hz
  cases hyv : ev s y with
  | none => rw [hyv] at hy; simp [srcY] at hy
  | some av =>
  rw [hyv] at hy
  obtain ⟨news, hs, hn⟩ := src_spec (P := C.P) hT hF htx (size := sz) (b := b) c3 (ev_rel hE hyv) (srcY_A hy) trivial hrows
  have hisz : i'.size = sz := by rw [g3, c1]
  have hnl : news.length = rows.length * sz := hs.newsLen
  have wp : ∀ v w', (Builtin.append_ #[t, tx] o.type #[a.eval x, a.eval y]).run C.P w = .ok v w' → K (a.put o.dst v) w' → o.wp C.P a w K Q := fun v w' hr hk => by
    unfold Oper.wp
    rw [exec_append ho hr]
    exact hk
  have hxr := ev_rel hE hx
  have newlen : (m.rows.take k ++ rows).length = k + rows.length := by simp; omega
  have hFs : Fit D S0 w0 σ S (dropM b s.mem) U w := hF.sub fun c mc h => (look_dropM _ _ _ h).2
  -- the new block
  have grow : ∀ (base : Option Addr) (cap : Nat) (olds : List Value), a.eval x = .slice base k cap → cap < k + rows.length → olds.length = k * sz →
      (Builtin.firstCells sz k (.slice base k cap)).run C.P w.drew = .ok olds.toArray w.drew →
      (∀ (i : Nat) (r : List AV) (j : Nat) (av : AV), (m.rows.take k)[i]? = some r → r[j]? = some av → ∃ v, olds[i * sz + j]? = some v ∧ Rel σ S w v av) →
      (∀ r ∈ m.rows.take k, r.length = sz) → o.wp C.P a w K Q := fun base cap olds hxe hcap hol hfc hor hlr => by
    have hrun := run_append_grow_src (P := C.P) w t tx o.type e i' zv h2 g1 hz1 base k cap olds (by rw [hisz]; exact hfc) (a.eval y) rows.length news (by rw [hisz]; exact hs) hcap (by omega) (growslice_fits hcap (by rw [g4]; exact p3))
    refine wp _ _ (by rw [hxe]; exact hrun) ?_
    have hb : Below w.heap.size w w.drew := (Below.refl _ w).drew
    have hke := hFs.keeps_below hb
    have hFd : Fit D S0 w0 σ S (dropM b s.mem) U w.drew := ⟨hFs.below.then hb, hFs.dom, hFs.inj, hFs.sbd, hFs.s0, hFs.s1, hFs.glob, fun b m hm => by
      rcases hFs.mem b m hm with hn | ⟨k, c, e, h1, h2, h3, h4, h5, h6, h7⟩
      · exact .inl hn
      · exact .inr ⟨k, c, e, h1, h2, h3, h4, h5, h6, fun i r j av hi hj => by
          obtain ⟨x, hx, hr⟩ := h7 i r j av hi hj
          exact ⟨x, hx, Rel.mono (fun _ _ h => h) (fun _ h => h) hke hr⟩⟩⟩
    have hEd : EnvOK σ S w.drew s.env a := EnvOK.mono (fun _ _ h => h) (fun _ h => h) hke hE
    have hcs : ((olds ++ news).toArray ++ Builtin.zeroCells zv.cells (grownCap w (k + rows.length) cap e - (k + rows.length))).size = (k + rows.length) * sz + (grownCap w (k + rows.length) cap e - (k + rows.length)) * sz := by
      rw [Array.size_append, size_zeroCells]
      have : zv.cells.size = sz := by rw [hz2]; simp [g7, c1]
      simp [hol, hnl, this, Nat.add_mul]
    have hcap2 : k + rows.length ≤ grownCap w (k + rows.length) cap e := by simp only [grownCap, Question.cut]; omega
    have hFn := hFd.new (next := s.next) hid ((olds ++ news).toArray ++ Builtin.zeroCells zv.cells (grownCap w (k + rows.length) cap e - (k + rows.length))) e ⟨sz, m.rows.take k ++ rows⟩
      (fun r hr => by
        rcases List.mem_append.1 hr with hr | hr
        · exact hlr r hr
        · exact (hrows r hr).1)
      (by simp only; rw [newlen, hcs]; omega)
      (fun i r j av hi hj => by
        simp only at hi
        rw [List.getElem?_append] at hi
        have hlen : (m.rows.take k).length = k := by simp; omega
        split at hi
        · rename_i hlt
          obtain ⟨v, hv, hvr⟩ := hor i r j av hi hj
          have hvlt := (List.getElem?_eq_some_iff.1 hv).1
          refine ⟨v, ?_, hvr.mono (fun _ _ h => h) (fun _ h => h) hke⟩
          rw [Array.getElem?_append_left (by simp; omega)]
          simp only [List.getElem?_toArray]
          rw [List.getElem?_append_left hvlt]; exact hv
        · rename_i hge
          rw [hlen] at hi hge
          obtain ⟨v, hv, hvr⟩ := hn (i - k) r j av hi hj
          have hvlt := (List.getElem?_eq_some_iff.1 hv).1
          refine ⟨v, ?_, hvr.mono (fun _ _ h => h) (fun _ h => h) hke⟩
          have e1 : i * sz + j = olds.length + ((i - k) * sz + j) := by
            rw [hol, Nat.sub_mul]
            have : k * sz ≤ i * sz := Nat.mul_le_mul_right _ (by omega)
            omega
          simp only [e1]
          rw [Array.getElem?_append_left (by simp; omega)]
          simp only [List.getElem?_toArray]
          rw [List.getElem?_append_right (by omega), Nat.add_sub_cancel_left]; exact hv)
    refine hK _ _ _ S hFn (hEd.new hFd hid _ _) ?_
    refine .ps (k := w.heap.size) (off := 0) (by simp [upd]) hcap2 (.inl (by simp)) ⟨_, e, (0, 0), heap_alloc_new w.drew _, ?_⟩
    rw [hcs, Nat.zero_add, ← Nat.add_mul]
    exact Nat.mul_le_mul_right _ (by omega)
  rcases rel_ps hxr with ⟨hx1, rfl⟩ | ⟨kk, off, cap, f1, f2, f3, f4, f5⟩
  · -- no block yet
    by_cases hr0 : rows = []
    · subst hr0
      have hn0 : news = [] := by simpa using hnl
      subst hn0
      have hrun := run_append_stay (P := C.P) (ty := o.type) h2 g1 none 0 0 (a.eval y) (by rw [hisz]; exact hs) (Nat.le_refl _)
      refine wp _ _ (by rw [hx1]; exact hrun) ?_
      simp only [List.take_zero, List.append_nil] at hK
      exact hK _ w σ S (hFs.none hid) hE .ps0
    · have hlen : 0 < rows.length := by
        rcases Nat.eq_zero_or_pos rows.length with h | h
        · exact (hr0 (List.length_eq_zero_iff.1 h)).elim
        · exact h
      exact grow none 0 [] hx1 (by omega) (by simp) (run_firstCells_none w.drew sz 0 0 0) (fun i r j av hi => by simp at hi) (by simp)
  · obtain ⟨cc, ee, ff, f5, f6⟩ := f5
    obtain ⟨k0, c0, e0, u1, u2, u3, u4, u5, u6, u7⟩ := (hF.mem b m hm).named f1
    have : k0 = kk := Option.some.inj (u1.symm.trans f1)
    subst this
    rw [u4] at f5
    injection f5 with f5
    injection f5 with f5a f5b f5c
    subst f5a f5b f5c
    have hFa := hF.alias (k := k) hid hm f1
    have hEa : EnvOK (upd σ s.next k0) S w s.env a := hE.mono (fun b k hb => upd_old hF hid b k hb _) (fun _ h => h) keeps_refl
    by_cases hroom : k + rows.length ≤ cap
    · -- in place
      by_cases hr0 : rows = []
      · subst hr0
        have hn0 : news = [] := by simpa using hnl
        subst hn0
        have hrun := run_append_stay (P := C.P) (ty := o.type) h2 g1 (some ⟨k0, off, none⟩) k cap (a.eval y) (by rw [hisz]; exact hs) f3
        refine wp _ _ (by rw [f2]; exact hrun) ?_
        simp only [List.append_nil] at hK
        rw [c2] at hFa
        exact hK _ w _ S hFa hEa (.ps (by simp [upd]) (by simpa using f3) f4 ⟨c0, e0, (0, 0), u4, f6⟩)
      · have hlen : 0 < rows.length := by
          rcases Nat.eq_zero_or_pos rows.length with h | h
          · exact (hr0 (List.length_eq_zero_iff.1 h)).elim
          · exact h
        have hoff : off = 0 := by
          rcases f4 with f4 | f4
          · simpa using f4
          · omega
        subst hoff
        have hfit : 0 + k * sz + news.length ≤ c0.size := by
          rw [hnl]
          have : (k + rows.length) * sz ≤ cap * sz := Nat.mul_le_mul_right _ hroom
          rw [Nat.add_mul] at this
          omega
        have hrun := run_append_in (P := C.P) (ty := o.type) h2 g1 k0 0 k cap (a.eval y) rows.length news (by rw [hisz]; exact hs) c0 e0 u4 hroom (by rw [hisz]; exact hfit)
        rw [hisz] at hrun
        simp only [Nat.zero_add] at hrun hfit
        refine wp _ _ (by rw [f2]; exact hrun) ?_
        have up : ∀ {x : Value} {av : AV}, Rel σ S w x av → Rel (upd σ s.next k0) S w x av := fun hr => hr.mono (fun b k hb => upd_old hF hid b k hb _) (fun _ h => h) keeps_refl
        have key := hFa.set (b := s.next) (m := ⟨m.sz, m.rows.take k⟩) (m' := ⟨sz, m.rows.take k ++ rows⟩) (by simp [look]) (by simp [upd] : upd σ s.next k0 s.next = some k0) (c' := (c0.toList.take (k * sz) ++ news ++ c0.toList.drop (k * sz + news.length)).toArray) u4
          (by simp; omega)
          (fun r hr => by
            rcases List.mem_append.1 hr with hr | hr
            · rw [← c2]; exact u5 r (List.mem_of_mem_take hr)
            · exact (hrows r hr).1)
          (by
            simp only [newlen]
            simp
            rw [Nat.add_mul, ← hnl]
            omega)
          (fun i r j av hi hj => by
            simp only at hi
            simp only [List.getElem?_toArray]
            rw [List.getElem?_append] at hi
            have hlen' : (m.rows.take k).length = k := by simp; omega
            have htl : (c0.toList.take (k * sz)).length = k * sz := by simp; omega
            split at hi
            · rename_i hlt
              rw [hlen'] at hlt
              rw [List.getElem?_take, if_pos hlt] at hi
              obtain ⟨v, hv, hvr⟩ := u7 i r j av hi hj
              rw [c2] at hv
              have hj' : j < sz := by rw [← c2, ← u5 r (List.mem_of_getElem? hi)]; exact (List.getElem?_eq_some_iff.1 hj).1
              have hlt2 : i * sz + j < k * sz := by
                have : (i + 1) * sz ≤ k * sz := Nat.mul_le_mul_right _ hlt
                rw [Nat.add_mul, Nat.one_mul] at this
                omega
              refine ⟨v, ?_, up hvr⟩
              rw [List.append_assoc, List.getElem?_append_left (by rw [htl]; exact hlt2), List.getElem?_take, if_pos hlt2]
              simpa using hv
            · rename_i hge
              rw [hlen'] at hi hge
              obtain ⟨v, hv, hvr⟩ := hn (i - k) r j av hi hj
              have hvlt := (List.getElem?_eq_some_iff.1 hv).1
              refine ⟨v, ?_, up hvr⟩
              have e1 : i * sz + j = k * sz + ((i - k) * sz + j) := by
                rw [Nat.sub_mul]
                have : k * sz ≤ i * sz := Nat.mul_le_mul_right _ (by omega)
                omega
              rw [e1, List.append_assoc, List.getElem?_append_right (by rw [htl]; omega), htl, Nat.add_sub_cancel_left, List.getElem?_append_left hvlt]
              exact hv)
        obtain ⟨hF', hke⟩ := key
        refine hK _ _ _ S (hF'.congr (fun c => ?_) (fun _ h => h)) (hEa.mono (fun _ _ h => h) (fun _ h => h) hke) (.ps (by simp [upd]) hroom (.inl (by simp)) ⟨_, e0, (0, 0), setRow_heap w k0 c0 _ e0 (0, 0) u4, ?_⟩)
        · simp only [look]; split <;> rfl
        · simp
          omega
    · have hol := exists_list (Q := fun q v => c0[q]? = some v) (k * sz) (fun q hq => by
        have : k * sz ≤ m.rows.length * m.sz := by rw [c2]; exact Nat.mul_le_mul_right _ p2
        exact ⟨c0[q]'(by omega), by simp [show q < c0.size by omega]⟩)
      obtain ⟨olds, ol1, ol2⟩ := hol
      have hoff : k = 0 ∨ off = 0 := by
        rcases f4 with f4 | f4
        · right; simpa using f4
        · left; omega
      refine grow (some ⟨k0, off, none⟩) cap olds f2 (by omega) ol1 ?_ ?_ (fun r hr => by rw [← c2]; exact u5 r (List.mem_of_mem_take hr))
      · refine run_firstCells_some w.drew sz k _ k cap olds ol1 (fun j v hj => ?_)
        rw [add_addr]
        have hjl : j < k * sz := by rw [← ol1]; exact (List.getElem?_eq_some_iff.1 hj).1
        have hoff' : off = 0 := by
          rcases hoff with h | h
          · rw [h] at hjl; simp at hjl
          · exact h
        subst hoff'
        have : (w.drew).heap[k0]? = some (.cells c0 e0 (0, 0)) := u4
        rw [cell_of_cells this, Nat.zero_add]
        exact ol2 j v hj
      · intro i r j av hi hj
        rw [List.getElem?_take] at hi
        split at hi
        · rename_i hlt
          obtain ⟨v, hv, hvr⟩ := u7 i r j av hi hj
          rw [c2] at hv
          have hj' : j < sz := by rw [← c2, ← u5 r (List.mem_of_getElem? hi)]; exact (List.getElem?_eq_some_iff.1 hj).1
          have hlt2 : i * sz + j < olds.length := by
            rw [ol1]
            have : (i + 1) * sz ≤ k * sz := Nat.mul_le_mul_right _ hlt
            rw [Nat.add_mul, Nat.one_mul] at this
            omega
          have hq := ol2 (i * sz + j) olds[i * sz + j] (by simp [hlt2])
          rw [hv] at hq
          exact ⟨v, by rw [List.getElem?_eq_getElem hlt2]; exact hq.symm, hvr⟩
        · cases hi

theorem own_app (hT : TypesOK C.P C.ti) {x y : Operand} {t tx e : TypeId} {q1 q2 : Nat} {q3 : List Z} {z : TyI} (ho : o.op = .call ⟨.builtin .append, #[x, y], #[t, tx]⟩) (ht : C.ti t = some ⟨q1, q2, q3, .slc e⟩) (hz : C.ti e = some z) (htx : isSlcT (C.ti tx) = true)
    {b sz k : Nat} {m : MB} {rows : List (List AV)} (hx : ev s x = some (.ps b sz 0 k)) (hm : look s.mem b = some m) (hy : srcY sz (ev s y) = some rows)
    (hc : z.size = sz ∧ m.sz = sz ∧ 0 < sz) (hp : k ≤ m.rows.length ∧ (k + rows.length) * z.bytes ≤ 140737488355328 ∧ k + rows.length ≤ 9223372036854775807)
    (hrows : RowsOK b sz rows) : OwnOK C s o ⟨.ps s.next sz 0 (k + rows.length), .app b ⟨sz, m.rows.take k ++ rows⟩, some b, some s.next⟩ where
  nocall := by rw [ho]; rfl
  noop s' := by rw [ho]; rfl
  run s' hA := by
    obtain ⟨h1, h2, h3⟩ := hA
    have hop : o.op.operands.toList = [x, y] := by rw [ho]; rfl
    have := opR_app (s := s') hT ho ht hz htx (by rw [← h1 x (by rw [hop]; simp)]; exact hx) (by rw [← h2 b (.inl rfl)]; exact hm) (by rw [← h1 y (by rw [hop]; simp)]; exact hy) hc hp hrows (some b) (some s'.next)
    rw [← h3] at this; exact this
  tch b' h := by
    simp only [tch, Bool.or_eq_true, beq_iff_eq] at h
    rcases h with h | h
    · exact .inl (by rw [h])
    · exact .inr ⟨by rw [h], by rw [ho]; rfl⟩
theorem drawAfter_app {n : Nat} {r : List It} {Q : Lab → AS → Prop} {all l : List Oper} {fps : List FP} {fp : FP} {d : Option Tmp} {u : TypeId} {pos : String} {af : Array Edge} {g : Option (Nat × Bool)} (hT : TypesOK C.P C.ti) {x y : Operand} {t tx e : TypeId} {q1 q2 : Nat} {q3 : List Z} {z : TyI} (ht : C.ti t = some ⟨q1, q2, q3, .slc e⟩) (hz : C.ti e = some z) (htx : isSlcT (C.ti tx) = true)
    {b sz k : Nat} {m : MB} {rows : List (List AV)} (hx : ev s x = some (.ps b sz 0 k)) (hm : look s.mem b = some m) (hc : z.size = sz ∧ m.sz = sz ∧ 0 < sz) (hy : srcY sz (ev s y) = some rows)
    (hp : True ∧ k ≤ m.rows.length ∧ (k + rows.length) * z.bytes ≤ 140737488355328 ∧ k + rows.length ≤ 9223372036854775807) (hrows : RowsOK b sz rows)
    (kk : drawRun C n r (bump ((⟨s.env, (s.next, ⟨sz, m.rows.take k ++ rows⟩) :: dropM b s.mem, s.next + 1⟩ : AS).put d (.ps s.next sz 0 (k + rows.length))) (s.next + 1)) Q all l ((some b, some s.next) :: fps)) :
    drawAfter C n r s Q all ⟨d, .call ⟨.builtin .append, #[x, y], #[t, tx]⟩, u, pos, af, g⟩ none fp l fps := by
  refine drawAfter_own (own_app hT rfl ht hz htx hx hm hy hc hp.2 hrows) ?_
  cases d <;> exact kk
end

/-! ### a new name is turned back -/
def renV (b' b : Nat) : AV → AV
  | .p c sz row j => bif c == b' then .p b sz row j else bif c == b then .top else .p c sz row j
  | .ps c sz row k => bif c == b' then .ps b sz row k else bif c == b then .top else .ps c sz row k
  | a => a
def renOK (b : Nat) : AV → Prop
  | .p _ _ _ _ => True
  | .ps _ _ _ _ => True
  | a => NO b a
def renE (b' b : Nat) : List (Nat × AV) → List (Nat × AV)
  | [] => []
  | (t, a) :: l => (t, renV b' b a) :: renE b' b l
def renEOK (b : Nat) : List (Nat × AV) → Prop
  | [] => True
  | (_, a) :: l => renOK b a ∧ renEOK b l
def renM (b' b : Nat) : List (Nat × MB) → List (Nat × MB)
  | [] => []
  | (c, m) :: l => bif c == b' then (b, m) :: renM b' b l else bif c == b then renM b' b l else (c, m) :: renM b' b l

def renσ (b' b : Nat) (σ : Sig) : Sig := fun c => if c = b then σ b' else σ c

section
variable {σ : Sig} {S : Nat → Prop} {w : World}
theorem renV_rel {b' b : Nat} {x : Value} {a : AV} (h : renOK b a) (hr : Rel σ S w x a) : Rel (renσ b' b σ) S w x (renV b' b a) := by
  have other : ∀ {a : AV}, NO b a → Rel σ S w x a → Rel (renσ b' b σ) S w x a := fun h hr => h σ _ S w x (fun c k hc hk => by unfold renσ; rw [if_neg hc]; exact hk) hr
  cases a with
  | p c sz row j =>
    simp only [renV]
    cases hr with
    | p hσ =>
      by_cases h1 : c = b'
      · subst h1; simp only [beq_self_eq_true, cond_true]; exact .p (by simp [renσ, hσ])
      · by_cases h2 : c = b
        · subst h2; simp only [beq_eq_false_iff_ne.2 h1, cond_false, beq_self_eq_true, cond_true]; exact .top _
        · simp only [beq_eq_false_iff_ne.2 h1, beq_eq_false_iff_ne.2 h2, cond_false]; exact .p (by simp [renσ, h2, hσ])
  | ps c sz row k =>
    simp only [renV]
    by_cases h1 : c = b'
    · subst h1; simp only [beq_self_eq_true, cond_true]
      cases hr with
      | ps hσ q1 q2 q3 => exact .ps (by simp [renσ, hσ]) q1 q2 q3
      | ps0 => exact .ps0
    · by_cases h2 : c = b
      · subst h2; simp only [beq_eq_false_iff_ne.2 h1, cond_false, beq_self_eq_true, cond_true]; exact .top _
      · simp only [beq_eq_false_iff_ne.2 h1, beq_eq_false_iff_ne.2 h2, cond_false]
        cases hr with
        | ps hσ q1 q2 q3 => exact .ps (by simp [renσ, h2, hσ]) q1 q2 q3
        | ps0 => exact .ps0
  | _ => exact other h hr

theorem renE_look {b' b : Nat} : ∀ (l : List (Nat × AV)), renEOK b l → ∀ t av, look (renE b' b l) t = some av → ∃ a, look l t = some a ∧ renOK b a ∧ av = renV b' b a
  | [], _, t, av, h => by simp [renE, look] at h
  | (t', a') :: l, hl, t, av, h => by
    simp only [renE, look] at h ⊢
    split at h
    · rename_i he; injection h with h; exact ⟨a', by rw [if_pos he], hl.1, h.symm⟩
    · rename_i he
      rw [if_neg he]; exact renE_look l hl.2 t av h
theorem renM_look {b' b : Nat} : ∀ (l : List (Nat × MB)) (c : Nat) (m : MB), look (renM b' b l) c = some m → (c = b ∧ look l b' = some m) ∨ (c ≠ b ∧ c ≠ b' ∧ look l c = some m)
  | [], c, m, h => by simp [renM, look] at h
  | (c', m') :: l, c, m, h => by
    simp only [renM] at h
    by_cases h1 : c' = b'
    · subst h1
      simp only [beq_self_eq_true, cond_true, look] at h
      split at h
      · rename_i he
        injection h with h; subst h
        exact .inl ⟨he.symm, by simp [look]⟩
      · rename_i he
        rcases renM_look l c m h with ⟨q1, q2⟩ | ⟨q1, q2, q3⟩
        · exact (he q1.symm).elim
        · exact .inr ⟨q1, q2, by simp only [look]; rw [if_neg (fun e => q2 e.symm)]; exact q3⟩
    · by_cases h2 : c' = b
      · subst h2
        simp only [beq_eq_false_iff_ne.2 h1, cond_false, beq_self_eq_true, cond_true] at h
        rcases renM_look l c m h with ⟨q1, q2⟩ | ⟨q1, q2, q3⟩
        · exact .inl ⟨q1, by simp only [look]; rw [if_neg h1]; exact q2⟩
        · exact .inr ⟨q1, q2, by simp only [look]; rw [if_neg (fun e => q1 e.symm)]; exact q3⟩
      · simp only [beq_eq_false_iff_ne.2 h1, beq_eq_false_iff_ne.2 h2, cond_false, look] at h
        split at h
        · rename_i he
          subst he
          injection h with h; subst h
          exact .inr ⟨h2, h1, by simp [look]⟩
        · rename_i he
          rcases renM_look l c m h with ⟨q1, q2⟩ | ⟨q1, q2, q3⟩
          · exact .inl ⟨q1, by simp only [look]; rw [if_neg h1]; exact q2⟩
          · exact .inr ⟨q1, q2, by simp only [look]; rw [if_neg he]; exact q3⟩
end

theorem Weak.ren {s : AS} (b' b nx : Nat) (hn : s.next ≤ nx) (hb0 : b ≠ 0) (hb : b < nx) (he : renEOK b s.env) (hm : noMem b s.mem) : Weak s ⟨renE b' b s.env, renM b' b s.mem, nx⟩ := by
  intro D S0 w0 σ S w hF _
  have keep : ∀ c k, c ≠ b → σ c = some k → renσ b' b σ c = some k := fun c k hc hk => by unfold renσ; rw [if_neg hc]; exact hk
  have key : ∀ c m, look (renM b' b s.mem) c = some m → ∃ c0, look s.mem c0 = some m ∧ renσ b' b σ c = σ c0 ∧ ((c = b ∧ c0 = b') ∨ (c ≠ b ∧ c ≠ b' ∧ c0 = c)) := fun c m h => by
    rcases renM_look _ c m h with ⟨q1, q2⟩ | ⟨q1, q2, q3⟩
    · exact ⟨b', q2, by simp [renσ, q1], .inl ⟨q1, rfl⟩⟩
    · exact ⟨c, q3, by simp [renσ, q1], .inr ⟨q1, q2, rfl⟩⟩
  refine ⟨renσ b' b σ, S, ⟨hF.below, fun c k hk => ?_, fun c c' k m m' h1 h2 h3 h4 => ?_, hF.sbd, hF.s0, hF.s1, ⟨hF.glob.1, fun k hk => keep 0 k (fun e => hb0 e.symm) (hF.glob.2 k hk)⟩, fun c m h => ?_⟩, fun a hE t av ht => ?_⟩
  · unfold renσ at hk
    split at hk
    · rename_i hc; exact ⟨by rw [hc]; exact hb, (hF.dom _ k hk).2⟩
    · exact ⟨Nat.lt_of_lt_of_le (hF.dom _ k hk).1 hn, (hF.dom _ k hk).2⟩
  · obtain ⟨d, g1, g2, g3⟩ := key c m h1
    obtain ⟨d', g1', g2', g3'⟩ := key c' m' h2
    have := hF.inj d d' k m m' g1 g1' (g2 ▸ h3) (g2' ▸ h4)
    rcases g3 with ⟨q1, q2⟩ | ⟨q1, q2, q3⟩ <;> rcases g3' with ⟨q1', q2'⟩ | ⟨q1', q2', q3'⟩ <;> omega
  · obtain ⟨d, g1, g2, _⟩ := key c m h
    rcases hF.mem d m g1 with ⟨f1, f2⟩ | ⟨k, c0, e, f1, f2, f3, f4, f5, f6, f7⟩
    · exact .inl ⟨f1, by rw [g2]; exact f2⟩
    · refine .inr ⟨k, c0, e, by rw [g2]; exact f1, f2, f3, f4, f5, f6, fun i r j av hi hj => ?_⟩
      obtain ⟨x, hx, hr⟩ := f7 i r j av hi hj
      exact ⟨x, hx, noMem_look _ hm d m g1 r (List.mem_of_getElem? hi) av (List.mem_of_getElem? hj) σ _ S w x keep hr⟩
  · obtain ⟨a0, h1, h2, h3⟩ := renE_look _ he t av ht
    obtain ⟨x, hx, hr⟩ := hE t a0 h1
    subst h3
    exact ⟨x, hx, renV_rel h2 hr⟩
theorem Weak.trans {s s1 s2 : AS} (h : Weak s s1) (h1 : s.next ≤ s1.next) (k : Weak s1 s2) : Weak s s2 := by
  intro D S0 w0 σ S w hF h0
  obtain ⟨σ', S', g1, g2⟩ := h D S0 w0 σ S w hF (fun hne => by
    cases hk : D.an with
    | none => exact absurd hk hne
    | some k => exact Nat.lt_of_lt_of_le (hF.dom 0 k (hF.glob.2 k hk)).1 h1)
  obtain ⟨σ2, S2, k1, k2⟩ := k D S0 w0 σ' S' w g1 h0
  exact ⟨σ2, S2, k1, fun a ha => k2 a (g2 a ha)⟩
end Go.Ax

/- Side goals that close by themselves. -/
namespace Go.Ax
open Go Go.RowKit

theorem byClL {l : List AV} (h : ∀ x ∈ l, Cl x := by (try simp only [List.mem_cons, List.not_mem_nil, or_false, forall_eq_or_imp, forall_eq]); (repeat' (first | exact Cl.v _ | exact Cl.u32s | exact Cl.vec | exact Cl.mat | exact Cl.strs | exact Cl.i64s | exact Cl.sl (by assumption) | refine And.intro ?_ ?_ | refine Cl.agg ?_ | refine Cl.rp ?_ | refine Cl.sl ?_ | refine Cl.tup ?_ | simp only [List.mem_cons, List.not_mem_nil, or_false, forall_eq_or_imp, forall_eq, false_imp_iff, implies_true]))) : ∀ x ∈ l, Cl x := h
theorem byCl {a : AV} (h : Cl a := by (try simp only [List.mem_cons, List.not_mem_nil, or_false, forall_eq_or_imp, forall_eq]); (repeat' (first | exact Cl.v _ | exact Cl.u32s | exact Cl.vec | exact Cl.mat | exact Cl.strs | exact Cl.i64s | exact Cl.sl (by assumption) | refine And.intro ?_ ?_ | refine Cl.agg ?_ | refine Cl.rp ?_ | refine Cl.sl ?_ | refine Cl.tup ?_ | simp only [List.mem_cons, List.not_mem_nil, or_false, forall_eq_or_imp, forall_eq, false_imp_iff, implies_true]))) : Cl a := h
theorem byClM {rows : List (List AV)} (h : ∀ r ∈ rows, ∀ a ∈ r, Cl a := by intro r hr a ha; first | (obtain ⟨w, _, rfl⟩ := u32s_mem hr; simp only [u32, List.mem_cons, List.not_mem_nil, or_false] at ha; subst ha; exact Cl.v _) | (simp only [List.mem_cons, List.not_mem_nil, or_false] at hr; subst hr; simp only [List.mem_cons, List.not_mem_nil, or_false] at ha; (repeat' (rcases ha with ha | ha)) <;> subst ha <;> first | exact Cl.v _ | exact Cl.u32s | exact Cl.dy | assumption)) : ∀ r ∈ rows, ∀ a ∈ r, Cl a := h
theorem byWeak {s s' : AS} (h : Weak s s' := by (first | exact Weak.of (by (repeat' (first | exact trivial | exact ⟨_, rfl, .refl _⟩ | exact ⟨_, rfl, Le.nil _⟩ | exact ⟨_, rfl, Le.ps0 _ _ _⟩ | exact ⟨_, rfl, Le.top _⟩ | refine And.intro ?_ ?_))) (by (repeat' (first | exact trivial | exact rfl | refine And.intro ?_ ?_))) (by first | exact Nat.le_refl _ | exact Nat.le_of_ble_eq_true rfl) | exact Weak.cut (by (repeat' (first | exact trivial | exact ⟨_, rfl, .refl _⟩ | exact ⟨_, rfl, Le.nil _⟩ | exact ⟨_, rfl, Le.ps0 _ _ _⟩ | exact ⟨_, rfl, Le.top _⟩ | refine And.intro ?_ ?_))) (by (repeat' (first | exact trivial | exact rfl | refine And.intro ?_ ?_))) (by (repeat' (first | exact trivial | exact .v | exact .top | exact .p (Nat.le_of_ble_eq_true rfl) | exact .ps (Nat.le_of_ble_eq_true rfl) | exact nbRows_u32s | exact nbRows_strs | exact nbRows_vrows | exact nbRows_mrows | exact .cl (by (first | exact Cl.v _ | exact Cl.u32s | exact Cl.vec | exact Cl.mat | exact Cl.strs | exact Cl.i64s | exact Cl.sl (by assumption) | assumption | ((first | refine Cl.agg ?_ | refine Cl.rp ?_ | refine Cl.sl ?_ | refine Cl.tup ?_); simp only [List.mem_cons, List.not_mem_nil, or_false, forall_eq_or_imp, forall_eq]; (repeat' (first | exact Cl.v _ | exact Cl.u32s | exact Cl.vec | exact Cl.mat | exact Cl.strs | exact Cl.sl (by assumption) | assumption | refine And.intro ?_ ?_))))) | refine And.intro ?_ ?_))) (by (repeat' (first | exact trivial | exact Nat.le_of_ble_eq_true rfl | exact .v | exact .top | exact .p (Nat.le_of_ble_eq_true rfl) | exact .ps (Nat.le_of_ble_eq_true rfl) | exact nbRows_u32s | exact nbRows_strs | exact nbRows_vrows | exact nbRows_mrows | exact .cl (by (first | exact Cl.v _ | exact Cl.u32s | exact Cl.vec | exact Cl.mat | exact Cl.strs | exact Cl.i64s | exact Cl.sl (by assumption) | assumption | ((first | refine Cl.agg ?_ | refine Cl.rp ?_ | refine Cl.sl ?_ | refine Cl.tup ?_); simp only [List.mem_cons, List.not_mem_nil, or_false, forall_eq_or_imp, forall_eq]; (repeat' (first | exact Cl.v _ | exact Cl.u32s | exact Cl.vec | exact Cl.mat | exact Cl.strs | exact Cl.sl (by assumption) | assumption | refine And.intro ?_ ?_))))) | refine And.intro ?_ ?_))))) : Weak s s' := h
theorem byRows {b sz : Nat} {rows : List (List AV)} (h : RowsOK b sz rows := by (first | exact rowsOK_u32s | exact rowsOK_one (.v) | exact rowsOK_vrows | exact rowsOK_lit (by (repeat' (first | exact trivial | exact rfl | exact .v | exact .cl (by (first | exact Cl.v _ | exact Cl.u32s | exact Cl.vec | exact Cl.mat | exact Cl.strs | exact Cl.i64s | exact Cl.sl (by assumption) | assumption | ((first | refine Cl.agg ?_ | refine Cl.rp ?_ | refine Cl.sl ?_ | refine Cl.tup ?_); simp only [List.mem_cons, List.not_mem_nil, or_false, forall_eq_or_imp, forall_eq]; (repeat' (first | exact Cl.v _ | exact Cl.u32s | exact Cl.vec | exact Cl.mat | exact Cl.strs | exact Cl.sl (by assumption) | assumption | refine And.intro ?_ ?_))))) | refine And.intro ?_ ?_))))) : RowsOK b sz rows := h
theorem byNoE {b : Nat} {l : List (Nat × AV)} (h : noEnv b l := by (repeat' (first | exact trivial | exact .inl rfl | exact .inr .v | exact .inr (.p (by decide)) | exact .inr (.ps (by decide)) | exact .inr .top | exact .inr (.cl (by (first | exact Cl.v _ | exact Cl.u32s | exact Cl.vec | exact Cl.mat | exact Cl.strs | exact Cl.i64s | exact Cl.sl (by assumption) | assumption | ((first | refine Cl.agg ?_ | refine Cl.rp ?_ | refine Cl.sl ?_ | refine Cl.tup ?_); simp only [List.mem_cons, List.not_mem_nil, or_false, forall_eq_or_imp, forall_eq]; (repeat' (first | exact Cl.v _ | exact Cl.u32s | exact Cl.vec | exact Cl.mat | exact Cl.strs | exact Cl.sl (by assumption) | assumption | refine And.intro ?_ ?_)))))) | refine And.intro ?_ ?_))) : noEnv b l := h
theorem byNoM {b : Nat} {l : List (Nat × MB)} (h : noMem b l := by (repeat' (first | exact trivial | exact noRows_u32s | exact noRows_strs | exact noRows_vrows | exact noRows_mrows | exact noRows_lit (by (repeat' (first | exact trivial | exact .v | exact .p (by decide) | exact .ps (by decide) | exact .cl (by (first | exact Cl.v _ | exact Cl.u32s | exact Cl.vec | exact Cl.mat | exact Cl.strs | exact Cl.i64s | exact Cl.sl (by assumption) | assumption | ((first | refine Cl.agg ?_ | refine Cl.rp ?_ | refine Cl.sl ?_ | refine Cl.tup ?_); simp only [List.mem_cons, List.not_mem_nil, or_false, forall_eq_or_imp, forall_eq]; (repeat' (first | exact Cl.v _ | exact Cl.u32s | exact Cl.vec | exact Cl.mat | exact Cl.strs | exact Cl.sl (by assumption) | assumption | refine And.intro ?_ ?_))))) | refine And.intro ?_ ?_))) | refine And.intro ?_ ?_))) : noMem b l := h
theorem byFresh {r : List It} {k : Nat} (h : Ax.fresh r = k := by simp only [Ax.fresh, Nat.max_def, Nat.zero_add, Nat.reduceAdd, Nat.reduceLeDiff, Nat.le_refl, Nat.zero_le, Nat.le_zero_eq, Nat.one_ne_zero, reduceIte, ite_self, if_true, if_false]; rfl) : Ax.fresh r = k := h
end Go.Ax

/- The abstract executor: an empty literal in a region that draws its order; several blocks frozen at once. -/
namespace Go.Ax
open Go Go.RowKit

section
variable {C : Cx} {s : AS} {o : Oper}
theorem own_lit0 (hT : TypesOK C.P C.ti) {t e : TypeId} {q1 q2 : Nat} {q3 : List Z} {z : TyI} (ho : o.op = .buildSlice t 0 #[]) (ht : C.ti t = some ⟨q1, q2, q3, .slc e⟩) (hz : C.ti e = some z) :
    OwnOK C s o ⟨.ps s.next z.size 0 0, .new ⟨z.size, []⟩, none, some s.next⟩ where
  nocall := by rw [ho]; rfl
  noop s' := by rw [ho]; rfl
  run s' hA := by
    rw [hA.2.2]
    intro D S0 w0 σ S U a w K Q hG hid hF hE hK
    obtain ⟨i, d, h1, h2, h3, h4, h5, h6⟩ := underlying_of hT ht
    have hd := slc_desc h5
    subst hd
    obtain ⟨i', d', g1, g2, g3, g4, g5, ⟨zv, hz1, hz2, hz3⟩, g7⟩ := underlying_of hT hz
    have hrun : (execOp a.eval o).run C.P w = .ok (.value (.slice (some ⟨w.heap.size, 0, none⟩) 0 0)) (w.alloc (.cells #[] e)) := by
      simp [execOp, ho, Instr.buildSlice, run_underlying h2, run_sizeOf_of g1, Instr.fill, newRow]
      have e0 : (Array.range 0).map (fun (_ : Nat) => (default : Value)) = #[] := by simp [Array.range]
      rw [e0]
    unfold Oper.wp
    rw [hrun]
    have hFn := hF.new (next := s'.next) hid #[] e ⟨z.size, []⟩ (fun r hr => by cases hr) (by simp) (fun i r j av hi => by simp at hi)
    exact hK _ _ _ S hFn (hE.new hF hid _ _) (.ps (k := w.heap.size) (off := 0) (by simp [Ax.upd]) (Nat.le_refl _) (.inl (by simp)) ⟨_, e, (0, 0), heap_alloc_new w _, by simp⟩)
  tch b h := by
    simp only [tch, beq_iff_eq] at h
    exact .inl (by rw [h])
end
section
variable {C : Cx} {s : AS} {n : Nat} {r : List It} {Q : Lab → AS → Prop}
theorem drawAfter_lit0 {all l : List Oper} {fps : List FP} {fp : FP} {d : Option Tmp} {u : TypeId} {pos : String} {af : Array Edge} {g : Option (Nat × Bool)} (hT : TypesOK C.P C.ti) {t e : TypeId} {q1 q2 : Nat} {q3 : List Z} {z : TyI} (ht : C.ti t = some ⟨q1, q2, q3, .slc e⟩) (hz : C.ti e = some z)
    (kk : drawRun C n r (bump ((⟨s.env, (s.next, ⟨z.size, []⟩) :: s.mem, s.next + 1⟩ : AS).put d (.ps s.next z.size 0 0)) (s.next + 1)) Q all l ((none, some s.next) :: fps)) :
    drawAfter C n r s Q all ⟨d, .buildSlice t 0 #[], u, pos, af, g⟩ none fp l fps := by
  refine drawAfter_own (own_lit0 hT rfl ht hz) ?_
  cases d <;> exact kk

/-! several blocks are frozen -/
def thawL : List Nat → AS → AS
  | [], s => s
  | b :: l, s => match look s.mem b with
    | some m => thawL l (thawS b m s)
    | none => s
def thawLOK : List Nat → AS → Prop
  | [], _ => True
  | b :: l, s => match look s.mem b with
    | some m => thawEOK b m s.env ∧ thawLOK l (thawS b m s)
    | none => True
attribute [go_sem] Ax.thawL
theorem thawL_next : ∀ (l : List Nat) (s : AS), (thawL l s).next = s.next
  | [], s => rfl
  | b :: l, s => by
    simp only [thawL]
    split
    · rw [thawL_next l]; rfl
    · rfl
theorem Weak.thaws : ∀ (l : List Nat) (s : AS), thawLOK l s → Weak s (thawL l s)
  | [], s, _ => fun D S0 w0 σ S w hF _ => ⟨σ, S, hF, fun a hE => hE⟩
  | b :: l, s, h => by
    simp only [thawL]
    simp only [thawLOK] at h
    split
    · rename_i m hm
      rw [hm] at h
      exact Weak.trans (Weak.thaw b hm h.1) (Nat.le_refl _) (Weak.thaws l _ h.2)
    · exact fun D S0 w0 σ S w hF _ => ⟨σ, S, hF, fun a hE => hE⟩
theorem after_thaws (hT : TypesOK C.P C.ti) {o : Oper} (l : List Nat) (h : thawLOK l s) (hc : isCall o.op = false) {e : Eff} (he : aop C.ti (thawL l s) o.op = some e) (hn : e.need) (k : ex C n r (((thawL l s).upd e.upd).put o.dst e.val) Q) : after C n r s Q o none :=
  after_weak hT (Weak.thaws l s h) (by rw [thawL_next]; exact Nat.le_refl _) hc he hn k
end
end Go.Ax

/- Package variables that a row lists, as the executor's. -/
namespace Go.Ax
open Go Go.RowKit

theorem laidVars_mem {P : Program} {w : World} : ∀ {laid : List (String × DataW Unit)} {ps : List MemPlace} {n : String} {d : DataW Unit}, DataW.LaidVars P w laid ps → (n, d) ∈ laid →
    ∃ g t cs fuel p, P.globalNamed n = some g ∧ (P.globals[g]?).map (·.type) = some t ∧ w.var? P n = some cs ∧ DataW.trod (fun _ => ()) P w 0 (fun _ => true) false fuel t cs.toList = some (d, p)
  | [], _, _, _, _, h => by cases h
  | (n', d') :: laid, ps, n, d, h, hm => by
    obtain ⟨g, t, cs, fuel, p, q, h1, h2, h3, h4, h5, _⟩ := h
    rcases List.mem_cons.1 hm with he | hm
    · injection he with e1 e2
      subst e1 e2
      exact ⟨g, t, cs, fuel, p, h1, h2, h3, h4⟩
    · exact laidVars_mem h5 hm

theorem gh_of_laid {α : Type} {P : Program} {w : World} {laid : List (String × DataW Unit)} (h : laidMetH P laid w) (hp : (laid.all fun x => x.2.handleName?.isNone) = true) {n : String} {d : DataW Unit} (hm : (n, d) ∈ laid) {g N : Nat} {t e : TypeId} {k : IntKind}
    (hg : P.globalNamed n = some g) (ht : (P.globals[g]?).map (·.type) = some t) (hu : P.underlying t = some (.array N e)) (hc : P.cellsOf e = 1) (hct : P.cellsOf t = N) (he : P.underlying e = some (.int k)) (ds : List α) (f : α → Int)
    (hd : d = .agg (ds.map fun x => .lit (.int k (f x)))) (hN : ds.length = N) : GH w g (ds.map fun x => Value.int k (f x)) := by
  rw [MakeChecks.laidMetH_plain _ _ _ hp] at h
  obtain ⟨ps, hv, _⟩ := h
  obtain ⟨g', t', cs, fuel, p, h1, h2, h3, h4⟩ := laidVars_mem hv hm
  obtain rfl := Option.some.inj (hg.symm.trans h1)
  obtain rfl := Option.some.inj (ht.symm.trans h2)
  obtain ⟨c, ty, fr, hb, hcs⟩ : ∃ c ty fr, w.heap[g]? = some (.cells c ty fr) ∧ cs = c := by
    simp only [World.var?, hg, Option.bind_some] at h3
    split at h3
    · rename_i c t' fr hb
      injection h3 with h3
      exact ⟨c, t', fr, hb, h3.symm⟩
    · cases h3
  subst hcs
  have hcs := Lib.cells_of_tab (zs := ds.map f) hu he hc hct (by rw [hd] at h4; rw [show Lib.tabData k (ds.map f) = (.agg (ds.map fun x => .lit (.int k (f x))) : DataW Unit) by simp [Lib.tabData, Function.comp_def]]; exact h4)
  have e1 : cs = (ds.map fun x => Value.int k (f x)).toArray := by
    apply Array.toList_inj.1
    rw [hcs]
    simp [Function.comp_def]
  refine ⟨cs, ty, fr, hb, fun j x hj => ?_, by rw [e1]; simp⟩
  rw [e1]
  simpa using hj
theorem wf64 {n : Int} (h : (Lit.int .i64 n).wf = true) : -9223372036854775808 ≤ n ∧ n ≤ 9223372036854775807 := by
  simpa [Lit.wf, IntKind.min, IntKind.max, IntKind.signed, IntKind.bits] using h
end Go.Ax

