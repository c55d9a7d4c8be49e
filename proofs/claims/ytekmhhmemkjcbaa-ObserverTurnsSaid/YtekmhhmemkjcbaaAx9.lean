/- The abstract executor, part 9: code, item by item; contracts. -/
import Derived.Test.YtekmhhmemkjcbaaAx8
import Derived.Tactics
set_option linter.unusedSimpArgs false
set_option linter.unusedVariables false
set_option linter.deprecated false
namespace Go.Ax
open Go Go.RowKit

abbrev Gd := Option (Option Tmp × Bool)

inductive It where
  | code (c : Code)
  | op (o : Oper) (g : Gd)
  | blk (id : Nat)
  | lp (k : Nat)

/-- The guard of an operation: the slot that it asks, and what it wants. -/
def gd (ops : List Oper) (o : Oper) : Gd :=
  match o.guard with
  | none => none
  | some (j, want) => some ((ops[j]?).bind (·.dst), want)

def items (ops : List Oper) : List Oper → List It
  | [] => []
  | o :: l => .op o (gd ops o) :: items ops l

/-! ### what the items mean -/
def gWanted (g : Gd) (tmps : Array Value) : Bool :=
  match g with
  | none => true
  | some (t, want) => (match t.bind (tmps[·]?) with | some (.bool b) => some b | _ => none) == some want

def Real (P : Program) (R : Exit → Act → World → Prop) (M : Nat → Act → World → Prop) : List It → Exit → Act → World → Prop
  | [], e, a, w => R e a w
  | .code c :: r, .normal, a, w => c.wp P (Real P R M r) a w
  | .op o g :: r, .normal, a, w => if gWanted g a.tmps then o.wp P a w (Real P R M r .normal) (Real P R M r) else Real P R M r .normal (a.put o.dst undef) w
  | .blk _ :: r, .normal, a, w => Real P R M r .normal a w
  | .lp k :: _, .normal, a, w => M k a w
  | .blk id :: r, .exit id', a, w => if id' = id then Real P R M r .normal a w else Real P R M r (.exit id') a w
  | _ :: r, e, a, w => Real P R M r e a w

def marks : List It → List Nat
  | [] => []
  | .lp k :: r => k :: marks r
  | _ :: r => marks r

def fresh : List It → Nat
  | [] => 0
  | .lp k :: r => max (k + 1) (fresh r)
  | _ :: r => fresh r

theorem fresh_spec : ∀ (r : List It) (k : Nat), k ∈ marks r → k < fresh r
  | [], k, h => by simp [marks] at h
  | .lp j :: r, k, h => by
    simp only [marks, List.mem_cons] at h
    simp only [fresh]
    rcases h with h | h
    · omega
    · have := fresh_spec r k h; omega
  | .code _ :: r, k, h => fresh_spec r k h
  | .op _ _ :: r, k, h => fresh_spec r k h
  | .blk _ :: r, k, h => fresh_spec r k h

section
variable {P : Program} {R : Exit → Act → World → Prop} {M : Nat → Act → World → Prop} {r : List It} {a : Act} {w : World}

theorem Oper.wp_monoQ {o : Oper} {a : Act} {w : World} {K K' : Act → World → Prop} {Q Q' : Exit → Act → World → Prop} (hk : ∀ a w, K a w → K' a w) (hq : ∀ e a w, e ≠ .normal → Q e a w → Q' e a w) (h : o.wp P a w K Q) : o.wp P a w K' Q' := by
  unfold Oper.wp at h ⊢
  generalize (execOp a.eval o).run P w = res at h ⊢
  cases res with
  | ok n w' =>
    cases n <;> simp only [Oper.upon] at h ⊢
    case value v => exact hk _ _ h
    case skip => exact hk _ _ h
    case defer d => exact hk _ _ h
    case enter f args =>
      refine h.mono fun e w'' q => ?_
      cases e with
      | returned v => exact hk _ _ q
      | panicked chain => exact hq _ _ _ (by simp) q
      | outgrown => obtain ⟨a', w', hq'⟩ := q; exact ⟨a', w', hq _ _ _ (by simp) hq'⟩
    case row row args => exact h.mono fun v w'' q => hk _ _ q
  | halt x w' =>
    cases x <;> simp only [Oper.upon] at h ⊢
    exact hq _ _ _ (by simp) h

theorem real_mono {M' : Nat → Act → World → Prop} : ∀ (r : List It), (∀ k a w, k ∈ marks r → M k a w → M' k a w) → ∀ (e : Exit) (a : Act) (w : World), Real P R M r e a w → Real P R M' r e a w
  | [], _, _, _, _, h => h
  | .code c :: r, hm, e, a, w, h => by
    have ih := real_mono r hm
    cases e <;> simp only [Real] at h ⊢ <;> first | exact ih _ _ _ h | exact wp_mono h ih
  | .op o g :: r, hm, e, a, w, h => by
    have ih := real_mono r hm
    cases e <;> simp only [Real] at h ⊢ <;> first | exact ih _ _ _ h | skip
    split
    · rename_i hg; rw [if_pos hg] at h; exact Oper.wp_monoQ (ih _) (fun e a w _ => ih e a w) h
    · rename_i hg; rw [if_neg hg] at h; exact ih _ _ _ h
  | .blk id :: r, hm, e, a, w, h => by
    have ih := real_mono r hm
    cases e <;> simp only [Real] at h ⊢ <;> first | exact ih _ _ _ h | skip
    split
    · rename_i hg; rw [if_pos hg] at h; exact ih _ _ _ h
    · rename_i hg; rw [if_neg hg] at h; exact ih _ _ _ h
  | .lp k :: r, hm, e, a, w, h => by
    have ih := real_mono (M' := M') r (fun k' a w hk => hm k' a w (by simp [marks, hk]))
    cases e <;> simp only [Real] at h ⊢ <;> first | exact ih _ _ _ h | exact hm k a w (by simp [marks]) h

theorem real_seq {x y : Code} (h : Real P R M (.code x :: .code y :: r) .normal a w) : Real P R M (.code (.seq x y) :: r) .normal a w := by
  simp only [Real] at h ⊢
  refine wp_seq (wp_mono h fun e a w q => ?_)
  cases e <;> simpa only [Real, Exit.then] using q

theorem real_block {id : Nat} {c : Code} (h : Real P R M (.code c :: .blk id :: r) .normal a w) : Real P R M (.code (.block id c) :: r) .normal a w := by
  simp only [Real] at h ⊢
  refine wp_block (wp_mono h fun e a w q => ?_)
  cases e <;> simpa only [Real, Exit.inBlock] using q

theorem real_skip (h : Real P R M r .normal a w) : Real P R M (.code .skip :: r) .normal a w := wp_skip h
theorem real_ret (h : Real P R M r .ret a w) : Real P R M (.code .ret :: r) .normal a w := wp_ret h
theorem real_exit {id : Nat} (h : Real P R M r (.exit id) a w) : Real P R M (.code (.exit id) :: r) .normal a w := wp_exit h
theorem real_cond {c : Operand} {x y : Code} {t : Bool} (hc : a.eval c = .bool t) (h : Real P R M (.code (if t then x else y) :: r) .normal a w) : Real P R M (.code (.cond c x y) :: r) .normal a w := wp_cond hc h

theorem gWanted_eq (ops : Array Oper) (o : Oper) (tmps : Array Value) : Region.wanted o (yielded ops tmps) = gWanted (gd ops.toList o) tmps := by
  unfold Region.wanted gd gWanted yielded
  cases o.guard with
  | none => rfl
  | some p => obtain ⟨j, want⟩ := p; simp; rfl

theorem real_items_exit (ops : List Oper) : ∀ (l : List Oper) (e : Exit) (a : Act) (w : World), e ≠ .normal → Real P R M (items ops l ++ r) e a w = Real P R M r e a w
  | [], e, a, w, _ => rfl
  | o :: l, e, a, w, h => by
    have ih := real_items_exit ops l e a w h
    cases e <;> first | exact (h rfl).elim | (simp only [items, List.cons_append, Real]; exact ih)

theorem real_list (ops : Array Oper) : ∀ (l : List Oper) (a : Act) (w : World), Real P R M (items ops.toList l ++ r) .normal a w → wpList P ops (Real P R M r) l a w
  | [], a, w, h => h
  | o :: l, a, w, h => by
    simp only [items, List.cons_append, Real] at h
    unfold wpList
    rw [gWanted_eq]
    split
    · rename_i hg
      rw [if_pos hg] at h
      refine .inl (Oper.wp_monoQ (fun a w => real_list ops l a w) (fun e a w he q => ?_) h)
      rw [real_items_exit _ _ _ _ _ he] at q; exact q
    · rename_i hg
      rw [if_neg hg] at h
      exact real_list ops l _ _ h

theorem real_region {id : Nat} {ops : Array Oper} (h : Real P R M (items ops.toList ops.toList ++ r) .normal a w) : Real P R M (.code (.region id ops false) :: r) .normal a w := by
  simp only [Real]
  exact wp_region_list (real_list ops _ _ _ h)

def popTo (id : Nat) : List It → Option (List It)
  | [] => none
  | .blk id' :: r => if id' = id then some r else popTo id r
  | _ :: r => popTo id r

theorem real_popTo (id : Nat) : ∀ (r r' : List It) (a : Act) (w : World), popTo id r = some r' → Real P R M r' .normal a w → Real P R M r (.exit id) a w
  | [], r', a, w, h, _ => by simp [popTo] at h
  | .blk id' :: r, r', a, w, h, k => by
    simp only [popTo] at h
    simp only [Real]
    split at h
    · rename_i he
      injection h with h; subst h
      rw [if_pos he.symm]; exact k
    · rename_i he
      rw [if_neg (fun e => he e.symm)]
      exact real_popTo id r r' a w h k
  | .code c :: r, r', a, w, h, k => by simp only [popTo] at h; simp only [Real]; exact real_popTo id r r' a w h k
  | .op o g :: r, r', a, w, h, k => by simp only [popTo] at h; simp only [Real]; exact real_popTo id r r' a w h k
  | .lp _ :: r, r', a, w, h, k => by simp only [popTo] at h; simp only [Real]; exact real_popTo id r r' a w h k

theorem real_fin : ∀ (r : List It), R .ret a w → Real P R M r .ret a w
  | [], h => h
  | .blk _ :: r, h => by simp only [Real]; exact real_fin r h
  | .code _ :: r, h => by simp only [Real]; exact real_fin r h
  | .op _ _ :: r, h => by simp only [Real]; exact real_fin r h
  | .lp _ :: r, h => by simp only [Real]; exact real_fin r h
end

/-! ### contracts -/
/-- A function that has a body is entered. -/
def Enters (P : Program) (f : FuncId) : Prop := ∀ (args : Array Value) (w : World), (callFunc f args).run P w = .ok (.enter f args) w

structure CallOK (P : Program) (G : GL) (f : FuncId) (args : List AV) (res : AV) : Prop where
  enters : Enters P f
  cla : ∀ x ∈ args, Cl x
  clr : Cl res
  runs : ∀ (S : Nat → Prop) (w : World) (vs : Array Value), (∀ k, S k → k < w.heap.size) → GS G S w → vs.size = args.length →
    (∀ (i : Nat) (x : Value) (av : AV), vs[i]? = some x → args[i]? = some av → Rel nσ S w x av) →
    Calls P f vs w fun e w' => Below w.heap.size w w' ∧ ∃ x, e = .returned x ∧ Rel nσ (Grow S w w') w' x res

/-! ### one operation -/
structure Cx where
  P : Program
  G : GL
  ti : Types
  nt : Nat

/-- What an operation did: its value, what became of memory, which block it read, which it wrote. -/
structure Rc where
  val : AV
  up : Upd
  rd : Option Nat
  wr : Option Nat

def isCall : Op → Bool
  | .call ⟨.value _, _, _⟩ => true
  | _ => false

def blockOf : Option AV → Option Nat
  | some (.p b _ _ _) => some b
  | _ => none

def rdOf (s : AS) : Op → Option Nat
  | .load _ x => blockOf (ev s x)
  | _ => none
def wrOf (s : AS) : Op → Option Nat
  | .store _ x _ => blockOf (ev s x)
  | .alloc _ => some s.next
  | .box _ _ => some s.next
  | .makeSlice _ _ _ => some s.next
  | _ => none

/-- An operation of which it is shown apart what it yields. -/
def SemOK (C : Cx) (s : AS) (o : Oper) (av : AV) : Prop := ∀ (σ : Sig) (S : Nat → Prop) (a : Act) (w : World), (∀ k, S k → k < w.heap.size) → GS C.G S w → (∀ x ∈ o.op.operands.toList, ∀ b, ev s x = some b → Rel σ S w (a.eval x) b) →
  ∃ v w', (execOp a.eval o).run C.P w = .ok (.value v) w' ∧ Below w.heap.size w w' ∧ Rel σ (Grow S w w') w' v av

inductive RecOK (C : Cx) (s : AS) (o : Oper) : Rc → Prop
  | plain (e : Eff) (hc : isCall o.op = false) (he : aop C.ti s o.op = some e) (hn : e.need) : RecOK C s o ⟨e.val, e.upd, rdOf s o.op, wrOf s o.op⟩
  | call (f : Operand) (args : Array Operand) (ty : Array TypeId) (g : FuncId) (caps as args' : List AV) (res : AV) (ho : o.op = .call ⟨.value f, args, ty⟩) (hf : ev s f = some (.fn g caps)) (ha : evL s args.toList = some as)
      (hle : LeL (as ++ caps) args') (hk : CallOK C.P C.G g args' res) : RecOK C s o ⟨res, .keep, none, none⟩
  | sem (av : AV) (hc : isCall o.op = false) (he : aop C.ti s o.op = none) (h : SemOK C s o av) : RecOK C s o ⟨av, .keep, rdOf s o.op, wrOf s o.op⟩

theorem gWanted_no {t : Tmp} {want : Bool} {x : Value} {tmps : Array Value} (hv : tmps[t]? = some x) (hx : x ≠ .bool want) : gWanted (some (some t, want)) tmps = false := by
  simp only [gWanted, Option.bind_some, hv]
  cases x with
  | bool b => simp only [beq_eq_false_iff_ne, ne_eq, Option.some.injEq]; intro h; exact hx (by rw [h])
  | _ => rfl

inductive RecG (C : Cx) (s : AS) (o : Oper) : Gd → Rc → Prop
  | none {rc : Rc} (h : RecOK C s o rc) : RecG C s o .none rc
  | yes {t : Tmp} {want : Bool} {rc : Rc} (hl : look s.env t = some (.v (.bool want))) (h : RecOK C s o rc) : RecG C s o (some (some t, want)) rc
  | no {t : Tmp} {want : Bool} {x : Value} (hl : look s.env t = some (.v x)) (hx : x ≠ .bool want) : RecG C s o (some (some t, want)) ⟨.v undef, .keep, .none, .none⟩

def dstOK (C : Cx) : Option Tmp → Prop
  | some d => d < C.nt
  | none => True

def AS.did (s : AS) (o : Oper) (rc : Rc) : AS := (s.upd rc.up).put o.dst rc.val

section
variable {C : Cx} {D : Base} {S0 : Nat → Prop} {w0 : World} {σ : Sig} {S U : Nat → Prop} {s : AS} {a : Act} {w : World} {o : Oper}

theorem recOK_sound (hT : TypesOK C.P C.ti) (hG : D.G = C.G) (hid : ¬ U s.next) (hF : Fit D S0 w0 σ S s.mem U w) (hE : EnvOK σ S w s.env a) {rc : Rc} (h : RecOK C s o rc) {K : Act → World → Prop} {Q : Exit → Act → World → Prop}
    (hK : ∀ x w' σ' S', Fit D S0 w0 σ' S' (s.upd rc.up).mem (grown U s.next rc.up) w' → EnvOK σ' S' w' s.env a → Rel σ' S' w' x rc.val → K (a.put o.dst x) w') : o.wp C.P a w K Q := by
  cases h with
  | plain e hc he hn =>
    obtain ⟨x, w', σ', hrun, hF', hE', hr⟩ := aop_sound (P := C.P) (o := o) hT hid hF hE he hn
    have hk := hK x w' σ' S hF' hE' hr
    unfold Oper.wp
    rcases hrun with hrun | ⟨hrun, rfl⟩
    · rw [hrun]; exact hk
    · rw [hrun]; exact hk
  | sem av hc he h =>
    obtain ⟨v, w', hrun, hb, hr⟩ := h σ S a w hF.sbd (by rw [← hG]; exact hF.gs) (fun x _ b hb => ev_rel hE hb)
    unfold Oper.wp
    rw [hrun]
    exact hK v w' σ (Grow S w w') (hF.grow hb) (hE.grow hF hb) hr
  | call f args ty g caps as args' res ho hf ha hle hcall =>
    have hfv := ev_rel hE hf
    generalize hfe : a.eval f = fv at hfv
    obtain ⟨e1, e2⟩ := evL_spec hE _ _ ha
    cases hfv with
    | @fn _ cs _ hc1 hc2 =>
      have hrun : (execOp a.eval o).run C.P w = .ok (.enter g (args.map a.eval ++ cs)) w := by
        simp [execOp, ho, resolve, hfe, Deferred.ofValue, invoke, hcall.enters _ _]
      unfold Oper.wp
      rw [hrun]
      simp only [Oper.upon]
      have hlen : (args.map a.eval ++ cs).size = args'.length := by rw [← hle.length]; simp [hc1]; simpa using e1
      have hargs' : ∀ (i : Nat) (x : Value) (av : AV), (args.map a.eval ++ cs)[i]? = some x → (as ++ caps)[i]? = some av → Rel σ S w x av := fun i x av hx hav => by
        rw [Array.getElem?_append] at hx
        rw [List.getElem?_append] at hav
        have e1' : args.size = as.length := by simpa using e1
        simp only [Array.size_map, e1'] at hx
        split at hx
        · rename_i hi
          rw [if_pos hi] at hav
          exact e2 i x av (by simpa using hx) hav
        · rename_i hi
          rw [if_neg hi] at hav
          exact hc2 _ x av hx hav
      refine (hcall.runs S w _ hF.sbd (by rw [← hG]; exact hF.gs) hlen (fun i x av hx hav => ?_)).mono fun e w' hw => ?_
      · exact hcall.cla av (List.mem_of_getElem? hav) _ _ _ _ (hle.toRel hargs' i x av hx hav)
      · obtain ⟨hb, x, rfl, hr⟩ := hw
        exact hK x w' σ (Grow S w w') (hF.grow hb) (hE.grow hF hb) (hr.mono (fun b k h => by cases h) (fun _ h => h) ⟨fun _ _ => rfl, fun b k c e f hs hc => ⟨c, e, f, hc, Nat.le_refl _⟩⟩)

theorem upd_env (s : AS) (u : Upd) : (s.upd u).env = s.env := by cases u <;> rfl
end
end Go.Ax
