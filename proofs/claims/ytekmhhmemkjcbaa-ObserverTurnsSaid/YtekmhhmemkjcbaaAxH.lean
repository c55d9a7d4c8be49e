/- The abstract executor, part 17: rules for simp that leave the rest of the code alone. -/
import Derived.Test.YtekmhhmemkjcbaaAxF
set_option linter.unusedSimpArgs false
set_option linter.unusedVariables false
set_option linter.deprecated false
namespace Go.Ax
open Go Go.RowKit

theorem look_hit {α : Type} {t : Nat} {x : α} {l : List (Nat × α)} : look ((t, x) :: l) t = some x := by simp [look]
theorem look_miss {α : Type} {k t : Nat} {x : α} {l : List (Nat × α)} (h : (k == t) = false) : look ((k, x) :: l) t = look l t := by
  have : k ≠ t := by simpa using h
  simp [look, this]
theorem ev_tmp {s : AS} {t : Tmp} : ev s (.tmp t) = look s.env t := (rfl)
theorem ev_const {s : AS} {c : Value} : ev s (.const c) = some (.v c) := (rfl)
theorem ev_func {s : AS} {f : FuncId} : ev s (.func f) = some (.fn f []) := (rfl)
def aMove (a : Option AV) : Option Eff := match a with | some av => some ⟨True, av, .keep⟩ | none => none
theorem aMove_some {av : AV} : aMove (some av) = some ⟨True, av, .keep⟩ := (rfl)
section
variable {ti : Types} {s : AS}
theorem aop_move {x : Operand} : aop ti s (.move x) = aMove (ev s x) := (rfl)
theorem aop_assign {x : Operand} : aop ti s (.assign x) = aMove (ev s x) := (rfl)
theorem aop_pick {c a b : Operand} : aop ti s (.pick c a b) = aPick (ev s c) (ev s a) (ev s b) := (rfl)
theorem aop_alloc {t : TypeId} : aop ti s (.alloc t) = aAlloc s.next (ti t) := (rfl)
theorem aop_box {t : TypeId} {x : Operand} : aop ti s (.box t x) = aBox s.next (ev s x) := (rfl)
theorem aop_build {t : TypeId} {p : List (Nat × Operand)} : aop ti s (.build t p.toArray) = aBuild ti s (ti t) p := (rfl)
theorem aop_load {t : TypeId} {x : Operand} : aop ti s (.load t x) = aLoad s.mem (ti t) (ev s x) := (rfl)
theorem aop_store {t : TypeId} {a x : Operand} : aop ti s (.store t a x) = aStore s.mem (ti t) (ev s a) (ev s x) := (rfl)
theorem aop_nil {x : Operand} : aop ti s (.nilCheck x) = aNilCheck (ev s x) := (rfl)
theorem aop_bin {op : BinOp} {t u : TypeId} {x y : Operand} : aop ti s (.binOp op t x y u) = aBin ti op t y (ev s x) (ev s y) := (rfl)
theorem aop_un {op : UnOp} {t : TypeId} {x : Operand} : aop ti s (.unOp op t x) = aUn op (ev s x) := (rfl)
theorem aop_convert {t u : TypeId} {x : Operand} : aop ti s (.convert t u x) = aConvert (ti t) (ti u) (ev s x) := (rfl)
theorem aop_iface {t : TypeId} {x : Operand} : aop ti s (.makeInterface t x) = aMakeInterface t (ti t) (ev s x) := (rfl)
theorem aop_fieldAddr {t : TypeId} {x : Operand} {f : Nat} : aop ti s (.fieldAddr t x f) = aFieldAddr ti (ti t) (ev s x) f := (rfl)
theorem aop_field {t : TypeId} {x : Operand} {f : Nat} : aop ti s (.field t x f) = aField ti (ti t) (ev s x) f := (rfl)
theorem aop_indexAddr {t : TypeId} {x i : Operand} : aop ti s (.indexAddr t x i) = aIndexAddr ti (ti t) (ev s x) (ev s i) := (rfl)
theorem aop_makeSlice {t : TypeId} {x y : Operand} : aop ti s (.makeSlice t x y) = aMakeSlice ti s.next (ti t) (ev s x) (ev s y) := (rfl)
theorem aop_slice {t : TypeId} {x : Operand} {lo hi mx : Option Operand} : aop ti s (.slice t x lo hi mx) = aSlice ti (ti t) (ev s x) (lo.map (ev s)) (hi.map (ev s)) mx.isSome := (rfl)
theorem aop_index {t : TypeId} {x i : Operand} : aop ti s (.index t x i) = aIndex ti (ti t) (ev s x) (ev s i) := (rfl)
theorem aop_extract {x : Operand} {i : Nat} : aop ti s (.extract x i) = aExtract (ev s x) i := (rfl)
end

def gdVal (s : AS) : List Oper → Nat → Option AV
  | [], _ => none
  | o :: _, 0 => o.dst.bind (look s.env)
  | _ :: l, k + 1 => gdVal s l k
theorem gdVal_eq (s : AS) : ∀ (l : List Oper) (k : Nat) (t : Tmp), (l[k]?).bind (·.dst) = some t → gdVal s l k = look s.env t
  | [], _, t, h => by simp at h
  | o :: l, 0, t, h => by simp at h; simp [gdVal, h]
  | _ :: l, k + 1, t, h => by simp at h; exact gdVal_eq s l k t (by simpa using h)
theorem gdVal_none (s : AS) : ∀ (l : List Oper) (k : Nat), (l[k]?).bind (·.dst) = none → gdVal s l k = none
  | [], _, h => rfl
  | o :: l, 0, h => by simp at h; simp [gdVal, h]
  | _ :: l, k + 1, h => by simp at h; exact gdVal_none s l k (by simpa using h)

def exitTo (C : Cx) (n : Nat) (s : AS) (Q : Lab → AS → Prop) (id : Nat) (r : List It) : Prop := exitThen C n s Q (popTo id r)

def unrollK (C : Cx) (n : Nat) (r : List It) (Q : Lab → AS → Prop) (c : Code) (k : Nat) : Nat → AS → Prop
  | 0, _ => False
  | m + 1, s => ex C n (.code c :: .lp k :: r) s (unrollQ k (unrollK C n r Q c k m) Q)

section
variable {C : Cx} {n : Nat} {r : List It} {s : AS} {Q : Lab → AS → Prop} {o : Oper} {d : Option Tmp} {all l : List Oper} {fps : List FP} {op : Op} {t : TypeId} {pos : String} {af : Array Edge}

theorem l_region {id : Nat} : ex C (n + 1) (.code (.region id l.toArray false) :: r) s Q = ex C n (items l l ++ r) s Q := (rfl)
theorem l_draw {id : Nat} : ex C (n + 1) (.code (.region id l.toArray true) :: r) s Q = drawRun C n r s Q l l [] := ex_draw
theorem l_nil : ex C n (items all [] ++ r) s Q = ex C n r s Q := (rfl)
theorem l_op (h : isCall op = false) : ex C (n + 1) (items all (⟨d, op, t, pos, af, none⟩ :: l) ++ r) s Q = (dstOK C d ∧ after C n (items all l ++ r) s Q ⟨d, op, t, pos, af, none⟩ (aop C.ti s op)) := ex_op_plain (o := ⟨d, op, t, pos, af, none⟩) h
theorem l_call {f : Operand} {args : Array Operand} {ty : Array TypeId} : ex C (n + 1) (items all (⟨d, .call ⟨.value f, args, ty⟩, t, pos, af, none⟩ :: l) ++ r) s Q = (dstOK C d ∧ callThen C n (items all l ++ r) s Q (ev s f) (evL s args.toList) d) := ex_op_call (o := ⟨d, .call ⟨.value f, args, ty⟩, t, pos, af, none⟩) rfl
theorem l_guard {k : Nat} {w : Bool} : ex C (n + 1) (items all (⟨d, op, t, pos, af, some (k, w)⟩ :: l) ++ r) s Q = guardThen C n (items all l ++ r) s Q (gdVal s all k) w ⟨d, op, t, pos, af, some (k, w)⟩ := by
  have e : ex C (n + 1) (items all (⟨d, op, t, pos, af, some (k, w)⟩ :: l) ++ r) s Q = ex C (n + 1) (.op ⟨d, op, t, pos, af, some (k, w)⟩ (some ((all[k]?).bind (·.dst), w)) :: (items all l ++ r)) s Q := rfl
  rw [e]
  cases hd : (all[k]?).bind (·.dst) with
  | none =>
    rw [gdVal_none _ _ _ hd]
    refine propext ⟨fun h => ?_, fun h => ?_⟩
    · obtain ⟨_, h⟩ := h
      rcases h with ⟨rc, h, _⟩ | ⟨h, _⟩
      · cases h
      · cases h
    · obtain ⟨b, h, _⟩ := h
      cases h
  | some t => rw [ex_guard, ← gdVal_eq s _ _ _ hd]
theorem l_exit {id : Nat} : ex C (n + 1) (.code (.exit id) :: r) s Q = exitTo C n s Q id r := ex_exit
theorem exit_hit {id : Nat} : exitTo C n s Q id (.blk id :: r) = ex C n r s Q := by simp [exitTo, popTo, exitThen]
theorem exit_blk {id k : Nat} (h : (k = id) = False) : exitTo C n s Q id (.blk k :: r) = exitTo C n s Q id r := by
  have h : ¬ k = id := by rw [h]; exact not_false
  simp [exitTo, popTo, h]
theorem exit_lp {id k : Nat} : exitTo C n s Q id (.lp k :: r) = exitTo C n s Q id r := (rfl)
theorem exit_code {id : Nat} {c : Code} : exitTo C n s Q id (.code c :: r) = exitTo C n s Q id r := (rfl)
theorem l_lp_items {id : Nat} : exitTo C n s Q id (items all [] ++ r) = exitTo C n s Q id r := (rfl)

theorem ld_nil : drawRun C n r s Q all [] fps = drawEnd C n r s Q all fps := draw_nil
theorem ld_op (h : isCall op = false) : drawRun C n r s Q all (⟨d, op, t, pos, af, none⟩ :: l) fps = (dstOK C d ∧ drawAfter C n r s Q all ⟨d, op, t, pos, af, none⟩ (aop C.ti s op) (rdOf s op, wrOf s op) l fps) := by
  rw [draw_cons]; exact draw_plain (o := ⟨d, op, t, pos, af, none⟩) h
theorem ld_call {f : Operand} {args : Array Operand} {ty : Array TypeId} : drawRun C n r s Q all (⟨d, .call ⟨.value f, args, ty⟩, t, pos, af, none⟩ :: l) fps = (dstOK C d ∧ drawCall C n r s Q all (ev s f) (evL s args.toList) d l fps) := by
  rw [draw_cons]; exact draw_callo
theorem ld_guard {k : Nat} {w : Bool} : drawRun C n r s Q all (⟨d, op, t, pos, af, some (k, w)⟩ :: l) fps = drawGuard C n r s Q all (gdVal s all k) w ⟨d, op, t, pos, af, some (k, w)⟩ l fps := by
  rw [draw_cons]
  have e : gd all ⟨d, op, t, pos, af, some (k, w)⟩ = some ((all[k]?).bind (·.dst), w) := rfl
  rw [e]
  cases hd : (all[k]?).bind (·.dst) with
  | none =>
    rw [gdVal_none _ _ _ hd]
    refine propext ⟨fun h => ?_, fun h => ?_⟩
    · obtain ⟨_, rc, h, _⟩ := h
      cases h
    · obtain ⟨b, h, _⟩ := h
      cases h
  | some t => rw [draw_guard, ← gdVal_eq s _ _ _ hd]
theorem unrollK_eq {c : Code} {k : Nat} (hk : fresh r = k) : ∀ m, unrollK C n r Q c k m = unroll C n r Q c m
  | 0 => by funext s; rfl
  | m + 1 => by
    funext s
    subst hk
    show ex C n (.code c :: .lp (fresh r) :: r) s (unrollQ (fresh r) (unrollK C n r Q c (fresh r) m) Q) = _
    rw [unrollK_eq rfl m]
    rfl
theorem l_unroll {c : Code} (m : Nat) (k : Nat) (hk : fresh r = k) (h : unrollK C n r Q c k m s) : loopThen C n r s Q c := by
  rw [unrollK_eq hk] at h
  exact loop_unroll m h
theorem l_unroll_succ {c : Code} {m k : Nat} : unrollK C n r Q c k (m + 1) s = ex C n (.code c :: .lp k :: r) s (unrollQ k (unrollK C n r Q c k m) Q) := (rfl)
theorem unrollQ_other {k j : Nat} {P : AS → Prop} (h : (j = k) = False) : unrollQ k P Q (.lp j) s = Q (.lp j) s := by
  unfold unrollQ
  have h1 : ¬ j = k := by rw [h]; exact not_false
  have h2 : ¬ Lab.lp j = .lp k := fun e => by injection e with e; exact h1 e
  simp [h2]
theorem l_loop {α : Type} {c : Code} (st : α → AS) (cond : α → Prop) (μ : α → Nat) (x0 : α) (k : Nat) (hk : fresh r = k) (h0 : cond x0) (hw : Weak s (st x0))
    (round : ∀ x, cond x → ex C n (.code c :: .lp k :: r) (st x) (roundQ k st cond (fun y => μ y < μ x) Q)) : loopThen C n r s Q c := by
  subst hk
  exact loop_rule st cond μ x0 h0 hw round

/-! regions whose text comes in pieces -/
section
variable {m p : List Oper} {f : Operand} {args : Array Operand} {ty : Array TypeId} {k : Nat} {w : Bool}
theorem lap_cons {α : Type} {x : α} {l m : List α} : List.append (x :: l) m = x :: List.append l m := (rfl)
theorem lap_nil {α : Type} {m : List α} : List.append [] m = m := (rfl)
theorem items_app (x : Oper) : items all (List.append (x :: l) m) = .op x (gd all x) :: items all (List.append l m) := rfl
theorem la_nil : ex C n (items all (List.append [] m) ++ r) s Q = ex C n (items all m ++ r) s Q := (rfl)
theorem la_assoc : ex C n (items all (List.append (List.append l m) p) ++ r) s Q = ex C n (items all (List.append l (List.append m p)) ++ r) s Q := by
  have e : List.append (List.append l m) p = List.append l (List.append m p) := List.append_assoc l m p
  rw [e]
theorem la_op (h : isCall op = false) : ex C (n + 1) (items all (List.append (⟨d, op, t, pos, af, none⟩ :: l) m) ++ r) s Q = (dstOK C d ∧ after C n (items all (List.append l m) ++ r) s Q ⟨d, op, t, pos, af, none⟩ (aop C.ti s op)) := l_op (l := List.append l m) h
theorem la_call : ex C (n + 1) (items all (List.append (⟨d, .call ⟨.value f, args, ty⟩, t, pos, af, none⟩ :: l) m) ++ r) s Q = (dstOK C d ∧ callThen C n (items all (List.append l m) ++ r) s Q (ev s f) (evL s args.toList) d) := l_call (l := List.append l m)
theorem la_guard : ex C (n + 1) (items all (List.append (⟨d, op, t, pos, af, some (k, w)⟩ :: l) m) ++ r) s Q = guardThen C n (items all (List.append l m) ++ r) s Q (gdVal s all k) w ⟨d, op, t, pos, af, some (k, w)⟩ := l_guard (l := List.append l m)
theorem lda_nil : drawRun C n r s Q all (List.append [] l) fps = drawRun C n r s Q all l fps := (rfl)
theorem lda_assoc : drawRun C n r s Q all (List.append (List.append l m) p) fps = drawRun C n r s Q all (List.append l (List.append m p)) fps := by
  have e : List.append (List.append l m) p = List.append l (List.append m p) := List.append_assoc l m p
  rw [e]
theorem lda_op (h : isCall op = false) : drawRun C n r s Q all (List.append (⟨d, op, t, pos, af, none⟩ :: l) m) fps = (dstOK C d ∧ drawAfter C n r s Q all ⟨d, op, t, pos, af, none⟩ (aop C.ti s op) (rdOf s op, wrOf s op) (List.append l m) fps) := ld_op (l := List.append l m) h
theorem lda_call : drawRun C n r s Q all (List.append (⟨d, .call ⟨.value f, args, ty⟩, t, pos, af, none⟩ :: l) m) fps = (dstOK C d ∧ drawCall C n r s Q all (ev s f) (evL s args.toList) d (List.append l m) fps) := ld_call (l := List.append l m)
theorem lda_guard : drawRun C n r s Q all (List.append (⟨d, op, t, pos, af, some (k, w)⟩ :: l) m) fps = drawGuard C n r s Q all (gdVal s all k) w ⟨d, op, t, pos, af, some (k, w)⟩ (List.append l m) fps := ld_guard (l := List.append l m)
theorem gdA_zero {o : Oper} : gdVal s (List.append (o :: l) m) 0 = gdVal s (o :: l) 0 := (rfl)
theorem gdA_succ {o : Oper} : gdVal s (List.append (o :: l) m) (k + 1) = gdVal s (List.append l m) k := (rfl)
theorem gdA_nil : gdVal s (List.append [] m) k = gdVal s m k := (rfl)
theorem gdA_assoc : gdVal s (List.append (List.append l m) p) k = gdVal s (List.append l (List.append m p)) k := by
  have e : List.append (List.append l m) p = List.append l (List.append m p) := List.append_assoc l m p
  rw [e]
end

/-! what simp is to look into -/
variable {s' : AS} {fps' : List FP} {e e' : Option Eff} {fp fp' : FP} {v v' : Option AV} {f f' : Option AV} {as as' : Option (List AV)} {bs bs' : List AV} {b b' : Bool}
@[congr] theorem ex_congr (h : s = s') : ex C n r s Q = ex C n r s' Q := by rw [h]
@[congr] theorem after_congr (h : e = e') : after C n r s Q o e = after C n r s Q o e' := by rw [h]
@[congr] theorem callThen_congr (h : f = f') (h' : as = as') : callThen C n r s Q f as d = callThen C n r s Q f' as' d := by rw [h, h']
@[congr] theorem callF_congr {g : FuncId} (h : bs = bs') : callF C n r s Q g bs d = callF C n r s Q g bs' d := by rw [h]
@[congr] theorem guardThen_congr (h : v = v') : guardThen C n r s Q v b o = guardThen C n r s Q v' b o := by rw [h]
@[congr] theorem condThen_congr {x y : Code} (h : v = v') : condThen C n r s Q v x y = condThen C n r s Q v' x y := by rw [h]
@[congr] theorem exitTo_congr {id : Nat} (h : s = s') : exitTo C n s Q id r = exitTo C n s' Q id r := by rw [h]
@[congr] theorem loopThen_congr {c : Code} (h : s = s') : loopThen C n r s Q c = loopThen C n r s' Q c := by rw [h]
@[congr] theorem gdVal_congr {k k' : Nat} (h : k = k') : gdVal s l k = gdVal s l k' := by rw [h]
@[congr] theorem drawRun_congr (h : s = s') (h' : fps = fps') : drawRun C n r s Q all l fps = drawRun C n r s' Q all l fps' := by rw [h, h']
@[congr] theorem drawAfter_congr (h : e = e') (h' : fp = fp') : drawAfter C n r s Q all o e fp l fps = drawAfter C n r s Q all o e' fp' l fps := by rw [h, h']
@[congr] theorem drawCall_congr (h : f = f') (h' : as = as') : drawCall C n r s Q all f as d l fps = drawCall C n r s Q all f' as' d l fps := by rw [h, h']
@[congr] theorem drawF_congr {g : FuncId} (h : bs = bs') : drawF C n r s Q all g bs d l fps = drawF C n r s Q all g bs' d l fps := by rw [h]
@[congr] theorem drawGuard_congr (h : v = v') : drawGuard C n r s Q all v b o l fps = drawGuard C n r s Q all v' b o l fps := by rw [h]
@[congr] theorem drawOp_congr {g : Gd} (h : fps = fps') : drawOp C n r s Q all g o l fps = drawOp C n r s Q all g o l fps' := by rw [h]
@[congr] theorem drawEnd_congr (h : s = s') : drawEnd C n r s Q all fps = drawEnd C n r s' Q all fps := by rw [h]
@[congr] theorem unrollQ_congr {k : Nat} {P : AS → Prop} {l : Lab} (h : s = s') : unrollQ k P Q l s = unrollQ k P Q l s' := by rw [h]
@[congr] theorem unroll_congr {m k : Nat} {c : Code} (h : s = s') : unrollK C n r Q c k m s = unrollK C n r Q c k m s' := by rw [h]
@[congr] theorem roundQ_congr {α : Type} {k : Nat} {st : α → AS} {cond dec : α → Prop} {l : Lab} (h : s = s') : roundQ k st cond dec Q l s = roundQ k st cond dec Q l s' := by rw [h]
@[congr] theorem roundEnd_congr {α : Type} {st : α → AS} {cond dec : α → Prop} (h : s = s') : roundEnd st cond dec s = roundEnd st cond dec s' := by rw [h]
end
end Go.Ax
