/- The abstract executor, part 15: the rules by which a walk goes on. -/
import Derived.Test.YtekmhhmemkjcbaaAxE
set_option linter.unusedSimpArgs false
set_option linter.unusedVariables false
set_option linter.deprecated false
namespace Go.Ax
open Go Go.RowKit

section
variable (C : Cx) (n : Nat) (r : List It) (s : AS) (Q : Lab → AS → Prop)

/-! the places where a walk stops -/
def after (o : Oper) (e : Option Eff) : Prop := match e with
  | some e' => e'.need ∧ ex C n r ((s.upd e'.upd).put o.dst e'.val) Q
  | none => (∃ av, SemOK C s o av ∧ ex C n r (s.put o.dst av) Q) ∨ ∃ s' av, OpG C s o s' av ∧ ex C n r (s'.put o.dst av) Q
def callThen (f : Option AV) (l : Option (List AV)) (d : Option Tmp) : Prop := (∃ g caps as args' res, f = some (.fn g caps) ∧ l = some as ∧ LeL (as ++ caps) args' ∧ CallOK C.P C.G g args' res ∧ ex C n r (s.put d res) Q) ∨
  ∃ g caps as s' res, f = some (.fn g caps) ∧ l = some as ∧ Enters C.P g ∧ CallG C s g (as ++ caps) s' res ∧ ex C n r (s'.put d res) Q
def callF (g : FuncId) (as : List AV) (d : Option Tmp) : Prop := (∃ args' res, LeL as args' ∧ CallOK C.P C.G g args' res ∧ ex C n r (s.put d res) Q) ∨ ∃ s' res, Enters C.P g ∧ CallG C s g as s' res ∧ ex C n r (s'.put d res) Q
def guardThen (v : Option AV) (want : Bool) (o : Oper) : Prop := ∃ x, v = some (.v x) ∧ (x = .bool want → ex C (n + 1) (.op o none :: r) s Q) ∧ (x ≠ .bool want → dstOK C o.dst ∧ ex C n r (s.put o.dst (.v undef)) Q)
def condThen (v : Option AV) (x y : Code) : Prop := ∃ b, v = some (.v (.bool b)) ∧ (b = true → ex C n (.code x :: r) s Q) ∧ (b = false → ex C n (.code y :: r) s Q)
def exitThen (r' : Option (List It)) : Prop := ∃ r1, r' = some r1 ∧ ex C n r1 s Q
def loopThen (c : Code) : Prop := ∃ I : Nat → AS → Prop, (∃ m s', I m s' ∧ Weak s s') ∧ ∀ m s', I m s' → ex C n (.code c :: .lp (fresh r) :: r) s' (fun l s'' => (l = .lp (fresh r) ∧ ∃ m' s3, m' < m ∧ I m' s3 ∧ Weak s'' s3) ∨ (l ≠ .lp (fresh r) ∧ Q l s''))

def bump (s : AS) (k : Nat) : AS := ⟨s.env, s.mem, k⟩
def drawRun (all : List Oper) (l : List Oper) (fps : List FP) : Prop := ∃ recs s', Tr C all s l recs s' ∧ drawCheck all (fps.reverse ++ recs.map Rc.fp) = true ∧ ex C n r s' Q
def drawOp (all : List Oper) (g : Gd) (o : Oper) (l : List Oper) (fps : List FP) : Prop := dstOK C o.dst ∧ ∃ rc, RecG C s o g rc ∧ drawRun C n r (s.didD o rc) Q all l (rc.fp :: fps)
def drawAfter (all : List Oper) (o : Oper) (e : Option Eff) (fp : FP) (l : List Oper) (fps : List FP) : Prop := match e with
  | some e' => e'.need ∧ drawRun C n r (bump ((s.upd e'.upd).put o.dst e'.val) (s.next + 1)) Q all l (fp :: fps)
  | none => ∃ av, SemOK C s o av ∧ drawRun C n r (bump (s.put o.dst av) (s.next + 1)) Q all l (fp :: fps)
def drawCall (all : List Oper) (f : Option AV) (as : Option (List AV)) (d : Option Tmp) (l : List Oper) (fps : List FP) : Prop := ∃ g caps as' args' res, f = some (.fn g caps) ∧ as = some as' ∧ LeL (as' ++ caps) args' ∧ CallOK C.P C.G g args' res ∧ drawRun C n r (bump (s.put d res) (s.next + 1)) Q all l ((none, none) :: fps)
def drawF (all : List Oper) (g : FuncId) (as : List AV) (d : Option Tmp) (l : List Oper) (fps : List FP) : Prop := ∃ args' res, LeL as args' ∧ CallOK C.P C.G g args' res ∧ drawRun C n r (bump (s.put d res) (s.next + 1)) Q all l ((none, none) :: fps)
def drawGuard (all : List Oper) (v : Option AV) (want : Bool) (o : Oper) (l : List Oper) (fps : List FP) : Prop := ∃ x, v = some (.v x) ∧ (x = .bool want → drawOp C n r s Q all none o l fps) ∧ (x ≠ .bool want → dstOK C o.dst ∧ drawRun C n r (bump (s.put o.dst (.v undef)) (s.next + 1)) Q all l ((none, none) :: fps))
def drawEnd (all : List Oper) (fps : List FP) : Prop := drawCheck all fps.reverse = true ∧ ex C n r s Q
end

section
variable {C : Cx} {n : Nat} {r : List It} {s : AS} {Q : Lab → AS → Prop} {o : Oper} {d : Option Tmp} {all l : List Oper} {fps : List FP}

theorem ex_nil : ex C (n + 1) [] s Q = Q .normal s := (rfl)
theorem ex_blk {id : Nat} : ex C (n + 1) (.blk id :: r) s Q = ex C n r s Q := (rfl)
theorem ex_lp {k : Nat} : ex C (n + 1) (.lp k :: r) s Q = Q (.lp k) s := (rfl)
theorem ex_skip : ex C (n + 1) (.code .skip :: r) s Q = ex C n r s Q := (rfl)
theorem ex_seq {x y : Code} : ex C (n + 1) (.code (.seq x y) :: r) s Q = ex C n (.code x :: .code y :: r) s Q := (rfl)
theorem ex_block {id : Nat} {x : Code} : ex C (n + 1) (.code (.block id x) :: r) s Q = ex C n (.code x :: .blk id :: r) s Q := (rfl)
theorem ex_ret : ex C (n + 1) (.code .ret :: r) s Q = Q .ret s := (rfl)
theorem ex_region {id : Nat} {ops : Array Oper} : ex C (n + 1) (.code (.region id ops false) :: r) s Q = ex C n (items ops.toList ops.toList ++ r) s Q := (rfl)
theorem ex_exit {id : Nat} : ex C (n + 1) (.code (.exit id) :: r) s Q = exitThen C n s Q (popTo id r) := by
  unfold exitThen
  cases h : popTo id r <;> simp [ex, h]
theorem exit_some {r' : List It} : exitThen C n s Q (some r') = ex C n r' s Q := by simp [exitThen]
theorem ex_cond {c : Operand} {x y : Code} : ex C (n + 1) (.code (.cond c x y) :: r) s Q = condThen C n r s Q (ev s c) x y := (rfl)
theorem condT {x y : Code} : condThen C n r s Q (some (.v (.bool true))) x y = ex C n (.code x :: r) s Q := by simp [condThen]
theorem condF {x y : Code} : condThen C n r s Q (some (.v (.bool false))) x y = ex C n (.code y :: r) s Q := by simp [condThen]
theorem ex_loop {c : Code} : ex C (n + 1) (.code (.loop c) :: r) s Q = loopThen C n r s Q c := (rfl)
theorem ex_op_plain (h : isCall o.op = false) : ex C (n + 1) (.op o none :: r) s Q = (dstOK C o.dst ∧ after C n r s Q o (aop C.ti s o.op)) := by
  unfold after
  simp only [ex]
  congr 1
  refine propext ⟨fun q => ?_, fun q => ?_⟩
  · rcases q with ⟨rc, hg, hk⟩ | ⟨_, s', av, hb, hk⟩
    · cases hg with
      | none hr => cases hr with
        | plain e hc he hn => rw [he]; exact ⟨hn, hk⟩
        | call f args ty g caps as args' res ho => rw [ho] at h; cases h
        | sem av hc he hs => rw [he]; exact .inl ⟨av, hs, hk⟩
    · cases hb with
      | sem _ _ hc he hs => rw [he]; exact .inr ⟨s', av, hs, hk⟩
      | call f args ty g caps as s' res ho => rw [ho] at h; cases h
  · cases he : aop C.ti s o.op with
    | some e => rw [he] at q; exact .inl ⟨⟨e.val, e.upd, rdOf s o.op, wrOf s o.op⟩, .none (.plain e h he q.1), q.2⟩
    | none =>
      rw [he] at q
      rcases q with ⟨av, h1, h2⟩ | ⟨s', av, h1, h2⟩
      · exact .inl ⟨⟨av, .keep, rdOf s o.op, wrOf s o.op⟩, .none (.sem av h he h1), h2⟩
      · exact .inr ⟨trivial, s', av, .sem s' av h he h1, h2⟩
theorem ex_op_call {f : Operand} {args : Array Operand} {ty : Array TypeId} (h : o.op = .call ⟨.value f, args, ty⟩) : ex C (n + 1) (.op o none :: r) s Q = (dstOK C o.dst ∧ callThen C n r s Q (ev s f) (evL s args.toList) o.dst) := by
  unfold callThen
  simp only [ex]
  congr 1
  refine propext ⟨fun q => ?_, fun q => ?_⟩
  · rcases q with ⟨rc, hg, hk⟩ | ⟨_, s', av, hb, hk⟩
    · cases hg with
      | none hr => cases hr with
        | plain e hc he hn => rw [h] at hc; cases hc
        | sem av hc hs => rw [h] at hc; cases hc
        | call f' args1 ty' g caps as args' res ho hf ha hle hk' =>
          rw [h] at ho
          injection ho with ho
          injection ho with ho1 ho2 ho3
          injection ho1 with ho1
          subst ho1 ho2
          exact .inl ⟨g, caps, as, args', res, hf, ha, hle, hk', hk⟩
    · cases hb with
      | sem _ _ hc he hs => rw [h] at hc; cases hc
      | call f' args1 ty' g caps as s' res ho hf ha hent hk' =>
        rw [h] at ho
        injection ho with ho
        injection ho with ho1 ho2 ho3
        injection ho1 with ho1
        subst ho1 ho2
        exact .inr ⟨g, caps, as, s', av, hf, ha, hent, hk', hk⟩
  · rcases q with ⟨g, caps, as, args', res, h1, h2, h3, h4, h5⟩ | ⟨g, caps, as, s', res, h1, h2, h3, h4, h5⟩
    · exact .inl ⟨⟨res, .keep, none, none⟩, .none (.call f args ty g caps as args' res h h1 h2 h3 h4), h5⟩
    · exact .inr ⟨trivial, s', res, .call f args ty g caps as s' res h h1 h2 h3 h4, h5⟩
theorem call_fn {g : FuncId} {caps as : List AV} : callThen C n r s Q (some (.fn g caps)) (some as) d = callF C n r s Q g (as ++ caps) d := by
  unfold callThen callF
  refine propext ⟨fun q => ?_, fun q => ?_⟩
  · rcases q with ⟨g', caps', as', args', res, h1, h2, h3, h4, h5⟩ | ⟨g', caps', as', s', res, h1, h2, h3, h4, h5⟩
    · injection h1 with h1
      injection h1 with h1 h1'
      injection h2 with h2
      subst h1 h1' h2
      exact .inl ⟨args', res, h3, h4, h5⟩
    · injection h1 with h1
      injection h1 with h1 h1'
      injection h2 with h2
      subst h1 h1' h2
      exact .inr ⟨s', res, h3, h4, h5⟩
  · rcases q with ⟨args', res, h3, h4, h5⟩ | ⟨s', res, h3, h4, h5⟩
    · exact .inl ⟨g, caps, as, args', res, rfl, rfl, h3, h4, h5⟩
    · exact .inr ⟨g, caps, as, s', res, rfl, rfl, h3, h4, h5⟩
theorem ex_call {f : Operand} {args : Array Operand} {ty : Array TypeId} {t : TypeId} {pos : String} {af : Array Edge} {g : Option (Nat × Bool)} :
    ex C (n + 1) (.op ⟨d, .call ⟨.value f, args, ty⟩, t, pos, af, g⟩ none :: r) s Q = (dstOK C d ∧ callThen C n r s Q (ev s f) (evL s args.toList) d) := ex_op_call rfl
theorem after_true {v : AV} {u : Upd} : after C n r s Q o (some ⟨True, v, u⟩) = ex C n r ((s.upd u).put o.dst v) Q := by simp [after]
theorem after_sem {av : AV} (h : SemOK C s o av) (k : ex C n r (s.put o.dst av) Q) : after C n r s Q o none := .inl ⟨av, h, k⟩
theorem after_big {s' : AS} {av : AV} (h : OpG C s o s' av) (k : ex C n r (s'.put o.dst av) Q) : after C n r s Q o none := .inr ⟨s', av, h, k⟩
theorem drawAfter_sem {av : AV} {fp : FP} (h : SemOK C s o av) (k : drawRun C n r (bump (s.put o.dst av) (s.next + 1)) Q all l (fp :: fps)) : drawAfter C n r s Q all o none fp l fps := ⟨av, h, k⟩
theorem ex_guard {t : Tmp} {want : Bool} : ex C (n + 1) (.op o (some (some t, want)) :: r) s Q = guardThen C n r s Q (look s.env t) want o := by
  unfold guardThen
  refine propext ⟨fun h => ?_, fun ⟨x, h1, h2, h3⟩ => ?_⟩
  · obtain ⟨hd, h⟩ := h
    rcases h with ⟨rc, hg, hk⟩ | ⟨hg, s', av, hb, hk⟩
    · cases hg with
      | yes hl hr => exact ⟨_, hl, fun _ => ⟨hd, .inl ⟨rc, .none hr, hk⟩⟩, fun h => absurd rfl h⟩
      | no hl hx => exact ⟨_, hl, fun h => absurd h hx, fun _ => ⟨hd, hk⟩⟩
    · exact ⟨_, hg, fun _ => ⟨hd, .inr ⟨trivial, s', av, hb, hk⟩⟩, fun h => absurd rfl h⟩
  · by_cases hb : x = .bool want
    · subst hb
      obtain ⟨hd, h⟩ := h2 rfl
      rcases h with ⟨rc, hg, hk⟩ | ⟨_, s', av, hb, hk⟩
      · cases hg with
        | none hr => exact ⟨hd, .inl ⟨rc, .yes h1 hr, hk⟩⟩
      · exact ⟨hd, .inr ⟨h1, s', av, hb, hk⟩⟩
    · obtain ⟨hd, hk⟩ := h3 hb
      exact ⟨hd, .inl ⟨⟨.v undef, .keep, none, none⟩, .no h1 hb, hk⟩⟩
theorem guard_tt : guardThen C n r s Q (some (.v (.bool true))) true o = ex C (n + 1) (.op o none :: r) s Q := by simp [guardThen]
theorem guard_ff : guardThen C n r s Q (some (.v (.bool false))) false o = ex C (n + 1) (.op o none :: r) s Q := by simp [guardThen]
theorem guard_tf : guardThen C n r s Q (some (.v (.bool true))) false o = (dstOK C o.dst ∧ ex C n r (s.put o.dst (.v undef)) Q) := by simp [guardThen]
theorem guard_ft : guardThen C n r s Q (some (.v (.bool false))) true o = (dstOK C o.dst ∧ ex C n r (s.put o.dst (.v undef)) Q) := by simp [guardThen]

theorem ex_draw {id : Nat} {ops : Array Oper} : ex C (n + 1) (.code (.region id ops true) :: r) s Q = drawRun C n r s Q ops.toList ops.toList [] := by
  unfold drawRun
  simp only [ex, List.reverse_nil, List.nil_append]
theorem draw_nil : drawRun C n r s Q all [] fps = drawEnd C n r s Q all fps := by
  unfold drawRun drawEnd
  refine propext ⟨fun ⟨recs, s', h1, h2, h3⟩ => ?_, fun ⟨h1, h2⟩ => ⟨[], s, .nil s, by simpa using h1, h2⟩⟩
  cases h1
  exact ⟨by simpa using h2, h3⟩
theorem draw_cons : drawRun C n r s Q all (o :: l) fps = drawOp C n r s Q all (gd all o) o l fps := by
  unfold drawOp drawRun
  refine propext ⟨fun ⟨recs, s', h1, h2, h3⟩ => ?_, fun ⟨hd, rc, hg, recs, s', h1, h2, h3⟩ => ⟨rc :: recs, s', .cons hd hg h1, by simpa using h2, h3⟩⟩
  cases h1 with
  | cons hd hg t => exact ⟨hd, _, hg, _, _, t, by simpa using h2, h3⟩
theorem draw_plain (h : isCall o.op = false) : drawOp C n r s Q all none o l fps = (dstOK C o.dst ∧ drawAfter C n r s Q all o (aop C.ti s o.op) (rdOf s o.op, wrOf s o.op) l fps) := by
  unfold drawOp drawAfter
  congr 1
  refine propext ⟨fun ⟨rc, hg, hk⟩ => ?_, fun q => ?_⟩
  · cases hg with
    | none hr => cases hr with
      | plain e hc he hn => rw [he]; exact ⟨hn, hk⟩
      | call f args ty g caps as args' res ho => rw [ho] at h; cases h
      | sem av hc he hs => rw [he]; exact ⟨av, hs, hk⟩
  · cases he : aop C.ti s o.op with
    | some e => rw [he] at q; exact ⟨⟨e.val, e.upd, rdOf s o.op, wrOf s o.op⟩, .none (.plain e h he q.1), q.2⟩
    | none => rw [he] at q; obtain ⟨av, h1, h2⟩ := q; exact ⟨⟨av, .keep, rdOf s o.op, wrOf s o.op⟩, .none (.sem av h he h1), h2⟩
theorem draw_call {f : Operand} {args : Array Operand} {ty : Array TypeId} (h : o.op = .call ⟨.value f, args, ty⟩) : drawOp C n r s Q all none o l fps = (dstOK C o.dst ∧ drawCall C n r s Q all (ev s f) (evL s args.toList) o.dst l fps) := by
  unfold drawOp drawCall
  congr 1
  refine propext ⟨fun ⟨rc, hg, hk⟩ => ?_, fun ⟨g, caps, as, args', res, h1, h2, h3, h4, h5⟩ => ?_⟩
  · cases hg with
    | none hr => cases hr with
      | plain e hc he hn => rw [h] at hc; cases hc
      | sem av hc hs => rw [h] at hc; cases hc
      | call f' args1 ty' g caps as args' res ho hf ha hle hk' =>
        rw [h] at ho
        injection ho with ho
        injection ho with ho1 ho2 ho3
        injection ho1 with ho1
        subst ho1 ho2
        exact ⟨g, caps, as, args', res, hf, ha, hle, hk', hk⟩
  · exact ⟨⟨res, .keep, none, none⟩, .none (.call f args ty g caps as args' res h h1 h2 h3 h4), h5⟩
theorem draw_callo {f : Operand} {args : Array Operand} {ty : Array TypeId} {t : TypeId} {pos : String} {af : Array Edge} {g : Option (Nat × Bool)} :
    drawOp C n r s Q all none ⟨d, .call ⟨.value f, args, ty⟩, t, pos, af, g⟩ l fps = (dstOK C d ∧ drawCall C n r s Q all (ev s f) (evL s args.toList) d l fps) := draw_call rfl
theorem drawCall_fn {g : FuncId} {caps as : List AV} : drawCall C n r s Q all (some (.fn g caps)) (some as) d l fps = drawF C n r s Q all g (as ++ caps) d l fps := by
  unfold drawCall drawF
  refine propext ⟨fun ⟨g', caps', as', args', res, h1, h2, h3, h4, h5⟩ => ?_, fun ⟨args', res, h3, h4, h5⟩ => ⟨g, caps, as, args', res, rfl, rfl, h3, h4, h5⟩⟩
  injection h1 with h1
  injection h1 with h1 h1'
  injection h2 with h2
  subst h1 h1' h2
  exact ⟨args', res, h3, h4, h5⟩
theorem drawAfter_true {v : AV} {u : Upd} {fp : FP} : drawAfter C n r s Q all o (some ⟨True, v, u⟩) fp l fps = drawRun C n r (bump ((s.upd u).put o.dst v) (s.next + 1)) Q all l (fp :: fps) := by simp [drawAfter]
theorem draw_guard {t : Tmp} {want : Bool} : drawOp C n r s Q all (some (some t, want)) o l fps = drawGuard C n r s Q all (look s.env t) want o l fps := by
  unfold drawGuard
  refine propext ⟨fun h => ?_, fun ⟨x, h1, h2, h3⟩ => ?_⟩
  · obtain ⟨hd, rc, hg, hk⟩ := h
    cases hg with
    | yes hl hr => exact ⟨_, hl, fun _ => ⟨hd, rc, .none hr, hk⟩, fun h => absurd rfl h⟩
    | no hl hx => exact ⟨_, hl, fun h => absurd h hx, fun _ => ⟨hd, hk⟩⟩
  · by_cases hb : x = .bool want
    · subst hb
      obtain ⟨hd, rc, hg, hk⟩ := h2 rfl
      cases hg with
      | none hr => exact ⟨hd, rc, .yes h1 hr, hk⟩
    · obtain ⟨hd, hk⟩ := h3 hb
      exact ⟨hd, ⟨.v undef, .keep, none, none⟩, .no h1 hb, hk⟩
theorem guard_undef {w : Bool} : guardThen C n r s Q (some (.v undef)) w o = (dstOK C o.dst ∧ ex C n r (s.put o.dst (.v undef)) Q) := by simp [guardThen, undef]
theorem drawGuard_undef {w : Bool} : drawGuard C n r s Q all (some (.v undef)) w o l fps = (dstOK C o.dst ∧ drawRun C n r (bump (s.put o.dst (.v undef)) (s.next + 1)) Q all l ((none, none) :: fps)) := by simp [drawGuard, undef]
theorem drawGuard_tt : drawGuard C n r s Q all (some (.v (.bool true))) true o l fps = drawOp C n r s Q all none o l fps := by simp [drawGuard]
theorem drawGuard_ff : drawGuard C n r s Q all (some (.v (.bool false))) false o l fps = drawOp C n r s Q all none o l fps := by simp [drawGuard]
theorem drawGuard_tf : drawGuard C n r s Q all (some (.v (.bool true))) false o l fps = (dstOK C o.dst ∧ drawRun C n r (bump (s.put o.dst (.v undef)) (s.next + 1)) Q all l ((none, none) :: fps)) := by simp [drawGuard]
theorem drawGuard_ft : drawGuard C n r s Q all (some (.v (.bool false))) true o l fps = (dstOK C o.dst ∧ drawRun C n r (bump (s.put o.dst (.v undef)) (s.next + 1)) Q all l ((none, none) :: fps)) := by simp [drawGuard]

/-! going on by hand where the walk stops -/
theorem after_need {p : Prop} {v : AV} {u : Upd} (hp : p) (h : ex C n r ((s.upd u).put o.dst v) Q) : after C n r s Q o (some ⟨p, v, u⟩) := ⟨hp, h⟩
theorem drawAfter_need {p : Prop} {v : AV} {u : Upd} {fp : FP} (hp : p) (h : drawRun C n r (bump ((s.upd u).put o.dst v) (s.next + 1)) Q all l (fp :: fps)) : drawAfter C n r s Q all o (some ⟨p, v, u⟩) fp l fps := ⟨hp, h⟩
theorem callF_of {g : FuncId} {as : List AV} {res : AV} (h : CallOK C.P C.G g as res) (k : ex C n r (s.put d res) Q) : callF C n r s Q g as d := .inl ⟨as, res, .refl _, h, k⟩
theorem callF_le {g : FuncId} {as args' : List AV} {res : AV} (hle : LeL as args') (h : CallOK C.P C.G g args' res) (k : ex C n r (s.put d res) Q) : callF C n r s Q g as d := .inl ⟨args', res, hle, h, k⟩
theorem callF_big {g : FuncId} {as : List AV} {s' : AS} {res : AV} (he : Enters C.P g) (h : CallG C s g as s' res) (k : ex C n r (s'.put d res) Q) : callF C n r s Q g as d := .inr ⟨s', res, he, h, k⟩
theorem drawF_of {g : FuncId} {as : List AV} {res : AV} (h : CallOK C.P C.G g as res) (k : drawRun C n r (bump (s.put d res) (s.next + 1)) Q all l ((none, none) :: fps)) : drawF C n r s Q all g as d l fps := ⟨as, res, .refl _, h, k⟩
theorem drawF_le {g : FuncId} {as args' : List AV} {res : AV} (hle : LeL as args') (h : CallOK C.P C.G g args' res) (k : drawRun C n r (bump (s.put d res) (s.next + 1)) Q all l ((none, none) :: fps)) : drawF C n r s Q all g as d l fps := ⟨args', res, hle, h, k⟩
theorem cond_split {b : Bool} {x y : Code} (h1 : b = true → ex C n (.code x :: r) s Q) (h2 : b = false → ex C n (.code y :: r) s Q) : condThen C n r s Q (some (.v (.bool b))) x y := ⟨b, rfl, h1, h2⟩
theorem guard_split_t {b : Bool} (h1 : b = true → guardThen C n r s Q (some (.v (.bool b))) true o) (h2 : b = false → guardThen C n r s Q (some (.v (.bool b))) true o) : guardThen C n r s Q (some (.v (.bool b))) true o := by
  cases b
  · exact h2 rfl
  · exact h1 rfl
theorem guard_split {b want : Bool} (h1 : b = true → guardThen C n r s Q (some (.v (.bool b))) want o) (h2 : b = false → guardThen C n r s Q (some (.v (.bool b))) want o) : guardThen C n r s Q (some (.v (.bool b))) want o := by
  cases b
  · exact h2 rfl
  · exact h1 rfl
theorem drawGuard_split {b want : Bool} (h1 : b = true → drawGuard C n r s Q all (some (.v (.bool b))) want o l fps) (h2 : b = false → drawGuard C n r s Q all (some (.v (.bool b))) want o l fps) : drawGuard C n r s Q all (some (.v (.bool b))) want o l fps := by
  cases b
  · exact h2 rfl
  · exact h1 rfl
theorem cond_cases {b : Bool} {x y : Code} (h1 : b = true → condThen C n r s Q (some (.v (.bool b))) x y) (h2 : b = false → condThen C n r s Q (some (.v (.bool b))) x y) : condThen C n r s Q (some (.v (.bool b))) x y := by
  cases b
  · exact h2 rfl
  · exact h1 rfl
theorem drawEnd_of (h : drawCheck all fps.reverse = true) (k : ex C n r s Q) : drawEnd C n r s Q all fps := ⟨h, k⟩

/-! loops -/
def roundQ {α : Type} (k : Nat) (st : α → AS) (cond dec : α → Prop) (Q : Lab → AS → Prop) (l : Lab) (s : AS) : Prop := (l = .lp k ∧ ∃ y, cond y ∧ dec y ∧ Weak s (st y)) ∨ (l ≠ .lp k ∧ Q l s)
def roundEnd {α : Type} (st : α → AS) (cond dec : α → Prop) (s : AS) : Prop := ∃ y, cond y ∧ dec y ∧ Weak s (st y)
theorem loop_rule {α : Type} {c : Code} (st : α → AS) (cond : α → Prop) (μ : α → Nat) (x0 : α) (h0 : cond x0) (hw : Weak s (st x0))
    (round : ∀ x, cond x → ex C n (.code c :: .lp (fresh r) :: r) (st x) (roundQ (fresh r) st cond (fun y => μ y < μ x) Q)) : loopThen C n r s Q c := by
  refine ⟨fun m s' => ∃ x, cond x ∧ μ x = m ∧ st x = s', ⟨μ x0, st x0, ⟨x0, h0, rfl, rfl⟩, hw⟩, fun m s' ⟨x, hx, hm, hs⟩ => ?_⟩
  subst hm hs
  have := round x hx
  have e : roundQ (fresh r) st cond (fun y => μ y < μ x) Q = fun l s'' => (l = .lp (fresh r) ∧ ∃ m' s3, m' < μ x ∧ (∃ y, cond y ∧ μ y = m' ∧ st y = s3) ∧ Weak s'' s3) ∨ (l ≠ .lp (fresh r) ∧ Q l s'') := by
    funext l s''
    unfold roundQ
    refine propext ⟨fun h => ?_, fun h => ?_⟩
    · rcases h with ⟨h1, y, h2, h3, h4⟩ | h
      · exact .inl ⟨h1, μ y, st y, h3, ⟨y, h2, rfl, rfl⟩, h4⟩
      · exact .inr h
    · rcases h with ⟨h1, m', s3, h2, ⟨y, h3, h4, h5⟩, h6⟩ | h
      · subst h4 h5; exact .inl ⟨h1, y, h3, h2, h6⟩
      · exact .inr h
  rw [e] at this
  exact this
theorem round_end {α : Type} {k : Nat} {st : α → AS} {cond dec : α → Prop} : roundQ k st cond dec Q (.lp k) s = roundEnd st cond dec s := by
  unfold roundQ roundEnd
  simp
theorem round_other {α : Type} {k j : Nat} {st : α → AS} {cond dec : α → Prop} (h : (j = k) = False) : roundQ k st cond dec Q (.lp j) s = Q (.lp j) s := by
  unfold roundQ
  have h1 : ¬ j = k := by rw [h]; exact not_false
  have h2 : ¬ Lab.lp j = .lp k := fun e => by injection e with e; exact h1 e
  simp [h2]
theorem round_ret {α : Type} {k : Nat} {st : α → AS} {cond dec : α → Prop} : roundQ k st cond dec Q .ret s = Q .ret s := by simp [roundQ]
theorem round_normal {α : Type} {k : Nat} {st : α → AS} {cond dec : α → Prop} : roundQ k st cond dec Q .normal s = Q .normal s := by simp [roundQ]
theorem roundEnd_of {α : Type} {st : α → AS} {cond dec : α → Prop} (y : α) (h1 : cond y) (h2 : dec y) (h3 : Weak s (st y)) : roundEnd st cond dec s := ⟨y, h1, h2, h3⟩

theorem ex_mono : ∀ {n : Nat} {r : List It} {s : AS} {Q Q' : Lab → AS → Prop}, ex C n r s Q → (∀ l s, Q l s → Q' l s) → ex C n r s Q'
  | 0, _, _, _, _, h, _ => h
  | n + 1, [], s, Q, Q', h, hq => hq _ _ h
  | n + 1, .blk _ :: r, s, Q, Q', h, hq => by unfold ex at h ⊢; exact ex_mono h hq
  | n + 1, .lp k :: _, s, Q, Q', h, hq => hq _ _ h
  | n + 1, .op o g :: r, s, Q, Q', h, hq => by
    unfold ex at h ⊢
    obtain ⟨h1, h⟩ := h
    rcases h with ⟨rc, h2, h3⟩ | ⟨hg, s', av, h2, h3⟩
    · exact ⟨h1, .inl ⟨rc, h2, ex_mono h3 hq⟩⟩
    · exact ⟨h1, .inr ⟨hg, s', av, h2, ex_mono h3 hq⟩⟩
  | n + 1, .code c :: r, s, Q, Q', h, hq => by
    cases c with
    | skip => unfold ex at h ⊢; exact ex_mono h hq
    | seq x y => unfold ex at h ⊢; exact ex_mono h hq
    | block id x => unfold ex at h ⊢; exact ex_mono h hq
    | ret => exact hq _ _ h
    | exit id =>
      rw [ex_exit] at h ⊢
      obtain ⟨r1, h1, h2⟩ := h
      exact ⟨r1, h1, ex_mono h2 hq⟩
    | cond c x y =>
      unfold ex at h ⊢
      obtain ⟨b, h1, h2, h3⟩ := h
      exact ⟨b, h1, fun hb => ex_mono (h2 hb) hq, fun hb => ex_mono (h3 hb) hq⟩
    | region id ops d =>
      cases d with
      | false => unfold ex at h ⊢; exact ex_mono h hq
      | true =>
        unfold ex at h ⊢
        obtain ⟨recs, s', h1, h2, h3⟩ := h
        exact ⟨recs, s', h1, h2, ex_mono h3 hq⟩
    | loop c =>
      unfold ex at h ⊢
      obtain ⟨I, h1, h2⟩ := h
      refine ⟨I, h1, fun m s' hI => ex_mono (h2 m s' hI) fun l s'' hh => ?_⟩
      rcases hh with hh | ⟨h3, h4⟩
      · exact .inl hh
      · exact .inr ⟨h3, hq _ _ h4⟩
    | _ => exact False.elim (by unfold ex at h; exact h)

/-! loops of few rounds, one after the other -/
def unrollQ (k : Nat) (P : AS → Prop) (Q : Lab → AS → Prop) (l : Lab) (s : AS) : Prop := (l = .lp k ∧ P s) ∨ (l ≠ .lp k ∧ Q l s)
def unroll (C : Cx) (n : Nat) (r : List It) (Q : Lab → AS → Prop) (c : Code) : Nat → AS → Prop
  | 0, _ => False
  | m + 1, s => ex C n (.code c :: .lp (fresh r) :: r) s (unrollQ (fresh r) (unroll C n r Q c m) Q)
theorem loop_unroll {c : Code} (m : Nat) (h : unroll C n r Q c m s) : loopThen C n r s Q c := by
  refine ⟨fun m s => unroll C n r Q c m s, ⟨m, s, h, .refl _⟩, fun m s' hm => ?_⟩
  cases m with
  | zero => exact hm.elim
  | succ m =>
    have e : unrollQ (fresh r) (unroll C n r Q c m) Q = fun l s'' => (l = .lp (fresh r) ∧ unroll C n r Q c m s'') ∨ (l ≠ .lp (fresh r) ∧ Q l s'') := rfl
    simp only [unroll] at hm
    refine ex_mono hm fun l s'' hq => ?_
    rcases hq with ⟨h1, h2⟩ | hq
    · exact .inl ⟨h1, m, s'', Nat.lt_succ_self _, h2, .refl _⟩
    · exact .inr hq
theorem unroll_succ {c : Code} {m : Nat} : unroll C n r Q c (m + 1) s = ex C n (.code c :: .lp (fresh r) :: r) s (unrollQ (fresh r) (unroll C n r Q c m) Q) := (rfl)
theorem unrollQ_end {k : Nat} {P : AS → Prop} : unrollQ k P Q (.lp k) s = P s := by simp [unrollQ]
theorem unrollQ_ret {k : Nat} {P : AS → Prop} : unrollQ k P Q .ret s = Q .ret s := by simp [unrollQ]
theorem unrollQ_normal {k : Nat} {P : AS → Prop} : unrollQ k P Q .normal s = Q .normal s := by simp [unrollQ]

/-! ends -/
theorem ends_ret {ti : Types} {rs : List ResultVar} {res : AV} : Ends ti rs res .ret s = Fin s.mem (resL ti s rs) res := by simp [Ends]
theorem ends_normal {ti : Types} {rs : List ResultVar} {res : AV} : Ends ti rs res .normal s = Fin s.mem (resL ti s rs) res := by simp [Ends]
theorem fin_same {mem : List (Nat × MB)} {p : Prop} {l : List AV} {res : AV} (hp : p) (h : one l = res) : Fin mem (some (p, l)) res := ⟨p, l, res, rfl, hp, by rw [h]; exact .same, .refl _⟩
theorem fin_le {mem : List (Nat × MB)} {p : Prop} {l : List AV} {res : AV} (hp : p) (h : Le (one l) res) : Fin mem (some (p, l)) res := ⟨p, l, _, rfl, hp, .same, h⟩
theorem fin_pub {mem : List (Nat × MB)} {p : Prop} {l : List AV} {b res : AV} (hp : p) (hb : Pub mem (one l) b) (h : Le b res) : Fin mem (some (p, l)) res := ⟨p, l, b, rfl, hp, hb, h⟩
theorem Le.of_eq {a b : AV} (h : a = b) : Le a b := by rw [h]; exact .refl _
end

/-! types, checked by the kernel -/
def zEq : Z → Value → Bool
  | .int k, .int k' n => decide (k = k') && decide (n = 0)
  | .bool, .bool b => !b
  | .str, .string s => s.size == 0
  | .slc, .slice none a b => a == 0 && b == 0
  | .iface, .nilIface => true
  | .ptr, .pointer none => true
  | .func, .nilFunc => true
  | .map, .map none => true
  | _, _ => false
theorem zEq_spec {z : Z} {v : Value} (h : zEq z v = true) : v = z.val := by
  unfold zEq at h
  split at h <;> simp at h
  · obtain ⟨h1, h2⟩ := h; subst h1 h2; rfl
  · subst h; rfl
  · rw [h]; rfl
  · obtain ⟨h1, h2⟩ := h; subst h1 h2; rfl
  · rfl
  · rfl
  · rfl
  · rfl
def zsEq : List Z → List Value → Bool
  | [], [] => true
  | z :: zs, v :: vs => zEq z v && zsEq zs vs
  | _, _ => false
theorem zsEq_spec : ∀ {zs : List Z} {vs : List Value}, zsEq zs vs = true → vs = zs.map Z.val
  | [], [], _ => rfl
  | [], _ :: _, h => by simp [zsEq] at h
  | _ :: _, [], h => by simp [zsEq] at h
  | z :: zs, v :: vs, h => by
    simp only [zsEq, Bool.and_eq_true] at h
    rw [zEq_spec h.1, zsEq_spec h.2]; rfl
def kdEq : TK → TK → Bool
  | .st a, .st b => decide (a = b)
  | .arr a b, .arr c d => decide (a = c) && decide (b = d)
  | .slc a, .slc b => decide (a = b)
  | .int a, .int b => decide (a = b)
  | .str, .str => true
  | .bool, .bool => true
  | .iface, .iface => true
  | .ptr a, .ptr b => decide (a = b)
  | .other, .other => true
  | _, _ => false
theorem kdEq_spec {a b : TK} (h : kdEq a b = true) : a = b := by
  unfold kdEq at h
  split at h <;> simp at h <;> first | rfl | (subst h; rfl) | (obtain ⟨h1, h2⟩ := h; subst h1 h2; rfl)
def isAggV : Value → Bool
  | .agg _ => true
  | _ => false
def tyCheck (P : Program) (t : Nat) (y : TyI) : Bool :=
  match P.info? t, P.underlying t with
  | some i, some d => i.size == y.size && i.bytes == y.bytes && kdEq (TK.ofDesc d) y.kd && y.zero.length == y.size &&
    (match i.zero with | some z => zsEq y.zero z.cells.toList && (isAggV z == y.kd.agg) | none => false)
  | _, _ => false
theorem tyCheck_spec {P : Program} {t : Nat} {y : TyI} (h : tyCheck P t y = true) : TyOK P t y := by
  unfold tyCheck at h
  split at h
  · rename_i i d hi hd
    simp only [Bool.and_eq_true, beq_iff_eq] at h
    obtain ⟨⟨⟨⟨h1, h2⟩, h3⟩, h4⟩, h5⟩ := h
    split at h5
    · rename_i z hz
      simp only [Bool.and_eq_true, beq_iff_eq] at h5
      have hc := zsEq_spec h5.1
      have hc' : z.cells = (y.zero.map Z.val).toArray := by rw [← hc]
      refine ⟨i, d, hi, hd, h1, h2, kdEq_spec h3, ⟨z, hz, hc', fun ha => ?_, fun zz ha hzz => ?_⟩, h4⟩
      · rw [ha] at h5
        cases z <;> simp [isAggV] at h5
        simp only [Value.cells] at hc'
        rw [hc']
      · rw [ha] at h5
        rw [hzz] at hc'
        cases z <;> simp [isAggV] at h5 <;> simpa [Value.cells] using hc'
    · cases h5
  · cases h
def typesCheck (P : Program) (m : Nat) (f : Nat → Option TyI) : Bool := (List.range m).all fun t => match f t with | some y => tyCheck P t y | none => true
theorem typesCheck_spec {P : Program} {m : Nat} {f : Nat → Option TyI} (h : typesCheck P m f = true) : TypesOK P (fun t => if t < m then f t else none) := by
  intro t y hy
  simp only at hy
  split at hy
  · rename_i hlt
    have := List.all_eq_true.1 h t (List.mem_range.2 hlt)
    simp only [hy] at this
    exact tyCheck_spec this
  · cases hy
end Go.Ax
