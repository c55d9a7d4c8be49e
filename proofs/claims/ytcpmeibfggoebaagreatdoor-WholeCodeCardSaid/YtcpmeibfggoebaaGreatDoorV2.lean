/- The abstract executor and plain facts. -/
import Derived.Test.YtcpmeibfggoebaaGreatDoorV1
import Derived.Deep.AppendSrc
import Derived.Laws.StructEq
import Derived.OpenShut
import Derived.Carry
import Derived.WalkKit
import Derived.ProofKit
import Derived.Lib.ItoaNum
import Derived.Lib.Repeat
import Derived.MakeChecks
import Derived.LaidMore
import Derived.Stop.Joined
import Derived.Handed
import Derived.LaidLaws
import Derived.Lib.LaidTab
import Derived.Stop.LaidErr
set_option linter.unusedSimpArgs false
set_option linter.unusedVariables false
set_option linter.deprecated false
namespace Go.Ax
open Go Go.RowKit
section
variable (C : Cx) (n : Nat) (r : List It) (s : AS) (Q : Lab → AS → Prop)
def after (o : Oper) (e : Option Eff) : Prop := match e with
 | some e' => e'.need ∧ ex C n r ((s.upd e'.upd).put o.dst e'.val) Q
 | none => (∃ av, zjq C s o av ∧ ex C n r (s.put o.dst av) Q) ∨ ∃ s' av, OpG C s o s' av ∧ ex C n r (s'.put o.dst av) Q
def zeD (f : Option AV) (l : Option (List AV)) (d : Option Tmp) : Prop := (∃ g caps as args' res, f = some (.fn g caps) ∧ l = some as ∧ LeL (as ++ caps) args' ∧ CallOK C.P C.G g args' res ∧ ex C n r (s.put d res) Q) ∨
 (∃ g caps as s' res, f = some (.fn g caps) ∧ l = some as ∧ zbS C.P g ∧ zlr C s g (as ++ caps) s' res ∧ ex C n r (s'.put d res) Q) ∨
 ∃ g caps as args' Φ, f = some (.fn g caps) ∧ l = some as ∧ LeL (as ++ caps) args' ∧ CallX C.P C.G g args' Φ ∧ ∀ av, Φ av → ex C n r (s.put d av) Q
def zfA (g : FuncId) (as : List AV) (d : Option Tmp) : Prop := (∃ args' res, LeL as args' ∧ CallOK C.P C.G g args' res ∧ ex C n r (s.put d res) Q) ∨ (∃ s' res, zbS C.P g ∧ zlr C s g as s' res ∧ ex C n r (s'.put d res) Q) ∨ ∃ args' Φ, LeL as args' ∧ CallX C.P C.G g args' Φ ∧ ∀ av, Φ av → ex C n r (s.put d av) Q
def zaH (v : Option AV) (want : Bool) (o : Oper) : Prop := ∃ x, v = some (.v x) ∧ (x = .bool want → ex C (n + 1) (.op o none :: r) s Q) ∧ (x ≠ .bool want → dstOK C o.dst ∧ ex C n r (s.put o.dst (.v undef)) Q)
def zbM (v : Option AV) (x y : Code) : Prop := ∃ b, v = some (.v (.bool b)) ∧ (b = true → ex C n (.code x :: r) s Q) ∧ (b = false → ex C n (.code y :: r) s Q)
def zgA (r' : Option (List It)) : Prop := ∃ r1, r' = some r1 ∧ ex C n r1 s Q
def zcZ (c : Code) : Prop := ∃ I : Nat → AS → Prop, (∃ m s', I m s' ∧ zkx C.an s s') ∧ ∀ m s', I m s' → ex C n (.code c :: .lp (fresh r) :: r) s' (fun l s'' => (l = .lp (fresh r) ∧ ∃ m' s3, m' < m ∧ I m' s3 ∧ zkx C.an s'' s3) ∨ (l ≠ .lp (fresh r) ∧ Q l s''))
def bump (s : AS) (k : Nat) : AS := ⟨s.env, s.mem, k⟩
def zax (all : List Oper) (l : List Oper) (fps : List FP) : Prop := ∃ recs s', Tr C all s l recs s' ∧ zbR all (fps.reverse ++ recs.map Rc.fp) = true ∧ ex C n r s' Q
def zef (all : List Oper) (g : Gd) (o : Oper) (l : List Oper) (fps : List FP) : Prop := dstOK C o.dst ∧ ∃ rc, RecG C s o g rc ∧ zax C n r (s.didD o rc) Q all l (rc.fp :: fps)
def za0 (all : List Oper) (o : Oper) (e : Option Eff) (fp : FP) (l : List Oper) (fps : List FP) : Prop := match e with
 | some e' => e'.need ∧ zax C n r (bump ((s.upd e'.upd).put o.dst e'.val) (s.next + 1)) Q all l (fp :: fps)
 | none => (∃ av, zjq C s o av ∧ zax C n r (bump (s.put o.dst av) (s.next + 1)) Q all l (fp :: fps)) ∨ ∃ rc, OwnOK C s o rc ∧ zax C n r (s.didD o rc) Q all l (rc.fp :: fps)
def zeB (all : List Oper) (f : Option AV) (as : Option (List AV)) (d : Option Tmp) (l : List Oper) (fps : List FP) : Prop := (∃ g caps as' args' res, f = some (.fn g caps) ∧ as = some as' ∧ LeL (as' ++ caps) args' ∧ CallOK C.P C.G g args' res ∧ zax C n r (bump (s.put d res) (s.next + 1)) Q all l ((none, none) :: fps)) ∨
 ∃ g caps as' rc, f = some (.fn g caps) ∧ as = some as' ∧ OwnCall C s g (as' ++ caps) rc ∧ zax C n r (bump ((s.upd rc.up).put d rc.val) (s.next + 1)) Q all l (rc.fp :: fps)
def zgn (all : List Oper) (g : FuncId) (as : List AV) (d : Option Tmp) (l : List Oper) (fps : List FP) : Prop := (∃ args' res, LeL as args' ∧ CallOK C.P C.G g args' res ∧ zax C n r (bump (s.put d res) (s.next + 1)) Q all l ((none, none) :: fps)) ∨ ∃ rc, OwnCall C s g as rc ∧ zax C n r (bump ((s.upd rc.up).put d rc.val) (s.next + 1)) Q all l (rc.fp :: fps)
def zaQ (all : List Oper) (v : Option AV) (want : Bool) (o : Oper) (l : List Oper) (fps : List FP) : Prop := ∃ x, v = some (.v x) ∧ (x = .bool want → zef C n r s Q all none o l fps) ∧ (x ≠ .bool want → dstOK C o.dst ∧ zax C n r (bump (s.put o.dst (.v undef)) (s.next + 1)) Q all l ((none, none) :: fps))
def zeT (all : List Oper) (fps : List FP) : Prop := zbR all fps.reverse = true ∧ ex C n r s Q
end
section
variable {C : Cx} {n : Nat} {r : List It} {s : AS} {Q : Lab → AS → Prop} {o : Oper} {d : Option Tmp} {all l : List Oper} {fps : List FP}
theorem ex_nil : ex C (n + 1) [] s Q = Q .normal s := (rfl)
theorem ex_blk {id : Nat} : ex C (n + 1) (.blk id :: r) s Q = ex C n r s Q := (rfl)
theorem ex_lp {k : Nat} : ex C (n + 1) (.lp k :: r) s Q = Q (.lp k) s := (rfl)
theorem ex_skip : ex C (n + 1) (.code .skip :: r) s Q = ex C n r s Q := (rfl)
theorem ex_seq {x y : Code} : ex C (n + 1) (.code (.seq x y) :: r) s Q = ex C n (.code x :: .code y :: r) s Q := (rfl)
theorem ex_block {id : Nat} {x : Code} : ex C (n + 1) (.code (.block id x) :: r) s Q = ex C n (.code x :: .blk id :: r) s Q := (rfl)
theorem ex_ret : ex C (n + 1) (.code .ret :: r) s Q = Q .ret s := (rfl)
theorem zoT {id : Nat} : ex C (n + 1) (.code (.exit id) :: r) s Q = zgA C n s Q (zfN id r) := by
 unfold zgA
 cases h : zfN id r <;> simp [ex, h]
theorem ex_cond {c : Operand} {x y : Code} : ex C (n + 1) (.code (.cond c x y) :: r) s Q = zbM C n r s Q (ev s c) x y := (rfl)
theorem condT {x y : Code} : zbM C n r s Q (some (.v (.bool true))) x y = ex C n (.code x :: r) s Q := by simp [zbM]
theorem condF {x y : Code} : zbM C n r s Q (some (.v (.bool false))) x y = ex C n (.code y :: r) s Q := by simp [zbM]
theorem ex_loop {c : Code} : ex C (n + 1) (.code (.loop c) :: r) s Q = zcZ C n r s Q c := (rfl)
theorem ex_op_plain (h : isCall o.op = false) : ex C (n + 1) (.op o none :: r) s Q = (dstOK C o.dst ∧ after C n r s Q o (aop C.ti s o.op)) := by
 unfold after
 simp only [ex]
 congr 1
 refine propext ⟨fun q => ?_, fun q => ?_⟩
 ·rcases q with ⟨rc, hg, hk⟩ | ⟨_, s', av, hb, hk⟩ | ⟨_, Φ, hb, hk⟩
  ·cases hg with
   | none hr => cases hr with
    | plain e hc he hn => rw [he]; exact ⟨hn, hk⟩
    | call f args ty g caps as args' res ho => rw [ho] at h; cases h
    | callo f args ty g caps as rc ho => rw [ho] at h; cases h
    | sem av hc he hs => rw [he]; exact .inl ⟨av, hs, hk⟩
    | own rc hs => rw [hs.noop]; exact .inr ⟨_, _, znX hs, hk⟩
  ·cases hb with
   | sem _ _ hc he hs => rw [he]; exact .inr ⟨s', av, hs, hk⟩
   | call f args ty g caps as s' res ho => rw [ho] at h; cases h
  ·cases hb with
   | call f args ty g caps as args' ho => rw [ho] at h; cases h
 ·cases he : aop C.ti s o.op with
  | some e => rw [he] at q; exact .inl ⟨⟨e.val, e.upd, rdOf s o.op, wrOf s o.op⟩, .none (.plain e h he q.1), q.2⟩
  | none =>
   rw [he] at q
   rcases q with ⟨av, h1, h2⟩ | ⟨s', av, h1, h2⟩
   ·exact .inl ⟨⟨av, .keep, rdOf s o.op, wrOf s o.op⟩, .none (.sem av h he h1), h2⟩
   ·exact .inr (.inl ⟨trivial, s', av, .sem s' av h he h1, h2⟩)
theorem zij {f : Operand} {args : Array Operand} {ty : Array TypeId} (h : o.op = .call ⟨.value f, args, ty⟩) : ex C (n + 1) (.op o none :: r) s Q = (dstOK C o.dst ∧ zeD C n r s Q (ev s f) (evL s args.toList) o.dst) := by
 unfold zeD
 simp only [ex]
 congr 1
 refine propext ⟨fun q => ?_, fun q => ?_⟩
 ·rcases q with ⟨rc, hg, hk⟩ | ⟨_, s', av, hb, hk⟩ | ⟨_, Φ, hb, hk⟩
  ·cases hg with
   | none hr => cases hr with
    | plain e hc he hn => rw [h] at hc; cases hc
    | sem av hc hs => rw [h] at hc; cases hc
    | own rc hs => have hc := hs.nocall; rw [h] at hc; cases hc
    | callo f' args1 ty' g caps as rc ho hf ha h' =>
     rw [h] at ho
     injection ho with ho
     injection ho with ho1 ho2 ho3
     injection ho1 with ho1
     subst ho1 ho2
     exact .inr (.inl ⟨g, caps, as, _, _, hf, ha, h'.enters, zfk h', hk⟩)
    | call f' args1 ty' g caps as args' res ho hf ha hle hk' =>
     rw [h] at ho
     injection ho with ho
     injection ho with ho1 ho2 ho3
     injection ho1 with ho1
     subst ho1 ho2
     exact .inl ⟨g, caps, as, args', res, hf, ha, hle, hk', hk⟩
  ·cases hb with
   | sem _ _ hc he hs => rw [h] at hc; cases hc
   | call f' args1 ty' g caps as s' res ho hf ha hent hk' =>
    rw [h] at ho
    injection ho with ho
    injection ho with ho1 ho2 ho3
    injection ho1 with ho1
    subst ho1 ho2
    exact .inr (.inl ⟨g, caps, as, s', av, hf, ha, hent, hk', hk⟩)
  ·cases hb with
   | call f' args1 ty' g caps as args' ho hf ha hle hk' =>
    rw [h] at ho
    injection ho with ho
    injection ho with ho1 ho2 ho3
    injection ho1 with ho1
    subst ho1 ho2
    exact .inr (.inr ⟨g, caps, as, args', Φ, hf, ha, hle, hk', hk⟩)
 ·rcases q with ⟨g, caps, as, args', res, h1, h2, h3, h4, h5⟩ | ⟨g, caps, as, s', res, h1, h2, h3, h4, h5⟩ | ⟨g, caps, as, args', Φ, h1, h2, h3, h4, h5⟩
  ·exact .inl ⟨⟨res, .keep, none, none⟩, .none (.call f args ty g caps as args' res h h1 h2 h3 h4), h5⟩
  ·exact .inr (.inl ⟨trivial, s', res, .call f args ty g caps as s' res h h1 h2 h3 h4, h5⟩)
  ·exact .inr (.inr ⟨trivial, Φ, .call f args ty g caps as args' h h1 h2 h3 h4, h5⟩)
theorem call_fn {g : FuncId} {caps as : List AV} : zeD C n r s Q (some (.fn g caps)) (some as) d = zfA C n r s Q g (as ++ caps) d := by
 unfold zeD zfA
 refine propext ⟨fun q => ?_, fun q => ?_⟩
 ·rcases q with ⟨g', caps', as', args', res, h1, h2, h3, h4, h5⟩ | ⟨g', caps', as', s', res, h1, h2, h3, h4, h5⟩ | ⟨g', caps', as', args', Φ, h1, h2, h3, h4, h5⟩
  ·injection h1 with h1
   injection h1 with h1 h1'
   injection h2 with h2
   subst h1 h1' h2
   exact .inl ⟨args', res, h3, h4, h5⟩
  ·injection h1 with h1
   injection h1 with h1 h1'
   injection h2 with h2
   subst h1 h1' h2
   exact .inr (.inl ⟨s', res, h3, h4, h5⟩)
  ·injection h1 with h1
   injection h1 with h1 h1'
   injection h2 with h2
   subst h1 h1' h2
   exact .inr (.inr ⟨args', Φ, h3, h4, h5⟩)
 ·rcases q with ⟨args', res, h3, h4, h5⟩ | ⟨s', res, h3, h4, h5⟩ | ⟨args', Φ, h3, h4, h5⟩
  ·exact .inl ⟨g, caps, as, args', res, rfl, rfl, h3, h4, h5⟩
  ·exact .inr (.inl ⟨g, caps, as, s', res, rfl, rfl, h3, h4, h5⟩)
  ·exact .inr (.inr ⟨g, caps, as, args', Φ, rfl, rfl, h3, h4, h5⟩)
theorem ex_call {f : Operand} {args : Array Operand} {ty : Array TypeId} {t : TypeId} {pos : String} {af : Array Edge} {g : Option (Nat × Bool)} :
  ex C (n + 1) (.op ⟨d, .call ⟨.value f, args, ty⟩, t, pos, af, g⟩ none :: r) s Q = (dstOK C d ∧ zeD C n r s Q (ev s f) (evL s args.toList) d) := zij rfl
theorem after_true {v : AV} {u : Upd} : after C n r s Q o (some ⟨True, v, u⟩) = ex C n r ((s.upd u).put o.dst v) Q := by simp [after]
theorem zdD {av : AV} (h : zjq C s o av) (k : ex C n r (s.put o.dst av) Q) : after C n r s Q o none := .inl ⟨av, h, k⟩
theorem zdE {s' : AS} {av : AV} (h : OpG C s o s' av) (k : ex C n r (s'.put o.dst av) Q) : after C n r s Q o none := .inr ⟨s', av, h, k⟩
theorem zcc {av : AV} {fp : FP} (h : zjq C s o av) (k : zax C n r (bump (s.put o.dst av) (s.next + 1)) Q all l (fp :: fps)) : za0 C n r s Q all o none fp l fps := .inl ⟨av, h, k⟩
theorem zfx {rc : Rc} {fp : FP} (h : OwnOK C s o rc) (k : zax C n r (s.didD o rc) Q all l (rc.fp :: fps)) : za0 C n r s Q all o none fp l fps := .inr ⟨rc, h, k⟩
theorem ex_guard {t : Tmp} {want : Bool} : ex C (n + 1) (.op o (some (some t, want)) :: r) s Q = zaH C n r s Q (look s.env t) want o := by
 unfold zaH
 refine propext ⟨fun h => ?_, fun ⟨x, h1, h2, h3⟩ => ?_⟩
 ·obtain ⟨hd, h⟩ := h
  rcases h with ⟨rc, hg, hk⟩ | ⟨hg, s', av, hb, hk⟩ | ⟨hg, Φ, hb, hk⟩
  ·cases hg with
   | yes hl hr => exact ⟨_, hl, fun _ => ⟨hd, .inl ⟨rc, .none hr, hk⟩⟩, fun h => absurd rfl h⟩
   | no hl hx => exact ⟨_, hl, fun h => absurd h hx, fun _ => ⟨hd, hk⟩⟩
  ·exact ⟨_, hg, fun _ => ⟨hd, .inr (.inl ⟨trivial, s', av, hb, hk⟩)⟩, fun h => absurd rfl h⟩
  ·exact ⟨_, hg, fun _ => ⟨hd, .inr (.inr ⟨trivial, Φ, hb, hk⟩)⟩, fun h => absurd rfl h⟩
 ·by_cases hb : x = .bool want
  ·subst hb
   obtain ⟨hd, h⟩ := h2 rfl
   rcases h with ⟨rc, hg, hk⟩ | ⟨_, s', av, hb, hk⟩ | ⟨_, Φ, hb, hk⟩
   ·cases hg with
    | none hr => exact ⟨hd, .inl ⟨rc, .yes h1 hr, hk⟩⟩
   ·exact ⟨hd, .inr (.inl ⟨h1, s', av, hb, hk⟩)⟩
   ·exact ⟨hd, .inr (.inr ⟨h1, Φ, hb, hk⟩)⟩
  ·obtain ⟨hd, hk⟩ := h3 hb
   exact ⟨hd, .inl ⟨⟨.v undef, .keep, none, none⟩, .no h1 hb, hk⟩⟩
theorem guard_tt : zaH C n r s Q (some (.v (.bool true))) true o = ex C (n + 1) (.op o none :: r) s Q := by simp [zaH]
theorem guard_ff : zaH C n r s Q (some (.v (.bool false))) false o = ex C (n + 1) (.op o none :: r) s Q := by simp [zaH]
theorem guard_tf : zaH C n r s Q (some (.v (.bool true))) false o = (dstOK C o.dst ∧ ex C n r (s.put o.dst (.v undef)) Q) := by simp [zaH]
theorem guard_ft : zaH C n r s Q (some (.v (.bool false))) true o = (dstOK C o.dst ∧ ex C n r (s.put o.dst (.v undef)) Q) := by simp [zaH]
theorem ex_draw {id : Nat} {ops : Array Oper} : ex C (n + 1) (.code (.region id ops true) :: r) s Q = zax C n r s Q ops.toList ops.toList [] := by
 unfold zax
 simp only [ex, List.reverse_nil, List.nil_append]
theorem draw_nil : zax C n r s Q all [] fps = zeT C n r s Q all fps := by
 unfold zax zeT
 refine propext ⟨fun ⟨recs, s', h1, h2, h3⟩ => ?_, fun ⟨h1, h2⟩ => ⟨[], s, .nil s, by simpa using h1, h2⟩⟩
 cases h1
 exact ⟨by simpa using h2, h3⟩
theorem zho : zax C n r s Q all (o :: l) fps = zef C n r s Q all (gd all o) o l fps := by
 unfold zef zax
 refine propext ⟨fun ⟨recs, s', h1, h2, h3⟩ => ?_, fun ⟨hd, rc, hg, recs, s', h1, h2, h3⟩ => ⟨rc :: recs, s', .cons hd hg h1, by simpa using h2, h3⟩⟩
 cases h1 with
 | cons hd hg t => exact ⟨hd, _, hg, _, _, t, by simpa using h2, h3⟩
theorem draw_plain (h : isCall o.op = false) : zef C n r s Q all none o l fps = (dstOK C o.dst ∧ za0 C n r s Q all o (aop C.ti s o.op) (rdOf s o.op, wrOf s o.op) l fps) := by
 unfold zef za0
 congr 1
 refine propext ⟨fun ⟨rc, hg, hk⟩ => ?_, fun q => ?_⟩
 ·cases hg with
  | none hr => cases hr with
   | plain e hc he hn => rw [he]; exact ⟨hn, hk⟩
   | call f args ty g caps as args' res ho => rw [ho] at h; cases h
   | callo f args ty g caps as rc ho => rw [ho] at h; cases h
   | sem av hc he hs => rw [he]; exact .inl ⟨av, hs, hk⟩
   | own rc hs => rw [hs.noop]; exact .inr ⟨_, hs, hk⟩
 ·cases he : aop C.ti s o.op with
  | some e => rw [he] at q; exact ⟨⟨e.val, e.upd, rdOf s o.op, wrOf s o.op⟩, .none (.plain e h he q.1), q.2⟩
  | none =>
   rw [he] at q
   rcases q with ⟨av, h1, h2⟩ | ⟨rc, h1, h2⟩
   ·exact ⟨⟨av, .keep, rdOf s o.op, wrOf s o.op⟩, .none (.sem av h he h1), h2⟩
   ·exact ⟨rc, .none (.own rc h1), h2⟩
theorem zoZ {f : Operand} {args : Array Operand} {ty : Array TypeId} (h : o.op = .call ⟨.value f, args, ty⟩) : zef C n r s Q all none o l fps = (dstOK C o.dst ∧ zeB C n r s Q all (ev s f) (evL s args.toList) o.dst l fps) := by
 unfold zef zeB
 congr 1
 refine propext ⟨fun ⟨rc, hg, hk⟩ => ?_, fun q => ?_⟩
 ·cases hg with
  | none hr => cases hr with
   | plain e hc he hn => rw [h] at hc; cases hc
   | sem av hc hs => rw [h] at hc; cases hc
   | own rc hs => have hc := hs.nocall; rw [h] at hc; cases hc
   | callo f' args1 ty' g caps as rc ho hf ha h' =>
    rw [h] at ho
    injection ho with ho
    injection ho with ho1 ho2 ho3
    injection ho1 with ho1
    subst ho1 ho2
    exact .inr ⟨g, caps, as, rc, hf, ha, h', hk⟩
   | call f' args1 ty' g caps as args' res ho hf ha hle hk' =>
    rw [h] at ho
    injection ho with ho
    injection ho with ho1 ho2 ho3
    injection ho1 with ho1
    subst ho1 ho2
    exact .inl ⟨g, caps, as, args', res, hf, ha, hle, hk', hk⟩
 ·rcases q with ⟨g, caps, as, args', res, h1, h2, h3, h4, h5⟩ | ⟨g, caps, as, rc, h1, h2, h3, h4⟩
  ·exact ⟨⟨res, .keep, none, none⟩, .none (.call f args ty g caps as args' res h h1 h2 h3 h4), h5⟩
  ·exact ⟨rc, .none (.callo f args ty g caps as rc h h1 h2 h3), h4⟩
theorem draw_callo {f : Operand} {args : Array Operand} {ty : Array TypeId} {t : TypeId} {pos : String} {af : Array Edge} {g : Option (Nat × Bool)} :
  zef C n r s Q all none ⟨d, .call ⟨.value f, args, ty⟩, t, pos, af, g⟩ l fps = (dstOK C d ∧ zeB C n r s Q all (ev s f) (evL s args.toList) d l fps) := zoZ rfl
theorem drawCall_fn {g : FuncId} {caps as : List AV} : zeB C n r s Q all (some (.fn g caps)) (some as) d l fps = zgn C n r s Q all g (as ++ caps) d l fps := by
 unfold zeB zgn
 refine propext ⟨fun q => ?_, fun q => ?_⟩
 ·rcases q with ⟨g', caps', as', args', res, h1, h2, h3, h4, h5⟩ | ⟨g', caps', as', rc, h1, h2, h3, h4⟩
  ·injection h1 with h1
   injection h1 with h1 h1'
   injection h2 with h2
   subst h1 h1' h2
   exact .inl ⟨args', res, h3, h4, h5⟩
  ·injection h1 with h1
   injection h1 with h1 h1'
   injection h2 with h2
   subst h1 h1' h2
   exact .inr ⟨rc, h3, h4⟩
 ·rcases q with ⟨args', res, h3, h4, h5⟩ | ⟨rc, h3, h4⟩
  ·exact .inl ⟨g, caps, as, args', res, rfl, rfl, h3, h4, h5⟩
  ·exact .inr ⟨g, caps, as, rc, rfl, rfl, h3, h4⟩
theorem drawAfter_true {v : AV} {u : Upd} {fp : FP} : za0 C n r s Q all o (some ⟨True, v, u⟩) fp l fps = zax C n r (bump ((s.upd u).put o.dst v) (s.next + 1)) Q all l (fp :: fps) := by simp [za0]
theorem zmO {t : Tmp} {want : Bool} : zef C n r s Q all (some (some t, want)) o l fps = zaQ C n r s Q all (look s.env t) want o l fps := by
 unfold zaQ
 refine propext ⟨fun h => ?_, fun ⟨x, h1, h2, h3⟩ => ?_⟩
 ·obtain ⟨hd, rc, hg, hk⟩ := h
  cases hg with
  | yes hl hr => exact ⟨_, hl, fun _ => ⟨hd, rc, .none hr, hk⟩, fun h => absurd rfl h⟩
  | no hl hx => exact ⟨_, hl, fun h => absurd h hx, fun _ => ⟨hd, hk⟩⟩
 ·by_cases hb : x = .bool want
  ·subst hb
   obtain ⟨hd, rc, hg, hk⟩ := h2 rfl
   cases hg with
   | none hr => exact ⟨hd, rc, .yes h1 hr, hk⟩
  ·obtain ⟨hd, hk⟩ := h3 hb
   exact ⟨hd, ⟨.v undef, .keep, none, none⟩, .no h1 hb, hk⟩
theorem guard_undef {w : Bool} : zaH C n r s Q (some (.v undef)) w o = (dstOK C o.dst ∧ ex C n r (s.put o.dst (.v undef)) Q) := by simp [zaH, undef]
theorem drawGuard_tt : zaQ C n r s Q all (some (.v (.bool true))) true o l fps = zef C n r s Q all none o l fps := by simp [zaQ]
theorem drawGuard_ff : zaQ C n r s Q all (some (.v (.bool false))) false o l fps = zef C n r s Q all none o l fps := by simp [zaQ]
theorem drawGuard_tf : zaQ C n r s Q all (some (.v (.bool true))) false o l fps = (dstOK C o.dst ∧ zax C n r (bump (s.put o.dst (.v undef)) (s.next + 1)) Q all l ((none, none) :: fps)) := by simp [zaQ]
theorem drawGuard_ft : zaQ C n r s Q all (some (.v (.bool false))) true o l fps = (dstOK C o.dst ∧ zax C n r (bump (s.put o.dst (.v undef)) (s.next + 1)) Q all l ((none, none) :: fps)) := by simp [zaQ]
theorem zm3 {p : Prop} {v : AV} {u : Upd} (hp : p) (h : ex C n r ((s.upd u).put o.dst v) Q) : after C n r s Q o (some ⟨p, v, u⟩) := ⟨hp, h⟩
theorem zhJ {p : Prop} {v : AV} {u : Upd} {fp : FP} (hp : p) (h : zax C n r (bump ((s.upd u).put o.dst v) (s.next + 1)) Q all l (fp :: fps)) : za0 C n r s Q all o (some ⟨p, v, u⟩) fp l fps := ⟨hp, h⟩
theorem zmk {g : FuncId} {as : List AV} {res : AV} (h : CallOK C.P C.G g as res) (k : ex C n r (s.put d res) Q) : zfA C n r s Q g as d := .inl ⟨as, res, .refl _, h, k⟩
theorem zhv {g : FuncId} {as : List AV} {s' : AS} {res : AV} (he : zbS C.P g) (h : zlr C s g as s' res) (k : ex C n r (s'.put d res) Q) : zfA C n r s Q g as d := .inr (.inl ⟨s', res, he, h, k⟩)
theorem zhu {g : FuncId} {as : List AV} {Φ : AV → Prop} (h : CallX C.P C.G g as Φ) (k : ∀ av, Φ av → ex C n r (s.put d av) Q) : zfA C n r s Q g as d := .inr (.inr ⟨as, Φ, .refl _, h, k⟩)
theorem zl9 {g : FuncId} {as : List AV} {res : AV} (h : CallOK C.P C.G g as res) (k : zax C n r (bump (s.put d res) (s.next + 1)) Q all l ((none, none) :: fps)) : zgn C n r s Q all g as d l fps := .inl ⟨as, res, .refl _, h, k⟩
theorem zl8 {g : FuncId} {as : List AV} {rc : Rc} (h : OwnCall C s g as rc) (k : zax C n r (bump ((s.upd rc.up).put d rc.val) (s.next + 1)) Q all l (rc.fp :: fps)) : zgn C n r s Q all g as d l fps := .inr ⟨rc, h, k⟩
theorem zk7 {b want : Bool} (h1 : b = true → zaH C n r s Q (some (.v (.bool b))) want o) (h2 : b = false → zaH C n r s Q (some (.v (.bool b))) want o) : zaH C n r s Q (some (.v (.bool b))) want o := by
 cases b
 ·exact h2 rfl
 ·exact h1 rfl
theorem zhp {b want : Bool} (h1 : b = true → zaQ C n r s Q all (some (.v (.bool b))) want o l fps) (h2 : b = false → zaQ C n r s Q all (some (.v (.bool b))) want o l fps) : zaQ C n r s Q all (some (.v (.bool b))) want o l fps := by
 cases b
 ·exact h2 rfl
 ·exact h1 rfl
theorem zmQ {b : Bool} {x y : Code} (h1 : b = true → zbM C n r s Q (some (.v (.bool b))) x y) (h2 : b = false → zbM C n r s Q (some (.v (.bool b))) x y) : zbM C n r s Q (some (.v (.bool b))) x y := by
 cases b
 ·exact h2 rfl
 ·exact h1 rfl
theorem zmP (h : zbR all fps.reverse = true) (k : ex C n r s Q) : zeT C n r s Q all fps := ⟨h, k⟩
def zdr {α : Type} (k : Nat) (st : α → AS) (cond dec : α → Prop) (Q : Lab → AS → Prop) (l : Lab) (s : AS) : Prop := (l = .lp k ∧ ∃ y, cond y ∧ dec y ∧ zaI s (st y)) ∨ (l ≠ .lp k ∧ Q l s)
def zfd {α : Type} (st : α → AS) (cond dec : α → Prop) (s : AS) : Prop := ∃ y, cond y ∧ dec y ∧ zaI s (st y)
theorem zot {α : Type} {c : Code} (st : α → AS) (cond : α → Prop) (μ : α → Nat) (x0 : α) (hn : ∀ x, C.an = true → 0 < (st x).next) (h0 : cond x0) (hw : zaI s (st x0))
  (round : ∀ x, cond x → ex C n (.code c :: .lp (fresh r) :: r) (st x) (zdr (fresh r) st cond (fun y => μ y < μ x) Q)) : zcZ C n r s Q c := by
 refine ⟨fun m s' => ∃ x, cond x ∧ μ x = m ∧ st x = s', ⟨μ x0, st x0, ⟨x0, h0, rfl, rfl⟩, hw, fun h _ => hn x0 h⟩, fun m s' ⟨x, hx, hm, hs⟩ => ?_⟩
 subst hm hs
 have := round x hx
 have e : zdr (fresh r) st cond (fun y => μ y < μ x) Q = fun l s'' => (l = .lp (fresh r) ∧ ∃ m' s3, m' < μ x ∧ (∃ y, cond y ∧ μ y = m' ∧ st y = s3) ∧ zkx C.an s'' s3) ∨ (l ≠ .lp (fresh r) ∧ Q l s'') := by
  funext l s''
  unfold zdr
  refine propext ⟨fun h => ?_, fun h => ?_⟩
  ·rcases h with ⟨h1, y, h2, h3, h4⟩ | h
   ·exact .inl ⟨h1, μ y, st y, h3, ⟨y, h2, rfl, rfl⟩, h4, fun h _ => hn y h⟩
   ·exact .inr h
  ·rcases h with ⟨h1, m', s3, h2, ⟨y, h3, h4, h5⟩, h6⟩ | h
   ·subst h4 h5; exact .inl ⟨h1, y, h3, h2, h6.1⟩
   ·exact .inr h
 rw [e] at this
 exact this
theorem round_end {α : Type} {k : Nat} {st : α → AS} {cond dec : α → Prop} : zdr k st cond dec Q (.lp k) s = zfd st cond dec s := by
 unfold zdr zfd
 simp
theorem round_other {α : Type} {k j : Nat} {st : α → AS} {cond dec : α → Prop} (h : (j = k) = False) : zdr k st cond dec Q (.lp j) s = Q (.lp j) s := by
 unfold zdr
 have h1 : ¬ j = k := by rw [h]; exact not_false
 have h2 : ¬ Lab.lp j = .lp k := fun e => by injection e with e; exact h1 e
 simp [h2]
theorem round_ret {α : Type} {k : Nat} {st : α → AS} {cond dec : α → Prop} : zdr k st cond dec Q .ret s = Q .ret s := by simp [zdr]
theorem round_normal {α : Type} {k : Nat} {st : α → AS} {cond dec : α → Prop} : zdr k st cond dec Q .normal s = Q .normal s := by simp [zdr]
theorem zac {α : Type} {st : α → AS} {cond dec : α → Prop} (y : α) (h1 : cond y) (h2 : dec y) (h3 : zaI s (st y)) : zfd st cond dec s := ⟨y, h1, h2, h3⟩
theorem zcb : ∀ {n : Nat} {r : List It} {s : AS} {Q Q' : Lab → AS → Prop}, ex C n r s Q → (∀ l s, Q l s → Q' l s) → ex C n r s Q'
 | 0, _, _, _, _, h, _ => h
 | n + 1, [], s, Q, Q', h, hq => hq _ _ h
 | n + 1, .blk _ :: r, s, Q, Q', h, hq => by unfold ex at h ⊢; exact zcb h hq
 | n + 1, .lp k :: _, s, Q, Q', h, hq => hq _ _ h
 | n + 1, .op o g :: r, s, Q, Q', h, hq => by
  unfold ex at h ⊢
  obtain ⟨h1, h⟩ := h
  rcases h with ⟨rc, h2, h3⟩ | ⟨hg, s', av, h2, h3⟩ | ⟨hg, Φ, h2, h3⟩
  ·exact ⟨h1, .inl ⟨rc, h2, zcb h3 hq⟩⟩
  ·exact ⟨h1, .inr (.inl ⟨hg, s', av, h2, zcb h3 hq⟩)⟩
  ·exact ⟨h1, .inr (.inr ⟨hg, Φ, h2, fun av hφ => zcb (h3 av hφ) hq⟩)⟩
 | n + 1, .code c :: r, s, Q, Q', h, hq => by
  cases c with
  | skip => unfold ex at h ⊢; exact zcb h hq
  | seq x y => unfold ex at h ⊢; exact zcb h hq
  | block id x => unfold ex at h ⊢; exact zcb h hq
  | ret => exact hq _ _ h
  | exit id =>
   rw [zoT] at h ⊢
   obtain ⟨r1, h1, h2⟩ := h
   exact ⟨r1, h1, zcb h2 hq⟩
  | cond c x y =>
   unfold ex at h ⊢
   obtain ⟨b, h1, h2, h3⟩ := h
   exact ⟨b, h1, fun hb => zcb (h2 hb) hq, fun hb => zcb (h3 hb) hq⟩
  | region id ops d =>
   cases d with
   | false => unfold ex at h ⊢; exact zcb h hq
   | true =>
    unfold ex at h ⊢
    obtain ⟨recs, s', h1, h2, h3⟩ := h
    exact ⟨recs, s', h1, h2, zcb h3 hq⟩
  | loop c =>
   unfold ex at h ⊢
   obtain ⟨I, h1, h2⟩ := h
   refine ⟨I, h1, fun m s' hI => zcb (h2 m s' hI) fun l s'' hh => ?_⟩
   rcases hh with hh | ⟨h3, h4⟩
   ·exact .inl hh
   ·exact .inr ⟨h3, hq _ _ h4⟩
  | _ => exact False.elim (by unfold ex at h; exact h)
def zdG (k : Nat) (P : AS → Prop) (Q : Lab → AS → Prop) (l : Lab) (s : AS) : Prop := (l = .lp k ∧ P s) ∨ (l ≠ .lp k ∧ Q l s)
def zgN (C : Cx) (n : Nat) (r : List It) (Q : Lab → AS → Prop) (c : Code) : Nat → AS → Prop
 | 0, _ => False
 | m + 1, s => ex C n (.code c :: .lp (fresh r) :: r) s (zdG (fresh r) (zgN C n r Q c m) Q)
theorem zk0 {c : Code} (m : Nat) (h : zgN C n r Q c m s) : zcZ C n r s Q c := by
 refine ⟨fun m s => zgN C n r Q c m s, ⟨m, s, h, .refl _ _⟩, fun m s' hm => ?_⟩
 cases m with
 | zero => exact hm.elim
 | succ m =>
  have e : zdG (fresh r) (zgN C n r Q c m) Q = fun l s'' => (l = .lp (fresh r) ∧ zgN C n r Q c m s'') ∨ (l ≠ .lp (fresh r) ∧ Q l s'') := rfl
  simp only [zgN] at hm
  refine zcb hm fun l s'' hq => ?_
  rcases hq with ⟨h1, h2⟩ | hq
  ·exact .inl ⟨h1, m, s'', Nat.lt_succ_self _, h2, .refl _ _⟩
  ·exact .inr hq
theorem unrollQ_end {k : Nat} {P : AS → Prop} : zdG k P Q (.lp k) s = P s := by simp [zdG]
theorem unrollQ_ret {k : Nat} {P : AS → Prop} : zdG k P Q .ret s = Q .ret s := by simp [zdG]
theorem ends_ret {ti : zaN} {rs : List ResultVar} {res : AV} : Ends ti rs res .ret s = Fin s.mem (resL ti s rs) res := by simp [Ends]
theorem zal {mem : List (Nat × MB)} {p : Prop} {l : List AV} {res : AV} (hp : p) (h : one l = res) : Fin mem (some (p, l)) res := ⟨p, l, res, rfl, hp, by rw [h]; exact .same, .refl _⟩
theorem zbQ {mem : List (Nat × MB)} {p : Prop} {l : List AV} {res : AV} (hp : p) (h : Le (one l) res) : Fin mem (some (p, l)) res := ⟨p, l, _, rfl, hp, .same, h⟩
theorem zci {mem : List (Nat × MB)} {p : Prop} {l : List AV} {b res : AV} (hp : p) (hb : Pub mem (one l) b) (h : Le b res) : Fin mem (some (p, l)) res := ⟨p, l, b, rfl, hp, hb, h⟩
end
def zEq : Z → Value → Bool
 | .int k, .int k' n => decide (k = k') && decide (n = 0)
 | .bool, .bool b => !b
 | .str, .string s => s.size == 0
 | .slc, .slice none a b => a == 0 && b == 0
 | .iface, .nilIface => true
 | .ptr, .pointer none => true
 | .func, .nilFunc => true
 | .map, .map none => true
 | _, _ => false
theorem zEq_spec {z : Z} {v : Value} (h : zEq z v = true) : v = z.val := by
 unfold zEq at h
 split at h <;> simp at h
 ·obtain ⟨h1, h2⟩ := h; subst h1 h2; rfl
 ·subst h; rfl
 ·rw [h]; rfl
 ·obtain ⟨h1, h2⟩ := h; subst h1 h2; rfl
 ·rfl
 ·rfl
 ·rfl
 ·rfl
def zsEq : List Z → List Value → Bool
 | [], [] => true
 | z :: zs, v :: vs => zEq z v && zsEq zs vs
 | _, _ => false
theorem zju : ∀ {zs : List Z} {vs : List Value}, zsEq zs vs = true → vs = zs.map Z.val
 | [], [], _ => rfl
 | [], _ :: _, h => by simp [zsEq] at h
 | _ :: _, [], h => by simp [zsEq] at h
 | z :: zs, v :: vs, h => by
  simp only [zsEq, Bool.and_eq_true] at h
  rw [zEq_spec h.1, zju h.2]; rfl
def kdEq : TK → TK → Bool
 | .st a, .st b => decide (a = b)
 | .arr a b, .arr c d => decide (a = c) && decide (b = d)
 | .slc a, .slc b => decide (a = b)
 | .int a, .int b => decide (a = b)
 | .str, .str => true
 | .bool, .bool => true
 | .iface, .iface => true
 | .ptr a, .ptr b => decide (a = b)
 | .other, .other => true
 | _, _ => false
theorem zoA {a b : TK} (h : kdEq a b = true) : a = b := by
 unfold kdEq at h
 split at h <;> simp at h <;> first | rfl | (subst h; rfl) | (obtain ⟨h1, h2⟩ := h; subst h1 h2; rfl)
def zoJ : Value → Bool
 | .agg _ => true
 | _ => false
def zkF (P : Program) (t : Nat) (y : TyI) : Bool :=
 match P.info? t, P.underlying t with
 | some i, some d => i.size == y.size && i.bytes == y.bytes && kdEq (TK.ofDesc d) y.kd && y.zero.length == y.size &&
  (match i.zero with | some z => zsEq y.zero z.cells.toList && (zoJ z == y.kd.agg) | none => false)
 | _, _ => false
theorem zjz {P : Program} {t : Nat} {y : TyI} (h : zkF P t y = true) : TyOK P t y := by
 unfold zkF at h
 split at h
 ·rename_i i d hi hd
  simp only [Bool.and_eq_true, beq_iff_eq] at h
  obtain ⟨⟨⟨⟨h1, h2⟩, h3⟩, h4⟩, h5⟩ := h
  split at h5
  ·rename_i z hz
   simp only [Bool.and_eq_true, beq_iff_eq] at h5
   have hc := zju h5.1
   have hc' : z.cells = (y.zero.map Z.val).toArray := by rw [← hc]
   refine ⟨i, d, hi, hd, h1, h2, zoA h3, ⟨z, hz, hc', fun ha => ?_, fun zz ha hzz => ?_⟩, h4⟩
   ·rw [ha] at h5
    cases z <;> simp [zoJ] at h5
    simp only [Value.cells] at hc'
    rw [hc']
   ·rw [ha] at h5
    rw [hzz] at hc'
    cases z <;> simp [zoJ] at h5 <;> simpa [Value.cells] using hc'
  ·cases h5
 ·cases h
def zhW (P : Program) (m : Nat) (f : Nat → Option TyI) : Bool := (List.range m).all fun t => match f t with | some y => zkF P t y | none => true
theorem zgO {P : Program} {m : Nat} {f : Nat → Option TyI} (h : zhW P m f = true) : zam P (fun t => if t < m then f t else none) := by
 intro t y hy
 simp only at hy
 split at hy
 ·rename_i hlt
  have := List.all_eq_true.1 h t (List.mem_range.2 hlt)
  simp only [hy] at this
  exact zjz this
 ·cases hy
def NO (b : Nat) (a : AV) : Prop := ∀ (σ σ' : Sig) (S : Nat → Prop) (w : World) (x : Value), (∀ c k, c ≠ b → σ c = some k → σ' c = some k) → Rel σ S w x a → Rel σ' S w x a
theorem NO.v {b : Nat} {x : Value} : NO b (.v x) := fun _ _ _ _ _ _ h => by cases h; exact .v _
theorem NO.cl {b : Nat} {a : AV} (h : Cl a) : NO b a := fun σ _ S w x _ hx => (h σ S w x hx).mono (fun _ _ hc => by cases hc) (fun _ h => h) ⟨fun _ _ => rfl, fun _ _ _ _ _ hb _ => by cases hb⟩
theorem NO.p {b c sz row j : Nat} (h : c ≠ b) : NO b (.p c sz row j) := fun _ _ _ _ _ hs hx => by
 cases hx with
 | p hσ => exact .p (hs _ _ h hσ)
theorem NO.ps {b c sz row n : Nat} (h : c ≠ b) : NO b (.ps c sz row n) := fun _ _ _ _ _ hs hx => by
 cases hx with
 | ps hσ h1 h2 h3 => exact .ps (hs _ _ h hσ) h1 h2 h3
 | ps0 => exact .ps0
def isB (b : Nat) : AV → Bool
 | .ps c _ _ _ => c == b
 | .p c _ _ _ => c == b
 | _ => false
def zmH (b : Nat) : List (Nat × AV) → Prop
 | [] => True
 | (_, a) :: l => (isB b a = true ∨ NO b a) ∧ zmH b l
def zmG (b : Nat) : List (Nat × MB) → Prop
 | [] => True
 | (_, m) :: l => (∀ r ∈ m.rows, ∀ a ∈ r, NO b a) ∧ zmG b l
theorem zfP {b : Nat} : ∀ (l : List (Nat × MB)), zmG b l → ∀ k m, look l k = some m → ∀ r ∈ m.rows, ∀ a ∈ r, NO b a
 | [], _, k, m, h => by simp [look] at h
 | (k', m') :: l, hl, k, m, h => by
  simp only [look] at h
  split at h
  ·injection h with h; subst h; exact hl.1
  ·exact zfP l hl.2 k m h
theorem za2 {b : Nat} : ∀ (l : List (Nat × MB)) (k : Nat) (m : MB), look (dropM b l) k = some m → k ≠ b ∧ look l k = some m
 | [], k, m, h => by simp [dropM, look] at h
 | (k', m') :: l, k, m, h => by
  simp only [dropM] at h
  by_cases hk : k' = b
  ·subst hk
   simp only [beq_self_eq_true, cond_true] at h
   obtain ⟨h1, h2⟩ := za2 l k m h
   exact ⟨h1, by simp only [look]; rw [if_neg (fun e => h1 e.symm)]; exact h2⟩
  ·simp only [beq_eq_false_iff_ne.2 hk, cond_false, look] at h ⊢
   split at h
   ·rename_i he
    injection h with h; subst h he
    exact ⟨hk, by simp⟩
   ·rename_i he
    obtain ⟨h1, h2⟩ := za2 l k m h
    exact ⟨h1, by rw [if_neg he]; exact h2⟩
section
variable {P : Program} {ti : zaN} {D : Base} {S0 : Nat → Prop} {w0 : World} {σ : Sig} {S : Nat → Prop} {w : World} {mem : List (Nat × MB)} {U : Nat → Prop}
theorem Fit.sub (hF : Fit D S0 w0 σ S mem U w) {mem' : List (Nat × MB)} (h : ∀ b m, look mem' b = some m → look mem b = some m) : Fit D S0 w0 σ S mem' U w :=
 ⟨hF.below, hF.dom, fun b b' k m m' h1 h2 h3 h4 => hF.inj b b' k m m' (h _ _ h1) (h _ _ h2) h3 h4, hF.sbd, hF.s0, hF.s1, hF.glob, fun b m hb => hF.mem b m (h _ _ hb)⟩
def srcA (mem : List (Nat × MB)) (sz : Nat) : Option AV → Option (Prop × List (List AV))
 | some (.sl sz' rows) => if sz' = sz then some (True, rows) else none
 | some (.ps b sz' row n) => match look mem b with
  | some m => if sz' = sz ∧ m.sz = sz then some (row + n ≤ m.rows.length, (m.rows.drop row).take n) else none
  | none => none
 | some (.v (.slice none 0 0)) => some (True, [])
 | _ => none
def zb1 (b sz : Nat) (rows : List (List AV)) : Prop := ∀ r ∈ rows, r.length = sz ∧ ∀ a ∈ r, a.one = true ∧ NO b a
theorem zjC (hT : zam P ti) {tx : TypeId} (htx : isSlcT (ti tx) = true) {size b k off cap : Nat} (h0 : 0 < size) {rows : List (List AV)} (hrows : zb1 b size rows)
  (hc : ∀ (i : Nat) (r : List AV) (j : Nat) (av : AV), rows[i]? = some r → r[j]? = some av → ∃ v, w.cell? ⟨k, off + i * size + j, none⟩ = some v ∧ Rel σ S w v av) :
  ∃ news : List Value, Src P size tx (.slice (some ⟨k, off, none⟩) rows.length cap) rows.length news w ∧ ∀ (i : Nat) (r : List AV) (j : Nat) (av : AV), rows[i]? = some r → r[j]? = some av → ∃ v, news[i * size + j]? = some v ∧ Rel σ S w v av := by
 obtain ⟨e', hk⟩ := zeS hT htx
 have at_ : ∀ q, q < rows.length * size → ∃ r av, rows[q / size]? = some r ∧ r[q % size]? = some av := fun q hq => by
  have h1 : q / size < rows.length := by rw [Nat.div_lt_iff_lt_mul h0]; exact hq
  have h2 : (rows[q / size]).length = size := (hrows _ (List.getElem_mem h1)).1
  have h3 : q % size < (rows[q / size]).length := by rw [h2]; exact Nat.mod_lt _ h0
  exact ⟨rows[q / size], (rows[q / size])[q % size], List.getElem?_eq_getElem h1, List.getElem?_eq_getElem h3⟩
 obtain ⟨news, hl, hq⟩ := zcN (Q := fun q v => w.cell? ⟨k, off + q, none⟩ = some v ∧ ∀ r av, rows[q / size]? = some r → r[q % size]? = some av → Rel σ S w v av) (rows.length * size) (fun q hq => by
  obtain ⟨r, av, h1, h2⟩ := at_ q hq
  obtain ⟨v, hv, hr⟩ := hc _ r _ av h1 h2
  refine ⟨v, ?_, fun r' av' h1' h2' => ?_⟩
  ·rw [← hv, show off + q = off + q / size * size + q % size by rw [Nat.add_assoc, Nat.mul_comm, Nat.div_add_mod]]
  ·rw [h1] at h1'; injection h1' with h1'; subst h1'
   rw [h2] at h2'; injection h2' with h2'; subst h2'
   exact hr)
 refine ⟨news, Src.ofSlice w hk _ _ _ news hl (fun j u hj => by rw [zcd]; exact (hq j u hj).1) (fun u hu => ?_), fun i r j av hi hj => ?_⟩
 ·obtain ⟨j, hj⟩ := List.getElem?_of_mem hu
  have hlt : j < rows.length * size := by rw [← hl]; exact (List.getElem?_eq_some_iff.1 hj).1
  obtain ⟨r, av, h1, h2⟩ := at_ j hlt
  exact zkQ ((hq j u hj).2 r av h1 h2) ((hrows r (List.mem_of_getElem? h1)).2 av (List.mem_of_getElem? h2)).1
 ·have hr := (hrows r (List.mem_of_getElem? hi)).1
  have hj' : j < size := by rw [← hr]; exact (List.getElem?_eq_some_iff.1 hj).1
  have hi' : i < rows.length := (List.getElem?_eq_some_iff.1 hi).1
  have hlt : i * size + j < news.length := by
   rw [hl]
   have : (i + 1) * size ≤ rows.length * size := Nat.mul_le_mul_right _ hi'
   rw [Nat.add_mul, Nat.one_mul] at this
   omega
  have e1 : (i * size + j) / size = i := by rw [Nat.mul_comm, Nat.mul_add_div h0, Nat.div_eq_of_lt hj', Nat.add_zero]
  have e2 : (i * size + j) % size = j := by rw [Nat.mul_comm, Nat.mul_add_mod, Nat.mod_eq_of_lt hj']
  exact ⟨news[i * size + j], by simp [hlt], (hq (i * size + j) news[i * size + j] (by simp [hlt])).2 r av (by rw [e1]; exact hi) (by rw [e2]; exact hj)⟩
theorem ziD (hT : zam P ti) (hF : Fit D S0 w0 σ S mem U w) {tx : TypeId} (htx : isSlcT (ti tx) = true) {size b : Nat} (h0 : 0 < size) {xv : Value} {av : AV} (hr : Rel σ S w xv av) {p : Prop} {rows : List (List AV)}
  (h : srcA mem size (some av) = some (p, rows)) (hp : p) (hrows : zb1 b size rows) :
  ∃ news : List Value, Src P size tx xv rows.length news w ∧ ∀ (i : Nat) (r : List AV) (j : Nat) (av : AV), rows[i]? = some r → r[j]? = some av → ∃ v, news[i * size + j]? = some v ∧ Rel σ S w v av := by
 obtain ⟨e', hk⟩ := zeS hT htx
 have nilc : ∀ cap, ∃ news : List Value, Src P size tx (.slice none 0 cap) 0 news w ∧ ∀ (i : Nat) (r : List AV) (j : Nat) (av : AV), ([] : List (List AV))[i]? = some r → r[j]? = some av → ∃ v, news[i * size + j]? = some v ∧ Rel σ S w v av := fun cap =>
  ⟨[], Src.ofNil w hk cap, fun i r j av hi => by simp at hi⟩
 unfold srcA at h
 split at h
 ·rename_i sz' rows' heq
  injection heq with heq; subst heq
  split at h
  ·rename_i hsz
   subst hsz
   simp only [Option.some.injEq, Prod.mk.injEq] at h
   obtain ⟨_, rfl⟩ := h
   cases hr with
   | nil => exact nilc 0
   | @e a cap _ =>
    obtain ⟨k, off, spot⟩ := a
    refine ⟨[], ⟨.inl ⟨e', hk⟩, fun _ => rfl, ?_, ?_, by simp, fun u hu => by cases hu⟩, fun i r j av hi => by simp at hi⟩
    ·exact run_firstCells_some w _ 0 _ 0 cap [] (by simp) (fun j u hu => by simp at hu)
    ·exact run_firstCells_some w.drew _ 0 _ 0 cap [] (by simp) (fun j u hu => by simp at hu)
   | @sl k off cap _ _ c hkS hc hl hcell hrr => exact zjC hT htx h0 hrows (fun i r j av hi hj => ⟨_, hcell i r j av hi hj, hrr i r j av hi hj⟩)
  ·cases h
 ·rename_i c sz' row n heq
  injection heq with heq; subst heq
  split at h
  ·rename_i m hm
   split at h
   ·rename_i hsz
    obtain ⟨rfl, hsz2⟩ := hsz
    simp only [Option.some.injEq, Prod.mk.injEq] at h
    obtain ⟨h1, rfl⟩ := h
    rw [← h1] at hp
    have hlen : ((m.rows.drop row).take n).length = n := by simp; omega
    rcases zgX hr with ⟨rfl, rfl⟩ | ⟨k, off, cap, f1, rfl, f2, f3, f4⟩
    ·rw [List.take_zero]; exact nilc 0
    ·obtain ⟨k', c', e, g1, g2, g3, g4, g5, g6, g7⟩ := (hF.mem c m hm).named f1
     have : k' = k := Option.some.inj (g1.symm.trans f1)
     subst this
     have key := zjC (P := P) (σ := σ) (S := S) (w := w) (k := k') (off := off) (cap := cap) hT htx h0 hrows (fun i r j av hi hj => by
      rw [List.getElem?_take] at hi
      split at hi
      ·rename_i hin
       rw [List.getElem?_drop] at hi
       have hoff : off = row * sz' := by
        rcases f3 with f3 | f3
        ·exact f3
        ·omega
       obtain ⟨v, hv, hvr⟩ := g7 _ r j av hi hj
       exact ⟨v, by rw [zbm g4, hoff, ← hv, hsz2, Nat.add_mul], hvr⟩
      ·cases hi)
     rw [hlen] at key ⊢
     exact key
   ·cases h
  ·cases h
 ·rename_i heq
  injection heq with heq; subst heq
  simp only [Option.some.injEq, Prod.mk.injEq] at h
  obtain ⟨_, rfl⟩ := h
  cases hr
  exact nilc 0
 ·cases h
theorem zfc {t tx ty e : TypeId} {i : TypeInfo} (ht : P.underlying t = some (.slice e)) (hi : P.info? e = some i) (k off sLen sCap : Nat) (x : Value) (n : Nat) (news : List Value) (hs : Src P i.size tx x n news w)
  (cur : Array Value) (et : TypeId) (hg : w.heap[k]? = some (.cells cur et (0, 0))) (hroom : sLen + n ≤ sCap) (hfit : off + sLen * i.size + news.length ≤ cur.size) :
  (Builtin.append_ #[t, tx] ty #[.slice (some ⟨k, off, none⟩) sLen sCap, x]).run P w = .ok (.slice (some ⟨k, off, none⟩) (sLen + n) sCap) (w.setRow k (cur.toList.take (off + sLen * i.size) ++ news ++ cur.toList.drop (off + sLen * i.size + news.length)).toArray) := by
 have hst := run_storeCells_at P k (off + sLen * i.size) et news 0 cur w hg (by simpa using hfit) hs.one
 simp only [Nat.add_zero] at hst
 rcases hs.kind with ⟨e', hk⟩ | hk <;> simp [Builtin.append_, run_underlying ht, run_underlying hk, sizeOf, typeInfo, hi, hs.len, hroom, hs.cells, Addr.add_lit, hst]
theorem zbH {t tx ty e : TypeId} {i : TypeInfo} (ht : P.underlying t = some (.slice e)) (hi : P.info? e = some i) (base : Option Addr) (sLen sCap : Nat) (x : Value) (hs : Src P i.size tx x 0 [] w) (hroom : sLen ≤ sCap) :
  (Builtin.append_ #[t, tx] ty #[.slice base sLen sCap, x]).run P w = .ok (.slice base sLen sCap) w := by
 rcases hs.kind with ⟨e', hk⟩ | hk <;> cases base <;> simp [Builtin.append_, run_underlying ht, run_underlying hk, sizeOf, typeInfo, hi, hs.len, hroom, hs.cells, storeCells]
theorem Fit.move (hF : Fit D S0 w0 σ S mem U w) {b : Nat} (hb0 : D.an = none ∨ b ≠ 0) (hb : U b) (w' : World) (hw : Below w.heap.size w w') {k : Nat} {c : Array Value} {e : TypeId} {m' : MB} (hk : w.heap.size ≤ k) (hc : w'.heap[k]? = some (.cells c e (0, 0)))
  (hno : ∀ b' m, b' ≠ b → look mem b' = some m → ∀ r ∈ m.rows, ∀ a ∈ r, NO b a) (hl : ∀ r ∈ m'.rows, r.length = m'.sz) (hz : m'.rows.length * m'.sz ≤ c.size)
  (hr : ∀ (i : Nat) (r : List AV) (j : Nat) (av : AV), m'.rows[i]? = some r → r[j]? = some av → ∃ x, c[i * m'.sz + j]? = some x ∧ Rel σ S w x av ∧ NO b av) :
  Fit D S0 w0 (upd σ b k) S ((b, m') :: mem) U w' := by
 have hke := hF.keeps_below hw
 have hσ : ∀ c k', c ≠ b → σ c = some k' → upd σ b k c = some k' := fun c k' hc hs => by unfold upd; rw [if_neg hc]; exact hs
 have hlt : k < w'.heap.size := za8 hc
 refine ⟨hF.below.then hw, fun b1 k1 h1 => ?_, fun b1 b2 k1 m1 m2 h1 h2 h3 h4 => ?_, fun k hk => Nat.lt_of_lt_of_le (hF.sbd k hk) hw.size, hF.s0, hF.s1, ⟨hF.glob.1, fun k' hk' => by
  rcases hb0 with h0 | h0
  ·rw [h0] at hk'; cases hk'
  ·unfold upd; rw [if_neg (fun e => h0 e.symm)]; exact hF.glob.2 k' hk'⟩, fun b1 m1 h1 => ?_⟩
 ·unfold upd at h1
  split at h1
  ·rename_i he; injection h1 with h1; subst h1 he; exact ⟨hb, hlt⟩
  ·obtain ⟨q1, q2⟩ := hF.dom b1 k1 h1; exact ⟨q1, Nat.lt_of_lt_of_le q2 hw.size⟩
 ·unfold upd at h3 h4
  simp only [look] at h1 h2
  by_cases e1 : b1 = b <;> by_cases e2 : b2 = b
  ·rw [e1, e2]
  ·rw [if_pos e1] at h3; rw [if_neg e2] at h4
   injection h3 with h3; subst h3
   have := (hF.dom b2 _ h4).2; omega
  ·rw [if_neg e1] at h3; rw [if_pos e2] at h4
   injection h4 with h4; subst h4
   have := (hF.dom b1 _ h3).2; omega
  ·rw [if_neg e1] at h3; rw [if_neg e2] at h4
   rw [if_neg (fun e => e1 e.symm)] at h1; rw [if_neg (fun e => e2 e.symm)] at h2
   exact hF.inj b1 b2 k1 m1 m2 h1 h2 h3 h4
 ·simp only [look] at h1
  split at h1
  ·rename_i he
   injection h1 with h1
   subst he h1
   refine .inr ⟨k, c, e, by simp [upd], .inl (Nat.le_trans hF.below.size hk), fun hs => by have := hF.sbd _ hs; omega, hc, hl, hz, fun i r j av hi hj => ?_⟩
   obtain ⟨x, hx, hxr, hn⟩ := hr i r j av hi hj
   exact ⟨x, hx, hn _ _ _ _ _ hσ (hxr.mono (fun _ _ h => h) (fun _ h => h) hke)⟩
  ·rename_i he
   rcases hF.mem b1 m1 h1 with ⟨n1, n2⟩ | ⟨k1, c1, e1, f1, f2, f3, f4, f5, f6, f7⟩
   ·refine .inl ⟨n1, ?_⟩
    unfold upd; rw [if_neg (fun e => he e.symm)]; exact n2
   refine .inr ⟨k1, c1, e1, hσ _ _ (fun e => he e.symm) f1, f2, f3, by rw [hw.block k1 (hF.dom _ _ f1).2]; exact f4, f5, f6, fun i r j av hi hj => ?_⟩
   obtain ⟨x, hx, hxr⟩ := f7 i r j av hi hj
   exact ⟨x, hx, hno b1 m1 (fun e => he e.symm) h1 r (List.mem_of_getElem? hi) av (List.mem_of_getElem? hj) _ _ _ _ _ hσ (hxr.mono (fun _ _ h => h) (fun _ h => h) hke)⟩
theorem zgm (w : World) (o : Obj) : Below w.heap.size w (w.drew.alloc o) := ((Below.refl _ w).drew).alloc (Nat.le_refl _) o
end
section
variable {C : Cx} {s : AS} {o : Oper}
def killT (b : Nat) (dead : List Nat) : List (Nat × AV) → List (Nat × AV)
 | [] => []
 | (t, a) :: l => bif dead.contains t then killT b dead l else bif isB b a then killT b (t :: dead) l else (t, a) :: killT b dead l
theorem zex {b : Nat} : ∀ (l : List (Nat × AV)) (dead : List Nat) (t : Nat) (a : AV), look (killT b dead l) t = some a → look l t = some a ∧ isB b a = false ∧ t ∉ dead
 | [], dead, t, a, h => by simp [killT, look] at h
 | (t', a') :: l, dead, t, a, h => by
  simp only [killT] at h
  cases hd : dead.contains t' with
  | true =>
   rw [hd] at h
   simp only [cond_true] at h
   obtain ⟨h1, h2, h3⟩ := zex l dead t a h
   have hne : t' ≠ t := fun e => by subst e; exact h3 (by simpa using hd)
   exact ⟨by simp only [look]; rw [if_neg hne]; exact h1, h2, h3⟩
  | false =>
   rw [hd] at h
   simp only [cond_false] at h
   cases hb : isB b a' with
   | true =>
    rw [hb] at h
    simp only [cond_true] at h
    obtain ⟨h1, h2, h3⟩ := zex l (t' :: dead) t a h
    have hne : t' ≠ t := fun e => by subst e; exact h3 (by simp)
    exact ⟨by simp only [look]; rw [if_neg hne]; exact h1, h2, fun hm => h3 (by simp [hm])⟩
   | false =>
    rw [hb] at h
    simp only [cond_false, look] at h
    split at h
    ·rename_i he
     injection h with h; subst h he
     exact ⟨by simp [look], hb, fun hm => by simp [hm] at hd⟩
    ·rename_i he
     obtain ⟨h1, h2, h3⟩ := zex l dead t a h
     exact ⟨by simp only [look]; rw [if_neg he]; exact h1, h2, h3⟩
theorem zh4 {b : Nat} : ∀ (l : List (Nat × AV)), zmH b l → ∀ t a, look l t = some a → isB b a = false → NO b a
 | [], _, t, a, h, _ => by simp [look] at h
 | (t', a') :: l, hl, t, a, h, hb => by
  simp only [look] at h
  split at h
  ·injection h with h; subst h
   rcases hl.1 with h1 | h1
   ·rw [hb] at h1; cases h1
   ·exact h1
  ·exact zh4 l hl.2 t a h hb
theorem zdQ {x y : Operand} {t tx : TypeId} (ho : o.op = .call ⟨.builtin .append, #[x, y], #[t, tx]⟩) {P : Program} {w w' : World} {a : Act} {v : Value} (h : (Builtin.append_ #[t, tx] o.type #[a.eval x, a.eval y]).run P w = .ok v w') :
  (execOp a.eval o).run P w = .ok (.value v) w' := by
 have e : (execOp a.eval o).run P w = (builtin .append #[t, tx] o.type (#[x, y].map fun | .const _ => true | _ => false) (#[x, y].map a.eval)).run P w := by
  simp [execOp, ho, resolve, invoke]; rfl
 rw [e]
 simp [builtin, h]
theorem zhO (hT : zam C.P C.ti) {x y : Operand} {t tx e : TypeId} {q1 q2 : Nat} {q3 : List Z} {z : TyI} (ho : o.op = .call ⟨.builtin .append, #[x, y], #[t, tx]⟩) (ht : C.ti t = some ⟨q1, q2, q3, .slc e⟩) (hz : C.ti e = some z) (htx : isSlcT (C.ti tx) = true)
  {b sz k : Nat} {m : MB} {p : Prop} {rows : List (List AV)} (hx : ev s x = some (.ps b sz 0 k)) (hm : look s.mem b = some m) (hy : srcA s.mem sz (ev s y) = some (p, rows))
  (hc : z.size = sz ∧ m.sz = sz ∧ 0 < sz ∧ b < s.next) (han : C.an = true → b ≠ 0) (hp : p ∧ k ≤ m.rows.length ∧ (k + rows.length) * z.bytes ≤ 140737488355328 ∧ k + rows.length ≤ 9223372036854775807)
  (hrows : zb1 b sz rows) (he : zmH b s.env) (hmem : zmG b s.mem) :
  OpG C s o ⟨killT b [] s.env, (b, ⟨sz, m.rows.take k ++ rows⟩) :: s.mem, s.next⟩ (.ps b sz 0 (k + rows.length)) := by
 intro D S0 w0 σ S a w K Q hG hF hE hK
 obtain ⟨c1, c2, c3, c4⟩ := hc
 obtain ⟨p1, p2, p3, p4⟩ := hp
 obtain ⟨i, d, h1, h2, h3, h4, h5, h6⟩ := zag hT ht
 have hd := zbU h5
 subst hd
 obtain ⟨i', d', g1, g2, g3, g4, g5, ⟨zv, hz1, hz2, hz3⟩, g7⟩ := zag hT hz
 cases hyv : ev s y with
 | none => rw [hyv] at hy; simp [srcA] at hy
 | some av =>
 rw [hyv] at hy
 have hyr := za3 hE hyv
 obtain ⟨news, hs, hn⟩ := ziD (P := C.P) hT hF htx (size := sz) (b := b) c3 hyr hy p1 hrows
 have hisz : i'.size = sz := by rw [g3, c1]
 have hnl : news.length = rows.length * sz := hs.newsLen
 have wp : ∀ v w', (Builtin.append_ #[t, tx] o.type #[a.eval x, a.eval y]).run C.P w = .ok v w' → K (a.put o.dst v) w' → o.wp C.P a w K Q := fun v w' hr hk => by
  unfold Oper.wp
  rw [zdQ ho hr]
  exact hk
 have env' : ∀ {σ' : Sig} {w' : World}, (∀ c k, c ≠ b → σ c = some k → σ' c = some k) → Keeps σ S w w' → zat σ' S w' (killT b [] s.env) a := fun {σ' w'} hσ hke t' av' hl => by
  obtain ⟨l1, l2, _⟩ := zex s.env [] t' av' hl
  obtain ⟨xv, hxv, hxr⟩ := hE t' av' l1
  exact ⟨xv, hxv, zh4 s.env he t' av' l1 l2 _ _ _ _ _ hσ (hxr.mono (fun _ _ h => h) (fun _ h => h) hke)⟩
 have mrow := zfP s.mem hmem b m hm
 have hxr := za3 hE hx
 have hUb : b < s.next := c4
 have newlen : (m.rows.take k ++ rows).length = k + rows.length := by simp; omega
 have grow : ∀ (base : Option Addr) (cap : Nat) (olds : List Value), a.eval x = .slice base k cap → cap < k + rows.length → olds.length = k * sz →
   (Builtin.firstCells sz k (.slice base k cap)).run C.P w.drew = .ok olds.toArray w.drew →
   (∀ (i : Nat) (r : List AV) (j : Nat) (av : AV), (m.rows.take k)[i]? = some r → r[j]? = some av → ∃ v, olds[i * sz + j]? = some v ∧ Rel σ S w v av) →
   (∀ r ∈ m.rows.take k, r.length = sz) → o.wp C.P a w K Q := fun base cap olds hxe hcap hol hfc hor hlr => by
  have hrun := run_append_grow_src (P := C.P) w t tx o.type e i' zv h2 g1 hz1 base k cap olds (by rw [hisz]; exact hfc) (a.eval y) rows.length news (by rw [hisz]; exact hs) hcap (by omega) (growslice_fits hcap (by rw [g4]; exact p3))
  refine wp _ _ (by rw [hxe]; exact hrun) ?_
  have hw := zgm w (.cells ((olds ++ news).toArray ++ Builtin.zeroCells zv.cells (grownCap w (k + rows.length) cap e - (k + rows.length))) e)
  have hcell : (w.drew.alloc (.cells ((olds ++ news).toArray ++ Builtin.zeroCells zv.cells (grownCap w (k + rows.length) cap e - (k + rows.length))) e)).heap[w.heap.size]? = some (.cells ((olds ++ news).toArray ++ Builtin.zeroCells zv.cells (grownCap w (k + rows.length) cap e - (k + rows.length))) e) := zbc w.drew _
  have hcs : ((olds ++ news).toArray ++ Builtin.zeroCells zv.cells (grownCap w (k + rows.length) cap e - (k + rows.length))).size = (k + rows.length) * sz + (grownCap w (k + rows.length) cap e - (k + rows.length)) * sz := by
   rw [Array.size_append, size_zeroCells]
   have : zv.cells.size = sz := by rw [hz2]; simp [g7, c1]
   simp [hol, hnl, this, Nat.add_mul]
  have hcap2 : k + rows.length ≤ grownCap w (k + rows.length) cap e := by simp only [grownCap, Question.cut]; omega
  have hFm := hF.move (b := b) (by cases hc0 : C.an with | false => exact .inl (hG.2.1 hc0) | true => exact .inr (han hc0)) hUb _ hw (k := w.heap.size) (m' := ⟨sz, m.rows.take k ++ rows⟩) (Nat.le_refl _) hcell (fun b' m' _ hb' => zfP s.mem hmem b' m' hb')
   (fun r hr => by
    rcases List.mem_append.1 hr with hr | hr
    ·exact hlr r hr
    ·exact (hrows r hr).1)
   (by simp only; rw [newlen, hcs]; omega)
   (fun i r j av hi hj => by
    simp only at hi
    rw [List.getElem?_append] at hi
    have hlen : (m.rows.take k).length = k := by simp; omega
    split at hi
    ·rename_i hlt
     rw [hlen] at hlt
     obtain ⟨v, hv, hvr⟩ := hor i r j av hi hj
     have hvlt := (List.getElem?_eq_some_iff.1 hv).1
     refine ⟨v, ?_, hvr, mrow r (List.mem_of_mem_take (List.mem_of_getElem? hi)) av (List.mem_of_getElem? hj)⟩
     rw [Array.getElem?_append_left (by simp; omega)]
     simp only [List.getElem?_toArray]
     rw [List.getElem?_append_left hvlt]; exact hv
    ·rename_i hge
     rw [hlen] at hi hge
     obtain ⟨v, hv, hvr⟩ := hn (i - k) r j av hi hj
     have hvlt := (List.getElem?_eq_some_iff.1 hv).1
     refine ⟨v, ?_, hvr, ((hrows r (List.mem_of_getElem? hi)).2 av (List.mem_of_getElem? hj)).2⟩
     have e1 : i * sz + j = olds.length + ((i - k) * sz + j) := by
      rw [hol, Nat.sub_mul]
      have : k * sz ≤ i * sz := Nat.mul_le_mul_right _ (by omega)
      omega
     simp only [e1]
     rw [Array.getElem?_append_left (by simp; omega)]
     simp only [List.getElem?_toArray]
     rw [List.getElem?_append_right (by omega), Nat.add_sub_cancel_left]; exact hv)
  refine hK (upd σ b w.heap.size) S _ _ hFm (env' (fun c k' hc hσ => by unfold upd; rw [if_neg hc]; exact hσ) (hF.keeps_below hw)) ?_
  refine .ps (by simp [upd]) hcap2 (.inl (by simp)) ⟨_, e, (0, 0), hcell, ?_⟩
  rw [hcs, Nat.zero_add, ← Nat.add_mul]
  exact Nat.mul_le_mul_right _ (by omega)
 rcases zgX hxr with ⟨hx1, rfl⟩ | ⟨kk, off, cap, f1, f2, f3, f4, f5⟩
 ·-- no block yet
  by_cases hr0 : rows = []
  ·subst hr0
   have hn0 : news = [] := by simpa using hnl
   subst hn0
   have hrun := zbH (P := C.P) (ty := o.type) h2 g1 none 0 0 (a.eval y) (by rw [hisz]; exact hs) (Nat.le_refl _)
   refine wp _ _ (by rw [hx1]; exact hrun) ?_
   refine hK σ S _ _ ⟨hF.below, hF.dom, fun b1 b2 k m1 m2 q1 q2 q3 q4 => ?_, hF.sbd, hF.s0, hF.s1, hF.glob, fun b1 m1 hb1 => ?_⟩ (env' (fun c k _ h => h) ⟨fun _ _ => rfl, fun b k c e f _ hc => ⟨c, e, f, hc, Nat.le_refl _⟩⟩) .ps0
   ·have ex : ∀ b1 m1, look ((b, (⟨sz, m.rows.take 0 ++ []⟩ : MB)) :: s.mem) b1 = some m1 → ∃ m2, look s.mem b1 = some m2 := fun b1 m1 hq => by
     simp only [look] at hq
     split at hq
     ·rename_i he; exact ⟨m, he ▸ hm⟩
     ·exact ⟨_, hq⟩
    obtain ⟨_, r1⟩ := ex _ _ q1
    obtain ⟨_, r2⟩ := ex _ _ q2
    exact hF.inj b1 b2 k _ _ r1 r2 q3 q4
   ·simp only [look] at hb1
    split at hb1
    ·rename_i he
     injection hb1 with hb1
     subst hb1 he
     rcases hF.mem b m hm with ⟨n1, n2⟩ | ⟨k, c, e, u1, u2, u3, u4, u5, u6, u7⟩
     ·exact .inl ⟨by simp, n2⟩
     ·exact .inr ⟨k, c, e, u1, u2, u3, u4, by simp, by simp, by simp⟩
    ·exact hF.mem b1 m1 hb1
  ·have hlen : 0 < rows.length := by
    rcases Nat.eq_zero_or_pos rows.length with h | h
    ·exact (hr0 (List.length_eq_zero_iff.1 h)).elim
    ·exact h
   exact grow none 0 [] hx1 (by omega) (by simp) (run_firstCells_none w.drew sz 0 0 0) (fun i r j av hi => by simp at hi) (by simp)
 ·obtain ⟨cc, ee, ff, f5, f6⟩ := f5
  obtain ⟨k0, c0, e0, u1, u2, u3, u4, u5, u6, u7⟩ := (hF.mem b m hm).named f1
  have : k0 = kk := Option.some.inj (u1.symm.trans f1)
  subst this
  rw [u4] at f5
  injection f5 with f5
  injection f5 with f5a f5b f5c
  subst f5a f5b f5c
  by_cases hroom : k + rows.length ≤ cap
  ·-- in place
   by_cases hr0 : rows = []
   ·subst hr0
    have hn0 : news = [] := by simpa using hnl
    subst hn0
    have hrun := zbH (P := C.P) (ty := o.type) h2 g1 (some ⟨k0, off, none⟩) k cap (a.eval y) (by rw [hisz]; exact hs) f3
    refine wp _ _ (by rw [f2]; exact hrun) ?_
    refine hK σ S _ _ ⟨hF.below, hF.dom, fun b1 b2 k' m1 m2 q1 q2 q3 q4 => ?_, hF.sbd, hF.s0, hF.s1, hF.glob, fun b1 m1 hb1 => ?_⟩ (env' (fun c k _ h => h) ⟨fun _ _ => rfl, fun b k c e f _ hc => ⟨c, e, f, hc, Nat.le_refl _⟩⟩) (.ps f1 (by simpa using f3) f4 ⟨c0, e0, (0, 0), u4, f6⟩)
    ·have ex : ∀ b1 m1, look ((b, (⟨sz, m.rows.take k ++ []⟩ : MB)) :: s.mem) b1 = some m1 → ∃ m2, look s.mem b1 = some m2 := fun b1 m1 hq => by
      simp only [look] at hq
      split at hq
      ·rename_i he; exact ⟨m, he ▸ hm⟩
      ·exact ⟨_, hq⟩
     obtain ⟨_, r1⟩ := ex _ _ q1
     obtain ⟨_, r2⟩ := ex _ _ q2
     exact hF.inj b1 b2 k' _ _ r1 r2 q3 q4
    ·simp only [look] at hb1
     split at hb1
     ·rename_i he
      injection hb1 with hb1
      subst hb1 he
      refine .inr ⟨k0, c0, e0, u1, u2, u3, u4, fun r hr => by rw [← c2]; exact u5 r (List.mem_of_mem_take (by simpa using hr)), ?_, fun i r j av hi hj => ?_⟩
      ·simp only [List.append_nil, List.length_take]
       refine Nat.le_trans (Nat.mul_le_mul_right _ (Nat.min_le_right ..)) ?_
       rw [← c2]; exact u6
      ·simp only [List.append_nil, List.getElem?_take] at hi
       split at hi
       ·simp only; rw [← c2]; exact u7 i r j av hi hj
       ·cases hi
     ·exact hF.mem b1 m1 hb1
   ·have hlen : 0 < rows.length := by
     rcases Nat.eq_zero_or_pos rows.length with h | h
     ·exact (hr0 (List.length_eq_zero_iff.1 h)).elim
     ·exact h
    have hoff : off = 0 := by
     rcases f4 with f4 | f4
     ·simpa using f4
     ·omega
    subst hoff
    have hfit : 0 + k * sz + news.length ≤ c0.size := by
     rw [hnl]
     have : (k + rows.length) * sz ≤ cap * sz := Nat.mul_le_mul_right _ hroom
     rw [Nat.add_mul] at this
     omega
    have hrun := zfc (P := C.P) (ty := o.type) h2 g1 k0 0 k cap (a.eval y) rows.length news (by rw [hisz]; exact hs) c0 e0 u4 hroom (by rw [hisz]; exact hfit)
    rw [hisz] at hrun
    simp only [Nat.zero_add] at hrun hfit
    refine wp _ _ (by rw [f2]; exact hrun) ?_
    have key := hF.set (b := b) (m := m) (m' := ⟨sz, m.rows.take k ++ rows⟩) hm f1 (c' := (c0.toList.take (k * sz) ++ news ++ c0.toList.drop (k * sz + news.length)).toArray) u4
     (by simp; omega)
     (fun r hr => by
      rcases List.mem_append.1 hr with hr | hr
      ·rw [← c2]; exact u5 r (List.mem_of_mem_take hr)
      ·exact (hrows r hr).1)
     (by
      simp only [newlen]
      simp
      rw [Nat.add_mul, ← hnl]
      omega)
     (fun i r j av hi hj => by
      simp only at hi
      simp only [List.getElem?_toArray]
      rw [List.getElem?_append] at hi
      have hlen' : (m.rows.take k).length = k := by simp; omega
      have htl : (c0.toList.take (k * sz)).length = k * sz := by simp; omega
      split at hi
      ·rename_i hlt
       rw [hlen'] at hlt
       rw [List.getElem?_take, if_pos hlt] at hi
       obtain ⟨v, hv, hvr⟩ := u7 i r j av hi hj
       rw [c2] at hv
       have hj' : j < sz := by rw [← c2, ← u5 r (List.mem_of_getElem? hi)]; exact (List.getElem?_eq_some_iff.1 hj).1
       have hlt2 : i * sz + j < k * sz := by
        have : (i + 1) * sz ≤ k * sz := Nat.mul_le_mul_right _ hlt
        rw [Nat.add_mul, Nat.one_mul] at this
        omega
       refine ⟨v, ?_, hvr⟩
       rw [List.append_assoc, List.getElem?_append_left (by rw [htl]; exact hlt2), List.getElem?_take, if_pos hlt2]
       simpa using hv
      ·rename_i hge
       rw [hlen'] at hi hge
       obtain ⟨v, hv, hvr⟩ := hn (i - k) r j av hi hj
       have hvlt := (List.getElem?_eq_some_iff.1 hv).1
       refine ⟨v, ?_, hvr⟩
       have e1 : i * sz + j = k * sz + ((i - k) * sz + j) := by
        rw [Nat.sub_mul]
        have : k * sz ≤ i * sz := Nat.mul_le_mul_right _ (by omega)
        omega
       rw [e1, List.append_assoc, List.getElem?_append_right (by rw [htl]; omega), htl, Nat.add_sub_cancel_left, List.getElem?_append_left hvlt]
       exact hv)
    obtain ⟨hF', hke⟩ := key
    refine hK σ S _ _ hF' (env' (fun c k _ h => h) hke) (.ps f1 hroom (.inl (by simp)) ⟨_, e0, (0, 0), setRow_heap w k0 c0 _ e0 (0, 0) u4, ?_⟩)
    simp
    omega
  ·have hol := zcN (Q := fun q v => c0[q]? = some v) (k * sz) (fun q hq => by
    have : k * sz ≤ m.rows.length * m.sz := by rw [c2]; exact Nat.mul_le_mul_right _ p2
    exact ⟨c0[q]'(by omega), by simp [show q < c0.size by omega]⟩)
   obtain ⟨olds, ol1, ol2⟩ := hol
   have hoff : k = 0 ∨ off = 0 := by
    rcases f4 with f4 | f4
    ·right; simpa using f4
    ·left; omega
   refine grow (some ⟨k0, off, none⟩) cap olds f2 (by omega) ol1 ?_ ?_ (fun r hr => by rw [← c2]; exact u5 r (List.mem_of_mem_take hr))
   ·refine run_firstCells_some w.drew sz k _ k cap olds ol1 (fun j v hj => ?_)
    rw [zcd]
    have hjl : j < k * sz := by rw [← ol1]; exact (List.getElem?_eq_some_iff.1 hj).1
    have hoff' : off = 0 := by
     rcases hoff with h | h
     ·rw [h] at hjl; simp at hjl
     ·exact h
    subst hoff'
    have : (w.drew).heap[k0]? = some (.cells c0 e0 (0, 0)) := u4
    rw [zbm this, Nat.zero_add]
    exact ol2 j v hj
   ·intro i r j av hi hj
    rw [List.getElem?_take] at hi
    split at hi
    ·rename_i hlt
     obtain ⟨v, hv, hvr⟩ := u7 i r j av hi hj
     rw [c2] at hv
     have hj' : j < sz := by rw [← c2, ← u5 r (List.mem_of_getElem? hi)]; exact (List.getElem?_eq_some_iff.1 hj).1
     have hlt2 : i * sz + j < olds.length := by
      rw [ol1]
      have : (i + 1) * sz ≤ k * sz := Nat.mul_le_mul_right _ hlt
      rw [Nat.add_mul, Nat.one_mul] at this
      omega
     have hq := ol2 (i * sz + j) olds[i * sz + j] (by simp [hlt2])
     rw [hv] at hq
     injection hq with hq
     exact ⟨v, by rw [hq]; simp [hlt2], hvr⟩
    ·cases hi
end
theorem look_hit {α : Type} {t : Nat} {x : α} {l : List (Nat × α)} : look ((t, x) :: l) t = some x := by simp [look]
theorem look_miss {α : Type} {k t : Nat} {x : α} {l : List (Nat × α)} (h : (k == t) = false) : look ((k, x) :: l) t = look l t := by
 have : k ≠ t := by simpa using h
 simp [look, this]
theorem ev_tmp {s : AS} {t : Tmp} : ev s (.tmp t) = look s.env t := (rfl)
theorem ev_const {s : AS} {c : Value} : ev s (.const c) = some (.v c) := (rfl)
theorem ev_func {s : AS} {f : FuncId} : ev s (.func f) = some (.fn f []) := (rfl)
section
variable {ti : zaN} {s : AS}
end
def gdVal (s : AS) : List Oper → Nat → Option AV
 | [], _ => none
 | o :: _, 0 => o.dst.bind (look s.env)
 | _ :: l, k + 1 => gdVal s l k
theorem zi0 (s : AS) : ∀ (l : List Oper) (k : Nat) (t : Tmp), (l[k]?).bind (·.dst) = some t → gdVal s l k = look s.env t
 | [], _, t, h => by simp at h
 | o :: l, 0, t, h => by simp at h; simp [gdVal, h]
 | _ :: l, k + 1, t, h => by simp at h; exact zi0 s l k t (by simpa using h)
theorem zfV (s : AS) : ∀ (l : List Oper) (k : Nat), (l[k]?).bind (·.dst) = none → gdVal s l k = none
 | [], _, h => rfl
 | o :: l, 0, h => by simp at h; simp [gdVal, h]
 | _ :: l, k + 1, h => by simp at h; exact zfV s l k (by simpa using h)
def zhj (C : Cx) (n : Nat) (s : AS) (Q : Lab → AS → Prop) (id : Nat) (r : List It) : Prop := zgA C n s Q (zfN id r)
def zfG (C : Cx) (n : Nat) (r : List It) (Q : Lab → AS → Prop) (c : Code) (k : Nat) : Nat → AS → Prop
 | 0, _ => False
 | m + 1, s => ex C n (.code c :: .lp k :: r) s (zdG k (zfG C n r Q c k m) Q)
section
variable {C : Cx} {n : Nat} {r : List It} {s : AS} {Q : Lab → AS → Prop} {o : Oper} {d : Option Tmp} {all l : List Oper} {fps : List FP} {op : Op} {t : TypeId} {pos : String} {af : Array Edge}
theorem l_region {id : Nat} : ex C (n + 1) (.code (.region id l.toArray false) :: r) s Q = ex C n (zeb l l ++ r) s Q := (rfl)
theorem l_draw {id : Nat} : ex C (n + 1) (.code (.region id l.toArray true) :: r) s Q = zax C n r s Q l l [] := ex_draw
theorem l_nil : ex C n (zeb all [] ++ r) s Q = ex C n r s Q := (rfl)
theorem l_op (h : isCall op = false) : ex C (n + 1) (zeb all (⟨d, op, t, pos, af, none⟩ :: l) ++ r) s Q = (dstOK C d ∧ after C n (zeb all l ++ r) s Q ⟨d, op, t, pos, af, none⟩ (aop C.ti s op)) := ex_op_plain (o := ⟨d, op, t, pos, af, none⟩) h
theorem l_call {f : Operand} {args : Array Operand} {ty : Array TypeId} : ex C (n + 1) (zeb all (⟨d, .call ⟨.value f, args, ty⟩, t, pos, af, none⟩ :: l) ++ r) s Q = (dstOK C d ∧ zeD C n (zeb all l ++ r) s Q (ev s f) (evL s args.toList) d) := zij (o := ⟨d, .call ⟨.value f, args, ty⟩, t, pos, af, none⟩) rfl
theorem l_guard {k : Nat} {w : Bool} : ex C (n + 1) (zeb all (⟨d, op, t, pos, af, some (k, w)⟩ :: l) ++ r) s Q = zaH C n (zeb all l ++ r) s Q (gdVal s all k) w ⟨d, op, t, pos, af, some (k, w)⟩ := by
 have e : ex C (n + 1) (zeb all (⟨d, op, t, pos, af, some (k, w)⟩ :: l) ++ r) s Q = ex C (n + 1) (.op ⟨d, op, t, pos, af, some (k, w)⟩ (some ((all[k]?).bind (·.dst), w)) :: (zeb all l ++ r)) s Q := rfl
 rw [e]
 cases hd : (all[k]?).bind (·.dst) with
 | none =>
  rw [zfV _ _ _ hd]
  refine propext ⟨fun h => ?_, fun h => ?_⟩
  ·obtain ⟨_, h⟩ := h
   rcases h with ⟨rc, h, _⟩ | ⟨h, _⟩ | ⟨h, _⟩
   ·cases h
   ·cases h
   ·cases h
  ·obtain ⟨b, h, _⟩ := h
   cases h
 | some t => rw [ex_guard, ← zi0 s _ _ _ hd]
theorem l_exit {id : Nat} : ex C (n + 1) (.code (.exit id) :: r) s Q = zhj C n s Q id r := zoT
theorem exit_hit {id : Nat} : zhj C n s Q id (.blk id :: r) = ex C n r s Q := by simp [zhj, zfN, zgA]
theorem exit_lp {id k : Nat} : zhj C n s Q id (.lp k :: r) = zhj C n s Q id r := (rfl)
theorem exit_code {id : Nat} {c : Code} : zhj C n s Q id (.code c :: r) = zhj C n s Q id r := (rfl)
theorem ld_nil : zax C n r s Q all [] fps = zeT C n r s Q all fps := draw_nil
theorem ld_op (h : isCall op = false) : zax C n r s Q all (⟨d, op, t, pos, af, none⟩ :: l) fps = (dstOK C d ∧ za0 C n r s Q all ⟨d, op, t, pos, af, none⟩ (aop C.ti s op) (rdOf s op, wrOf s op) l fps) := by
 rw [zho]; exact draw_plain (o := ⟨d, op, t, pos, af, none⟩) h
theorem ld_call {f : Operand} {args : Array Operand} {ty : Array TypeId} : zax C n r s Q all (⟨d, .call ⟨.value f, args, ty⟩, t, pos, af, none⟩ :: l) fps = (dstOK C d ∧ zeB C n r s Q all (ev s f) (evL s args.toList) d l fps) := by
 rw [zho]; exact draw_callo
theorem ld_guard {k : Nat} {w : Bool} : zax C n r s Q all (⟨d, op, t, pos, af, some (k, w)⟩ :: l) fps = zaQ C n r s Q all (gdVal s all k) w ⟨d, op, t, pos, af, some (k, w)⟩ l fps := by
 rw [zho]
 have e : gd all ⟨d, op, t, pos, af, some (k, w)⟩ = some ((all[k]?).bind (·.dst), w) := rfl
 rw [e]
 cases hd : (all[k]?).bind (·.dst) with
 | none =>
  rw [zfV _ _ _ hd]
  refine propext ⟨fun h => ?_, fun h => ?_⟩
  ·obtain ⟨_, rc, h, _⟩ := h
   cases h
  ·obtain ⟨b, h, _⟩ := h
   cases h
 | some t => rw [zmO, ← zi0 s _ _ _ hd]
theorem zhV {c : Code} {k : Nat} (hk : fresh r = k) : ∀ m, zfG C n r Q c k m = zgN C n r Q c m
 | 0 => by funext s; rfl
 | m + 1 => by
  funext s
  subst hk
  show ex C n (.code c :: .lp (fresh r) :: r) s (zdG (fresh r) (zfG C n r Q c (fresh r) m) Q) = _
  rw [zhV rfl m]
  rfl
theorem zbi {c : Code} (m : Nat) (k : Nat) (hk : fresh r = k) (h : zfG C n r Q c k m s) : zcZ C n r s Q c := by
 rw [zhV hk] at h
 exact zk0 m h
theorem l_unroll_succ {c : Code} {m k : Nat} : zfG C n r Q c k (m + 1) s = ex C n (.code c :: .lp k :: r) s (zdG k (zfG C n r Q c k m) Q) := (rfl)
theorem l_loop {α : Type} {c : Code} (st : α → AS) (cond : α → Prop) (μ : α → Nat) (x0 : α) (k : Nat) (hk : fresh r = k) (hn : ∀ x, C.an = true → 0 < (st x).next) (h0 : cond x0) (hw : zaI s (st x0))
  (round : ∀ x, cond x → ex C n (.code c :: .lp k :: r) (st x) (zdr k st cond (fun y => μ y < μ x) Q)) : zcZ C n r s Q c := by
 subst hk
 exact zot st cond μ x0 hn h0 hw round
section
variable {m p : List Oper} {f : Operand} {args : Array Operand} {ty : Array TypeId} {k : Nat} {w : Bool}
theorem lap_cons {α : Type} {x : α} {l m : List α} : List.append (x :: l) m = x :: List.append l m := (rfl)
theorem lap_nil {α : Type} {m : List α} : List.append [] m = m := (rfl)
end
variable {s' : AS} {fps' : List FP} {e e' : Option Eff} {fp fp' : FP} {v v' : Option AV} {f f' : Option AV} {as as' : Option (List AV)} {bs bs' : List AV} {b b' : Bool}
@[congr] theorem cond_congr_one {α : Type} {c c' : Bool} {a b : α} (h : c = c') : cond c a b = cond c' a b := by rw [h]
@[congr] theorem ex_congr (h : s = s') : ex C n r s Q = ex C n r s' Q := by rw [h]
@[congr] theorem after_congr (h : e = e') : after C n r s Q o e = after C n r s Q o e' := by rw [h]
@[congr] theorem callF_congr {g : FuncId} (h : bs = bs') : zfA C n r s Q g bs d = zfA C n r s Q g bs' d := by rw [h]
@[congr] theorem guardThen_congr (h : v = v') : zaH C n r s Q v b o = zaH C n r s Q v' b o := by rw [h]
@[congr] theorem condThen_congr {x y : Code} (h : v = v') : zbM C n r s Q v x y = zbM C n r s Q v' x y := by rw [h]
@[congr] theorem loopThen_congr {c : Code} (h : s = s') : zcZ C n r s Q c = zcZ C n r s' Q c := by rw [h]
@[congr] theorem drawAfter_congr (h : e = e') (h' : fp = fp') : za0 C n r s Q all o e fp l fps = za0 C n r s Q all o e' fp' l fps := by rw [h, h']
@[congr] theorem drawF_congr {g : FuncId} (h : bs = bs') : zgn C n r s Q all g bs d l fps = zgn C n r s Q all g bs' d l fps := by rw [h]
@[congr] theorem drawGuard_congr (h : v = v') : zaQ C n r s Q all v b o l fps = zaQ C n r s Q all v' b o l fps := by rw [h]
@[congr] theorem drawEnd_congr (h : s = s') : zeT C n r s Q all fps = zeT C n r s' Q all fps := by rw [h]
@[congr] theorem roundEnd_congr {α : Type} {st : α → AS} {cond dec : α → Prop} (h : s = s') : zfd st cond dec s = zfd st cond dec s' := by rw [h]
end
section
variable {C : Cx} {s : AS} {o : Oper}
theorem Fit.newnil {D : Base} {S0 : Nat → Prop} {w0 : World} {σ : Sig} {S : Nat → Prop} {mem : List (Nat × MB)} {w : World} {n b sz : Nat} (hF : Fit D S0 w0 σ S mem (fun b => b < n) w) (hb : n ≤ b) : Fit D S0 w0 σ S ((b, ⟨sz, []⟩) :: mem) (fun c => c < b + 1) w := by
 have hσ : σ b = none := by
  cases h : σ b with
  | none => rfl
  | some k => have := (hF.dom b k h).1; omega
 refine ⟨hF.below, fun c k h => ⟨by have := (hF.dom c k h).1; omega, (hF.dom c k h).2⟩, fun b1 b2 k m1 m2 h1 h2 h3 h4 => ?_, hF.sbd, hF.s0, hF.s1, hF.glob, fun b1 m1 h1 => ?_⟩
 ·simp only [look] at h1 h2
  split at h1
  ·rename_i he; subst he; rw [hσ] at h3; cases h3
  ·split at h2
   ·rename_i he; subst he; rw [hσ] at h4; cases h4
   ·exact hF.inj b1 b2 k m1 m2 h1 h2 h3 h4
 ·simp only [look] at h1
  split at h1
  ·rename_i he
   injection h1 with h1; subst h1 he
   exact .inl ⟨rfl, hσ⟩
  ·exact hF.mem b1 m1 h1
theorem zaI.newnil {s : AS} (b sz : Nat) (hb : s.next ≤ b) : zaI s ⟨s.env, (b, ⟨sz, []⟩) :: s.mem, b + 1⟩ := by
 intro D S0 w0 σ S w hF _
 exact ⟨σ, S, hF.newnil hb, fun _ h => h⟩
theorem zhP (hT : zam C.P C.ti) {x y : Operand} {t tx e : TypeId} {q1 q2 : Nat} {q3 : List Z} {z : TyI} (ho : o.op = .call ⟨.builtin .append, #[x, y], #[t, tx]⟩) (ht : C.ti t = some ⟨q1, q2, q3, .slc e⟩) (hz : C.ti e = some z) (htx : isSlcT (C.ti tx) = true)
  {sz : Nat} {p : Prop} {rows : List (List AV)} (hx : ev s x = some (.v (.slice none 0 0))) (hy : srcA s.mem sz (ev s y) = some (p, rows))
  (hc : z.size = sz ∧ 0 < sz) (hp : p ∧ rows.length * z.bytes ≤ 140737488355328 ∧ rows.length ≤ 9223372036854775807) (hrows : ∀ b, zb1 b sz rows) :
  OpG C s o ⟨s.env, (s.next, ⟨sz, rows⟩) :: s.mem, s.next + 1⟩ (.ps s.next sz 0 rows.length) := by
 intro D S0 w0 σ S a w K Q hG hF hE hK
 obtain ⟨c1, c3⟩ := hc
 obtain ⟨p1, p3, p4⟩ := hp
 obtain ⟨i, d, h1, h2, h3, h4, h5, h6⟩ := zag hT ht
 have hd := zbU h5
 subst hd
 obtain ⟨i', d', g1, g2, g3, g4, g5, ⟨zv, hz1, hz2, hz3⟩, g7⟩ := zag hT hz
 cases hyv : ev s y with
 | none => rw [hyv] at hy; simp [srcA] at hy
 | some av =>
 rw [hyv] at hy
 obtain ⟨news, hs, hn⟩ := ziD (P := C.P) hT hF htx (size := sz) (b := 0) c3 (za3 hE hyv) hy p1 (hrows 0)
 have hisz : i'.size = sz := by rw [g3, c1]
 have hnl : news.length = rows.length * sz := hs.newsLen
 have hxe := zee hE hx
 have hid : ¬ (s.next < s.next) := Nat.lt_irrefl _
 by_cases hr0 : rows = []
 ·subst hr0
  have hn0 : news = [] := by simpa using hnl
  subst hn0
  have hrun := zbH (P := C.P) (ty := o.type) h2 g1 none 0 0 (a.eval y) (by rw [hisz]; exact hs) (Nat.le_refl _)
  unfold Oper.wp
  rw [zdQ ho (by rw [hxe]; exact hrun)]
  exact hK σ S _ _ (hF.newnil (Nat.le_refl _)) hE .ps0
 ·have hlen : 0 < rows.length := by
   rcases Nat.eq_zero_or_pos rows.length with h | h
   ·exact (hr0 (List.length_eq_zero_iff.1 h)).elim
   ·exact h
  have hrun := run_append_grow_src (P := C.P) w t tx o.type e i' zv h2 g1 hz1 none 0 0 [] (by rw [hisz]; exact run_firstCells_none w.drew sz 0 0 0) (a.eval y) rows.length news (by rw [hisz]; exact hs) (by omega) (by omega) (growslice_fits (by omega) (by rw [g4, Nat.zero_add]; exact p3))
  simp only [Nat.zero_add, List.nil_append] at hrun
  unfold Oper.wp
  rw [zdQ ho (by rw [hxe]; exact hrun)]
  have hcap : rows.length ≤ grownCap w rows.length 0 e := by simp only [grownCap, Question.cut]; omega
  have hcs : (news.toArray ++ Builtin.zeroCells zv.cells (grownCap w rows.length 0 e - rows.length)).size = rows.length * sz + (grownCap w rows.length 0 e - rows.length) * sz := by
   rw [Array.size_append, size_zeroCells]
   have : zv.cells.size = sz := by rw [hz2]; simp [g7, c1]
   simp [hnl, this]
  have hb : Below w.heap.size w w.drew := (Below.refl _ w).drew
  have hFd : Fit D S0 w0 σ S s.mem (fun b => b < s.next) w.drew := by
   have hke := hF.keeps_below hb
   exact ⟨hF.below.then hb, hF.dom, hF.inj, hF.sbd, hF.s0, hF.s1, hF.glob, fun b m hm => by
    rcases hF.mem b m hm with hn | ⟨k, c, e, h1, h2, h3, h4, h5, h6, h7⟩
    ·exact .inl hn
    ·exact .inr ⟨k, c, e, h1, h2, h3, h4, h5, h6, fun i r j av hi hj => by
      obtain ⟨x, hx, hr⟩ := h7 i r j av hi hj
      exact ⟨x, hx, Rel.mono (fun _ _ h => h) (fun _ h => h) hke hr⟩⟩⟩
  have hEd : zat σ S w.drew s.env a := zat.mono (fun _ _ h => h) (fun _ h => h) (hF.keeps_below hb) hE
  have hFn := hFd.new (next := s.next) hid (news.toArray ++ Builtin.zeroCells zv.cells (grownCap w rows.length 0 e - rows.length)) e ⟨sz, rows⟩ (fun r hr => (hrows 0 r hr).1) (by simp only; rw [hcs]; omega) (fun i r j av hi hj => by
   obtain ⟨v, hv, hvr⟩ := hn i r j av hi hj
   refine ⟨v, ?_, hvr.mono (fun _ _ h => h) (fun _ h => h) (hF.keeps_below hb)⟩
   have := (List.getElem?_eq_some_iff.1 hv).1
   rw [Array.getElem?_append_left (by simpa using this)]
   simpa using hv)
  refine hK _ S _ _ (hFn.congr (fun _ => rfl) (fun b hb => by rcases hb with hb | hb <;> simp <;> omega)) (hEd.new hFd hid _ _) ?_
  refine .ps (k := w.heap.size) (off := 0) (by simp [upd]) hcap (.inl (by simp)) ⟨_, e, (0, 0), zbc w.drew _, ?_⟩
  rw [hcs, Nat.zero_add, ← Nat.add_mul]
  exact Nat.mul_le_mul_right _ (by omega)
theorem big_lit0 (hT : zam C.P C.ti) {t e : TypeId} {q1 q2 : Nat} {q3 : List Z} {z : TyI} (ho : o.op = .buildSlice t 0 #[]) (ht : C.ti t = some ⟨q1, q2, q3, .slc e⟩) (hz : C.ti e = some z) :
  OpG C s o ⟨s.env, (s.next, ⟨z.size, []⟩) :: s.mem, s.next + 1⟩ (.ps s.next z.size 0 0) := by
 intro D S0 w0 σ S a w K Q hG hF hE hK
 obtain ⟨i, d, h1, h2, h3, h4, h5, h6⟩ := zag hT ht
 have hd := zbU h5
 subst hd
 obtain ⟨i', d', g1, g2, g3, g4, g5, ⟨zv, hz1, hz2, hz3⟩, g7⟩ := zag hT hz
 have hrun : (execOp a.eval o).run C.P w = .ok (.value (.slice (some ⟨w.heap.size, 0, none⟩) 0 0)) (w.alloc (.cells #[] e)) := by
  simp [execOp, ho, Instr.buildSlice, run_underlying h2, zaw g1, Instr.fill, newRow]
  have e0 : (Array.range 0).map (fun (_ : Nat) => (default : Value)) = #[] := by simp [Array.range]
  rw [e0]
 unfold Oper.wp
 rw [hrun]
 have hid : ¬ (s.next < s.next) := Nat.lt_irrefl _
 have hFn := hF.new (next := s.next) hid #[] e ⟨z.size, []⟩ (fun r hr => by cases hr) (by simp) (fun i r j av hi => by simp at hi)
 exact hK _ S _ _ (hFn.congr (fun _ => rfl) (fun b hb => by rcases hb with hb | hb <;> simp <;> omega)) (hE.new hF hid _ _)
  (.ps (k := w.heap.size) (off := 0) (by simp [upd]) (Nat.le_refl _) (.inl (by simp)) ⟨_, e, (0, 0), zbc w _, by simp⟩)
section
variable {D : Base} {S0 : Nat → Prop} {w0 : World} {σ : Sig} {S : Nat → Prop} {w : World} {mem : List (Nat × MB)} {U : Nat → Prop}
theorem Fit.frz (hF : Fit D S0 w0 σ S mem U w) {b : Nat} {m : MB} (hm : look mem b = some m) : Fit D S0 w0 σ (zkC σ [(b, m)] S) (dropM b mem) U w := by
 have hin : ∀ k, zkC σ [(b, m)] S k → S k ∨ σ b = some k := fun k hk => by
  rcases hk with hk | ⟨b', m', h1, h2⟩
  ·exact .inl hk
  ·simp only [look] at h1
   split at h1
   ·rename_i he; subst he; exact .inr h2
   ·cases h1
 refine ⟨hF.below, hF.dom, fun b1 b2 k m1 m2 h1 h2 h3 h4 => hF.inj b1 b2 k m1 m2 (za2 _ _ _ h1).2 (za2 _ _ _ h2).2 h3 h4, fun k hk => ?_, fun k hk => .inl (hF.s0 k hk), fun k hk => ?_, ⟨fun g l hg => .inl (hF.glob.1 g l hg), hF.glob.2⟩, fun b1 m1 h1 => ?_⟩
 ·rcases hin k hk with hk | hk
  ·exact hF.sbd k hk
  ·exact (hF.dom b k hk).2
 ·rcases hin k hk with hk | hk
  ·exact hF.s1 k hk
  ·obtain ⟨k', c, e, g1, g2, _⟩ := (hF.mem b m hm).named hk
   have : k' = k := Option.some.inj (g1.symm.trans hk)
   subst this; exact .inr g2
 ·obtain ⟨hne, hl⟩ := za2 _ _ _ h1
  rcases hF.mem b1 m1 hl with hn | ⟨k, c, e, h1, h2, h3, h4, h5, h6, h7⟩
  ·exact .inl hn
  ·refine .inr ⟨k, c, e, h1, h2, fun hk => ?_, h4, h5, h6, fun i r j av hi hj => ?_⟩
   ·rcases hin k hk with hk | hk
    ·exact h3 hk
    ·exact hne (hF.inj b1 b k m1 m hl hm h1 hk)
   ·obtain ⟨x, hx, hr⟩ := h7 i r j av hi hj
    exact ⟨x, hx, hr.more⟩
theorem zhc (hF : Fit D S0 w0 σ S mem U w) {b : Nat} {m : MB} (hm : look mem b = some m) {x : Value} {av c : AV} (hr : Rel σ S w x av) (h : Pub [(b, m)] av c) : Rel σ (zkC σ [(b, m)] S) w x c :=
 zeP (hF.sub (mem' := [(b, m)]) (fun b' m' h' => by
  simp only [look] at h'
  split at h'
  ·rename_i he; injection h' with h'; subst h' he; exact hm
  ·cases h')) hr h
end
theorem zgf {b sz row n : Nat} {m : MB} (hsz : m.sz = sz) (hn : row + n ≤ m.rows.length) : Pub [(b, m)] (.ps b sz row n) (.sl sz ((m.rows.drop row).take n)) := .one (.one (.ps (by simp [look]) hsz hn))
theorem frz_p {b sz row j : Nat} {m : MB} (hsz : m.sz = sz) (hn : row < m.rows.length) : Pub [(b, m)] (.p b sz row j) (.rp ((m.rows.getD row []).drop j)) := .one (.one (.p (by simp [look]) hsz hn))
theorem zpB {g : FuncId} {as as' args' : List AV} {res : AV} (b : Nat) {m : MB} (hm : look s.mem b = some m) (has : PubL (Pub [(b, m)]) as as') (hle : LeL as' args') (h : CallOK C.P C.G g args' res) : zlr C s g as ⟨s.env, dropM b s.mem, s.next⟩ res := by
 intro D S0 w0 σ S a w vs hG hF hE hsz hr
 obtain ⟨hl, hp⟩ := has.spec
 have hF' := hF.frz hm
 refine (h.runs (zkC σ [(b, m)] S) w vs hF'.sbd (by rw [← hG.1]; exact hF'.gs) (by rw [hsz, hl, hle.length]) (fun i x av hx hav => ?_)).mono fun e w' hw => ?_
 ·obtain ⟨c, hc, hle'⟩ := hle.get i av hav
  obtain ⟨a0, ha, hpub⟩ := hp i c hc
  exact h.cla av (List.mem_of_getElem? hav) _ _ _ _ (hle' _ _ _ _ (zhc hF hm (hr i x a0 hx ha) hpub))
 ·obtain ⟨hb, x, rfl, hx⟩ := hw
  refine .inl ⟨x, rfl, σ, _, hF'.grow hb, ?_, hx.mono (fun b k h => by cases h) (fun _ h => h) ⟨fun _ _ => rfl, fun b k c e f hs hc => ⟨c, e, f, hc, Nat.le_refl _⟩⟩⟩
  have hE' : zat σ (zkC σ [(b, m)] S) w s.env a := fun t av ht => by
   obtain ⟨x, h1, h2⟩ := hE t av ht
   exact ⟨x, h1, h2.more⟩
  exact hE'.grow hF' hb
def zl6 (b : Nat) (m : MB) (env : List (Nat × AV)) : List (Nat × AV) → Prop
 | [] => True
 | (t, av) :: l => (∃ a c, look env t = some a ∧ Pub [(b, m)] a c ∧ Le c av) ∧ zl6 b m env l
theorem zhd {b : Nat} {m : MB} {env : List (Nat × AV)} : ∀ (l : List (Nat × AV)), zl6 b m env l → ∀ t av, look l t = some av → ∃ a c, look env t = some a ∧ Pub [(b, m)] a c ∧ Le c av
 | [], _, t, av, h => by simp [look] at h
 | (t', av') :: l, hl, t, av, h => by
  simp only [look] at h
  split at h
  ·rename_i he; injection h with h; subst he h; exact hl.1
  ·exact zhd l hl.2 t av h
def MBle (b : Nat) (m : MB) (m0 m' : MB) : Prop := m'.sz = m0.sz ∧ m'.rows.length = m0.rows.length ∧ ∀ (i : Nat) (r' : List AV), m'.rows[i]? = some r' → ∃ r, m0.rows[i]? = some r ∧ r'.length = r.length ∧ ∀ (j : Nat) (av : AV), r'[j]? = some av → ∃ a c, r[j]? = some a ∧ Pub [(b, m)] a c ∧ Le c av
theorem MBle.refl (b : Nat) (m m0 : MB) : MBle b m m0 m0 := ⟨rfl, rfl, fun i r h => ⟨r, h, rfl, fun j av hj => ⟨av, av, hj, .same, .refl _⟩⟩⟩
def zl5 (b : Nat) (m : MB) (mem : List (Nat × MB)) : List (Nat × MB) → Prop
 | [] => True
 | (k, m') :: l => (k ≠ b ∧ ∃ m0, look mem k = some m0 ∧ MBle b m m0 m') ∧ zl5 b m mem l
theorem zdP {b : Nat} {m : MB} {mem : List (Nat × MB)} : ∀ (l : List (Nat × MB)), zl5 b m mem l → ∀ k m', look l k = some m' → k ≠ b ∧ ∃ m0, look mem k = some m0 ∧ MBle b m m0 m'
 | [], _, k, m', h => by simp [look] at h
 | (k0, m1) :: l, hl, k, m', h => by
  simp only [look] at h
  split at h
  ·rename_i he; injection h with h; subst he h; exact hl.1
  ·exact zdP l hl.2 k m' h
theorem zaI.frz {s s' : AS} (b : Nat) (m : MB) (hm : look s.mem b = some m) (he : zl6 b m s.env s'.env) (hmem : zl5 b m s.mem s'.mem) (hn : s.next ≤ s'.next) : zaI s s' := by
 intro D S0 w0 σ S w hF _
 have hF' := hF.frz hm
 refine ⟨σ, zkC σ [(b, m)] S, ⟨hF'.below, fun b1 k h1 => ⟨by have := (hF.dom b1 k h1).1; omega, (hF.dom b1 k h1).2⟩, fun b1 b2 k m1 m2 h1 h2 h3 h4 => ?_, hF'.sbd, hF'.s0, hF'.s1, hF'.glob, fun b1 m1 h1 => ?_⟩, fun a hE t av ht => ?_⟩
 ·obtain ⟨_, n1, q1, _⟩ := zdP _ hmem b1 m1 h1
  obtain ⟨_, n2, q2, _⟩ := zdP _ hmem b2 m2 h2
  exact hF.inj b1 b2 k n1 n2 q1 q2 h3 h4
 ·obtain ⟨hne, m0, q1, q2, q3, q4⟩ := zdP _ hmem b1 m1 h1
  rcases hF.mem b1 m0 q1 with ⟨e1, e2⟩ | ⟨k, c, e, f1, f2, f3, f4, f5, f6, f7⟩
  ·exact .inl ⟨List.length_eq_zero_iff.1 (by rw [q3, e1]; rfl), e2⟩
  ·refine .inr ⟨k, c, e, f1, f2, fun hk => ?_, f4, fun r hr => ?_, by rw [q2, q3]; exact f6, fun i r j av hi hj => ?_⟩
   ·rcases hk with hk | ⟨b', m', g1, g2⟩
    ·exact f3 hk
    ·simp only [look] at g1
     split at g1
     ·rename_i he'; subst he'; exact hne (hF.inj b1 _ k m0 m q1 hm f1 g2)
     ·cases g1
   ·obtain ⟨i, hi⟩ := List.getElem?_of_mem hr
    obtain ⟨r0, h1, h2, _⟩ := q4 i r hi
    rw [h2, q2]; exact f5 r0 (List.mem_of_getElem? h1)
   ·obtain ⟨r0, h1, h2, h3⟩ := q4 i r hi
    obtain ⟨a0, c0, g1, g2, g3⟩ := h3 j av hj
    obtain ⟨x, hx, hxr⟩ := f7 i r0 j a0 h1 g1
    exact ⟨x, by rw [q2]; exact hx, g3 _ _ _ _ (zhc hF hm hxr g2)⟩
 ·obtain ⟨a0, c0, g1, g2, g3⟩ := zhd _ he t av ht
  obtain ⟨x, hx, hxr⟩ := hE t a0 g1
  exact ⟨x, hx, g3 _ _ _ _ (zhc hF hm hxr g2)⟩
end
section
variable {C : Cx} {n : Nat} {r : List It} {s : AS} {Q : Lab → AS → Prop} {d : Option Tmp} {t tx u e : TypeId} {x y : Operand} {pos : String} {af : Array Edge} {g : Option (Nat × Bool)}
theorem zas (hT : zam C.P C.ti) {q1 q2 : Nat} {q3 : List Z} {z : TyI} (ht : C.ti t = some ⟨q1, q2, q3, .slc e⟩) (hz : C.ti e = some z) (htx : isSlcT (C.ti tx) = true)
  {sz : Nat} {p : Prop} {rows : List (List AV)} (hx : ev s x = some (.v (.slice none 0 0))) (hc : z.size = sz ∧ 0 < sz) (hy : srcA s.mem sz (ev s y) = some (p, rows))
  (hp : p ∧ rows.length * z.bytes ≤ 140737488355328 ∧ rows.length ≤ 9223372036854775807) (hrows : ∀ b, zb1 b sz rows)
  (k : ex C n r ((⟨s.env, (s.next, ⟨sz, rows⟩) :: s.mem, s.next + 1⟩ : AS).put d (.ps s.next sz 0 rows.length)) Q) : after C n r s Q ⟨d, .call ⟨.builtin .append, #[x, y], #[t, tx]⟩, u, pos, af, g⟩ none :=
 zdE (zhP hT rfl ht hz htx hx hy hc hp hrows) k
theorem zar (hT : zam C.P C.ti) {q1 q2 : Nat} {q3 : List Z} {z : TyI} (ht : C.ti t = some ⟨q1, q2, q3, .slc e⟩) (hz : C.ti e = some z) (htx : isSlcT (C.ti tx) = true)
  {b sz k : Nat} {m : MB} {p : Prop} {rows : List (List AV)} (hx : ev s x = some (.ps b sz 0 k)) (hm : look s.mem b = some m) (hc : z.size = sz ∧ m.sz = sz ∧ 0 < sz ∧ b < s.next) (han : C.an = true → b ≠ 0) (hy : srcA s.mem sz (ev s y) = some (p, rows))
  (hp : p ∧ k ≤ m.rows.length ∧ (k + rows.length) * z.bytes ≤ 140737488355328 ∧ k + rows.length ≤ 9223372036854775807)
  (hrows : zb1 b sz rows) (he : zmH b s.env) (hmem : zmG b s.mem)
  (kk : ex C n r ((⟨killT b [] s.env, (b, ⟨sz, m.rows.take k ++ rows⟩) :: s.mem, s.next⟩ : AS).put d (.ps b sz 0 (k + rows.length))) Q) : after C n r s Q ⟨d, .call ⟨.builtin .append, #[x, y], #[t, tx]⟩, u, pos, af, g⟩ none :=
 zdE (zhO hT rfl ht hz htx hx hm hy hc han hp hrows he hmem) kk
theorem zf2 (hT : zam C.P C.ti) {q1 q2 : Nat} {q3 : List Z} {z : TyI} (ht : C.ti t = some ⟨q1, q2, q3, .slc e⟩) (hz : C.ti e = some z)
  (k : ex C n r ((⟨s.env, (s.next, ⟨z.size, []⟩) :: s.mem, s.next + 1⟩ : AS).put d (.ps s.next z.size 0 0)) Q) : after C n r s Q ⟨d, .buildSlice t 0 #[], u, pos, af, g⟩ none :=
 zdE (big_lit0 hT rfl ht hz) k
theorem zel {f : FuncId} {as as' args' : List AV} {res : AV} (b : Nat) {m : MB} (hm : look s.mem b = some m) (has : PubL (Pub [(b, m)]) as as') (hle : LeL as' args') (h : CallOK C.P C.G f args' res)
  (k : ex C n r ((⟨s.env, dropM b s.mem, s.next⟩ : AS).put d res) Q) : zfA C n r s Q f as d := zhv h.enters (zpB b hm has hle h) k
theorem zm2 (hT : zam C.P C.ti) {o : Oper} {s1 : AS} (hw : zaI s s1) (hnx : s.next ≤ s1.next) (hc : isCall o.op = false) {e : Eff} (he : aop C.ti s1 o.op = some e) (hn : e.need) (k : ex C n r ((s1.upd e.upd).put o.dst e.val) Q) : after C n r s Q o none := by
 refine zdE (s' := s1.upd e.upd) (av := e.val) ?_ k
 intro D S0 w0 σ S a w K R hG hF hE hK
 obtain ⟨σ', S', h1, h2⟩ := hw _ _ _ _ _ _ hF (fun hne => by
  cases hk : D.an with
  | none => exact absurd hk hne
  | some k => exact Nat.lt_of_lt_of_le (hF.dom 0 k (hF.glob.2 k hk)).1 hnx)
 refine zkR (U := fun b => b < s1.next) hT (Nat.lt_irrefl _) h1 (h2 a hE) he hn (fun x w' σ2 S2 g1 g2 g3 => hK σ2 S2 x w' (g1.congr (fun _ => rfl) (fun b hb => ?_)) (by rw [zgM]; exact g2) g3)
 cases hu : e.upd with
 | keep => rw [hu] at hb; exact hb
 | set c m => rw [hu] at hb; exact hb
 | new m => rw [hu] at hb; rcases hb with hb | hb <;> simp [AS.upd] <;> omega
 | app c m => rw [hu] at hb; rcases hb with hb | hb <;> simp [AS.upd] <;> omega
def thaw (b : Nat) (m : MB) : AV → AV
 | .p c sz row j => bif c == b then .rp ((m.rows.getD row []).drop j) else .p c sz row j
 | .ps c sz row k => bif c == b then .sl sz ((m.rows.drop row).take k) else .ps c sz row k
 | a => a
def thawOK (b : Nat) (m : MB) : AV → Prop
 | .p c sz row _ => c = b → m.sz = sz ∧ row < m.rows.length
 | .ps c sz row k => c = b → m.sz = sz ∧ row + k ≤ m.rows.length
 | _ => True
theorem thaw_pub {b : Nat} {m : MB} {a : AV} (h : thawOK b m a) : Pub [(b, m)] a (thaw b m a) := by
 cases a <;> try exact .same
 case p c sz row j =>
  by_cases hc : c = b
  ·subst hc
   obtain ⟨h1, h2⟩ := h rfl
   simp only [thaw, beq_self_eq_true, cond_true]
   exact frz_p h1 h2
  ·simp only [thaw, beq_eq_false_iff_ne.2 hc, cond_false]; exact .same
 case ps c sz row k =>
  by_cases hc : c = b
  ·subst hc
   obtain ⟨h1, h2⟩ := h rfl
   simp only [thaw, beq_self_eq_true, cond_true]
   exact zgf h1 h2
  ·simp only [thaw, beq_eq_false_iff_ne.2 hc, cond_false]; exact .same
def thawE (b : Nat) (m : MB) : List (Nat × AV) → List (Nat × AV)
 | [] => []
 | (t, a) :: l => (t, thaw b m a) :: thawE b m l
def ziB (b : Nat) (m : MB) : List (Nat × AV) → Prop
 | [] => True
 | (_, a) :: l => thawOK b m a ∧ ziB b m l
def thawS (b : Nat) (m : MB) (s : AS) : AS := ⟨thawE b m s.env, dropM b s.mem, s.next⟩
theorem zhY {b : Nat} {m : MB} : ∀ (l : List (Nat × AV)), ziB b m l → ∀ t av, look (thawE b m l) t = some av → ∃ a, look l t = some a ∧ Pub [(b, m)] a av
 | [], _, t, av, h => by simp [thawE, look] at h
 | (t', a') :: l, hl, t, av, h => by
  simp only [thawE, look] at h
  split at h
  ·rename_i he
   injection h with h; subst h he
   exact ⟨a', by simp [look], thaw_pub hl.1⟩
  ·rename_i he
   obtain ⟨a, h1, h2⟩ := zhY l hl.2 t av h
   exact ⟨a, by simp only [look]; rw [if_neg he]; exact h1, h2⟩
theorem zaI.thaw (b : Nat) {m : MB} (hm : look s.mem b = some m) (h : ziB b m s.env) : zaI s (thawS b m s) := by
 intro D S0 w0 σ S w hF _
 refine ⟨σ, zkC σ [(b, m)] S, hF.frz hm, fun a hE t av ht => ?_⟩
 obtain ⟨a0, h1, h2⟩ := zhY s.env h t av ht
 obtain ⟨x, hx, hr⟩ := hE t a0 h1
 exact ⟨x, hx, zhc hF hm hr h2⟩
end
theorem zaB {α : Type} {l : List α} {d : α} {i : Nat} (h : i < l.length) : l.getD i d = l[i] := by simp [List.getD, h]
theorem ziZ {α : Type} {l : List α} {d : α} {i : Nat} (h : l.length ≤ i) : l.getD i d = d := by simp [List.getD, h]
def val : List Nat → Nat
 | [] => 0
 | w :: ws => w + 4294967296 * val ws
def Wd (ws : List Nat) : Prop := ∀ w ∈ ws, w < 4294967296
theorem Wd.nil : Wd [] := fun _ h => by cases h
theorem Wd.cons {w : Nat} {ws : List Nat} (h : w < 4294967296) (k : Wd ws) : Wd (w :: ws) := fun x hx => by
 rcases List.mem_cons.1 hx with rfl | hx
 ·exact h
 ·exact k x hx
theorem Wd.head {w : Nat} {ws : List Nat} (h : Wd (w :: ws)) : w < 4294967296 := h w (by simp)
theorem Wd.tail {w : Nat} {ws : List Nat} (h : Wd (w :: ws)) : Wd ws := fun x hx => h x (by simp [hx])
theorem Wd.take {a : List Nat} (h : Wd a) (n : Nat) : Wd (a.take n) := fun x hx => h x (List.mem_of_mem_take hx)
theorem Wd.set {a : List Nat} (h : Wd a) (i : Nat) {w : Nat} (hw : w < 4294967296) : Wd (a.set i w) := fun x hx => by
 rcases List.mem_or_eq_of_mem_set hx with hx | rfl
 ·exact h x hx
 ·exact hw
theorem Wd.zeros (n : Nat) : Wd (List.replicate n 0) := fun x hx => by rw [List.eq_of_mem_replicate hx]; omega
theorem Wd.get {a : List Nat} (h : Wd a) (i : Nat) : a.getD i 0 < 4294967296 := by
 by_cases hi : i < a.length
 ·rw [zaB hi]; exact h _ (List.getElem_mem hi)
 ·rw [ziZ (by omega)]; omega
theorem zfF (a b : List Nat) : val (a ++ b) = val a + 4294967296 ^ a.length * val b := by
 induction a with
 | nil => simp [val]
 | cons w a ih => simp only [List.cons_append, val, ih, List.length_cons, Nat.pow_succ, Nat.mul_add, ← Nat.mul_assoc]; rw [Nat.mul_comm (4294967296 ^ a.length) 4294967296]; omega
theorem zjx (n : Nat) : val (List.replicate n 0) = 0 := by
 induction n with
 | zero => rfl
 | succ n ih => simp [List.replicate_succ, val, ih]
theorem zf6 {ws : List Nat} (h : Wd ws) : val ws < 4294967296 ^ ws.length := by
 induction ws with
 | nil => simp [val]
 | cons w ws ih =>
  have h1 := h.head
  have h2 := ih h.tail
  simp only [val, List.length_cons, Nat.pow_succ]
  omega
theorem zb4 (ws : List Nat) {k : Nat} (h : k ≤ ws.length) : val ws = val (ws.take k) + 4294967296 ^ k * val (ws.drop k) := by
 have := zfF (ws.take k) (ws.drop k)
 rw [List.take_append_drop, List.length_take, Nat.min_eq_left h] at this
 exact this
theorem zeF {ws : List Nat} {k : Nat} (h : k < ws.length) : ws.take (k + 1) = ws.take k ++ [ws.getD k 0] := by
 rw [List.take_succ_eq_append_getElem h, zaB h]
theorem zhn {ws : List Nat} {k : Nat} (h : k < ws.length) : ws.drop k = ws.getD k 0 :: ws.drop (k + 1) := by
 rw [List.drop_eq_getElem_cons h, zaB h]
theorem zdF {ws : List Nat} {k : Nat} (h : k < ws.length) : val (ws.take (k + 1)) = val (ws.take k) + 4294967296 ^ k * ws.getD k 0 := by
 rw [zeF h, zfF, List.length_take, Nat.min_eq_left (Nat.le_of_lt h)]
 simp [val]
theorem ze2 {ws : List Nat} {k : Nat} (h : k < ws.length) : val (ws.drop k) = ws.getD k 0 + 4294967296 * val (ws.drop (k + 1)) := by
 rw [zhn h]; rfl
theorem ziC {ws : List Nat} {k : Nat} (h : k < ws.length) (d : Nat) : (ws.set k d).take (k + 1) = ws.take k ++ [d] := by
 rw [zeF (by simpa using h), List.take_set_of_le (by omega)]
 simp [List.getD, h]
theorem zcR {ws : List Nat} {k : Nat} (h : k < ws.length) (d : Nat) : val ((ws.set k d).take (k + 1)) = val (ws.take k) + 4294967296 ^ k * d := by
 rw [ziC h, zfF, List.length_take, Nat.min_eq_left (Nat.le_of_lt h)]
 simp [val]
theorem ziz {ws : List Nat} {k : Nat} (h : k < ws.length) (d : Nat) : val (ws.set k d) + 4294967296 ^ k * ws.getD k 0 = val ws + 4294967296 ^ k * d := by
 have h1 := zb4 ws (k := k + 1) (show k + 1 ≤ ws.length from h)
 have h2 := zb4 (ws.set k d) (k := k + 1) (show k + 1 ≤ (ws.set k d).length by rw [List.length_set]; exact h)
 rw [zcR h] at h2
 rw [zdF h] at h1
 rw [List.drop_set_of_lt (show k < k + 1 by omega)] at h2
 omega
theorem zdg {ws : List Nat} {k i : Nat} (h : k ≠ i) (d : Nat) : (ws.set k d).getD i 0 = ws.getD i 0 := by simp [List.getD, List.getElem?_set_ne h]
theorem zc9 {ws : List Nat} (h : Wd ws) (k : Nat) : ws.getD k 0 = val ws / 4294967296 ^ k % 4294967296 := by
 by_cases hk : k < ws.length
 ·have h1 := zb4 ws (Nat.le_of_lt hk)
  have h2 := zf6 (h.take k)
  rw [List.length_take, Nat.min_eq_left (Nat.le_of_lt hk)] at h2
  have h3 := ze2 hk
  have h4 := h.get k
  rw [h1, Nat.add_mul_div_left _ _ (Nat.pow_pos (by omega)), Nat.div_eq_of_lt h2, Nat.zero_add, h3, Nat.add_mul_mod_self_left, Nat.mod_eq_of_lt h4]
 ·rw [ziZ (by omega)]
  have h2 := zf6 h
  have : val ws < 4294967296 ^ k := Nat.lt_of_lt_of_le h2 (Nat.pow_le_pow_right (by omega) (by omega))
  rw [Nat.div_eq_of_lt this]
theorem val_take {ws : List Nat} (h : Wd ws) (k : Nat) : val (ws.take k) = val ws % 4294967296 ^ k := by
 by_cases hk : k ≤ ws.length
 ·have h1 := zb4 ws hk
  have h2 := zf6 (h.take k)
  rw [List.length_take, Nat.min_eq_left hk] at h2
  rw [h1, Nat.add_mul_mod_self_left, Nat.mod_eq_of_lt h2]
 ·rw [List.take_of_length_le (by omega), Nat.mod_eq_of_lt]
  exact Nat.lt_of_lt_of_le (zf6 h) (Nat.pow_le_pow_right (by omega) (by omega))
def words (n : Nat) : List Nat := if h : n = 0 then [] else n % 4294967296 :: words (n / 4294967296)
termination_by n
decreasing_by exact Nat.div_lt_self (by omega) (by omega)
theorem zay : words 0 = [] := by rw [words]; simp
theorem zcm {n : Nat} (h : n ≠ 0) : words n = n % 4294967296 :: words (n / 4294967296) := by rw [words, dif_neg h]
theorem zkD {n : Nat} (h : n ≠ 0) (h2 : n < 4294967296) : words n = [n] := by
 rw [zcm h, Nat.mod_eq_of_lt h2, Nat.div_eq_of_lt h2, zay]
theorem Wd.words (n : Nat) : Wd (words n) := by
 induction n using Nat.strongRecOn with
 | _ n ih =>
  by_cases h : n = 0
  ·rw [h, zay]; exact .nil
  ·rw [zcm h]; exact .cons (Nat.mod_lt _ (by omega)) (ih _ (Nat.div_lt_self (by omega) (by omega)))
theorem za7 (n : Nat) : val (words n) = n := by
 induction n using Nat.strongRecOn with
 | _ n ih =>
  by_cases h : n = 0
  ·rw [h, zay]; rfl
  ·rw [zcm h]
   simp only [val]
   rw [ih _ (Nat.div_lt_self (by omega) (by omega))]
   omega
theorem zdn {n : Nat} : words n = [] ↔ n = 0 := by
 by_cases h : n = 0
 ·simp [h, zay]
 ·simp [zcm h, h]
theorem za4 {n : Nat} : 0 < (words n).length ↔ n ≠ 0 := by
 rw [List.length_pos_iff, ne_eq, zdn]
def zlq (ws : List Nat) : Prop := ws = [] ∨ ws.getD (ws.length - 1) 0 ≠ 0
theorem ziv (n : Nat) : zlq (words n) := by
 induction n using Nat.strongRecOn with
 | _ n ih =>
  by_cases h : n = 0
  ·left; rw [h, zay]
  ·right
   rw [zcm h]
   rcases ih (n / 4294967296) (Nat.div_lt_self (by omega) (by omega)) with h1 | h1
   ·rw [h1]
    rw [zdn] at h1
    simp only [List.length_singleton, List.getD_cons_zero]
    simp only [Nat.sub_self, List.getD_cons_zero, List.length_nil, Nat.zero_add]
    omega
   ·have h2 : 0 < (words (n / 4294967296)).length := by
     rcases Nat.eq_zero_or_pos (words (n / 4294967296)).length with h3 | h3
     ·rw [List.length_eq_zero_iff.1 h3] at h1; simp at h1
     ·exact h3
    rw [List.length_cons, Nat.add_sub_cancel]
    obtain ⟨k, hk⟩ : ∃ k, (words (n / 4294967296)).length = k + 1 := ⟨_, (Nat.succ_pred_eq_of_pos h2).symm⟩
    rw [hk] at h1 ⊢
    simpa using h1
theorem zjv {ws : List Nat} (h : Wd ws) (ht : zlq ws) : words (val ws) = ws := by
 induction ws with
 | nil => exact zay
 | cons w ws ih =>
  have h1 := h.head
  have ht' : zlq ws := by
   cases ws with
   | nil => exact .inl rfl
   | cons u us =>
    right
    rcases ht with ht | ht
    ·cases ht
    ·simpa using ht
  have h2 : val (w :: ws) ≠ 0 := by
   intro h0
   simp only [val] at h0
   have e1 : w = 0 := by omega
   have e2 : val ws = 0 := by omega
   have e3 := ih h.tail ht'
   rw [e2, zay] at e3
   rw [← e3, e1] at ht
   rcases ht with ht | ht
   ·cases ht
   ·simp at ht
  rw [zcm h2]
  simp only [val]
  rw [show (w + 4294967296 * val ws) % 4294967296 = w by omega, show (w + 4294967296 * val ws) / 4294967296 = val ws by omega, ih h.tail ht']
theorem zaO {n k : Nat} (h : n < 4294967296 ^ k) : (words n).length ≤ k := by
 induction k generalizing n with
 | zero => simp at h; rw [h, zay]; simp
 | succ k ih =>
  by_cases h0 : n = 0
  ·rw [h0, zay]; simp
  ·rw [zcm h0, List.length_cons]
   have := ih (n := n / 4294967296) (by rw [Nat.div_lt_iff_lt_mul (by omega)]; rwa [Nat.pow_succ] at h)
   omega
theorem zaV (n : Nat) : n < 4294967296 ^ (words n).length := by
 have := zf6 (Wd.words n)
 rwa [za7] at this
theorem zix {n : Nat} (h : n ≠ 0) : 4294967296 ^ ((words n).length - 1) ≤ n := by
 rcases Nat.lt_or_ge n (4294967296 ^ ((words n).length - 1)) with h1 | h1
 ·have := zaO h1
  have := za4.2 h
  omega
 ·exact h1
theorem zmw {ws : List Nat} (h : Wd ws) : ws.take (words (val ws)).length = words (val ws) ∧ (words (val ws)).length ≤ ws.length := by
 have hl := zaO (zf6 h)
 refine ⟨?_, hl⟩
 have h1 := val_take h (words (val ws)).length
 rw [Nat.mod_eq_of_lt (zaV _)] at h1
 by_cases h0 : val ws = 0
 ·rw [h0, zay]; simp
 refine (zjv (h.take _) (.inr ?_)).symm.trans (by rw [h1])
 have hp := za4.2 h0
 have hlen : (ws.take (words (val ws)).length).length = (words (val ws)).length := by rw [List.length_take, Nat.min_eq_left hl]
 rw [hlen, zc9 (h.take _), h1]
 have hg := zix h0
 have hlt := zaV (val ws)
 obtain ⟨k, hk⟩ : ∃ k, (words (val ws)).length = k + 1 := ⟨_, (Nat.succ_pred_eq_of_pos hp).symm⟩
 rw [hk] at hg hlt ⊢
 rw [Nat.add_sub_cancel] at hg ⊢
 rw [Nat.mod_eq_of_lt (by rw [Nat.div_lt_iff_lt_mul (Nat.pow_pos (by omega)), Nat.mul_comm]; rwa [Nat.pow_succ] at hlt)]
 have := Nat.div_pos hg (Nat.pow_pos (by omega))
 omega
def u32 (w : Nat) : List AV := [.v (.int .u32 w)]
def u32s (ws : List Nat) : List (List AV) := ws.map u32
theorem zaa (ws : List Nat) : (u32s ws).length = ws.length := by simp [u32s]
theorem zer : u32s [] = [] := rfl
theorem zaK {ws : List Nat} {i : Nat} (h : i < ws.length) : (u32s ws).getD i [] = [.v (.int .u32 (ws.getD i 0 : Nat))] := by
 simp [u32s, List.getD, h, u32]
theorem zeq (ws : List Nat) (i w : Nat) : (u32s ws).set i [.v (.int .u32 (w : Nat))] = u32s (ws.set i w) := by
 simp [u32s, List.map_set, u32]
theorem zdp (ws : List Nat) (k : Nat) : (u32s ws).take k = u32s (ws.take k) := by simp [u32s, List.map_take]
theorem zdo (n : Nat) : List.replicate n [AV.v (.int .u32 0)] = u32s (List.replicate n 0) := by simp [u32s, u32]
theorem zgp {ws : List Nat} {r : List AV} (h : r ∈ u32s ws) : ∃ w ∈ ws, r = u32 w := by
 obtain ⟨w, hw, rfl⟩ := List.mem_map.1 h
 exact ⟨w, hw, rfl⟩
theorem zeQ {n : Nat} : ∀ {ws : List Nat}, zh6 n (u32s ws)
 | [] => trivial
 | _ :: _ => ⟨⟨.v, trivial⟩, zeQ⟩
theorem Cl.u32s {ws : List Nat} {sz : Nat} : Cl (.sl sz (u32s ws)) := Cl.sl (fun r hr a ha => by
 obtain ⟨w, _, rfl⟩ := zgp hr
 simp [u32] at ha
 subst ha
 exact .v _)
theorem zkN {b : Nat} {ws : List Nat} : zb1 b 1 (u32s ws) := fun r hr => by
 obtain ⟨w, _, rfl⟩ := zgp hr
 exact ⟨rfl, fun a ha => by simp [u32] at ha; subst ha; exact ⟨rfl, .v⟩⟩
theorem zmz {b : Nat} {x : AV} (h : NO b x) (h1 : x.one = true := by rfl) : zb1 b 1 [[x]] := fun r hr => by
 simp at hr; subst hr
 exact ⟨rfl, fun a ha => by simp at ha; subst ha; exact ⟨h1, h⟩⟩
def noL (b : Nat) : List AV → Prop
 | [] => True
 | a :: l => NO b a ∧ noL b l
def noRL (b : Nat) : List (List AV) → Prop
 | [] => True
 | r :: l => noL b r ∧ noRL b l
theorem zob {b : Nat} : ∀ (l : List AV), noL b l → ∀ a ∈ l, NO b a
 | [], _, a, h => by cases h
 | x :: l, hl, a, h => by
  rcases List.mem_cons.1 h with rfl | h
  ·exact hl.1
  ·exact zob l hl.2 a h
theorem zmF {b : Nat} {rows : List (List AV)} (h : noRL b rows) : ∀ r ∈ rows, ∀ a ∈ r, NO b a := by
 induction rows with
 | nil => intro r hr; cases hr
 | cons r0 rows ih =>
  intro r hr
  rcases List.mem_cons.1 hr with rfl | hr
  ·exact zob _ h.1
  ·exact ih h.2 r hr
theorem zcw (n : Nat) : IntKind.u32.wrap (n : Int) = ((n % 4294967296 : Nat) : Int) := by
 simp only [IntKind.wrap, IntKind.bits, IntKind.signed]; simp
theorem zcn (k : Nat) (n : Nat) : (BitVec.ofInt k (n : Int)).toNat = n % 2 ^ k := by
 rw [BitVec.toNat_ofInt]; omega
theorem and32 {a b : Nat} (ha : a < 4294967296) (hb : b < 4294967296) : zeW .u32 (a : Int) (b : Int) = ((a &&& b : Nat) : Int) := by
 show (((BitVec.ofInt 32 (a : Int) &&& BitVec.ofInt 32 (b : Int)).toNat : Nat) : Int) = ((a &&& b : Nat) : Int)
 rw [BitVec.toNat_and, zcn, zcn, Nat.mod_eq_of_lt ha, Nat.mod_eq_of_lt hb]
theorem or32 {a b : Nat} (ha : a < 4294967296) (hb : b < 4294967296) : bOr .u32 (a : Int) (b : Int) = ((a ||| b : Nat) : Int) := by
 show (((BitVec.ofInt 32 (a : Int) ||| BitVec.ofInt 32 (b : Int)).toNat : Nat) : Int) = ((a ||| b : Nat) : Int)
 rw [BitVec.toNat_or, zcn, zcn, Nat.mod_eq_of_lt ha, Nat.mod_eq_of_lt hb]
theorem xor32 {a b : Nat} (ha : a < 4294967296) (hb : b < 4294967296) : bXor .u32 (a : Int) (b : Int) = ((a ^^^ b : Nat) : Int) := by
 show (((BitVec.ofInt 32 (a : Int) ^^^ BitVec.ofInt 32 (b : Int)).toNat : Nat) : Int) = ((a ^^^ b : Nat) : Int)
 rw [BitVec.toNat_xor, zcn, zcn, Nat.mod_eq_of_lt ha, Nat.mod_eq_of_lt hb]
theorem or64 {a b : Nat} (ha : a < 18446744073709551616) (hb : b < 18446744073709551616) : bOr .u64 (a : Int) (b : Int) = ((a ||| b : Nat) : Int) := by
 show (((BitVec.ofInt 64 (a : Int) ||| BitVec.ofInt 64 (b : Int)).toNat : Nat) : Int) = ((a ||| b : Nat) : Int)
 rw [BitVec.toNat_or, zcn, zcn, Nat.mod_eq_of_lt ha, Nat.mod_eq_of_lt hb]
theorem or_add {q r k : Nat} (h : r < 2 ^ k) : (2 ^ k * q) ||| r = 2 ^ k * q + r := by
 rw [Nat.two_pow_add_eq_or_of_lt h]
theorem ziP {a b : Nat} (ha : a < 4294967296) (hb : b < 4294967296) : bOr .u64 ((a * 4294967296 : Nat) : Int) (b : Int) = ((a * 4294967296 + b : Nat) : Int) := by
 rw [or64 (by omega) (by omega), Nat.mul_comm]
 congr 1
 exact or_add (k := 32) hb
theorem top_div {n : Nat} (h : n < 4294967296) : n / 2147483648 = (n.testBit 31).toNat := by
 rw [Nat.testBit_eq_decide_div_mod_eq]
 have e : (2 : Nat) ^ 31 = 2147483648 := by decide
 rw [e]
 have : n / 2147483648 < 2 := by omega
 generalize n / 2147483648 = q at *
 match q, this with
 | 0, _ => rfl
 | 1, _ => rfl
theorem zeJ {n : Nat} (h : n < 4294967296) : n.testBit 31 = decide (2147483648 ≤ n) := by
 rw [Nat.testBit_eq_decide_div_mod_eq]
 have e : (2 : Nat) ^ 31 = 2147483648 := by decide
 rw [e, decide_eq_decide]
 omega
theorem zpE {x y b d : Nat} (hx : x < 4294967296) (hy : y < 4294967296) (hb : b ≤ 1) (hd : d = (x + 8589934592 - y - b) % 4294967296) :
  (((4294967295 - x) &&& y) ||| ((4294967295 - (x ^^^ y)) &&& d)) / 2147483648 = if x < y + b then 1 else 0 := by
 have h1 : x ^^^ y < 4294967296 := Nat.xor_lt_two_pow (n := 32) hx hy
 have h2 : (4294967295 - x) &&& y < 4294967296 := Nat.lt_of_le_of_lt Nat.and_le_right hy
 have hdl : d < 4294967296 := by omega
 have h3 : (4294967295 - (x ^^^ y)) &&& d < 4294967296 := Nat.lt_of_le_of_lt Nat.and_le_right hdl
 have h4 : (((4294967295 - x) &&& y) ||| ((4294967295 - (x ^^^ y)) &&& d)) < 4294967296 := Nat.or_lt_two_pow (n := 32) h2 h3
 rw [top_div h4, Nat.testBit_or, Nat.testBit_and, Nat.testBit_and, zeJ (n := 4294967295 - x) (by omega), zeJ (n := 4294967295 - (x ^^^ y)) (by omega), zeJ hy, zeJ hdl]
 have e : decide (2147483648 ≤ 4294967295 - (x ^^^ y)) = !(decide (2147483648 ≤ x) ^^ decide (2147483648 ≤ y)) := by
  rw [← zeJ hx, ← zeJ hy, ← Nat.testBit_xor, zeJ h1]
  by_cases h : 2147483648 ≤ x ^^^ y
  ·rw [decide_eq_true h, decide_eq_false (by omega)]; rfl
  ·rw [decide_eq_false h, decide_eq_true (by omega)]; rfl
 rw [e]
 by_cases c1 : 2147483648 ≤ x <;> by_cases c2 : 2147483648 ≤ y <;> by_cases c3 : 2147483648 ≤ d <;> by_cases c4 : 2147483648 ≤ 4294967295 - x <;> simp only [c1, c2, c3, c4, decide_true, decide_false, Bool.and_true, Bool.and_false, Bool.or_true, Bool.or_false, Bool.xor_true, Bool.xor_false, Bool.not_true, Bool.not_false, Bool.true_and, Bool.false_and, Bool.toNat_true, Bool.toNat_false, Bool.false_or, Bool.true_or] <;> split <;> omega
theorem ziS : ∀ n : Nat, n ≠ 0 → ∃ k q, n = 2 ^ k * (2 * q + 1) := fun n => by
 induction n using Nat.strongRecOn with
 | _ n ih =>
  intro h
  by_cases h2 : n % 2 = 0
  ·obtain ⟨k, q, hk⟩ := ih (n / 2) (by omega) (by omega)
   exact ⟨k + 1, q, by rw [Nat.pow_succ, Nat.mul_assoc, Nat.mul_comm 2, ← Nat.mul_assoc, ← hk]; omega⟩
  ·exact ⟨0, n / 2, by omega⟩
theorem zpI {m a : Nat} (h : a < 2 ^ m) : a &&& (2 ^ m - (a + 1)) = 0 := by
 apply Nat.eq_of_testBit_eq
 intro i
 rw [Nat.testBit_and, Nat.testBit_two_pow_sub_succ h]
 cases a.testBit i <;> simp
theorem and_odd (a b : Nat) : (2 * a + 1) &&& (2 * b + 1) = 2 * (a &&& b) + 1 := by
 apply Nat.eq_of_testBit_eq
 intro i
 cases i with
 | zero => simp [Nat.testBit_and, Nat.testBit_zero]
 | succ i => rw [Nat.testBit_and, Nat.testBit_succ, Nat.testBit_succ, Nat.testBit_succ, show (2 * a + 1) / 2 = a by omega, show (2 * b + 1) / 2 = b by omega, show (2 * (a &&& b) + 1) / 2 = a &&& b by omega, Nat.testBit_and]
theorem and_shl (k a b : Nat) : (2 ^ k * a) &&& (2 ^ k * b) = 2 ^ k * (a &&& b) := by
 apply Nat.eq_of_testBit_eq
 intro i
 simp only [Nat.testBit_and, Nat.testBit_two_pow_mul]
 cases decide (i ≥ k) <;> simp
theorem zos {w k q : Nat} (hw : w = 2 ^ k * (2 * q + 1)) (h : w < 4294967296) : w &&& (4294967296 - w) = 2 ^ k ∧ k < 32 := by
 have hk : k < 32 := by
  rcases Nat.lt_or_ge k 32 with h1 | h1
  ·exact h1
  ·have h2 : 2 ^ 32 ≤ 2 ^ k := Nat.pow_le_pow_right (by omega) h1
   have h3 : 2 ^ k * 1 ≤ 2 ^ k * (2 * q + 1) := Nat.mul_le_mul_left _ (by omega)
   have e : (2 : Nat) ^ 32 = 4294967296 := by decide
   omega
 refine ⟨?_, hk⟩
 have e : 4294967296 = 2 ^ k * (2 * 2 ^ (31 - k)) := by
  have e0 : (2 : Nat) ^ 32 = 4294967296 := by decide
  rw [← e0, ← Nat.pow_succ', ← Nat.pow_add]; congr 1; omega
 have hq : q < 2 ^ (31 - k) := by
  rw [hw, e] at h
  have := Nat.lt_of_mul_lt_mul_left h
  omega
 have e2 : 4294967296 - w = 2 ^ k * (2 * (2 ^ (31 - k) - (q + 1)) + 1) := by
  rw [e, hw, ← Nat.mul_sub]; congr 1; omega
 rw [e2, hw, and_shl, and_odd, zpI hq]; simp
def dbT : List Nat := [0, 1, 28, 2, 29, 14, 24, 3, 30, 22, 20, 15, 25, 17, 4, 8, 31, 27, 13, 23, 21, 19, 16, 7, 26, 12, 18, 6, 11, 5, 10, 9]
theorem dbT_ok : ∀ k : Nat, k < 32 → dbT.getD (2 ^ k * 125613361 % 4294967296 / 134217728) 0 = k := by decide
section
variable {C : Cx} {s : AS} {o : Oper}
theorem ev_global {s : AS} {g : Nat} : ev s (.global g) = none := (rfl)
theorem sem_glob (hT : zam C.P C.ti) {t e : TypeId} {g n q1 q2 : Nat} {q3 : List Z} {z : TyI} {i : Operand} {ik : IntKind} {k : Int} {l : List Value} (ho : o.op = .indexAddr t (.global g) i) (ht : C.ti t = some ⟨q1, q2, q3, .arr n e⟩) (hz : C.ti e = some z)
  (hg : (g, l) ∈ C.G) (hi : ev s i = some (.v (.int ik k))) (hk : 0 ≤ k ∧ k < n) (hsz : z.size = 1) (hl : l.length = n) : zjq C s o (.rp [.v (l.getD k.toNat undef)]) := by
 intro σ S a w hS hgs hops
 obtain ⟨h1, c, et, f, h2, h3, _⟩ := hgs g l hg
 obtain ⟨ii, d, q1, q2, q3, q4, q5, q6⟩ := zag hT ht
 have hd := zgE q5
 subst hd
 obtain ⟨i', d', k1, k2, k3, _⟩ := zag hT hz
 have hiv := zdZ (hops i (by rw [ho]; simp [Op.operands]) _ hi)
 have hlt : k.toNat < l.length := by omega
 have hcell : w.cell? ⟨g, k.toNat, none⟩ = some (l.getD k.toNat undef) := by
  rw [zbm h2]
  exact h3 _ _ (zbL hlt)
 refine ⟨.pointer (some ⟨g, k.toNat, none⟩), w, ?_, Below.refl _ _, ?_⟩
 ·have hg0 : a.eval (.global g) = .pointer (some ⟨g, 0, none⟩) := rfl
  simp [execOp, ho, hg0, hiv, Instr.indexAt, Instr.sureAddr, asIntOf, run_underlying q2, hk, zaw k1, k3, hsz, zcd]
 ·refine .rp (fun _ => l.getD k.toNat undef) (.inl h1) (fun j av hj => ?_) (fun j av hj => ?_)
  ·cases j with
   | zero => simpa using hcell
   | succ j => simp at hj
  ·cases j with
   | zero => simp at hj; subst hj; exact .v _
   | succ j => simp at hj
end
section
variable {C : Cx} {n : Nat} {r : List It} {s : AS} {Q : Lab → AS → Prop} {d : Option Tmp} {t u e : TypeId} {i : Operand} {pos : String} {af : Array Edge} {g : Option (Nat × Bool)}
theorem zm4 (hT : zam C.P C.ti) {gb m q1 q2 : Nat} {q3 : List Z} {z : TyI} {ik : IntKind} {k : Int} {v : Value} (l : List Value) (ht : C.ti t = some ⟨q1, q2, q3, .arr m e⟩) (hz : C.ti e = some z) (hg : (gb, l) ∈ C.G) (hi : ev s i = some (.v (.int ik k))) (hk : 0 ≤ k ∧ k < m) (hsz : z.size = 1) (hl : l.length = m)
  (hv : l.getD k.toNat undef = v) (kk : ex C n r (s.put d (.rp [.v v])) Q) : after C n r s Q ⟨d, .indexAddr t (.global gb) i, u, pos, af, g⟩ none := zdD (sem_glob hT rfl ht hz hg hi hk hsz hl) (by rw [hv]; exact kk)
end
def σ0 (k0 : Nat) : Sig := fun b => if b = 0 then some k0 else none
theorem σ0_some {k0 b k : Nat} (h : σ0 k0 b = some k) : b = 0 ∧ k = k0 := by
 unfold σ0 at h
 split at h
 ·rename_i hb; injection h with h; exact ⟨hb, h.symm⟩
 ·cases h
structure CallW (P : Program) (G : GL) (f : FuncId) (args : List AV) (m : MB) (res : AV) (m' : MB) : Prop where
 enters : zbS P f
 clm : ∀ r ∈ m'.rows, ∀ a ∈ r, Cl a
 runs : ∀ (S : Nat → Prop) (w : World) (vs : Array Value) (k0 : Nat), (∀ k, S k → k < w.heap.size) → GS G S w → vs.size = args.length →
  zjr (σ0 k0) S (fun _ => True) w 0 m → (∀ (i : Nat) (x : Value) (av : AV), vs[i]? = some x → args[i]? = some av → Rel (σ0 k0) S w x av) →
  Calls P f vs w fun e w' => Bel ⟨fun k => k = k0, G, some k0, [], []⟩ w w' ∧ ∃ x, e = .returned x ∧ Rel nσ (zf4 S w w') w' x res ∧ zjr (σ0 k0) (zf4 S w w') (fun _ => True) w' 0 m'
def MLe (m m' : MB) : Prop := m'.sz = m.sz ∧ m'.rows.length = m.rows.length ∧ ∀ (i : Nat) (r' : List AV), m'.rows[i]? = some r' → ∃ r, m.rows[i]? = some r ∧ r'.length = r.length ∧ ∀ (j : Nat) (a' : AV), r'[j]? = some a' → ∃ a, r[j]? = some a ∧ Le a a'
theorem MLe.refl (m : MB) : MLe m m := ⟨rfl, rfl, fun i r h => ⟨r, h, rfl, fun j a hj => ⟨a, hj, .refl _⟩⟩⟩
def FinW (mem : List (Nat × MB)) (r : Option (Prop × List AV)) (res : AV) : Prop := ∃ p l b, r = some (p, l) ∧ p ∧ Pub (dropM 0 mem) (one l) b ∧ Le b res
def EndsW (ti : zaN) (rs : List ResultVar) (res : AV) (m' : MB) (l : Lab) (s : AS) : Prop := (l = .normal ∨ l = .ret) ∧ FinW s.mem (resL ti s rs) res ∧ ∃ m1, look s.mem 0 = some m1 ∧ MLe m1 m'
def entryW (args : List AV) (m : MB) : AS := ⟨entryEnv 0 args, [(0, m)], 1⟩
theorem call_w {C : Cx} (hT : zam C.P C.ti) (hmx : C.P.follows .mixedOrders = true) (han : C.an = true) {f : FuncId} {fn : Func} {c : Code} {args : List AV} {res : AV} {m m' : MB} (n : Nat) (hent : zbS C.P f) (hf : C.P.funcs[f]? = some fn) (hb : fn.body = some c) (hnt : fn.ntmps = C.nt) (hargs : args.length ≤ C.nt)
  (hres : Cl res) (hclm : ∀ r ∈ m'.rows, ∀ a ∈ r, Cl a) (h : ex C n [.code c] (entryW args m) (EndsW C.ti fn.results.toList res m')) (hpn : C.pn = false := by rfl) (hkp : C.kp = [] := by rfl) : CallW C.P C.G f args m res m' := by
 refine ⟨hent, hclm, fun S w vs k0 hS hgs hsz hm hr => ?_⟩
 obtain ⟨k', c0, e0, m1, _, m3, m4, m5, m6, m7⟩ := hm
 have hk' : k' = k0 := (σ0_some m1).2
 subst hk'
 have hk0 : k' < w.heap.size := za8 m4
 refine calls_of_wp hf hb ?_
 have hlen : (vs ++ Array.replicate (fn.ntmps - vs.size) undef).size = C.nt := by simp [hnt, hsz]; omega
 have hsim : Sim ⟨fun k => k = k', C.G, some k', [], []⟩ S w C.nt (entryW args m) { tmps := vs ++ Array.replicate (fn.ntmps - vs.size) undef, defers := [] } w := by
  refine ⟨⟨rfl, fun p hp => by cases hp⟩, hlen, σ0 k', S, ⟨Bel.refl (fun g l hg => ⟨fun he => m3 (he ▸ (hgs g l hg).1), (hgs g l hg).2⟩), (fun b k h => ?_), (fun b b' k m m' _ _ h1 h2 => ?_), hS, (fun _ h => h), (fun _ h => .inl h), ⟨fun g l hg => (hgs g l hg).1, fun k hk => ?_⟩, (fun b m2 h => ?_)⟩, fun t av ht => ?_⟩
  ·obtain ⟨rfl, rfl⟩ := σ0_some h; exact ⟨Nat.zero_lt_one, hk0⟩
  ·rw [(σ0_some h1).1, (σ0_some h2).1]
  ·injection hk with hk; subst hk; rfl
  ·simp only [entryW, look] at h
   split at h
   ·rename_i hb0; injection h with h; subst h hb0
    exact .inr ⟨k', c0, e0, m1, .inr rfl, m3, m4, m5, m6, m7⟩
   ·cases h
  ·obtain ⟨_, h2⟩ := zbK args 0 t av ht
   simp only [Nat.sub_zero] at h2
   have hlt : t < vs.size := by rw [hsz]; exact (List.getElem?_eq_some_iff.1 h2).1
   exact ⟨vs[t], by simp [Array.getElem?_append, hlt], hr t _ av (by simp [hlt]) h2⟩
 let Post : Ending → World → Prop := fun e w' => Bel ⟨fun k => k = k', C.G, some k', [], []⟩ w w' ∧ ∃ x, e = .returned x ∧ Rel nσ (zf4 S w w') w' x res ∧ zjr (σ0 k') (zf4 S w w') (fun _ => True) w' 0 m'
 have fin : ∀ (e : Exit) (s : AS) (a : Act) (w' : World), (e = .normal ∨ e = .ret) → FinW s.mem (resL C.ti s fn.results.toList) res → (∃ m1, look s.mem 0 = some m1 ∧ MLe m1 m') → Sim ⟨fun k => k = k', C.G, some k', [], []⟩ S w C.nt s a w' → bodyPost C.P fn Post e a w' := fun e s a w' he hq hq2 hs => ?_
 ·have key := zbb (D := ⟨fun k => k = k', C.G, some k', [], []⟩) (S0 := S) (w0 := w) (R := bodyPost C.P fn Post) (M := fun _ _ _ => False) hT ⟨rfl, fun h => (by rw [han] at h; cases h), hkp.symm⟩ hmx n _ _ _ h _ _ hsim
   ⟨fun s a w q hs => fin _ s a w (.inl rfl) q.2.1 q.2.2 hs, fun s a w q hs => fin _ s a w (.inr rfl) q.2.1 q.2.2 hs, fun k s a w q hs => (by rcases q.1 with q | q <;> cases q), fun hp => (by rw [hpn] at hp; cases hp)⟩
  simp only [zaJ] at key
  exact wp_mono key fun e a w' q => by cases e <;> exact q
 ·obtain ⟨p, l, b, hr1, hp1, hpub, hle⟩ := hq
  obtain ⟨m2, hm2, hmle⟩ := hq2
  obtain ⟨hd, hn, σ, S', hF, hE⟩ := hs
  have hv := zch (P := C.P) hT hF hE hr1 hp1
  obtain ⟨v, hv1, hv2⟩ := hv
  have hσ : σ 0 = some k' := hF.glob.2 k' rfl
  obtain ⟨k2, c2, e2, g1, g2, g3, g4, g5, g6, g7⟩ := (hF.mem 0 m2 hm2).named hσ
  have hk2 : k2 = k' := Option.some.inj (g1.symm.trans hσ)
  subst hk2
  have grow : ∀ k, S' k → zf4 S w w' k := fun k hk => by
   rcases hF.s1 k hk with hk' | hk' | hk'
   ·exact .inl hk'
   ·exact .inr ⟨hk', hF.sbd k hk⟩
   ·have : k = k2 := hk'
    subst this; exact (g3 hk).elim
  have hsub : Fit ⟨fun k => k = k2, C.G, some k2, [], []⟩ S w σ S' (dropM 0 s.mem) (fun b => b < s.next) w' := hF.sub fun b m h => (za2 _ _ _ h).2
  have hfin : Post (.returned v) w' := by
   refine ⟨hF.below, v, rfl, ?_, ?_⟩
   ·have h1 := hle _ _ _ _ (zeP hsub hv2 hpub)
    refine (hres _ _ _ _ h1).mono (fun _ _ h => h) (fun k hk => ?_) zaF
    rcases hk with hk | ⟨b, m, hm, hσb⟩
    ·exact grow k hk
    ·obtain ⟨hne, hmb⟩ := za2 _ _ _ hm
     obtain ⟨k3, c3, e3, q1, q2, _⟩ := (hF.mem b m hmb).named hσb
     have : k3 = k := Option.some.inj (q1.symm.trans hσb)
     subst this
     rcases q2 with q2 | q2
     ·exact .inr ⟨q2, (hF.dom b _ hσb).2⟩
     ·have : k3 = k2 := q2
      subst this
      exact (hne (hF.inj b 0 k3 m m2 hmb hm2 hσb hσ)).elim
   ·obtain ⟨z1, z2, z3⟩ := hmle
    refine ⟨k2, c2, e2, rfl, trivial, fun hk => ?_, g4, fun r' hr' => ?_, by rw [z1, z2]; exact g6, fun i r' j a' hi hj => ?_⟩
    ·rcases hk with hk | ⟨hk, _⟩
     ·exact m3 hk
     ·omega
    ·obtain ⟨i, hi⟩ := List.getElem?_of_mem hr'
     obtain ⟨r, q1, q2, _⟩ := z3 i r' hi
     rw [q2, z1]; exact g5 r (List.mem_of_getElem? q1)
    ·obtain ⟨r, q1, q2, q3⟩ := z3 i r' hi
     obtain ⟨a0, q4, q5⟩ := q3 j a' hj
     obtain ⟨x, hx, hxr⟩ := g7 i r j a0 q1 q4
     refine ⟨x, by rw [z1]; exact hx, ?_⟩
     exact (hclm r' (List.mem_of_getElem? hi) a' (List.mem_of_getElem? hj) _ _ _ _ (q5 _ _ _ _ hxr)).mono (fun _ _ h => by cases h) grow zaF
  rcases he with rfl | rfl
  ·exact ⟨hd.1, v, hv1, hfin⟩
  ·exact ⟨hd.1, v, hv1, hfin⟩
def Ren0 (b : Nat) (a a' : AV) : Prop := (∃ sz row n, a = .ps b sz row n ∧ a' = .ps 0 sz row n) ∨ (∃ sz row j, a = .p b sz row j ∧ a' = .p 0 sz row j) ∨ (Cl a' ∧ Le a a')
inductive Ren0L (b : Nat) : List AV → List AV → Prop
 | nil : Ren0L b [] []
 | cons {a a' : AV} {l l' : List AV} (h : Ren0 b a a') (t : Ren0L b l l') : Ren0L b (a :: l) (a' :: l')
theorem Ren0L.get {b : Nat} {l l' : List AV} (h : Ren0L b l l') : ∀ (i : Nat) (a' : AV), l'[i]? = some a' → ∃ a, l[i]? = some a ∧ Ren0 b a a' := by
 induction h with
 | nil => intro i a' h; simp at h
 | cons h t ih =>
  intro i a' ha
  cases i with
  | zero => simp at ha; subst ha; exact ⟨_, rfl, h⟩
  | succ i => simp at ha; simpa using ih i a' ha
def Ren (b : Nat) (a a' : AV) : Prop := Ren0 b a a' ∨ ∃ l l', a = .rp l ∧ a' = .rp l' ∧ Ren0L b l l'
inductive RenL (b : Nat) : List AV → List AV → Prop
 | nil : RenL b [] []
 | cons {a a' : AV} {l l' : List AV} (h : Ren b a a') (t : RenL b l l') : RenL b (a :: l) (a' :: l')
theorem RenL.length {b : Nat} {l l' : List AV} (h : RenL b l l') : l.length = l'.length := by
 induction h with
 | nil => rfl
 | cons _ _ ih => simp [ih]
theorem RenL.get {b : Nat} {l l' : List AV} (h : RenL b l l') : ∀ (i : Nat) (a' : AV), l'[i]? = some a' → ∃ a, l[i]? = some a ∧ Ren b a a' := by
 induction h with
 | nil => intro i a' h; simp at h
 | cons h t ih =>
  intro i a' ha
  cases i with
  | zero => simp at ha; subst ha; exact ⟨_, rfl, h⟩
  | succ i => simp at ha; simpa using ih i a' ha
theorem Ren.ps (b sz row n : Nat) : Ren b (.ps b sz row n) (.ps 0 sz row n) := .inl (.inl ⟨_, _, _, rfl, rfl⟩)
theorem Ren.cl {b : Nat} {a : AV} (h : Cl a) : Ren b a a := .inl (.inr (.inr ⟨h, .refl _⟩))
theorem Ren.box (b sz row n : Nat) : Ren b (.rp [.ps b sz row n]) (.rp [.ps 0 sz row n]) := .inr ⟨_, _, rfl, rfl, .cons (.inl ⟨_, _, _, rfl, rfl⟩) .nil⟩
theorem zlD {σ : Sig} {S : Nat → Prop} {w : World} {b k0 : Nat} (hσ : σ b = some k0) {x : Value} {a a' : AV} (hr : Rel σ S w x a) (h : Ren0 b a a') : Rel (σ0 k0) S w x a' := by
 rcases h with ⟨sz, row, n, rfl, rfl⟩ | ⟨sz, row, j, rfl, rfl⟩ | ⟨h1, h2⟩
 ·cases hr with
  | @ps _ k _ _ _ _ _ h hn ho hs =>
   have : k = k0 := Option.some.inj (h.symm.trans hσ)
   subst this
   exact .ps rfl hn ho hs
  | ps0 => exact .ps0
 ·cases hr with
  | @p _ k _ _ _ h =>
   have : k = k0 := Option.some.inj (h.symm.trans hσ)
   subst this
   exact .p rfl
 ·exact (h1 _ _ _ _ (h2 _ _ _ _ hr)).mono (fun _ _ h => by cases h) (fun _ h => h) zaF
theorem ren_rel {σ : Sig} {S : Nat → Prop} {w : World} {b k0 : Nat} (hσ : σ b = some k0) {x : Value} {a a' : AV} (hr : Rel σ S w x a) (h : Ren b a a') : Rel (σ0 k0) S w x a' := by
 rcases h with h | ⟨l, l', rfl, rfl, h⟩
 ·exact zlD hσ hr h
 ·cases hr with
  | rp c hk hcell hr =>
   refine .rp c hk (fun j av hj => ?_) (fun j av hj => ?_)
   ·obtain ⟨a0, h1, _⟩ := h.get j av hj
    exact hcell j a0 h1
   ·obtain ⟨a0, h1, h2⟩ := h.get j av hj
    exact zlD hσ (hr j a0 h1) h2
theorem zmS {C : Cx} {s : AS} {g : FuncId} {as args : List AV} {res : AV} {m m' : MB} (b : Nat) (hm : look s.mem b = some m) (h0 : 0 < m.rows.length) (hcm : ∀ r ∈ m.rows, ∀ a ∈ r, Cl a) (has : RenL b as args) (h : CallW C.P C.G g args m res m') :
  CallRc C s g as ⟨res, .set b m', some b, some b⟩ := by
 intro D S0 w0 σ S U env a w vs hG _ hF hE hsz hr
 obtain ⟨k0, c, e, g1, g2, g3, g4, g5, g6, g7⟩ := (hF.mem b m hm).row h0
 have hk0 : k0 < w.heap.size := za8 g4
 refine (h.runs S w vs k0 hF.sbd (by rw [← hG.1]; exact hF.gs) (by rw [hsz, has.length]) ⟨k0, c, e, rfl, trivial, g3, g4, g5, g6, fun i r j av hi hj => ?_⟩ (fun i x av hx hav => ?_)).mono fun e' w' hw => ?_
 ·obtain ⟨x, hx, hxr⟩ := g7 i r j av hi hj
  exact ⟨x, hx, (hcm r (List.mem_of_getElem? hi) av (List.mem_of_getElem? hj) _ _ _ _ hxr).mono (fun _ _ h => by cases h) (fun _ h => h) zaF⟩
 ·obtain ⟨a0, ha, hra⟩ := has.get i av hav
  exact ren_rel g1 (hr i x a0 hx ha) hra
 obtain ⟨hb, x, rfl, hx, k1, c1, e1, q1, _, q3, q4, q5, q6, q7⟩ := hw
 have hk1 : k1 = k0 := (σ0_some q1).2
 subst hk1
 have same : ∀ k, k < w.heap.size → k ≠ k1 → w'.heap[k]? = w.heap[k]? := fun k hk hne => hb.block k hk hne
 have hke : Keeps σ S w w' := ⟨fun k hk => same k (hF.sbd k hk) (fun he => g3 (he ▸ hk)), fun b1 k c2 e2 f2 hs hc => by
  by_cases hk : k = k1
  ·exact hb.kept k c2 e2 f2 hk hc
  ·exact ⟨c2, e2, f2, by rw [same k (za8 hc) hk]; exact hc, Nat.le_refl _⟩⟩
 have names : ∀ c2 mc, look ((b, m') :: s.mem) c2 = some mc → (c2 = b ∧ mc = m') ∨ (c2 ≠ b ∧ look s.mem c2 = some mc) := fun c2 mc hl => by
  simp only [look] at hl
  split at hl
  ·rename_i he; injection hl with hl; exact .inl ⟨he.symm, hl.symm⟩
  ·rename_i he; exact .inr ⟨fun e => he e.symm, hl⟩
 have old : ∀ c2 mc, look ((b, m') :: s.mem) c2 = some mc → ∃ mc0, look s.mem c2 = some mc0 := fun c2 mc hl => by
  rcases names c2 mc hl with ⟨rfl, _⟩ | ⟨_, h⟩
  ·exact ⟨m, hm⟩
  ·exact ⟨mc, h⟩
 have up : ∀ {x : Value} {av : AV}, Rel σ S w x av → Rel σ (zf4 S w w') w' x av := fun hr => hr.mono (fun _ _ h => h) (fun _ h => .inl h) hke
 refine .inl ⟨x, rfl, σ, zf4 S w w', ⟨⟨hb.os.trans hF.below.os, hb.tape.trans hF.below.tape, hb.output.trans hF.below.output, Nat.le_trans hF.below.size hb.size, fun k hk hd => ?_, fun k c2 e2 f2 hd hc => ?_, hF.below.glob⟩, fun b1 k hs => ⟨(hF.dom b1 k hs).1, Nat.lt_of_lt_of_le (hF.dom b1 k hs).2 hb.size⟩,
   fun b1 b2 k m1 m2 h1 h2 h3 h4 => ?_, fun k hk => ?_, fun k hk => .inl (hF.s0 k hk), fun k hk => ?_, ⟨fun g l hg => .inl (hF.glob.1 g l hg), hF.glob.2⟩, fun c2 mc hl => ?_⟩, fun t av ht => ?_, hx.mono (fun _ _ h => by cases h) (fun _ h => h) zaF⟩
 ·have hne : k ≠ k1 := fun he => by
   subst he
   rcases g2 with g2 | g2
   ·omega
   ·exact hd g2
  rw [same k (Nat.lt_of_lt_of_le hk hF.below.size) hne]
  exact hF.below.block k hk hd
 ·obtain ⟨c3, e3, r1, r2⟩ := hF.below.keptF k c2 e2 f2 hd hc
  by_cases hk : k = k1
  ·obtain ⟨c4, e4, r3, r4⟩ := hb.keptF k c3 e3 f2 hk r1
   exact ⟨c4, e4, r3, Nat.le_trans r2 r4⟩
  ·exact ⟨c3, e3, by rw [same k (za8 r1) hk]; exact r1, r2⟩
 ·obtain ⟨n1, h1⟩ := old _ _ h1
  obtain ⟨n2, h2⟩ := old _ _ h2
  exact hF.inj b1 b2 k n1 n2 h1 h2 h3 h4
 ·rcases hk with hk | hk
  ·exact Nat.lt_of_lt_of_le (hF.sbd k hk) hb.size
  ·exact hk.2
 ·rcases hk with hk | hk
  ·exact hF.s1 k hk
  ·exact .inr (.inl (Nat.le_trans hF.below.size hk.1))
 ·rcases names c2 mc hl with ⟨rfl, rfl⟩ | ⟨hne, hl⟩
  ·refine .inr ⟨k1, c1, e1, g1, g2, q3, q4, q5, q6, fun i r j av hi hj => ?_⟩
   obtain ⟨y, hy, hyr⟩ := q7 i r j av hi hj
   exact ⟨y, hy, (h.clm r (List.mem_of_getElem? hi) av (List.mem_of_getElem? hj) _ _ _ _ hyr).mono (fun _ _ h => by cases h) (fun _ h => h) zaF⟩
  ·rcases hF.mem c2 mc hl with hn | ⟨k, c3, e3, r1, r2, r3, r4, r5, r6, r7⟩
   ·exact .inl hn
   ·have hkne : k ≠ k1 := fun he => hne (hF.inj c2 b k mc m hl hm r1 (he ▸ g1))
    refine .inr ⟨k, c3, e3, r1, r2, fun hk => ?_, by rw [same k (za8 r4) hkne]; exact r4, r5, r6, fun i r j av hi hj => ?_⟩
    ·rcases hk with hk | hk
     ·exact r3 hk
     ·have := za8 r4; omega
    ·obtain ⟨y, hy, hyr⟩ := r7 i r j av hi hj
     exact ⟨y, hy, up hyr⟩
 ·obtain ⟨y, hy, hyr⟩ := hE t av ht
  exact ⟨y, hy, up hyr⟩
section
variable {C : Cx} {n : Nat} {r : List It} {s : AS} {Q : Lab → AS → Prop} {d : Option Tmp}
theorem endsW_ret {ti : zaN} {rs : List ResultVar} {res : AV} {m' : MB} : EndsW ti rs res m' .ret s = (FinW s.mem (resL ti s rs) res ∧ ∃ m1, look s.mem 0 = some m1 ∧ MLe m1 m') := by simp [EndsW]
theorem zdx {mem : List (Nat × MB)} {p : Prop} {l : List AV} {res : AV} {m1 m' : MB} (hp : p) (h : one l = res) (hm : MLe m1 m') : FinW mem (some (p, l)) res ∧ ∃ m2, some m1 = some m2 ∧ MLe m2 m' := ⟨⟨p, l, res, rfl, hp, by rw [h]; exact .same, .refl _⟩, m1, rfl, hm⟩
end
def veq : Value → Value → Bool
 | .int _ a, .int _ b => decide (a = b)
 | .bool a, .bool b => decide (a = b)
 | _, _ => false
def fitK : Bool → Value → Value → Bool
 | true, .int j _, .int k _ => decide (j = k)
 | false, .bool _, .bool _ => true
 | _, _, _ => false
def veqs : List Value → List Value → Bool
 | [], [] => true
 | x :: xs, y :: ys => veq x y && veqs xs ys
 | _, _ => false
def zdh : List Bool → List Value → List Value → Bool
 | [], [], [] => true
 | k :: ks, x :: xs, y :: ys => fitK k x y && zdh ks xs ys
 | _, _, _ => false
def zcM (f : TypeId → Option (List Bool)) (size : TypeId → Nat) : Nat → List Field → Option (List Bool)
 | _, [] => some []
 | off, fd :: fs => match f fd.type, zcM f size (off + size fd.type) fs with
  | some a, some b => if (fd.name ≠ "_" ∧ fd.offset = off) ∧ a.length = size fd.type then some (a ++ b) else none
  | _, _ => none
def zca (P : Program) : Nat → TypeId → Option (List Bool)
 | 0, _ => none
 | d + 1, t => match P.underlying t with
  | some (.int _) => if P.cellsOf t = 1 then some [true] else none
  | some .bool => if P.cellsOf t = 1 then some [false] else none
  | some (.struct fs) => if P.stoodInHeld t = false then (match zcM (zca P d) P.cellsOf 0 fs.toList with | some ks => if ks.length = P.cellsOf t then some ks else none | none => none) else none
  | _ => none
theorem beq_decI (a b : Int) : (a == b) = decide (a = b) := by by_cases hab : a = b <;> simp [hab]
theorem beq_decB (a b : Bool) : (a == b) = decide (a = b) := by cases a <;> cases b <;> rfl
theorem zhU : ∀ (a b c d : List Value), a.length = b.length → veqs (a ++ c) (b ++ d) = (veqs a b && veqs c d)
 | [], [], c, d, _ => by simp [veqs]
 | x :: a, y :: b, c, d, h => by simp only [List.cons_append, veqs, zhU a b c d (by simpa using h), Bool.and_assoc]
 | [], _ :: _, _, _, h => by simp at h
 | _ :: _, [], _, _, h => by simp at h
theorem zfv : ∀ {ks : List Bool} {a b : List Value}, zdh ks a b = true → a.length = ks.length ∧ b.length = ks.length
 | [], [], [], _ => ⟨rfl, rfl⟩
 | k :: ks, x :: a, y :: b, h => by
  simp only [zdh, Bool.and_eq_true] at h
  obtain ⟨h1, h2⟩ := zfv h.2
  exact ⟨by simp [h1], by simp [h2]⟩
 | [], _ :: _, _, h => by simp [zdh] at h
 | [], [], _ :: _, h => by simp [zdh] at h
 | _ :: _, [], _, h => by simp [zdh] at h
 | _ :: _, _ :: _, [], h => by simp [zdh] at h
theorem zhf : ∀ {ks ls : List Bool} {a b : List Value}, zdh (ks ++ ls) a b = true → zdh ks (a.take ks.length) (b.take ks.length) = true ∧ zdh ls (a.drop ks.length) (b.drop ks.length) = true
 | [], ls, a, b, h => by simpa [zdh] using h
 | k :: ks, ls, [], b, h => by simp [zdh] at h
 | k :: ks, ls, _ :: _, [], h => by simp [zdh] at h
 | k :: ks, ls, x :: a, y :: b, h => by
  simp only [List.cons_append, zdh, Bool.and_eq_true] at h
  obtain ⟨h1, h2⟩ := zhf h.2
  simp only [List.length_cons, List.take_succ_cons, List.drop_succ_cons, zdh, Bool.and_eq_true]
  exact ⟨⟨h.1, h1⟩, h2⟩
section
variable {P : Program}
def zb8 (P : Program) (t : TypeId) (cs : List Value) : Value := match P.underlying t with | some (.struct _) => .agg cs.toArray | _ => cs.headD undef
theorem zfs {t : TypeId} {d : TypeDesc} (h : P.underlying t = some d) : ∃ i, P.info? t = some i := by
 unfold Program.underlying at h
 cases hq : P.info? t with
 | none => simp [hq] at h
 | some i => exact ⟨i, rfl⟩
theorem zlz (d : Nat) (t : TypeId) (ks : List Bool) (hk : zca P d t = some ks) (hlen : ks.length = P.cellsOf t) (cs : List Value) (off : Nat) (w : World) (hle : off + P.cellsOf t ≤ cs.length) :
  (part t cs.toArray off).run P w = .ok (zb8 P t ((cs.drop off).take (P.cellsOf t))) w := by
 cases d with
 | zero => simp [zca] at hk
 | succ d =>
  simp only [zca] at hk
  have one : P.cellsOf t = 1 → (∀ fs, P.underlying t ≠ some (.struct fs)) → (isAgg t).run P w = .ok false w → (part t cs.toArray off).run P w = .ok (zb8 P t ((cs.drop off).take (P.cellsOf t))) w := fun h1 hns hag => by
   have hlt : off < cs.length := by omega
   have e : zb8 P t ((cs.drop off).take 1) = cs[off] := by
    have e0 : (cs.drop off).take 1 = [cs[off]] := by rw [List.drop_eq_getElem_cons hlt, List.take_succ_cons, List.take_zero]
    rw [e0]
    unfold zb8
    split
    ·rename_i fs hq; exact (hns _ hq).elim
    ·rfl
   rw [h1, e]
   simp [part, hag, hlt]
  split at hk
  ·rename_i k hu
   split at hk
   ·rename_i h1; exact one h1 (fun fs h => by rw [hu] at h; cases h) (by simp [isAgg, run_underlying hu])
   ·cases hk
  ·rename_i hu
   split at hk
   ·rename_i h1; exact one h1 (fun fs h => by rw [hu] at h; cases h) (by simp [isAgg, run_underlying hu])
   ·cases hk
  ·rename_i fs hu
   obtain ⟨i, hi⟩ := zfs hu
   have hs : P.cellsOf t = i.size := by simp [Program.cellsOf, hi]
   have e : zb8 P t ((cs.drop off).take (P.cellsOf t)) = .agg (cs.toArray.extract off (off + i.size)) := by
    unfold zb8
    rw [hu]
    simp only
    congr 1
    apply Array.ext'
    simp [hs, List.take_drop]
   rw [e]
   simp [part, isAgg, run_underlying hu, Go.sizeOf, typeInfo, hi]
  ·cases hk
theorem zoQ : ∀ (d : Nat) (t : TypeId) (ks : List Bool), zca P d t = some ks → ks.length = P.cellsOf t ∧ ∀ (xs ys : List Value) (w : World) (e : Nat), d ≤ e → zdh ks xs ys = true →
  (Op.equalIn (e + 1) t (zb8 P t xs) (zb8 P t ys)).run P w = .ok (veqs xs ys) w
 | 0, t, ks, h => by simp [zca] at h
 | d + 1, t, ks, h => by
  have h' := h
  simp only [zca] at h
  split at h
  ·rename_i k hu
   split at h
   ·rename_i h1
    injection h with h; subst h
    refine ⟨by simp [h1], fun xs ys w e he hf => ?_⟩
    obtain ⟨l1, l2⟩ := zfv hf
    match xs, ys, l1, l2 with
    | [x], [y], _, _ =>
     simp only [zdh, Bool.and_true] at hf
     cases x <;> cases y <;> simp [fitK] at hf
     subst hf
     simp [zb8, hu, run_equalIn_int w e t _ k _ _ hu, veqs, veq, beq_decI]
   ·cases h
  ·rename_i hu
   split at h
   ·rename_i h1
    injection h with h; subst h
    refine ⟨by simp [h1], fun xs ys w e he hf => ?_⟩
    obtain ⟨l1, l2⟩ := zfv hf
    match xs, ys, l1, l2 with
    | [x], [y], _, _ =>
     simp only [zdh, Bool.and_true] at hf
     cases x <;> cases y <;> simp [fitK] at hf
     simp [zb8, hu, run_equalIn_bool' w e t _ _ hu, veqs, veq, beq_decB]
   ·cases h
  ·rename_i fs hu
   split at h
   ·rename_i hst
    split at h
    ·rename_i ks' hks
     split at h
     ·rename_i hlen
      injection h with h; subst h
      refine ⟨hlen, fun xs ys w e he hf => ?_⟩
      obtain ⟨e, rfl⟩ : ∃ e', e = e' + 1 := ⟨e - 1, by omega⟩
      have hof : P.fieldsOf t = fs := by simp [Program.fieldsOf, hu]
      have e0 : ∀ zs, zb8 P t zs = .agg zs.toArray := fun zs => by unfold zb8; rw [hu]
      rw [e0, e0, run_equalIn_struct w (e + 1) t _ _ (by rw [hof]; exact hu) hst, hof]
      have key : ∀ (l : List Field) (off : Nat) (ks : List Bool), zcM (zca P d) P.cellsOf off l = some ks → off + ks.length = xs.length → off + ks.length = ys.length → zdh ks (xs.drop off) (ys.drop off) = true →
        (Op.eqFields (e + 1) xs.toArray ys.toArray l).run P w = .ok (veqs (xs.drop off) (ys.drop off)) w := by
       intro l
       induction l with
       | nil =>
        intro off ks hk h1 h2 hf
        simp only [zcM, Option.some.injEq] at hk
        subst hk
        have q1 : xs.drop off = [] := by apply List.drop_eq_nil_of_le; simp at h1; omega
        have q2 : ys.drop off = [] := by apply List.drop_eq_nil_of_le; simp at h2; omega
        simp [Op.eqFields, q1, q2, veqs]
       | cons fd l ih =>
        intro off ks hk h1 h2 hf
        simp only [zcM] at hk
        split at hk
        ·rename_i a b ha hb
         split at hk
         ·rename_i hc
          obtain ⟨⟨hn, ho⟩, hl⟩ := hc
          injection hk with hk; subst hk
          obtain ⟨_, ihe⟩ := zoQ d fd.type a ha
          simp only [List.length_append] at h1 h2
          obtain ⟨f1, f2⟩ := zhf hf
          rw [List.drop_drop, List.drop_drop] at f2
          have hx := zlz d fd.type a ha hl xs off w (by omega)
          have hy := zlz d fd.type a ha hl ys off w (by omega)
          have hi := ih (off + P.cellsOf fd.type) b hb (by omega) (by omega) (by rw [← hl]; exact f2)
          have heq := ihe ((xs.drop off).take (P.cellsOf fd.type)) ((ys.drop off).take (P.cellsOf fd.type)) w e (by omega) (by rw [← hl]; exact f1)
          have hsp : veqs (xs.drop off) (ys.drop off) = (veqs ((xs.drop off).take (P.cellsOf fd.type)) ((ys.drop off).take (P.cellsOf fd.type)) && veqs (xs.drop (off + P.cellsOf fd.type)) (ys.drop (off + P.cellsOf fd.type))) := by
           rw [← List.drop_drop, ← List.drop_drop, ← zhU _ _ _ _ (by simp; omega), List.take_append_drop, List.take_append_drop]
          simp only [Op.eqFields]
          rw [if_pos hn, ho]
          simp only [Sem.run_bind, hx, Result.andThen_ok, hy, heq]
          rw [hsp]
          cases veqs ((xs.drop off).take (P.cellsOf fd.type)) ((ys.drop off).take (P.cellsOf fd.type)) with
          | false => simp
          | true => simp [hi]
         ·cases hk
        ·cases hk
      obtain ⟨l1, l2⟩ := zfv hf
      have := key fs.toList 0 ks' hks (by omega) (by omega) (by simpa using hf)
      simpa using this
     ·cases h
    ·cases h
   ·cases h
  ·cases h
end
def vals : List AV → List Value
 | [] => []
 | .v x :: l => x :: vals l
 | _ :: l => undef :: vals l
def zms : List AV → Bool
 | [] => true
 | .v _ :: l => zms l
 | _ :: _ => false
structure EqTy (P : Program) (t : TypeId) (ks : List Bool) : Prop where
 st : ∃ fs, P.underlying t = some (.struct fs)
 flat : zca P 8 t = some ks
 guard : P.eqGuardType P.depth t = false
theorem ziy {σ : Sig} {S : Nat → Prop} {w : World} : ∀ (l : List AV) (cs : List Value), zms l = true → cs.length = l.length → (∀ (i : Nat) (y : Value) (av : AV), cs[i]? = some y → l[i]? = some av → Rel σ S w y av) → cs = vals l
 | [], [], _, _, _ => rfl
 | [], _ :: _, _, h, _ => by simp at h
 | _ :: _, [], _, h, _ => by simp at h
 | .v x :: l, c :: cs, ha, hl, hr => by
  have h0 := zdZ (hr 0 c (.v x) rfl rfl)
  subst h0
  simp only [vals]
  rw [← ziy l cs (by simpa [zms] using ha) (by simpa using hl) (fun i y av hy hav => hr (i + 1) y av (by simpa using hy) (by simpa using hav))]
 | .p .. :: _, _ :: _, ha, _, _ => by simp [zms] at ha
 | .ps .. :: _, _ :: _, ha, _, _ => by simp [zms] at ha
 | .rp .. :: _, _ :: _, ha, _, _ => by simp [zms] at ha
 | .sl .. :: _, _ :: _, ha, _, _ => by simp [zms] at ha
 | .agg .. :: _, _ :: _, ha, _, _ => by simp [zms] at ha
 | .tup .. :: _, _ :: _, ha, _, _ => by simp [zms] at ha
 | .fn .. :: _, _ :: _, ha, _, _ => by simp [zms] at ha
section
variable {C : Cx} {s : AS} {o : Oper}
theorem eq_run {t t' : TypeId} {x y : Operand} {l m : List AV} {ks : List Bool} (op : BinOp) (f : Bool → Bool) (hf : (op = .eql ∧ f = id) ∨ (op = .neq ∧ f = not)) (ho : o.op = .binOp op t x y t') (hx : ev s x = some (.agg l)) (hy : ev s y = some (.agg m)) (ht : EqTy C.P t ks)
  (hl : zms l = true) (hm : zms m = true) (hk : zdh ks (vals l) (vals m) = true) : zjq C s o (.v (.bool (f (veqs (vals l) (vals m))))) := by
 intro σ S a w _ _ hops
 obtain ⟨cs, h1, h2, h3⟩ := zeO (hops x (by rw [ho]; simp [Op.operands]) _ hx)
 obtain ⟨ds, g1, g2, g3⟩ := zeO (hops y (by rw [ho]; simp [Op.operands]) _ hy)
 have e1 := ziy l cs.toList hl (by simpa using h2) (fun i y av hy hav => h3 i y av (by simpa using hy) hav)
 have e2 := ziy m ds.toList hm (by simpa using g2) (fun i y av hy hav => g3 i y av (by simpa using hy) hav)
 obtain ⟨fs, hfs⟩ := ht.st
 obtain ⟨_, hq⟩ := zoQ 8 t ks ht.flat
 have hrun := hq (vals l) (vals m) w 9999 (by omega) hk
 have eo : ∀ zs, zb8 C.P t zs = .agg zs.toArray := fun zs => by unfold zb8; rw [hfs]
 rw [eo, eo, ← e1, ← e2] at hrun
 simp only [Array.toArray_toList] at hrun
 have hrun' : (Op.equal t (.agg cs) (.agg ds)).run C.P w = .ok (veqs cs.toList ds.toList) w := hrun
 refine ⟨.bool (f (veqs cs.toList ds.toList)), w, ?_, Below.refl _ _, by rw [e1, e2]; exact .v _⟩
 have hg := run_eqGuard_agg (P := C.P) w op t x y cs ds ht.guard
 rcases hf with ⟨rfl, rfl⟩ | ⟨rfl, rfl⟩
 ·simp [execOp, ho, h1, g1, hg, binOp, hrun']
 ·simp [execOp, ho, h1, g1, hg, binOp, hrun']
theorem ziG {t t' : TypeId} {x y : Operand} {l m : List AV} {ks : List Bool} (ht : EqTy C.P t ks) (ho : o.op = .binOp .neq t x y t') (hx : ev s x = some (.agg l)) (hy : ev s y = some (.agg m))
  (hl : zms l = true) (hm : zms m = true) (hk : zdh ks (vals l) (vals m) = true) : zjq C s o (.v (.bool (!veqs (vals l) (vals m)))) := eq_run .neq not (.inr ⟨rfl, rfl⟩) ho hx hy ht hl hm hk
end
theorem w64 {x : Int} (h : -9223372036854775808 ≤ x ∧ x ≤ 9223372036854775807) : IntKind.i64.wrap x = x := IntWalk.i64_in x h
theorem w64l {x : Int} (h : (decide (-9223372036854775808 ≤ x) && decide (x ≤ 9223372036854775807)) = true) : IntKind.i64.wrap x = x := w64 (by simpa using h)
theorem wu64 {x : Int} (h : 0 ≤ x ∧ x ≤ 18446744073709551615) : IntKind.u64.wrap x = x := IntWalk.u64_in x h
theorem wu32 {x : Int} (h : 0 ≤ x ∧ x ≤ 4294967295) : IntKind.u32.wrap x = x := IntWalk.u32_in x h
def aRows (s : AS) (sz : Nat) : Nat → List (Nat × Operand) → Option (List (List AV))
 | _, [] => some []
 | k, (i, x) :: l => match ev s x, aRows s sz (k + 1) l with
  | some a, some rs => if i = k ∧ a.cells.length = sz ∧ a.cells.all AV.one then some (a.cells :: rs) else none
  | _, _ => none
def aLit (ti : zaN) (s : AS) (t : TypeId) (len : Nat) (parts : List (Nat × Operand)) : Option (Nat × List (List AV)) :=
 match ti t with
 | some ⟨_, _, _, .slc e⟩ => match ti e with
  | some z => if 0 < z.size ∧ 0 < len ∧ len * z.size ≤ 16777216 ∧ parts.length = len then (match aRows s z.size 0 parts with | some rs => some (z.size, rs) | none => none) else none
  | none => none
 | _ => none
theorem zkv {s : AS} {sz : Nat} : ∀ (k : Nat) (l : List (Nat × Operand)) (rows : List (List AV)), aRows s sz k l = some rows → rows.length = l.length ∧ ∀ r ∈ rows, r.length = sz
 | _, [], rows, h => by simp only [aRows, Option.some.injEq] at h; subst h; exact ⟨rfl, fun r hr => by cases hr⟩
 | k, (i, x) :: l, rows, h => by
  simp only [aRows] at h
  split at h
  ·rename_i a rs ha hrs
   split at h
   ·rename_i hc
    injection h with h; subst h
    obtain ⟨h1, h2⟩ := zkv (k + 1) l rs hrs
    refine ⟨by simp [h1], fun r hr => ?_⟩
    rcases List.mem_cons.1 hr with rfl | hr
    ·exact hc.2.1
    ·exact h2 r hr
   ·cases h
  ·cases h
theorem zis {s : AS} {sz : Nat} : ∀ (k : Nat) (l : List (Nat × Operand)) (rows : List (List AV)), aRows s sz k l = some rows →
  ∃ m, placed (fun i => some (i * sz, sz)) s l = some m ∧ ∀ pre mid : List AV, pre.length = k * sz → mid.length = rows.length * sz → fillA (pre ++ mid) m = some (pre ++ rows.flatten)
 | _, [], rows, h => by
  simp only [aRows, Option.some.injEq] at h; subst h
  refine ⟨[], rfl, fun pre mid _ hm => ?_⟩
  have : mid = [] := List.length_eq_zero_iff.1 (by simpa using hm)
  subst this
  simp [fillA]
 | k, (i, x) :: l, rows, h => by
  simp only [aRows] at h
  split at h
  ·rename_i a rs ha hrs
   split at h
   ·rename_i hc
    injection h with h; subst h
    obtain ⟨rfl, hlen, hone⟩ := hc
    obtain ⟨m, h1, h2⟩ := zis (i + 1) l rs hrs
    refine ⟨(i * sz, sz, a) :: m, by simp [placed, ha, h1], fun pre mid hp hm => ?_⟩
    have hm' : sz ≤ mid.length := by rw [hm, List.length_cons, Nat.add_mul, Nat.one_mul]; omega
    have e1 : (pre ++ mid).take (i * sz) = pre := by rw [← hp]; simp
    have e2 : (pre ++ mid).drop (i * sz + sz) = mid.drop sz := by rw [← hp, List.drop_append, List.drop_eq_nil_of_le (by omega)]; simp
    simp only [fillA]
    rw [if_pos ⟨hlen, by simp; omega, hone⟩, e1, e2]
    rw [h2 (pre ++ a.cells) (mid.drop sz) (by simp [hp, hlen, Nat.add_mul]) (by simp [hm, Nat.add_mul])]
    simp
   ·cases h
  ·cases h
theorem zhe {sz : Nat} : ∀ (rows : List (List AV)), (∀ r ∈ rows, r.length = sz) → ∀ (i : Nat) (r : List AV) (j : Nat) (av : AV), rows[i]? = some r → r[j]? = some av → rows.flatten[i * sz + j]? = some av
 | [], _, i, r, j, av, h, _ => by simp at h
 | r0 :: rows, hl, i, r, j, av, hi, hj => by
  have h0 := hl r0 (List.mem_cons_self ..)
  cases i with
  | zero =>
   simp at hi; subst hi
   have hlt : j < r0.length := (List.getElem?_eq_some_iff.1 hj).1
   simp only [List.flatten_cons, Nat.zero_mul, Nat.zero_add]
   rw [List.getElem?_append_left hlt]; exact hj
  | succ i =>
   simp at hi
   simp only [List.flatten_cons]
   rw [List.getElem?_append_right (by rw [h0, Nat.add_mul]; omega), h0, show (i + 1) * sz + j - sz = i * sz + j by rw [Nat.add_mul]; omega]
   exact zhe rows (fun r hr => hl r (List.mem_cons_of_mem _ hr)) i r j av hi hj
section
variable {C : Cx} {s : AS} {o : Oper}
theorem znw (hT : zam C.P C.ti) {t : TypeId} {len : Nat} {parts : Array (Nat × Operand)} (ho : o.op = .buildSlice t len parts) {sz : Nat} {rows : List (List AV)} (h : aLit C.ti s t len parts.toList = some (sz, rows)) : zjq C s o (.sl sz rows) := by
 intro σ S a w hS _ hops
 unfold aLit at h
 split at h
 ·rename_i _ _ _ e hy
  split at h
  ·rename_i z hz
   split at h
   ·rename_i hc
    split at h
    ·rename_i rs hrs
     injection h with h; injection h with h1 h2; subst h1 h2
     obtain ⟨hsz, hlen, hmax, hpl⟩ := hc
     obtain ⟨i, d, h1, h2, h3, h4, h5, _⟩ := zag hT hy
     have hd := zbU h5
     subst hd
     obtain ⟨i', d', g1, g2, g3, _, _, ⟨zv, hz1, hz2, _⟩, _⟩ := zag hT hz
     obtain ⟨hrl, hrw⟩ := zkv 0 parts.toList rs hrs
     obtain ⟨m, m1, m2⟩ := zis 0 parts.toList rs hrs
     have hn : len * z.size ≠ 0 := Nat.mul_ne_zero (by omega) (by omega)
     generalize hc0 : (Array.range (len * z.size)).map (fun j => zv.cells[j % zv.cells.size]!) = c0
     have hc0s : c0.size = len * z.size := by rw [← hc0]; simp
     have m3 := m2 [] (c0.toList.map AV.v) (by simp) (by simp [hc0s, hrl, hpl])
     obtain ⟨cs', k1, k2, k3⟩ := zfY (σ := σ) (S := S) (w := w) (a := a) _ (fun i => some (i * z.size, z.size)) (fun i q hq => hq) parts.toList m c0 _ _ (fun p hp b hb => hops p.2 (by rw [ho]; simp only [Op.operands]; exact List.mem_map.2 ⟨p, hp, rfl⟩) b hb) m1 m3 (by simp) (fun i y av hy hav => by
      simp only [List.nil_append, List.getElem?_map] at hav
      obtain ⟨x, hx, rfl⟩ := Option.map_eq_some_iff.1 hav
      have : c0[i]? = some x := by simpa using hx
      rw [this] at hy; injection hy with hy; subst hy; exact .v _)
     simp only [List.nil_append] at k2 k3
     have hpar : (parts.map fun (p : Nat × Operand) => (p.1, a.eval p.2)).toList = parts.toList.map fun (p : Nat × Operand) => (p.1, a.eval p.2) := by simp
     have hb : Below w.heap.size w (w.alloc (.cells cs' e)) := (Below.refl _ w).alloc (Nat.le_refl _) _
     refine ⟨.slice (some ⟨w.heap.size, 0, none⟩) len len, w.alloc (.cells cs' e), ?_, hb, ?_⟩
     ·have hgt : ¬ (len * z.size > 2 ^ 24) := by omega
      simp only [execOp, ho, Instr.buildSlice, Sem.run_bind, run_underlying h2, Result.andThen_ok, zaw g1, g3, hgt, if_false, hn, zaT g1 hz1, Sem.run_pure, hc0, hpar, k1]
      rfl
     ·have hkeep : Keeps σ S w (w.alloc (.cells cs' e)) := ⟨fun k hk => zcC w _ (hS k hk), fun b k c e' f _ hc => ⟨c, e', f, by rw [zcC w _ (Array.getElem?_eq_some_iff.1 hc).1]; exact hc, Nat.le_refl _⟩⟩
      have cell : ∀ (i : Nat) (r : List AV) (j : Nat) (av : AV), rs[i]? = some r → r[j]? = some av → ∃ x, cs'[i * z.size + j]? = some x ∧ Rel σ S w x av := fun i r j av hi hj => by
       have hf := zhe rs hrw i r j av hi hj
       have hlt : i * z.size + j < cs'.size := by rw [k2]; exact (List.getElem?_eq_some_iff.1 hf).1
       exact ⟨cs'[i * z.size + j], by simp [hlt], k3 _ _ av (by simp [hlt]) hf⟩
      have key := Rel.sl (σ := σ) (S := zf4 S w (w.alloc (.cells cs' e))) (w := w.alloc (.cells cs' e)) (k := w.heap.size) (off := 0) (cap := len) (sz := z.size) (rows := rs) (fun i j => (cs'[i * z.size + j]?).getD undef) (.inr ⟨Nat.le_refl _, by simp⟩) (by omega) hrw
       (fun i r j av hi hj => by
        obtain ⟨x, hx, _⟩ := cell i r j av hi hj
        rw [hx, show (0 + i * z.size + j) = i * z.size + j by omega]
        unfold World.cell?
        simp only [zbc]
        simpa using hx)
       (fun i r j av hi hj => by
        obtain ⟨x, hx, hr⟩ := cell i r j av hi hj
        rw [hx]
        exact hr.mono (fun _ _ h => h) (fun _ h => .inl h) hkeep)
      rw [show rs.length = len by omega] at key
      exact key
    ·cases h
   ·cases h
  ·cases h
 ·cases h
end
section
variable {C : Cx} {n : Nat} {r : List It} {s : AS} {Q : Lab → AS → Prop} {d : Option Tmp} {all l : List Oper} {fps : List FP} {fp : FP} {t u : TypeId} {len : Nat} {parts : List (Nat × Operand)} {pos : String} {af : Array Edge} {g : Option (Nat × Bool)}
def zfQ (C : Cx) (n : Nat) (r : List It) (s : AS) (Q : Lab → AS → Prop) (d : Option Tmp) (e : Option (Nat × List (List AV))) : Prop := match e with
 | some p => ex C n r (s.put d (.sl p.1 p.2)) Q
 | none => False
theorem litThen_some {sz : Nat} {rows : List (List AV)} : zfQ C n r s Q d (some (sz, rows)) = ex C n r (s.put d (.sl sz rows)) Q := (rfl)
@[congr] theorem litThen_congr {e e' : Option (Nat × List (List AV))} (h : e = e') : zfQ C n r s Q d e = zfQ C n r s Q d e' := by rw [h]
theorem zpJ (hT : zam C.P C.ti) (h : zfQ C n r s Q d (aLit C.ti s t len parts)) : after C n r s Q ⟨d, .buildSlice t len parts.toArray, u, pos, af, g⟩ none := by
 cases he : aLit C.ti s t len parts with
 | none => rw [he] at h; exact h.elim
 | some p => rw [he] at h; exact zdD (znw hT rfl he) h
def zcj (C : Cx) (n : Nat) (r : List It) (s : AS) (Q : Lab → AS → Prop) (all : List Oper) (d : Option Tmp) (e : Option (Nat × List (List AV))) (fp : FP) (l : List Oper) (fps : List FP) : Prop := match e with
 | some p => zax C n r (bump (s.put d (.sl p.1 p.2)) (s.next + 1)) Q all l (fp :: fps)
 | none => False
theorem drawLitThen_some {sz : Nat} {rows : List (List AV)} : zcj C n r s Q all d (some (sz, rows)) fp l fps = zax C n r (bump (s.put d (.sl sz rows)) (s.next + 1)) Q all l (fp :: fps) := (rfl)
@[congr] theorem drawLitThen_congr {e e' : Option (Nat × List (List AV))} {fp' : FP} (h : e = e') (h' : fp = fp') : zcj C n r s Q all d e fp l fps = zcj C n r s Q all d e' fp' l fps := by rw [h, h']
theorem zi6 (hT : zam C.P C.ti) (h : zcj C n r s Q all d (aLit C.ti s t len parts) fp l fps) : za0 C n r s Q all ⟨d, .buildSlice t len parts.toArray, u, pos, af, g⟩ none fp l fps := by
 cases he : aLit C.ti s t len parts with
 | none => rw [he] at h; exact h.elim
 | some p => rw [he] at h; exact zcc (znw hT rfl he) h
end
end Go.Ax

namespace Go
open Go.Ax
attribute [go_sem] Ax.ex_nil Ax.ex_blk Ax.ex_lp Ax.ex_skip Ax.ex_seq Ax.ex_block Ax.ex_ret Ax.l_region Ax.lap_cons Ax.lap_nil
attribute [go_sem] Ax.l_nil Ax.l_op Ax.l_call Ax.l_guard Ax.l_exit
attribute [go_sem] Ax.exit_hit Ax.exit_lp Ax.exit_code Ax.ex_cond Ax.condT Ax.condF Ax.ex_loop Ax.ex_op_plain Ax.ex_call Ax.call_fn Ax.after_true Ax.guard_tt Ax.guard_ff
attribute [go_sem] Ax.guard_tf Ax.guard_ft Ax.guard_undef Ax.gdVal Ax.l_draw Ax.ld_nil Ax.ld_op Ax.ld_call Ax.ld_guard Ax.draw_plain Ax.draw_callo Ax.drawCall_fn
attribute [go_sem] Ax.drawAfter_true Ax.drawGuard_tt Ax.drawGuard_ff Ax.drawGuard_tf Ax.drawGuard_ft Ax.l_unroll_succ Ax.unrollQ_end Ax.unrollQ_ret Ax.round_end
attribute [go_sem] Ax.round_other Nat.zero_ne_one Nat.one_ne_zero Ax.round_ret Ax.round_normal Ax.ends_ret Nat.max_def Ax.isCall.eq_def
attribute [go_sem] Ax.dstOK.eq_def Ax.kpOK_nil Ax.kpOK_cons Ax.look_hit Ax.look_miss Ax.look.eq_1 Ax.ev_tmp Ax.ev_const Ax.ev_func Ax.ev_global Ax.evL Ax.entry Ax.entryW Ax.endsW_ret
attribute [go_sem] Ax.entryEnv Ax.AS.put.eq_def Ax.AS.upd.eq_def Ax.bump Ax.AV.cells.eq_def Ax.AV.one.eq_def Value.oneCell'.eq_def Ax.blockOf.eq_def Ax.rdOf.eq_def Ax.wrOf.eq_def
attribute [go_sem] Ax.aop Ax.aBin.eq_def Ax.aUn.eq_def Ax.aPick.eq_def Ax.aAlloc.eq_def
attribute [go_sem] Ax.aBox.eq_def Ax.aBox0.eq_def Ax.aLoad.eq_def Ax.aStore.eq_def Ax.aNilCheck.eq_def Ax.aFieldAddr.eq_def Ax.aField.eq_def Ax.aIndexAddr.eq_def Ax.aIndex.eq_def Ax.aBuild.eq_def
attribute [go_sem] Ax.aConvert.eq_def Ax.aMakeInterface.eq_def Ax.aAssert.eq_def Ax.aExtract.eq_def Ax.aMakeFunc.eq_def Ax.aLen.eq_def Ax.aMin.eq_def Ax.aMax.eq_def Ax.aLenT.eq_def
attribute [go_sem] Ax.aBuiltin.eq_def Ax.headT Ax.ibin.eq_def Ax.ishift.eq_def Ax.isShift.eq_def Ax.eqNil.eq_def Ax.eqBool.eq_def Ax.toEff.eq_def Ax.isNilConst.eq_def
attribute [go_sem] Ax.isBoolT.eq_def Ax.isIfaceT.eq_def Ax.isSlcT.eq_def Ax.isStrT.eq_def Ax.strBin.eq_def Ax.aMakeSlice.eq_def Ax.aSlice.eq_def
attribute [go_sem] Ax.bndOf.eq_def Option.isSome_none Option.map_none Ax.pk.eq_def Ax.behind.eq_def Ax.shiftPtr.eq_def Ax.partOf.eq_def Ax.fillA Ax.placed
attribute [go_sem] Ax.stPlace.eq_def Ax.TK.agg.eq_def Ax.Z.val.eq_def Ax.resL Ax.resOne.eq_def List.cons_append List.nil_append List.append_nil List.getElem?_cons_zero
attribute [go_sem] List.getElem?_cons_succ List.length_cons List.length_nil List.take_succ_cons List.take_zero List.drop_succ_cons List.drop_zero List.map_cons List.map_nil
attribute [go_sem] List.all_cons List.all_nil List.head?_cons List.set_cons_zero List.set_cons_succ List.getD_cons_zero List.getD_cons_succ List.toList_toArray Option.bind_some
attribute [go_sem] Option.bind_none Option.isSome_some Option.map_some Option.getD_some Nat.zero_add Nat.add_zero Nat.zero_mul Nat.mul_zero Nat.one_mul Nat.mul_one
attribute [go_sem] Nat.min_eq_left Int.one_mul Int.mul_one Bool.or_self Bool.or_false Bool.or_true Bool.false_or Bool.true_or Bool.and_true Bool.and_false
attribute [go_sem] Bool.true_and Bool.false_and Bool.not_true Bool.not_false Bool.false_eq_true Bool.true_eq_false Bool.and_self Bool.decide_eq_true true_and and_true false_and
attribute [go_sem] and_false and_self if_true if_false ite_true ite_false eq_self true_implies imp_self implies_true not_true_eq_false not_false_eq_true ne_eq decide_true
attribute [go_sem] decide_false Ax.w64l Int.zero_add Int.toNat_zero Option.bind_eq_bind Ax.veqs Ax.veq Ax.vals Int.toNat_natCast Ax.thawS Ax.thawE Ax.thaw.eq_def Ax.dropM Ax.killT
attribute [go_sem] Ax.isB.eq_def Ax.AV.priv.eq_def List.any_cons List.any_nil List.contains_cons List.contains_nil List.elem_nil Bool.cond_true Bool.cond_false cond_true cond_false
attribute [go_sem] Ax.litThen_some Ax.drawLitThen_some Ax.aLit.eq_def Ax.aRows
end Go

namespace Go.Ax
open Go Go.RowKit
theorem zbI {P : Program} {R : Exit → Act → World → Prop} {M : Nat → Act → World → Prop} (r2 : List It) : ∀ (r1 : List It) (e : Exit) (a : Act) (w : World), zaJ P (zaJ P R M r2) M r1 e a w = zaJ P R M (r1 ++ r2) e a w
 | [], e, a, w => rfl
 | i :: r1, e, a, w => by
  have ih : zaJ P (zaJ P R M r2) M r1 = zaJ P R M (r1 ++ r2) := by funext e a w; exact zbI r2 r1 e a w
  rw [List.cons_append]
  cases i with
  | code c => cases e <;> simp only [zaJ, ih]
  | op o g => cases e <;> simp only [zaJ, ih]
  | blk id => cases e <;> simp only [zaJ, ih]
  | lp k => cases e <;> simp only [zaJ, ih]
def its (l : List Code) : List It := l.map .code
theorem zev {P : Program} {R : Exit → Act → World → Prop} {M : Nat → Act → World → Prop} {e : Exit} (he : e ≠ .normal) {a : Act} {w : World} : ∀ (l : List Code), zaJ P R M (its l) e a w = R e a w
 | [] => rfl
 | c :: l => by
  have := zev (P := P) (R := R) (M := M) he (a := a) (w := w) l
  cases e with
  | normal => exact absurd rfl he
  | _ => simpa only [its, List.map_cons, zaJ] using this
section
end
theorem zbt (n : Nat) : (0 : Rat) < 2 ^ n := Rat.pow_pos (by decide)
theorem p2ne (n : Nat) : (2 : Rat) ^ n ≠ 0 := by have := zbt n; grind
theorem zbY (m n : Nat) : (2 : Rat) ^ (m + n) = 2 ^ m * 2 ^ n := by grind
theorem zdI (n : Nat) : (((2 : Int) ^ n : Int) : Rat) = 2 ^ n := by rw [Rat.intCast_pow]; rfl
theorem zmD (n : Nat) : (((2 : Nat) ^ n : Nat) : Int) = 2 ^ n := by simp
theorem p2le {m n : Nat} (h : m ≤ n) : (2 : Rat) ^ m ≤ 2 ^ n := by
 have h1 : (2 : Nat) ^ m ≤ 2 ^ n := Nat.pow_le_pow_right (by omega) h
 have h2 : (((2 : Nat) ^ m : Nat) : Rat) ≤ (((2 : Nat) ^ n : Nat) : Rat) := by exact_mod_cast h1
 simpa using h2
def zaU : Nat → Nat → Nat × Nat
 | m, 0 => (m, 0)
 | m, d + 1 => if m % 2 = 0 then zaU (m / 2) d else (m, d + 1)
theorem zcE : ∀ (d m : Nat), (zaU m d).2 ≤ d ∧ m = (zaU m d).1 * 2 ^ (d - (zaU m d).2) ∧ ((zaU m d).2 = 0 ∨ (zaU m d).1 % 2 = 1)
 | 0, m => by simp [zaU]
 | d + 1, m => by
  unfold zaU
  split
  ·rename_i h
   obtain ⟨h1, h2, h3⟩ := zcE d (m / 2)
   refine ⟨by omega, ?_, h3⟩
   rw [show d + 1 - (zaU (m / 2) d).2 = d - (zaU (m / 2) d).2 + 1 by omega, Nat.pow_succ, ← Nat.mul_assoc, ← h2]
   omega
  ·refine ⟨Nat.le_refl _, by simp, .inr ?_⟩
   show m % 2 = 1
   omega
theorem zet {m d m' d' : Nat} (h1 : d' ≤ d) (h2 : m = m' * 2 ^ (d - d')) (h3 : d' = 0 ∨ m' % 2 = 1) : zaU m d = (m', d') := by
 obtain ⟨g1, g2, g3⟩ := zcE d m
 generalize zaU m d = p at *
 obtain ⟨a, e⟩ := p
 simp only at g1 g2 g3
 rcases Nat.lt_trichotomy e d' with h | h | h
 ·have hd : d - e = (d - d') + (d' - e - 1) + 1 := by omega
  rw [g2, hd, Nat.pow_succ, Nat.pow_add] at h2
  have : a * 2 ^ (d' - e - 1) * 2 = m' := by
   apply Nat.eq_of_mul_eq_mul_right (Nat.pow_pos (n := d - d') (by omega : 0 < 2))
   rw [← h2]; ac_rfl
  omega
 ·subst h
  have := Nat.eq_of_mul_eq_mul_right (Nat.pow_pos (n := d - e) (by omega : 0 < 2)) (g2.symm.trans h2)
  rw [this]
 ·have hd : d - d' = (d - e) + (e - d' - 1) + 1 := by omega
  rw [g2, hd, Nat.pow_succ, Nat.pow_add] at h2
  have : m' * 2 ^ (e - d' - 1) * 2 = a := by
   apply Nat.eq_of_mul_eq_mul_right (Nat.pow_pos (n := d - e) (by omega : 0 < 2))
   rw [h2]; ac_rfl
  omega
structure Dy where
 n : Int
 d : Nat
 ok : d ≤ 65536 ∧ (d = 0 ∨ n % 2 = 1)
def Dy.v (x : Dy) : Rat := (x.n : Rat) / 2 ^ x.d
theorem Dy.v_mul (x : Dy) : x.v * 2 ^ x.d = x.n := Rat.div_mul_cancel (p2ne _)
theorem Dy.eq {x y : Dy} (h1 : x.n = y.n) (h2 : x.d = y.d) : x = y := by
 cases x; cases y; simp_all
theorem Dy.cross {x y : Dy} (h : x.v = y.v) : x.n * 2 ^ y.d = y.n * 2 ^ x.d := by
 have h1 := x.v_mul
 have h2 := y.v_mul
 have h3 : (x.n : Rat) * 2 ^ y.d = (y.n : Rat) * 2 ^ x.d := by rw [← h1, ← h2, h]; grind
 exact_mod_cast h3
theorem Dy.cross_le {x y : Dy} (hd : x.d ≤ y.d) (h : x.n * 2 ^ y.d = y.n * 2 ^ x.d) : x = y := by
 have h1 : x.n * 2 ^ (y.d - x.d) = y.n := by
  have : (2 : Int) ^ y.d = 2 ^ (y.d - x.d) * 2 ^ x.d := by rw [← Int.pow_add, Nat.sub_add_cancel hd]
  rw [this, ← Int.mul_assoc] at h
  exact Int.eq_of_mul_eq_mul_right (by have : (0 : Int) < 2 ^ x.d := Int.pow_pos (by omega); omega) h
 by_cases he : x.d = y.d
 ·rw [he, Nat.sub_self, Int.pow_zero, Int.mul_one] at h1
  exact Dy.eq h1 he
 ·rw [show y.d - x.d = (y.d - x.d - 1) + 1 by omega, Int.pow_succ, ← Int.mul_assoc] at h1
  have := y.ok.2
  omega
theorem Dy.ext_v {x y : Dy} (h : x.v = y.v) : x = y := by
 have h1 := Dy.cross h
 rcases Nat.le_total x.d y.d with hd | hd
 ·exact Dy.cross_le hd h1
 ·exact (Dy.cross_le hd h1.symm).symm
def sgn (s : Bool) (m : Nat) : Int := bif s then -(m : Int) else (m : Int)
theorem ziF (s : Bool) (m : Nat) : (sgn s m).natAbs = m := by cases s <;> simp [sgn]
theorem sgn_neg (s : Bool) (m : Nat) : -sgn s m = sgn (!s) m := by cases s <;> simp [sgn]
theorem zdH (s : Bool) : sgn s 0 = 0 := by cases s <;> rfl
def nrm (z : Int) (d : Nat) : Dy where
 n := sgn (decide (z < 0)) (zaU (z.natAbs / 2 ^ (d - 65536)) (min d 65536)).1
 d := (zaU (z.natAbs / 2 ^ (d - 65536)) (min d 65536)).2
 ok := by
  obtain ⟨h1, h2, h3⟩ := zcE (min d 65536) (z.natAbs / 2 ^ (d - 65536))
  generalize zaU (z.natAbs / 2 ^ (d - 65536)) (min d 65536) = p at *
  refine ⟨by omega, h3.imp id fun h => ?_⟩
  cases decide (z < 0) <;> simp only [sgn, cond_true, cond_false] <;> omega
theorem nrm_eq {z : Int} {d : Nat} {x : Dy} (hd : d ≤ 65536) (h1 : x.d ≤ d) (h2 : z = x.n * 2 ^ (d - x.d)) : nrm z d = x := by
 have h3 : z.natAbs = x.n.natAbs * 2 ^ (d - x.d) := by rw [h2, Int.natAbs_mul, Int.natAbs_pow]; rfl
 have h4 : zaU z.natAbs d = (x.n.natAbs, x.d) := zet h1 h3 (x.ok.2.imp id fun h => by omega)
 have e1 : z.natAbs / 2 ^ (d - 65536) = z.natAbs := by rw [Nat.sub_eq_zero_of_le hd]; simp
 have e2 : min d 65536 = d := Nat.min_eq_left hd
 have hp : (0 : Int) < 2 ^ (d - x.d) := Int.pow_pos (by omega)
 have h5 : z < 0 ↔ x.n < 0 := by
  subst h2
  constructor
  ·intro h
   by_cases h' : x.n < 0
   ·exact h'
   ·have := Int.mul_nonneg (Int.not_lt.1 h') (Int.le_of_lt hp); omega
  ·intro h
   exact Int.mul_neg_of_neg_of_pos h hp
 refine Dy.eq ?_ ?_
 ·show sgn (decide (z < 0)) (zaU (z.natAbs / 2 ^ (d - 65536)) (min d 65536)).1 = _
  rw [e1, e2, h4]
  by_cases h : x.n < 0
  ·rw [decide_eq_true (h5.2 h)]; simp only [sgn, cond_true]; omega
  ·rw [decide_eq_false (fun hh => h (h5.1 hh))]; simp only [sgn, cond_false]; omega
 ·show (zaU (z.natAbs / 2 ^ (d - 65536)) (min d 65536)).2 = _
  rw [e1, e2, h4]
theorem zfl (x : Dy) : nrm x.n x.d = x := nrm_eq x.ok.1 (Nat.le_refl _) (by simp)
theorem zlR {z : Int} {d : Nat} (hd : d ≤ 65536) : (nrm z d).d ≤ d ∧ z = (nrm z d).n * 2 ^ (d - (nrm z d).d) := by
 obtain ⟨h1, h2, _⟩ := zcE d z.natAbs
 have e1 : z.natAbs / 2 ^ (d - 65536) = z.natAbs := by rw [Nat.sub_eq_zero_of_le hd]; simp
 have e2 : min d 65536 = d := Nat.min_eq_left hd
 have f1 : (nrm z d).n = sgn (decide (z < 0)) (zaU z.natAbs d).1 := by show sgn _ (zaU (z.natAbs / 2 ^ (d - 65536)) (min d 65536)).1 = _; rw [e1, e2]
 have f2 : (nrm z d).d = (zaU z.natAbs d).2 := by show (zaU (z.natAbs / 2 ^ (d - 65536)) (min d 65536)).2 = _; rw [e1, e2]
 rw [f1, f2]
 refine ⟨h1, ?_⟩
 have h2' : (z.natAbs : Int) = (zaU z.natAbs d).1 * 2 ^ (d - (zaU z.natAbs d).2) := by exact_mod_cast h2
 by_cases h : z < 0
 ·rw [decide_eq_true h]; simp only [sgn, cond_true]; rw [Int.neg_mul, ← h2']; omega
 ·rw [decide_eq_false h]; simp only [sgn, cond_false]; rw [← h2']; omega
theorem v_nrm {z : Int} {d : Nat} (hd : d ≤ 65536) : (nrm z d).v = (z : Rat) / 2 ^ d := by
 obtain ⟨h1, h2⟩ := zlR (z := z) hd
 have h3 := (nrm z d).v_mul
 have h4 : (z : Rat) = ((nrm z d).n : Rat) * 2 ^ (d - (nrm z d).d) := by
  conv => lhs; rw [h2]
  rw [Rat.intCast_mul, zdI]
 have h5 : (2 : Rat) ^ d = 2 ^ (nrm z d).d * 2 ^ (d - (nrm z d).d) := by rw [← zbY, Nat.add_sub_cancel' h1]
 have h6 : (nrm z d).v * 2 ^ d = z := by rw [h4, h5, ← h3]; grind
 rw [← h6, Rat.mul_div_cancel (p2ne _)]
theorem zd3 {z : Int} {d : Nat} (hd : d ≤ 65536) : (nrm z d).v * 2 ^ d = z := by rw [v_nrm hd, Rat.div_mul_cancel (p2ne _)]
theorem zoa {m den : Nat} (s : Bool) (hs : s = true → m ≠ 0) : (nrm (sgn s m) den).n.natAbs = (if (zaU m den).2 ≤ 65536 then (zaU m den).1 else (zaU ((zaU m den).1 / 2 ^ ((zaU m den).2 - 65536)) 65536).1) ∧
  (nrm (sgn s m) den).d = (if (zaU m den).2 ≤ 65536 then (zaU m den).2 else (zaU ((zaU m den).1 / 2 ^ ((zaU m den).2 - 65536)) 65536).2) := by
 have f1 : (nrm (sgn s m) den).n.natAbs = (zaU (m / 2 ^ (den - 65536)) (min den 65536)).1 := by
  show (sgn _ (zaU ((sgn s m).natAbs / 2 ^ (den - 65536)) (min den 65536)).1).natAbs = _
  rw [ziF, ziF]
 have f2 : (nrm (sgn s m) den).d = (zaU (m / 2 ^ (den - 65536)) (min den 65536)).2 := by
  show (zaU ((sgn s m).natAbs / 2 ^ (den - 65536)) (min den 65536)).2 = _
  rw [ziF]
 rw [f1, f2]
 obtain ⟨h1, h2, h3⟩ := zcE den m
 generalize hp : zaU m den = p at *
 obtain ⟨a, e⟩ := p
 simp only at h1 h2 h3 ⊢
 by_cases he : e ≤ 65536
 ·have : zaU (m / 2 ^ (den - 65536)) (min den 65536) = (a, e) := by
   refine zet (by omega) ?_ h3
   rw [h2, show den - e = (min den 65536 - e) + (den - 65536) by omega, Nat.pow_add, ← Nat.mul_assoc, Nat.mul_div_cancel _ (Nat.pow_pos (by omega))]
  rw [this]; simp [he]
 ·have hm : m / 2 ^ (den - 65536) = a / 2 ^ (e - 65536) := by
   rw [h2, show den - 65536 = (e - 65536) + (den - e) by omega, Nat.pow_add, Nat.mul_div_mul_right _ _ (Nat.pow_pos (by omega))]
  rw [hm, Nat.min_eq_right (by omega)]; simp [he]
def Dy.zero : Dy := ⟨0, 0, by simp⟩
def Dy.int (n : Int) : Dy := ⟨n, 0, by simp⟩
def Dy.neg (a : Dy) : Dy := ⟨-a.n, a.d, by have := a.ok; omega⟩
def Dy.abs (a : Dy) : Dy := ⟨a.n.natAbs, a.d, by have := a.ok; omega⟩
def Dy.add (a b : Dy) : Dy := nrm (a.n * 2 ^ (max a.d b.d - a.d) + b.n * 2 ^ (max a.d b.d - b.d)) (max a.d b.d)
def Dy.sub (a b : Dy) : Dy := a.add b.neg
def Dy.mul (a b : Dy) : Dy := nrm (a.n * b.n) (a.d + b.d)
def Dy.sign (a : Dy) : Int := if a.n < 0 then -1 else if a.n = 0 then 0 else 1
def Dy.cmp (a b : Dy) : Int := if a.v < b.v then -1 else if b.v < a.v then 1 else 0
def Dy.min (a b : Dy) : Dy := if a.v ≤ b.v then a else b
def Dy.max (a b : Dy) : Dy := if b.v ≤ a.v then a else b
def zbe (k : Int) : Int := Max.max (-65536) (Min.min k 65536)
def Dy.shift (a : Dy) (k : Int) : Dy := if zbe k ≤ a.d then nrm a.n (a.d - zbe k).toNat else nrm (a.n * 2 ^ (zbe k - a.d).toNat) 0
def Dy.floor (a : Dy) (den : Nat) : Dy := nrm (a.v * 2 ^ den).floor den
def Dy.ceil (a : Dy) (den : Nat) : Dy := (a.neg.floor den).neg
theorem floor_eq {q : Rat} {z : Int} (h1 : (z : Rat) ≤ q) (h2 : q < (z : Rat) + 1) : q.floor = z := by
 have h3 : z ≤ q.floor := Rat.le_floor_iff.2 h1
 have h4 := Rat.floor_le q
 have h5 : ((q.floor : Int) : Rat) < ((z + 1 : Int) : Rat) := by rw [Rat.intCast_add]; grind
 have h6 := Rat.intCast_lt_intCast.1 h5
 omega
theorem Dy.v_zero : Dy.zero.v = 0 := by simp [Dy.v, Dy.zero]; grind
theorem Dy.v_int (n : Int) : (Dy.int n).v = n := by simp [Dy.v, Dy.int]; grind
theorem Dy.v_neg (a : Dy) : a.neg.v = -a.v := by
 show ((-a.n : Int) : Rat) / 2 ^ a.d = -((a.n : Rat) / 2 ^ a.d)
 rw [Rat.intCast_neg]; grind
theorem zep {x q : Rat} {d : Nat} (h : x * 2 ^ d = q * 2 ^ d) : x = q := by
 have := p2ne d; grind
theorem Dy.v_scale (a : Dy) {e : Nat} (h : a.d ≤ e) : ((a.n * 2 ^ (e - a.d) : Int) : Rat) = a.v * 2 ^ e := by
 rw [Rat.intCast_mul, zdI, ← a.v_mul, show (2 : Rat) ^ e = 2 ^ a.d * 2 ^ (e - a.d) by rw [← zbY, Nat.add_sub_cancel' h]]
 grind
theorem Dy.v_add (a b : Dy) : (a.add b).v = a.v + b.v := by
 have ha := a.ok.1
 have hb := b.ok.1
 apply zep (d := Max.max a.d b.d)
 rw [Dy.add, zd3 (by omega), Rat.intCast_add, a.v_scale (by omega), b.v_scale (by omega)]
 grind
theorem Dy.v_sub (a b : Dy) : (a.sub b).v = a.v - b.v := by rw [Dy.sub, Dy.v_add, Dy.v_neg]; grind
theorem Dy.v_mul_of (a b : Dy) (h : a.d + b.d ≤ 65536) : (a.mul b).v = a.v * b.v := by
 apply zep (d := a.d + b.d)
 rw [Dy.mul, zd3 h, Rat.intCast_mul, ← a.v_mul, ← b.v_mul, zbY]
 grind
theorem Dy.v_neg_iff (a : Dy) : a.v < 0 ↔ a.n < 0 := by
 have h := zbt a.d
 have : a.v < 0 ↔ (a.n : Rat) < ((0 : Int) : Rat) := by
  rw [Dy.v, Rat.div_lt_iff h]; simp
 rw [this, Rat.intCast_lt_intCast]
theorem Dy.v_zero_iff (a : Dy) : a.v = 0 ↔ a.n = 0 := by
 have h := a.v_mul
 constructor
 ·intro h0
  rw [h0] at h
  have h1 : ((a.n : Int) : Rat) = ((0 : Int) : Rat) := by rw [← h]; simp
  exact Rat.intCast_inj.1 h1
 ·intro h0
  simp [Dy.v, h0]
  grind
theorem Dy.v_abs (a : Dy) : a.abs.v = if a.v < 0 then -a.v else a.v := by
 show ((a.n.natAbs : Int) : Rat) / 2 ^ a.d = _
 by_cases h : a.n < 0
 ·rw [if_pos (a.v_neg_iff.2 h), ← Dy.v_neg, show (a.n.natAbs : Int) = -a.n by omega]; rfl
 ·rw [if_neg (fun hh => h (a.v_neg_iff.1 hh)), show (a.n.natAbs : Int) = a.n by omega]; rfl
theorem Dy.sign_v (a : Dy) : a.sign = if a.v < 0 then -1 else if a.v = 0 then 0 else 1 := by
 have h1 := a.v_neg_iff
 have h2 := a.v_zero_iff
 rw [Dy.sign]
 simp only [h1, h2]
theorem Dy.v_min (a b : Dy) : (a.min b).v = if a.v ≤ b.v then a.v else b.v := by unfold Dy.min; split <;> rfl
theorem Dy.v_max (a b : Dy) : (a.max b).v = if b.v ≤ a.v then a.v else b.v := by unfold Dy.max; split <;> rfl
theorem Dy.d_nrm {z : Int} {d : Nat} (h : d ≤ 65536) : (nrm z d).d ≤ d := (zlR h).1
def Mg (k : Nat) (x : Dy) : Prop := -2 ^ k < x.v ∧ x.v < 2 ^ k
theorem Mg.mono {k k' : Nat} {x : Dy} (h : Mg k x) (hk : k ≤ k') : Mg k' x := by
 have := p2le hk
 unfold Mg at *
 grind
theorem zcv {k : Nat} {x : Dy} : Mg k x ↔ x.n.natAbs < 2 ^ (k + x.d) := by
 have h := x.v_mul
 have hp := zbt x.d
 have h1 : x.v < 2 ^ k ↔ (x.n : Rat) < (((2 : Int) ^ (k + x.d) : Int) : Rat) := by
  rw [zdI, zbY, ← h]
  exact ⟨fun h => Rat.mul_lt_mul_of_pos_right h hp, fun h => Rat.lt_of_mul_lt_mul_right h (Rat.le_of_lt hp)⟩
 have h2 : -2 ^ k < x.v ↔ (((-2 ^ (k + x.d) : Int)) : Rat) < (x.n : Rat) := by
  rw [Rat.intCast_neg, zdI, zbY, ← h, ← Rat.neg_mul]
  exact ⟨fun h => Rat.mul_lt_mul_of_pos_right h hp, fun h => Rat.lt_of_mul_lt_mul_right h (Rat.le_of_lt hp)⟩
 unfold Mg
 rw [h1, h2, Rat.intCast_lt_intCast, Rat.intCast_lt_intCast]
 have e : (((2 : Nat) ^ (k + x.d) : Nat) : Int) = 2 ^ (k + x.d) := zmD _
 omega
theorem Mg.neg {k : Nat} {x : Dy} (h : Mg k x) : Mg k x.neg := by
 unfold Mg at *
 rw [Dy.v_neg]; grind
theorem Mg.abs {k : Nat} {x : Dy} (h : Mg k x) : Mg k x.abs := by
 unfold Mg at *
 rw [Dy.v_abs]
 split <;> grind
theorem Mg.add {k : Nat} {x y : Dy} (h : Mg k x) (g : Mg k y) : Mg (k + 1) (x.add y) := by
 have := zbY k 1
 unfold Mg at *
 rw [Dy.v_add]; grind
theorem Mg.sub {k : Nat} {x y : Dy} (h : Mg k x) (g : Mg k y) : Mg (k + 1) (x.sub y) := h.add g.neg
theorem Mg.min {k : Nat} {x y : Dy} (h : Mg k x) (g : Mg k y) : Mg k (x.min y) := by unfold Dy.min; split <;> assumption
theorem Mg.max {k : Nat} {x y : Dy} (h : Mg k x) (g : Mg k y) : Mg k (x.max y) := by unfold Dy.max; split <;> assumption
theorem Mg.zero (k : Nat) : Mg k Dy.zero := by have := zbt k; unfold Mg; rw [Dy.v_zero]; grind
theorem zlV {z : Int} {d k : Nat} (h : z.natAbs < 2 ^ (k + d)) : Mg k (nrm z d) := by
 rw [zcv]
 show (sgn _ (zaU (z.natAbs / 2 ^ (d - 65536)) (Min.min d 65536)).1).natAbs < 2 ^ (k + (zaU (z.natAbs / 2 ^ (d - 65536)) (Min.min d 65536)).2)
 rw [ziF]
 obtain ⟨h1, h2, _⟩ := zcE (Min.min d 65536) (z.natAbs / 2 ^ (d - 65536))
 generalize zaU (z.natAbs / 2 ^ (d - 65536)) (Min.min d 65536) = p at *
 have h3 : z.natAbs / 2 ^ (d - 65536) < 2 ^ (k + Min.min d 65536) := by
  rw [Nat.div_lt_iff_lt_mul (Nat.pow_pos (by omega)), ← Nat.pow_add]
  rw [show k + Min.min d 65536 + (d - 65536) = k + d by omega]; exact h
 rw [h2, show k + Min.min d 65536 = (k + p.2) + (Min.min d 65536 - p.2) by omega, Nat.pow_add] at h3
 exact Nat.lt_of_mul_lt_mul_right h3
theorem Mg.mul {k l : Nat} {x y : Dy} (h : Mg k x) (g : Mg l y) : Mg (k + l) (x.mul y) := by
 rw [zcv] at h g
 refine zlV ?_
 rw [Int.natAbs_mul, show k + l + (x.d + y.d) = (k + x.d) + (l + y.d) by omega, Nat.pow_add]
 exact Nat.mul_lt_mul'' h g
theorem Mg.int {k : Nat} {n : Int} (h : n.natAbs < 2 ^ k) : Mg k (Dy.int n) := by
 rw [zcv]; exact h
theorem znh {n b : Nat} (h : n < 2 ^ b) : (words n).length ≤ b / 32 + 1 := by
 refine zaO (Nat.lt_of_lt_of_le h ?_)
 rw [show (4294967296 : Nat) = 2 ^ 32 by decide, ← Nat.pow_mul]
 exact Nat.pow_le_pow_right (by omega) (by omega)
theorem Mg.len {k : Nat} {x : Dy} (h : Mg k x) : (words x.n.natAbs).length ≤ (k + 65536) / 32 + 1 := by
 rw [zcv] at h
 have := znh h
 have := x.ok.1
 omega
def sg (x : Dy) : Bool := decide (x.n < 0)
abbrev ms (x : Dy) : List Nat := words x.n.natAbs
def dn (x : Dy) : Int := x.d
def zcJ (s : Bool) (ws : List Nat) (d : Int) : Bool :=
 if d < 0 ∨ 65536 < d then false else if ws.length = 0 then !s && decide (d = 0) else decide (ws.getD (ws.length - 1) 0 ≠ 0) && (decide (d = 0) || decide (ws.getD 0 0 % 2 = 1))
theorem zjV (x : Dy) : val (ms x) = x.n.natAbs := za7 _
theorem zg7 (x : Dy) : Wd (ms x) := Wd.words _
theorem zon {x : Dy} : ms x = [] ↔ x = Dy.zero := by
 unfold ms
 rw [zdn]
 constructor
 ·intro h
  have h0 : x.n = 0 := by omega
  refine Dy.eq h0 ?_
  have := x.ok.2
  rw [h0] at this
  show x.d = 0
  omega
 ·intro h; subst h; rfl
theorem zeR : ms Dy.zero = [] := zon.2 rfl
theorem zkf (x : Dy) : 0 ≤ dn x ∧ dn x ≤ 65536 := by have := x.ok.1; unfold dn; omega
theorem zf7 (x : Dy) : sgn (sg x) x.n.natAbs = x.n := by
 unfold sg sgn
 by_cases h : x.n < 0
 ·rw [decide_eq_true h, cond_true]; omega
 ·rw [decide_eq_false h, cond_false]; omega
theorem zmv {n : Nat} : (words n).getD 0 0 % 2 = n % 2 := by
 by_cases h : n = 0
 ·subst h; rw [zay]; rfl
 ·rw [zcm h]
  show (n % 4294967296) % 2 = n % 2
  omega
theorem zbB (x : Dy) : zcJ (sg x) (ms x) (dn x) = true := by
 have h1 := zkf x
 unfold zcJ
 rw [if_neg (by omega)]
 by_cases h : (ms x).length = 0
 ·have h2 := zon.1 (List.length_eq_zero_iff.1 h)
  subst h2
  rw [if_pos h]; rfl
 ·rw [if_neg h]
  have h2 : (ms x).getD ((ms x).length - 1) 0 ≠ 0 := by
   rcases ziv x.n.natAbs with h3 | h3
   ·exact absurd (by rw [ms, h3]; rfl) h
   ·exact h3
  have h3 : dn x = 0 ∨ (ms x).getD 0 0 % 2 = 1 := by
   unfold ms dn
   rw [zmv]
   have := x.ok.2
   omega
  rw [decide_eq_true h2, Bool.true_and]
  rcases h3 with h3 | h3
  ·rw [decide_eq_true h3]; rfl
  ·rw [decide_eq_true h3, Bool.or_true]
structure Arg (s : Bool) (ws : List Nat) (d : Int) (x : Dy) : Prop where
 wd : Wd ws
 len : ws.length ≤ 68719476736
 is : (zcJ s ws d = true ∧ sg x = s ∧ ms x = ws ∧ dn x = d) ∨ (zcJ s ws d = false ∧ x = Dy.zero)
theorem Arg.of {k : Nat} {x : Dy} (h : Mg k x) (hk : k ≤ 1099511627776) : Arg (sg x) (ms x) (dn x) x :=
 ⟨zg7 x, by have := h.len; show (words x.n.natAbs).length ≤ _; omega, .inl ⟨zbB x, rfl, rfl, rfl⟩⟩
theorem Arg.mlen {s : Bool} {ws : List Nat} {d : Int} {x : Dy} (h : Arg s ws d x) : (ms x).length ≤ 68719476736 := by
 rcases h.is with ⟨_, _, h2, _⟩ | ⟨_, h2⟩
 ·rw [h2]; exact h.len
 ·rw [h2, zeR]; simp
theorem Le.dy0 : Le (.agg [.v (.bool false), .v (.slice none 0 0), .v (.int .i64 0)]) (.agg [.v (.bool (sg Dy.zero)), .sl 1 (u32s (ms Dy.zero)), .v (.int .i64 (dn Dy.zero))]) := by
 rw [zeR]
 exact Le.agg (.cons (.refl _) (.cons (Le.nil _) (.cons (.refl _) .nil)))
theorem zb3 {a n : Nat} (h : n ≤ 65536) : (words (a * 2 ^ n)).length ≤ (words a).length + 2048 := by
 refine zaO ?_
 have h1 := zaV a
 rw [Nat.pow_add]
 refine Nat.lt_of_lt_of_le (Nat.mul_lt_mul_of_pos_right h1 (Nat.pow_pos (by omega))) (Nat.mul_le_mul_left _ ?_)
 obtain ⟨K, hK⟩ : ∃ K, K = 2048 := ⟨_, rfl⟩
 rw [← hK, show (4294967296 : Nat) = 2 ^ 32 by decide, ← Nat.pow_mul]
 exact Nat.pow_le_pow_right (by omega) (by omega)
theorem zhT {a b : Nat} (h : a ≤ b) : (words a).length ≤ (words b).length := zaO (Nat.lt_of_le_of_lt h (zaV b))
theorem ze1 {a b k : Nat} (ha : (words a).length ≤ k) (hb : (words b).length ≤ k) : (words (a + b)).length ≤ k + 1 := by
 refine zaO ?_
 have h1 := Nat.lt_of_lt_of_le (zaV a) (Nat.pow_le_pow_right (by omega) ha)
 have h2 := Nat.lt_of_lt_of_le (zaV b) (Nat.pow_le_pow_right (by omega) hb)
 rw [Nat.pow_succ]
 omega
theorem ziw {a b : Nat} : (words (a * b)).length ≤ (words a).length + (words b).length := by
 refine zaO ?_
 rw [Nat.pow_add]
 exact Nat.mul_lt_mul'' (zaV a) (zaV b)
theorem ze0 {a b k : Nat} (ha : (words a).length ≤ k) : (words (a - b)).length ≤ k := Nat.le_trans (zhT (Nat.sub_le _ _)) ha
theorem zcx {a b k : Nat} (ha : (words a).length ≤ k) : (words (a / b)).length ≤ k := Nat.le_trans (zhT (Nat.div_le_self _ _)) ha
theorem zgQ {m k q den : Nat} (h : m = 2 ^ k * (2 * q + 1)) : zaU m den = (m / 2 ^ min k den, den - min k den) := by
 have hp : 0 < 2 ^ min k den := Nat.pow_pos (by omega)
 have e : m = 2 ^ (k - min k den) * (2 * q + 1) * 2 ^ min k den := by
  rw [h]
  conv => lhs; rw [show k = (k - min k den) + min k den by omega, Nat.pow_add]
  ac_rfl
 have e2 : m / 2 ^ min k den = 2 ^ (k - min k den) * (2 * q + 1) := by
  conv => lhs; rw [e]
  exact Nat.mul_div_cancel _ hp
 refine zet (by omega) ?_ ?_
 ·rw [e2, show den - (den - min k den) = min k den by omega]; exact e
 ·rcases Nat.lt_or_ge den k with h1 | h1
  ·left; omega
  ·right
   rw [e2, show k - min k den = 0 by omega, Nat.pow_zero, Nat.one_mul]
   omega
theorem zdq (den : Nat) : zaU 0 den = (0, 0) := zet (by omega) (by simp) (.inl rfl)
theorem nrm_n (z : Int) (d : Nat) : (nrm z d).n = sgn (decide (z < 0)) (zaU (z.natAbs / 2 ^ (d - 65536)) (min d 65536)).1 := rfl
theorem nrm_d (z : Int) (d : Nat) : (nrm z d).d = (zaU (z.natAbs / 2 ^ (d - 65536)) (min d 65536)).2 := rfl
theorem ziU (d : Nat) : nrm 0 d = Dy.zero := by
 have h : (0 : Int).natAbs / 2 ^ (d - 65536) = 0 := by simp
 refine Dy.eq ?_ ?_
 ·rw [nrm_n, h, zdq, zdH]; rfl
 ·rw [nrm_d, h, zdq]; rfl
theorem sgn_lt {s : Bool} {m : Nat} (h : m ≠ 0) : decide (sgn s m < 0) = s := by
 cases s
 ·have : ¬ sgn false m < 0 := by simp only [sgn, cond_false]; omega
  exact decide_eq_false this
 ·have : sgn true m < 0 := by simp only [sgn, cond_true]; omega
  exact decide_eq_true this
theorem sg_nrm {s : Bool} {m d : Nat} (h : (nrm (sgn s m) d).n ≠ 0) : sg (nrm (sgn s m) d) = s := by
 have hm : m ≠ 0 := fun h0 => by subst h0; rw [zdH, ziU] at h; exact h rfl
 unfold sg
 rw [nrm_n, sgn_lt hm] at h ⊢
 exact sgn_lt (fun h0 => by rw [h0, zdH] at h; exact h rfl)
theorem res_one {s : Bool} {m den : Nat} (h : (zaU m den).2 ≤ 65536) : ms (nrm (sgn s m) den) = words (zaU m den).1 ∧ dn (nrm (sgn s m) den) = (zaU m den).2 := by
 by_cases hm : m = 0
 ·subst hm
  rw [zdH, ziU, zdq]
  exact ⟨by rw [zeR, zay], rfl⟩
 ·obtain ⟨h1, h2⟩ := zoa (m := m) (den := den) s (fun _ => hm)
  rw [if_pos h] at h1 h2
  exact ⟨by unfold ms; rw [h1], by unfold dn; rw [h2]⟩
theorem res_two {s : Bool} {m den : Nat} (h : ¬ (zaU m den).2 ≤ 65536) : ms (nrm (sgn s m) den) = words (zaU ((zaU m den).1 / 2 ^ ((zaU m den).2 - 65536)) 65536).1 ∧ dn (nrm (sgn s m) den) = (zaU ((zaU m den).1 / 2 ^ ((zaU m den).2 - 65536)) 65536).2 := by
 have hm : m ≠ 0 := fun h0 => by subst h0; rw [zdq] at h; simp at h
 obtain ⟨h1, h2⟩ := zoa (m := m) (den := den) s (fun _ => hm)
 rw [if_neg h] at h1 h2
 exact ⟨by unfold ms; rw [h1], by unfold dn; rw [h2]⟩
theorem zi9 (x : Dy) : (dn x).toNat = x.d := by unfold dn; omega
theorem res_self (x : Dy) : nrm (sgn (sg x) (val (ms x))) (dn x).toNat = x := by rw [zjV, zf7, zi9, zfl]
theorem res_neg (x : Dy) : nrm (sgn (!sg x) (val (ms x))) (dn x).toNat = x.neg := by rw [zjV, ← sgn_neg, zf7, zi9]; exact zfl x.neg
theorem res_abs (x : Dy) : nrm (sgn false (val (ms x))) (dn x).toNat = x.abs := by
 rw [zjV, zi9]; exact zfl x.abs
theorem res_int (n : Int) : nrm (sgn (decide (n < 0)) (val (words n.natAbs))) (0 : Int).toNat = Dy.int n := by
 rw [za7, show sgn (decide (n < 0)) n.natAbs = n from zf7 (Dy.int n)]; exact zfl (Dy.int n)
theorem max_dn (x y : Dy) : max (dn x) (dn y) = ((max x.d y.d : Nat) : Int) := by unfold dn; omega
theorem zkH (s : Bool) (a b : Nat) : sgn s (a * b) = sgn s a * (b : Int) := by
 cases s
 ·simp only [sgn, cond_false]; exact Int.natCast_mul ..
 ·simp only [sgn, cond_true]; rw [Int.natCast_mul, Int.neg_mul]
theorem ze8 (x : Dy) (e : Nat) : sgn (sg x) (x.n.natAbs * 2 ^ e) = x.n * 2 ^ e := by rw [zkH, zf7, zmD]
theorem zjF (s : Bool) (a b : Nat) : sgn s (a + b) = sgn s a + sgn s b := by cases s <;> simp only [sgn, cond_true, cond_false] <;> omega
theorem ze7 {s t : Bool} {a b : Nat} (h : b ≤ a) (hs : s ≠ t) : sgn s (a - b) = sgn s a + sgn t b := by cases s <;> cases t <;> simp only [sgn, cond_true, cond_false] <;> first | omega | (exact absurd rfl hs)
theorem znz (x : Dy) {D : Nat} (h : x.d ≤ D) : ((sgn (sg x) (x.n.natAbs * 2 ^ (D - x.d)) : Int) : Rat) = x.v * 2 ^ D := by rw [ze8]; exact x.v_scale h
theorem zlu (x y : Dy) : x.v < y.v ↔ sgn (sg x) (x.n.natAbs * 2 ^ (max x.d y.d - x.d)) < sgn (sg y) (y.n.natAbs * 2 ^ (max x.d y.d - y.d)) := by
 rw [← Rat.intCast_lt_intCast, znz x (by omega), znz y (by omega)]
 have hp := zbt (max x.d y.d)
 exact ⟨fun h => Rat.mul_lt_mul_of_pos_right h hp, fun h => Rat.lt_of_mul_lt_mul_right h (Rat.le_of_lt hp)⟩
theorem cmp_sgn (x y : Dy) : x.cmp y = if sgn (sg x) (x.n.natAbs * 2 ^ (max x.d y.d - x.d)) < sgn (sg y) (y.n.natAbs * 2 ^ (max x.d y.d - y.d)) then -1 else if sgn (sg y) (y.n.natAbs * 2 ^ (max x.d y.d - y.d)) < sgn (sg x) (x.n.natAbs * 2 ^ (max x.d y.d - x.d)) then 1 else 0 := by
 have h1 := zlu x y
 have h2 := zlu y x
 rw [Nat.max_comm y.d x.d] at h2
 unfold Dy.cmp
 simp only [h1, h2]
theorem zkG (x : Dy) : x.sign = if x.n = 0 then 0 else if sg x then -1 else 1 := by
 unfold Dy.sign sg
 by_cases h : x.n < 0
 ·rw [if_pos h, if_neg (by omega), decide_eq_true h]; rfl
 ·rw [if_neg h, decide_eq_false h]; rfl
theorem zgS (x : Dy) (e : Nat) : x.n.natAbs * 2 ^ e = 0 ↔ x.n = 0 := by
 have : 0 < 2 ^ e := Nat.pow_pos (by omega)
 rw [Nat.mul_eq_zero]; omega
theorem zpm {x y : Dy} (h : x.sign ≠ y.sign) : x.cmp y = if x.sign < y.sign then -1 else 1 := by
 have h1 := x.v_neg_iff
 have h2 := x.v_zero_iff
 have h3 := y.v_neg_iff
 have h4 := y.v_zero_iff
 rw [Dy.sign_v, Dy.sign_v] at h ⊢
 unfold Dy.cmp
 by_cases a1 : x.v < 0 <;> by_cases a2 : y.v < 0 <;> by_cases a3 : x.v = 0 <;> by_cases a4 : y.v = 0 <;> simp only [a1, a2, a3, a4, if_true, if_false] at h ⊢ <;> grind
theorem cmp_same {x y : Dy} (h : x.sign = y.sign) {a b : Nat} (ha : a = x.n.natAbs * 2 ^ (max x.d y.d - x.d)) (hb : b = y.n.natAbs * 2 ^ (max x.d y.d - y.d)) :
  x.cmp y = if sg x then -(if a < b then -1 else if b < a then 1 else 0 : Int) else (if a < b then -1 else if b < a then 1 else 0) := by
 have za := zgS x (max x.d y.d - x.d)
 have zb := zgS y (max x.d y.d - y.d)
 rw [cmp_sgn]
 rw [← ha] at za ⊢
 rw [← hb] at zb ⊢
 rw [zkG, zkG] at h
 by_cases hx : x.n = 0
 ·rw [if_pos hx] at h
  have hy : y.n = 0 := by
   by_cases hy : y.n = 0
   ·exact hy
   ·rw [if_neg hy] at h; split at h <;> omega
  rw [za.2 hx, zb.2 hy, zdH, zdH]; simp
 ·rw [if_neg hx] at h
  have hy : y.n ≠ 0 := fun hy => by rw [if_pos hy] at h; split at h <;> omega
  rw [if_neg hy] at h
  cases hs : sg x <;> cases ht : sg y <;> rw [hs, ht] at h <;> simp only [if_true, if_false, Bool.false_eq_true, reduceIte] at h ⊢
  ·simp only [sgn, cond_false]
   by_cases c1 : a < b
   ·simp [c1]
   ·by_cases c2 : b < a <;> simp [c1, c2]
  ·omega
  ·omega
  ·have ea : sgn true a = -(a : Int) := rfl
   have eb : sgn true b = -(b : Int) := rfl
   rw [ea, eb]
   by_cases c1 : a < b
   ·rw [if_pos c1, if_neg (by omega), if_pos (by omega)]; rfl
   ·by_cases c2 : b < a
    ·rw [if_neg c1, if_pos c2, if_pos (by omega)]
    ·rw [if_neg c1, if_neg c2, if_neg (by omega), if_neg (by omega)]; rfl
theorem zcr (x y : Dy) : x.cmp y ≤ 0 ↔ x.v ≤ y.v := by unfold Dy.cmp; split <;> (try split) <;> grind
theorem zpn (x y : Dy) : 0 ≤ x.cmp y ↔ y.v ≤ x.v := by unfold Dy.cmp; split <;> (try split) <;> grind
theorem cmp_gt (x y : Dy) : 0 < x.cmp y ↔ y.v < x.v := by unfold Dy.cmp; split <;> (try split) <;> grind
theorem cmp_lt (x y : Dy) : x.cmp y < 0 ↔ x.v < y.v := by unfold Dy.cmp; split <;> (try split) <;> grind
theorem zjf (x y : Dy) : x.cmp y = 0 ↔ x = y := by
 refine ⟨fun h => Dy.ext_v ?_, fun h => ?_⟩
 ·have h1 := cmp_lt x y
  have h2 := cmp_gt x y
  have : ¬ x.v < y.v := fun h' => by have := h1.2 h'; omega
  have : ¬ y.v < x.v := fun h' => by have := h2.2 h'; omega
  grind
 ·subst h; unfold Dy.cmp; split <;> (try split) <;> grind
theorem min_cmp (x y : Dy) : x.min y = if x.cmp y ≤ 0 then x else y := by
 unfold Dy.min
 simp only [zcr]
theorem max_cmp (x y : Dy) : x.max y = if 0 ≤ x.cmp y then x else y := by
 unfold Dy.max
 simp only [zpn]
theorem zcF (x : Dy) : x.shift 0 = x := by
 unfold Dy.shift
 have h : zbe 0 = 0 := rfl
 rw [h, if_pos (by omega)]
 exact zfl x
theorem clipD_bd (k : Int) : -65536 ≤ zbe k ∧ zbe k ≤ 65536 := by unfold zbe; omega
theorem res_add {x y : Dy} {s : Bool} {m : Nat} (h : sgn s m = sgn (sg x) (x.n.natAbs * 2 ^ (max x.d y.d - x.d)) + sgn (sg y) (y.n.natAbs * 2 ^ (max x.d y.d - y.d))) :
  nrm (sgn s (val (words m))) ((max x.d y.d : Nat) : Int).toNat = x.add y := by
 rw [za7, h, ze8, ze8, Int.toNat_natCast]; rfl
theorem res_mul (x y : Dy) : nrm (sgn (!decide (sg x = sg y)) (val (words (x.n.natAbs * y.n.natAbs)))) (dn x + dn y).toNat = x.mul y := by
 have e : sgn (!decide (sg x = sg y)) (x.n.natAbs * y.n.natAbs) = x.n * y.n := by
  conv => rhs; rw [← zf7 x, ← zf7 y]
  cases sg x <;> cases sg y <;> simp [sgn, Int.neg_mul, Int.mul_neg]
 rw [za7, e, show (dn x + dn y).toNat = x.d + y.d by unfold dn; omega]; rfl
theorem znI {x : Dy} {k : Int} (h : zbe k ≤ x.d) : nrm (sgn (sg x) (val (ms x))) (dn x - zbe k).toNat = x.shift k := by
 rw [zjV, zf7]
 unfold Dy.shift
 rw [if_pos h]; rfl
theorem zmB {x : Dy} {k : Int} (h : ¬ zbe k ≤ x.d) : nrm (sgn (sg x) (val (words (x.n.natAbs * 2 ^ (zbe k - x.d).toNat)))) (0 : Int).toNat = x.shift k := by
 rw [za7, ze8]
 unfold Dy.shift
 rw [if_neg h]; rfl
theorem Arg.neg_of {s : Bool} {ws : List Nat} {d : Int} {x : Dy} (h : Arg s ws d x) : Arg (sg x.neg) (ms x.neg) (dn x.neg) x.neg :=
 ⟨zg7 _, by
  have e : ms x.neg = ms x := by show words (-x.n).natAbs = words x.n.natAbs; rw [Int.natAbs_neg]
  rw [e]; exact h.mlen, .inl ⟨zbB _, rfl, rfl, rfl⟩⟩
theorem zgI : words 1 = [1] := zkD (by omega) (by omega)
theorem u32s_one : u32s (words 1) = [[.v (.int .u32 1)]] := by rw [zgI]; rfl
theorem zoO {q : Rat} {z : Int} {k : Nat} (h : q * 2 ^ k = z) : q.floor = z / 2 ^ k := by
 have hp := zbt k
 have hz : (0 : Int) < 2 ^ k := Int.pow_pos (by omega)
 have h1 : (2 : Int) ^ k * (z / 2 ^ k) ≤ z := Int.mul_ediv_self_le (by omega)
 have h2 : z < 2 ^ k * (z / 2 ^ k) + 2 ^ k := Int.lt_mul_ediv_self_add hz
 have g1 := Rat.intCast_le_intCast.2 h1
 have g2 := Rat.intCast_lt_intCast.2 h2
 rw [Rat.intCast_add] at g2
 rw [Rat.intCast_mul, zdI, ← h] at g1 g2
 refine floor_eq ?_ ?_
 ·exact Rat.le_of_mul_le_mul_right (by grind) hp
 ·exact Rat.lt_of_mul_lt_mul_right (by grind) (Rat.le_of_lt hp)
theorem Dy.floor_fine {x : Dy} {den : Nat} (h : x.d ≤ den) (hd : den ≤ 65536) : x.floor den = x := by
 unfold Dy.floor
 have h1 : (x.v * 2 ^ den).floor = x.n * 2 ^ (den - x.d) := by
  rw [← x.v_scale h, Rat.floor_intCast]
 rw [h1]
 exact nrm_eq hd h rfl
theorem Dy.floor_cut {x : Dy} {den : Nat} (h : den < x.d) : x.floor den = nrm (x.n / 2 ^ (x.d - den)) den := by
 unfold Dy.floor
 rw [zoO (z := x.n) (k := x.d - den)]
 rw [← x.v_mul, show x.d = den + (x.d - den) by omega, zbY, Nat.add_sub_cancel_left]
 grind
theorem neg_ediv {m P : Nat} (hP : 0 < P) (h : m % P ≠ 0) : (-(m : Int)) / (P : Int) = -((m / P + 1 : Nat) : Int) := by
 have h1 := Nat.div_add_mod m P
 have h2 := Nat.mod_lt m hP
 have h3 : (m : Int) = (P : Int) * ((m / P : Nat) : Int) + ((m % P : Nat) : Int) := by exact_mod_cast h1.symm
 rw [h3]
 have h4 : -((P : Int) * ((m / P : Nat) : Int) + ((m % P : Nat) : Int)) = ((P : Int) - ((m % P : Nat) : Int)) + (P : Int) * (-((m / P + 1 : Nat) : Int)) := by
  simp only [Int.mul_neg, Int.natCast_add, Int.mul_add]; simp; omega
 rw [h4, Int.add_mul_ediv_left _ _ (by omega), Int.ediv_eq_zero_of_lt (by omega) (by omega), Int.zero_add]
theorem znJ {x : Dy} {den : Nat} (h : den < x.d) : nrm (sgn (sg x) (val (words (if sg x then x.n.natAbs / 2 ^ (x.d - den) + 1 else x.n.natAbs / 2 ^ (x.d - den))))) ((den : Nat) : Int).toNat = x.floor den := by
 rw [Dy.floor_cut h, za7, Int.toNat_natCast]
 congr 1
 have hodd : x.n % 2 = 1 := by have := x.ok.2; omega
 have e : ∀ k, (2 : Int) ^ k = ((2 ^ k : Nat) : Int) := fun k => (zmD k).symm
 have hm : x.n.natAbs % 2 ^ (x.d - den) ≠ 0 := by
  intro h0
  have : 2 ∣ x.n.natAbs := Nat.dvd_trans (Nat.dvd_trans (by simp) (Nat.pow_dvd_pow 2 (show 1 ≤ x.d - den by omega))) (Nat.dvd_of_mod_eq_zero h0)
  omega
 generalize x.d - den = k at *
 conv => rhs; rw [← zf7 x]
 rw [e]
 cases sg x
 ·simp only [Bool.false_eq_true, if_false, sgn, cond_false]
  exact Int.natCast_ediv ..
 ·simp only [if_true, sgn, cond_true]
  exact (neg_ediv (Nat.pow_pos (by omega)) hm).symm
def Dy.fits (x : Dy) : Bool := decide (x.d = 0 ∧ -9223372036854775808 ≤ x.n ∧ x.n ≤ 9223372036854775807)
def Dy.toInt (x : Dy) : Int := if x.fits then x.n else 0
theorem floor_lt (q : Rat) : q < (q.floor : Int) + 1 := by
 have h : ¬ (q.floor + 1 ≤ q.floor) := by omega
 rw [Rat.le_floor_iff, Rat.intCast_add] at h
 grind
theorem Dy.v_floor (x : Dy) {den : Nat} (hd : den ≤ 65536) : (x.floor den).v ≤ x.v ∧ x.v < (x.floor den).v + 1 / 2 ^ den := by
 have h1 := Rat.floor_le (x.v * 2 ^ den)
 have h2 := floor_lt (x.v * 2 ^ den)
 have hp := zbt den
 have h3 : (x.floor den).v * 2 ^ den = _ := zd3 hd
 rw [← h3] at h1 h2
 have h4 : 1 / 2 ^ den * 2 ^ den = (1 : Rat) := Rat.div_mul_cancel (p2ne _)
 exact ⟨Rat.le_of_mul_le_mul_right h1 hp, Rat.lt_of_mul_lt_mul_right (by rw [Rat.add_mul, h4]; exact h2) (Rat.le_of_lt hp)⟩
theorem Mg.floor {k : Nat} {x : Dy} (h : Mg k x) {den : Nat} : Mg (k + 1) (x.floor den) := by
 unfold Dy.floor
 refine zlV ?_
 have hp := zbt den
 obtain ⟨h1, h2⟩ := h
 have e : (2 : Rat) ^ (k + den) = (((2 ^ (k + den) : Nat) : Int) : Rat) := by rw [zmD, zdI]
 have h3 : (x.v * 2 ^ den).floor < ((2 ^ (k + den) : Nat) : Int) := by
  rw [← Rat.intCast_lt_intCast, ← e, zbY]
  have := Rat.floor_le (x.v * 2 ^ den)
  have := Rat.mul_lt_mul_of_pos_right h2 hp
  grind
 have h4 : -((2 ^ (k + den) : Nat) : Int) ≤ (x.v * 2 ^ den).floor := by
  rw [Rat.le_floor_iff, Rat.intCast_neg, ← e, zbY]
  have := Rat.mul_lt_mul_of_pos_right h1 hp
  grind
 have h5 : 2 ^ (k + 1 + den) = 2 ^ (k + den) * 2 := by rw [← Nat.pow_succ]; congr 1; omega
 have h6 : 0 < 2 ^ (k + den) := Nat.pow_pos (by omega)
 omega
theorem Mg.shift {k : Nat} {x : Dy} (h : Mg k x) (j : Int) : Mg (k + (zbe j).toNat) (x.shift j) := by
 rw [zcv] at h
 unfold Dy.shift
 split
 ·rename_i hc
  refine zlV (Nat.lt_of_lt_of_le h (Nat.pow_le_pow_right (by omega) (by omega)))
 ·rename_i hc
  refine zlV ?_
  rw [Int.natAbs_mul, Int.natAbs_pow]
  have e : k + (zbe j).toNat + 0 = (k + x.d) + (zbe j - x.d).toNat := by omega
  rw [e, Nat.pow_add]
  exact Nat.mul_lt_mul_of_pos_right h (Nat.pow_pos (by decide))
theorem zgL {x : Dy} {j : Nat} (h : x.d + j ≤ 65536) : (x.shift (-(j : Int))).v = x.v / 2 ^ j := by
 have hc : zbe (-(j : Int)) = -(j : Int) := by unfold zbe; omega
 unfold Dy.shift
 rw [if_pos (by omega), hc, show ((x.d : Int) - -(j : Int)).toNat = x.d + j by omega, v_nrm h, zbY]
 show (x.n : Rat) / (2 ^ x.d * 2 ^ j) = (x.n : Rat) / 2 ^ x.d / 2 ^ j
 have h1 := p2ne x.d
 have h2 := p2ne j
 apply zep (d := x.d + j)
 rw [zbY, Rat.div_mul_cancel (by intro h0; rcases Rat.mul_eq_zero.1 h0 with h0 | h0 <;> contradiction)]
 have e1 : (x.n : Rat) / 2 ^ x.d / 2 ^ j * 2 ^ j = (x.n : Rat) / 2 ^ x.d := Rat.div_mul_cancel h2
 have e2 : (x.n : Rat) / 2 ^ x.d * 2 ^ x.d = x.n := Rat.div_mul_cancel h1
 rw [← e2, ← e1]; grind
theorem zbX {x : Dy} {j : Nat} (h : j ≤ 65536) : (x.shift (j : Int)).v = x.v * 2 ^ j := by
 have hc : zbe (j : Int) = (j : Int) := by unfold zbe; omega
 have hx := x.ok.1
 unfold Dy.shift
 rw [hc]
 split
 ·rename_i hj
  apply zep (d := x.d - j)
  rw [show ((x.d : Int) - (j : Int)).toNat = x.d - j by omega, zd3 (by omega), ← x.v_mul]
  have e : (2 : Rat) ^ x.d = 2 ^ j * 2 ^ (x.d - j) := by rw [← zbY]; congr 1; omega
  rw [e]; grind
 ·rename_i hj
  rw [v_nrm (by omega), show ((j : Int) - (x.d : Int)).toNat = j - x.d by omega, Rat.intCast_mul, zdI, ← x.v_mul]
  have e : (2 : Rat) ^ j = 2 ^ x.d * 2 ^ (j - x.d) := by rw [← zbY]; congr 1; omega
  rw [e]
  have : (2 : Rat) ^ 0 = 1 := rfl
  grind
theorem zlv {a b : Int} : (Dy.int a).v ≤ (Dy.int b).v ↔ a ≤ b := by rw [Dy.v_int, Dy.v_int]; exact Rat.intCast_le_intCast
end Go.Ax

namespace Go.Ax
end Go.Ax

namespace Go.Ax
open Go Go.RowKit
inductive KD
 | int (k : IntKind)
 | bool
 | str
 | sl (ks : List KD)
inductive FitC : KD → AV → Prop
 | int {k : IntKind} {n : Int} (h : (Lit.int k n).wf = true) : FitC (.int k) (.v (.int k n))
 | bool {b : Bool} : FitC .bool (.v (.bool b))
 | str {s : ByteArray} (h : s.size ≤ maxLen) : FitC .str (.v (.string s))
 | sl {ks : List KD} {rows : List (List AV)} (hm : rows.length ≤ maxLen) (hl : ∀ r ∈ rows, r.length = ks.length) (h : ∀ r ∈ rows, ∀ (i : Nat) (k : KD) (a : AV), ks[i]? = some k → r[i]? = some a → FitC k a) : FitC (.sl ks) (.sl ks.length rows)
def zeo (ks : List KD) (l : List AV) : Prop := l.length = ks.length ∧ ∀ (i : Nat) (k : KD) (a : AV), ks[i]? = some k → l[i]? = some a → FitC k a
theorem zeo.cons {k : KD} {ks : List KD} {l : List AV} (h : zeo (k :: ks) l) : ∃ a l', l = a :: l' ∧ FitC k a ∧ zeo ks l' := by
 obtain ⟨h1, h2⟩ := h
 cases l with
 | nil => simp at h1
 | cons a l' => exact ⟨a, l', rfl, h2 0 k a rfl rfl, by simpa using h1, fun i k b hk hb => h2 (i + 1) k b (by simpa using hk) (by simpa using hb)⟩
theorem zeo.nil {l : List AV} (h : zeo [] l) : l = [] := List.length_eq_zero_iff.1 h.1
theorem zeo.int {k : IntKind} {ks : List KD} {l : List AV} (h : zeo (.int k :: ks) l) : ∃ n l', l = .v (.int k n) :: l' ∧ (Lit.int k n).wf = true ∧ zeo ks l' := by
 obtain ⟨a, l', rfl, hc, hl⟩ := h.cons
 cases hc with
 | int hw => exact ⟨_, l', rfl, hw, hl⟩
theorem zeo.sl {es ks : List KD} {l : List AV} (h : zeo (.sl es :: ks) l) : ∃ rows l', l = .sl es.length rows :: l' ∧ rows.length ≤ maxLen ∧ (∀ r ∈ rows, zeo es r) ∧ zeo ks l' := by
 obtain ⟨a, l', rfl, hc, hl⟩ := h.cons
 cases hc with
 | sl hm h1 h2 => exact ⟨_, l', rfl, hm, fun r hr => ⟨h1 r hr, h2 r hr⟩, hl⟩
theorem zeo.i64 {ks : List KD} {l : List AV} (h : zeo (.int .i64 :: ks) l) : ∃ n l', l = .v (.int .i64 n) :: l' ∧ (-9223372036854775808 ≤ n ∧ n ≤ 9223372036854775807) ∧ zeo ks l' := by
 obtain ⟨n, l', h1, h2, h3⟩ := h.int
 exact ⟨n, l', h1, by simpa [Lit.wf, IntKind.min, IntKind.max, IntKind.signed, IntKind.bits] using h2, h3⟩
theorem zeo.append {ks ks' : List KD} {l l' : List AV} (h : zeo ks l) (h' : zeo ks' l') : zeo (ks ++ ks') (l ++ l') := by
 refine ⟨by simp [h.1, h'.1], fun i k a hk ha => ?_⟩
 by_cases hi : i < ks.length
 ·rw [List.getElem?_append_left hi] at hk
  rw [List.getElem?_append_left (by rw [h.1]; exact hi)] at ha
  exact h.2 i k a hk ha
 ·rw [List.getElem?_append_right (by omega)] at hk
  rw [List.getElem?_append_right (by rw [h.1]; omega), h.1] at ha
  exact h'.2 _ k a hk ha
def zhi (f : TypeId → Option (List KD)) (size : TypeId → Nat) : Nat → List Field → Option (List KD)
 | _, [] => some []
 | off, fd :: fs => match f fd.type, zhi f size (off + size fd.type) fs with
  | some a, some b => if fd.offset = off ∧ a.length = size fd.type then some (a ++ b) else none
  | _, _ => none
def repK (ks : List KD) : Nat → List KD
 | 0 => []
 | n + 1 => ks ++ repK ks n
def zdN (P : Program) : Nat → TypeId → Option (List KD)
 | 0, _ => none
 | d + 1, t => match P.underlying t with
  | some (.int k) => if P.cellsOf t = 1 then some [.int k] else none
  | some .bool => if P.cellsOf t = 1 then some [.bool] else none
  | some .string => if P.cellsOf t = 1 then some [.str] else none
  | some (.slice e) => if P.cellsOf t = 1 then (match zdN P d e with | some ks => if ks.length = P.cellsOf e ∧ 0 < ks.length then some [.sl ks] else none | none => none) else none
  | some (.struct fs) => (match zhi (zdN P d) P.cellsOf 0 fs.toList with | some ks => if ks.length = P.cellsOf t then some ks else none | none => none)
  | some (.array n e) => (match zdN P d e with | some ks => if ks.length = P.cellsOf e ∧ (repK ks n).length = P.cellsOf t then some (repK ks n) else none | none => none)
  | _ => none
def zkz (P : Program) (f : FuncId) (args : Array Value) (w : World) : Prop := Calls P f args w fun e W' => Below w.heap.size w W' ∧ e = .returned (.bool true)
section
variable {H : Type} {enc : TypeId × Value → H} {P : Program} {w : World} {base : Nat} {spare : Nat → Bool} {held : Bool}
def zna (w : World) (cs : List Value) (l : List AV) : Prop := cs.length = l.length ∧ ∀ (i : Nat) (c : Value) (a : AV), cs[i]? = some c → l[i]? = some a → Rel nσ (fun k => k < w.heap.size) w c a
theorem zna.append {cs cs' : List Value} {l l' : List AV} (h : zna w cs l) (h' : zna w cs' l') : zna w (cs ++ cs') (l ++ l') := by
 refine ⟨by simp [h.1, h'.1], fun i k a hk ha => ?_⟩
 by_cases hi : i < cs.length
 ·rw [List.getElem?_append_left hi] at hk
  rw [List.getElem?_append_left (by rw [← h.1]; exact hi)] at ha
  exact h.2 i k a hk ha
 ·rw [List.getElem?_append_right (by omega)] at hk
  rw [List.getElem?_append_right (by rw [← h.1]; omega), ← h.1] at ha
  exact h'.2 _ k a hk ha
theorem add_add (a : Addr) (n m : Nat) : (a.add n).add m = a.add (n + m) := by
 unfold Addr.add
 by_cases hn : n = 0
 ·subst hn; simp
 ·by_cases hm : m = 0
  ·subst hm; simp [hn]
  ·have : ¬ (n + m = 0) := by omega
   simp [hn, hm, Nat.add_assoc]
theorem add_none {b o n : Nat} : (⟨b, o, none⟩ : Addr).add n = ⟨b, o + n, none⟩ := by
 unfold Addr.add
 by_cases hn : n = 0
 ·subst hn; simp
 ·simp [hn]
theorem znS {α : Type} (n : Nat) (p : Nat → α → Prop) (h : ∀ i, i < n → ∃ r, p i r) : ∃ rows : List α, rows.length = n ∧ ∀ i r, rows[i]? = some r → p i r := by
 induction n with
 | zero => exact ⟨[], rfl, fun i r hr => by simp at hr⟩
 | succ n ih =>
  obtain ⟨rows, h1, h2⟩ := ih (fun i hi => h i (by omega))
  obtain ⟨r, hr⟩ := h n (by omega)
  refine ⟨rows ++ [r], by simp [h1], fun i x hx => ?_⟩
  by_cases hi : i < rows.length
  ·rw [List.getElem?_append_left hi] at hx; exact h2 i x hx
  ·rw [List.getElem?_append_right (by omega)] at hx
   have : i - rows.length = 0 := by
    rcases Nat.eq_zero_or_pos (i - rows.length) with h0 | h0
    ·exact h0
    ·rw [List.getElem?_eq_none (by simp; omega)] at hx; cases hx
   rw [this] at hx
   simp at hx
   subst hx
   rw [show i = n by omega]
   exact hr
theorem zd8 : ∀ (d : Nat) (t : TypeId) (ks : List KD), zdN P d t = some ks → ∀ (fuel : Nat) (cs : List Value) (x : DataW H × List MemPlace), DataW.trod enc P w base spare held fuel t cs = some x →
  cs.length = ks.length ∧ ks.length = P.cellsOf t ∧ ∃ l, zeo ks l ∧ zna w cs l
 | 0, _, _, h, _, _, _, _ => by cases h
 | d + 1, t, ks, h, fuel, cs, x, hx => by
  simp only [zdN] at h
  split at h
  ·rename_i k hu
   split at h
   ·rename_i hc
    injection h with h; subst h
    obtain ⟨n, rfl, _, hw⟩ := DataW.trod_int hu hx
    refine ⟨rfl, hc.symm, [.v (.int k n)], ⟨rfl, fun i k' a hk ha => ?_⟩, rfl, fun i c a hc ha => ?_⟩
    ·cases i <;> simp at hk ha
     subst hk ha; exact .int hw
    ·cases i <;> simp at hc ha
     subst hc ha; exact .v _
   ·cases h
  ·rename_i hu
   split at h
   ·rename_i hc
    injection h with h; subst h
    obtain ⟨b, rfl, _⟩ := DataW.trod_bool hu hx
    refine ⟨rfl, hc.symm, [.v (.bool b)], ⟨rfl, fun i k' a hk ha => ?_⟩, rfl, fun i c a hc ha => ?_⟩
    ·cases i <;> simp at hk ha
     subst hk ha; exact .bool
    ·cases i <;> simp at hc ha
     subst hc ha; exact .v _
   ·cases h
  ·rename_i hu
   split at h
   ·rename_i hc
    injection h with h; subst h
    obtain ⟨s, rfl, _, hs⟩ := DataW.trod_string hu hx
    refine ⟨rfl, hc.symm, [.v (.string s)], ⟨rfl, fun i k' a hk ha => ?_⟩, rfl, fun i c a hc ha => ?_⟩
    ·cases i <;> simp at hk ha
     subst hk ha; exact .str hs
    ·cases i <;> simp at hc ha
     subst hc ha; exact .v _
   ·cases h
  ·rename_i e hu
   split at h
   ·rename_i hc
    split at h
    ·rename_i es hes
     split at h
     ·rename_i hlen
      injection h with h; subst h
      have fin : ∀ (v : Value) (rows : List (List AV)), cs = [v] → rows.length ≤ maxLen → (∀ r ∈ rows, zeo es r) → Rel nσ (fun k => k < w.heap.size) w v (.sl es.length rows) → cs.length = [KD.sl es].length ∧ [KD.sl es].length = P.cellsOf t ∧ ∃ l, zeo [KD.sl es] l ∧ zna w cs l := fun v rows hcs hm hf hr => by
       subst hcs
       refine ⟨rfl, hc.symm, [.sl es.length rows], ⟨rfl, fun i k' a hk ha => ?_⟩, rfl, fun i c a hc ha => ?_⟩
       ·cases i <;> simp at hk ha
        subst hk ha; exact .sl hm (fun r hr => (hf r hr).1) (fun r hr => (hf r hr).2)
       ·cases i <;> simp at hc ha
        subst hc ha; exact hr
      rcases DataW.trod_slice hu hx with ⟨rfl, _⟩ | ⟨a, len, cap, elems, rest, m, _, rfl, _, _, hl, hm, hel, hget, _, _⟩
      ·exact fin _ [] rfl (Nat.zero_le _) (fun r hr => by cases hr) .nil
      ·by_cases h0 : len = 0
       ·subst h0
        exact fin _ [] rfl (Nat.zero_le _) (fun r hr => by cases hr) .e
       ·have each : ∀ i, i < len → ∃ r : List Value × List AV, (∀ j, j < P.cellsOf e → w.cell? (a.add (i * P.cellsOf e + j)) = r.1[j]?) ∧ r.1.length = P.cellsOf e ∧ zeo es r.2 ∧ zna w r.1 r.2 := fun i hi => by
         have hg := hget i hi
         rw [List.getElem?_eq_getElem (by omega)] at hg
         obtain ⟨ci, hci, htr⟩ := Option.bind_eq_some_iff.1 hg
         obtain ⟨g1, g2, l, g3, g4⟩ := zd8 d e es hes m ci _ htr
         unfold World.cells? at hci
         split at hci
         ·refine ⟨(ci, l), fun j hj => ?_, by rw [g1, g2], g3, g4⟩
          have := mapM_some_get hci j j (by simp [hj])
          rw [← add_add]; exact this
         ·cases hci
        obtain ⟨rs, hrl, hrs⟩ := znS len _ each
        have hlen' : es.length = P.cellsOf e := hlen.1
        have hblock : a.spot = none ∧ a.block < w.heap.size := by
         obtain ⟨r, hr⟩ : ∃ r, rs[0]? = some r := ⟨rs[0]'(by omega), by rw [List.getElem?_eq_getElem (by omega)]⟩
         obtain ⟨q1, q2, _⟩ := hrs 0 r hr
         have q := q1 0 (by omega)
         rw [List.getElem?_eq_getElem (by omega), Nat.zero_mul, Nat.add_zero, show a.add 0 = a from rfl] at q
         unfold World.cell? at q
         split at q
         ·rename_i c e' f hh
          refine ⟨?_, (Array.getElem?_eq_some_iff.1 hh).1⟩
          split at q
          ·cases q
          ·rename_i hs; simpa using hs
         ·cases q
        obtain ⟨blk, off, sp⟩ := a
        obtain ⟨hsp, hb⟩ := hblock
        simp only at hsp hb
        subst hsp
        have hrows : (rs.map (·.2)).length = len := by simp [hrl]
        refine fin _ (rs.map (·.2)) rfl (by omega) (fun r hr => ?_) ?_
        ·obtain ⟨p, hp, rfl⟩ := List.mem_map.1 hr
         obtain ⟨i, hi⟩ := List.getElem?_of_mem hp
         exact (hrs i p hi).2.2.1
        ·have key := Rel.sl (σ := nσ) (S := fun k => k < w.heap.size) (w := w) (k := blk) (off := off) (cap := cap) (sz := es.length) (rows := rs.map (·.2)) (fun i j => ((rs[i]?.getD ([], [])).1[j]?).getD undef) hb (by omega)
          (fun r hr => by
           obtain ⟨p, hp, rfl⟩ := List.mem_map.1 hr
           obtain ⟨i, hi⟩ := List.getElem?_of_mem hp
           exact (hrs i p hi).2.2.1.1)
          (fun i r j av h1 h2 => by
           rw [List.getElem?_map] at h1
           obtain ⟨p, hp, rfl⟩ := Option.map_eq_some_iff.1 h1
           obtain ⟨q1, q2, q3, q4⟩ := hrs i p hp
           have hj : j < P.cellsOf e := by
            have := (List.getElem?_eq_some_iff.1 h2).1
            rw [q3.1] at this; omega
           have q := q1 j hj
           rw [show (⟨blk, off, none⟩ : Addr).add (i * P.cellsOf e + j) = ⟨blk, off + (i * P.cellsOf e + j), none⟩ from add_none] at q
           rw [hp, hlen', Nat.add_assoc, q]
           simp only [Option.getD_some]
           rw [List.getElem?_eq_getElem (by omega)]
           rfl)
          (fun i r j av h1 h2 => by
           rw [List.getElem?_map] at h1
           obtain ⟨p, hp, rfl⟩ := Option.map_eq_some_iff.1 h1
           obtain ⟨q1, q2, q3, q4⟩ := hrs i p hp
           have hj : j < p.1.length := by
            have := (List.getElem?_eq_some_iff.1 h2).1
            rw [q4.1]; exact this
           rw [hp]
           simp only [Option.getD_some]
           exact q4.2 j _ av (by rw [List.getElem?_eq_getElem hj]; rfl) h2)
         rw [hrows] at key
         exact key
     ·cases h
    ·cases h
   ·cases h
  ·rename_i fs hu
   split at h
   ·rename_i ks' hk
    split at h
    ·rename_i hlen
     injection h with h; subst h
     obtain ⟨xs, m, _, rfl, hcl, hxl, hf⟩ := DataW.trod_struct hu hx
     have key : ∀ (l : List Field) (off : Nat) (ks : List KD), zhi (zdN P d) P.cellsOf off l = some ks → off + ks.length = cs.length → (∀ fd ∈ l, ∃ y, DataW.trod enc P w base spare held m fd.type ((cs.drop fd.offset).take (P.cellsOf fd.type)) = some y) →
       ∃ v, zeo ks v ∧ zna w (cs.drop off) v := by
      intro l
      induction l with
      | nil =>
       intro off ks hk hoff _
       simp only [zhi, Option.some.injEq] at hk
       subst hk
       refine ⟨[], ⟨rfl, fun i k a hk => by simp at hk⟩, by simp; simp at hoff; omega, fun i c a _ ha => by simp at ha⟩
      | cons fd l ih =>
       intro off ks hk hoff hall
       simp only [zhi] at hk
       split at hk
       ·rename_i a b ha hb
        split at hk
        ·rename_i hcond
         injection hk with hk; subst hk
         obtain ⟨y, hy⟩ := hall fd (List.mem_cons_self ..)
         obtain ⟨g1, g2, v1, g3, g4⟩ := zd8 d fd.type a ha m _ y hy
         simp only [List.length_append] at hoff
         obtain ⟨v2, g5, g6⟩ := ih (off + P.cellsOf fd.type) b hb (by omega) (fun f hf => hall f (List.mem_cons_of_mem _ hf))
         refine ⟨v1 ++ v2, g3.append g5, ?_⟩
         have e : cs.drop off = (cs.drop fd.offset).take (P.cellsOf fd.type) ++ cs.drop (off + P.cellsOf fd.type) := by
          rw [hcond.1, ← List.drop_drop, List.take_append_drop]
         rw [e]
         exact g4.append g6
        ·cases hk
       ·cases hk
     obtain ⟨v, g1, g2⟩ := key fs.toList 0 ks' hk (by omega) (fun fd hfd => by
      obtain ⟨i, hi⟩ := List.getElem?_of_mem hfd
      have hi' : fs[i]? = some fd := by simpa using hi
      have hlt : i < xs.length := by rw [hxl]; exact (Array.getElem?_eq_some_iff.1 hi').1
      exact ⟨xs[i], by rw [hf i fd hi', List.getElem?_eq_getElem hlt]⟩)
     exact ⟨by omega, hlen, v, g1, by simpa using g2⟩
    ·cases h
   ·cases h
  ·rename_i n e hu
   split at h
   ·rename_i es hes
    split at h
    ·rename_i hlen
     injection h with h; subst h
     obtain ⟨xs, m, _, rfl, hcl, hxl, hf⟩ := DataW.trod_array hu hx
     have key : ∀ (q off : Nat), off + q = n → off * P.cellsOf e + (repK es q).length = cs.length → ∃ v, zeo (repK es q) v ∧ zna w (cs.drop (off * P.cellsOf e)) v := by
      intro q
      induction q with
      | zero =>
       intro off _ hoff
       refine ⟨[], ⟨rfl, fun i k a hk => by simp [repK] at hk⟩, by simp [repK] at hoff ⊢; omega, fun i c a _ ha => by simp at ha⟩
      | succ q ih =>
       intro off ho hoff
       have hi : off < n := by omega
       have hg := hf off hi
       rw [List.getElem?_eq_getElem (by omega)] at hg
       obtain ⟨g1, g2, v1, g3, g4⟩ := zd8 d e es hes m _ _ hg
       simp only [repK, List.length_append] at hoff
       obtain ⟨v2, g5, g6⟩ := ih (off + 1) (by omega) (by rw [Nat.add_mul, Nat.one_mul]; omega)
       refine ⟨v1 ++ v2, g3.append g5, ?_⟩
       have e : cs.drop (off * P.cellsOf e) = (cs.drop (off * P.cellsOf e)).take (P.cellsOf e) ++ cs.drop ((off + 1) * P.cellsOf e) := by
        rw [Nat.add_mul, Nat.one_mul, ← List.drop_drop, List.take_append_drop]
       rw [e]
       exact g4.append g6
     obtain ⟨v, g1, g2⟩ := key n 0 (by omega) (by omega)
     exact ⟨by omega, hlen.2, v, g1, by simpa using g2⟩
    ·cases h
   ·cases h
  ·cases h
theorem arg_agg {r : Reach} {b0 d : Nat} {t : TypeId} {ks : List KD} {v : Value} {x : DataW H} {ps : List MemPlace} (ht : (∃ fs, P.underlying t = some (.struct fs)) ∨ ∃ n e, P.underlying t = some (.array n e)) (hk : zdN P d t = some ks)
  (hval : Value.okWide P w r b0 t v) (hd : DataW.Trod enc P w base spare held t v x ps) : ∃ l, zeo ks l ∧ Rel nσ (fun k => k < w.heap.size) w v (.agg l) := by
 have : ∃ cs, v = .agg cs := by
  unfold Value.okWide at hval
  rcases ht with ⟨fs, h⟩ | ⟨n, e, h⟩
  ·simp only [h] at hval; obtain ⟨cs, h1, _⟩ := hval; exact ⟨cs, h1⟩
  ·simp only [h] at hval; obtain ⟨cs, h1, _⟩ := hval; exact ⟨cs, h1⟩
 obtain ⟨cs, rfl⟩ := this
 obtain ⟨fuel, hf⟩ := hd
 obtain ⟨_, _, l, h1, h2⟩ := zd8 d t ks hk fuel _ _ hf
 exact ⟨l, h1, .agg (by simpa [Value.cells] using h2.1) (fun i y a hy ha => h2.2 i y a (by simpa [Value.cells] using hy) ha)⟩
theorem arg_one {r : Reach} {b0 d : Nat} {t : TypeId} {k : KD} {v : Value} {x : DataW H} {ps : List MemPlace} (hk : zdN P d t = some [k]) (ht : (∀ fs, P.underlying t ≠ some (.struct fs)) ∧ ∀ n e, P.underlying t ≠ some (.array n e))
  (hval : Value.okWide P w r b0 t v) (hd : DataW.Trod enc P w base spare held t v x ps) : ∃ a, FitC k a ∧ Rel nσ (fun k => k < w.heap.size) w v a := by
 obtain ⟨fuel, hf⟩ := hd
 obtain ⟨_, _, l, h1, h2⟩ := zd8 d t [k] hk fuel _ _ hf
 obtain ⟨a, l', rfl, h3, h4⟩ := h1.cons
 obtain rfl := h4.nil
 have hv : v.cells = #[v] := by
  cases v with
  | agg cs =>
   exfalso
   cases d with
   | zero => cases hk
   | succ d =>
    simp only [zdN] at hk
    unfold Value.okWide Cell.okWide Cell.ok at hval
    cases hu : P.underlying t with
    | none => rw [hu] at hk; cases hk
    | some td =>
     rw [hu] at hk hval
     cases td with
     | struct fs => exact ht.1 fs hu
     | array n e => exact ht.2 n e hu
     | int k => simp at hval
     | bool => simp at hval
     | string => simp at hval
     | slice e => simp at hval
     | _ => cases hk
  | _ => rfl
 exact ⟨a, h3, h2.2 0 v a (by rw [hv]; rfl) rfl⟩
theorem ze4 {W' : World} {sp' : Nat → Bool} (hl : laidOutB P = true) : ∀ {ts : List TypeId} {vs : List Value} {ds : List (DataW H)} {ps : List MemPlace}, ts.all (fun t => P.readableRec t && decide (t < P.types.size)) = true →
  DataW.TrodAll enc P w base (fun _ => true) true ts vs ds ps → (∀ p ∈ ps, w.sameAt W' p) → (∀ p ∈ ps, sp' p.block = true) → DataW.TrodAll enc P W' base sp' true ts vs ds ps
 | [], [], [], _, _, h, _, _ => h
 | [], _ :: _, _, _, _, h, _, _ => h.elim
 | [], [], _ :: _, _, _, h, _, _ => h.elim
 | _ :: _, [], _, _, _, h, _, _ => h.elim
 | _ :: _, _ :: _, [], _, _, h, _, _ => h.elim
 | t :: ts, v :: vs, d :: ds, ps, hr, h, hs, hp => by
  obtain ⟨p, q, h1, h2, rfl⟩ := h
  simp only [List.all_cons, Bool.and_eq_true, decide_eq_true_eq] at hr
  exact ⟨p, q, WideElems.Trod_stays hl hr.1.1 hr.1.2 h1 (fun x hx => hs x (by simp [hx])) (fun x hx => hp x (by simp [hx])), ze4 hl hr.2 h2 (fun x hx => hs x (by simp [hx])) (fun x hx => hp x (by simp [hx])), rfl⟩
theorem law_post {f : FuncId} {fn : Func} {s : ChangeSpec} {apart fresh handsOn : Bool} {args : Array Value} {ds gs : List (DataW H)} {before : List MemPlace} {tb : TypeId}
  (hl : laidOutB P = true) (hr : fn.params.toList.all (fun t => P.readableRec t && decide (t < P.types.size)) = true) (hrt : fn.resultTypes = #[tb]) (hub : P.underlying tb = some .bool) (hvars : s.vars = [])
  (hspec : s.fn H ds = { results := [.lit (.bool true)], args := ds })
  (hW : DataW.Whole enc P fn.params.toList s.vars apart w args.toList ds gs before)
  (calls : zkz P f args w) :
  Calls P f args w fun e W' => ∃ v, e = .returned v ∧ s.post enc P fn apart fresh handsOn false w args v W' := by
 refine calls.mono fun e W' ⟨hb, he⟩ => ?_
 subst he
 have hW' := hW
 obtain ⟨p, q, hA, hV, hpq, hfz, hnd⟩ := hW
 rw [hvars] at hV
 obtain ⟨rfl, rfl⟩ := ChangeShapes.trodVars_none hV
 have hpq : before = p := by simpa using hpq
 subst hpq
 refine ⟨_, rfl, ds, [], before, [], before, [], hW', ?_, ?_, ?_, hb.frame _, fun h => by cases h⟩
 ·rw [hrt, List.append_nil, hspec]
  exact ChangeShapes.trodAll_mk1 (shut_bool hub _)
 ·rw [List.append_nil, hspec]
  exact ze4 hl hr hA (fun x hx => hb.same (hW'.lt x hx)) (fun x hx => by simpa using hW'.lt x hx)
 ·rw [hvars, List.append_nil, hspec]
  exact rfl
end
theorem relV_nil {w : World} : zna w [] [] := ⟨rfl, fun i c a h => by simp at h⟩
theorem zjK {w : World} {c : Value} {a : AV} {cs : List Value} {l : List AV} (h : Rel nσ (fun k => k < w.heap.size) w c a) (h' : zna w cs l) : zna w (c :: cs) (a :: l) :=
 ⟨by simp [h'.1], fun i x y hx hy => by
  cases i with
  | zero => simp at hx hy; subst hx hy; exact h
  | succ i => exact h'.2 i x y (by simpa using hx) (by simpa using hy)⟩
theorem fitC_sl {ks : List KD} {a : AV} (h : FitC (.sl ks) a) : ∃ rows, a = .sl ks.length rows ∧ rows.length ≤ maxLen ∧ ∀ r ∈ rows, zeo ks r := by
 cases h with
 | sl hm h1 h2 => exact ⟨_, rfl, hm, fun r hr => ⟨h1 r hr, h2 r hr⟩⟩
theorem zjA {P : Program} {G : GL} {f : FuncId} {as : List AV} {vs : Array Value} {w : World} (h : CallOK P G f as (.v (.bool true))) (hg : ∀ g l, (g, l) ∈ G → GH w g l) (hs : vs.size = as.length) (hr : zna w vs.toList as) : zkz P f vs w := by
 refine (h.runs (fun k => k < w.heap.size) w vs (fun k hk => hk) (fun g l h => ⟨(hg g l h).lt, hg g l h⟩) hs (fun i x av hx ha => hr.2 i x av (by simpa using hx) ha)).mono fun e W' ⟨hb, x, he, hx⟩ => ?_
 cases hx
 exact ⟨hb, he⟩
theorem Mg.arg {k : Nat} {x : Dy} (h : Mg k x) (hk : k ≤ 1099511627776 := by omega) : Arg (sg x) (ms x) (dn x) x := Arg.of h hk
abbrev zaj (x : Dy) : List AV := [.v (.bool (sg x)), .sl 1 (u32s (ms x)), .v (.int .i64 (dn x))]
theorem zof {n : Nat} {rows : List (List AV)} (h : ∀ r ∈ rows, ∀ a ∈ r, Cl a) : zh6 n rows := by
 have hl : ∀ l : List AV, (∀ a ∈ l, Cl a) → nbL n l := fun l => by
  induction l with
  | nil => intro _; trivial
  | cons a l ih => intro h; exact ⟨.cl (h a (List.mem_cons_self ..)), ih fun b hb => h b (List.mem_cons_of_mem _ hb)⟩
 induction rows with
 | nil => trivial
 | cons r l ih => exact ⟨hl r (h r (List.mem_cons_self ..)), ih fun r' hr' => h r' (List.mem_cons_of_mem _ hr')⟩
def okL (b : Nat) : List AV → Prop
 | [] => True
 | a :: l => (a.one = true ∧ NO b a) ∧ okL b l
def okRL (b sz : Nat) : List (List AV) → Prop
 | [] => True
 | r :: l => (r.length = sz ∧ okL b r) ∧ okRL b sz l
theorem zn6 {b : Nat} : ∀ (l : List AV), okL b l → ∀ a ∈ l, a.one = true ∧ NO b a
 | [], _, a, h => by cases h
 | x :: l, hl, a, h => by
  rcases List.mem_cons.1 h with rfl | h
  ·exact hl.1
  ·exact zn6 l hl.2 a h
theorem zmA {b sz : Nat} {rows : List (List AV)} (h : okRL b sz rows) : zb1 b sz rows := by
 induction rows with
 | nil => intro r hr; cases hr
 | cons r0 rows ih =>
  intro r hr
  rcases List.mem_cons.1 hr with rfl | hr
  ·exact ⟨h.1.1, zn6 _ h.1.2⟩
  ·exact ih h.2 r hr
def rws {α : Type} (f : α → List AV) (l : List α) : List (List AV) := l.map f
def zae {α : Type} (f : α → List AV) : Prop := ∀ x, ∀ a ∈ f x, Cl a
theorem zab {α : Type} {f : α → List AV} (l : List α) : (rws f l).length = l.length := by simp [rws]
theorem zcS {α : Type} {f : α → List AV} {l : List α} {i : Nat} (d : α) (h : i < l.length) : (rws f l).getD i [] = f (l.getD i d) := by
 simp [rws, List.getD, h]
theorem zhZ {α : Type} {f : α → List AV} (l m : List α) : rws f (l ++ m) = rws f l ++ rws f m := by simp [rws]
theorem zbV {α : Type} {f : α → List AV} {l : List α} {k : Nat} {x : α} (h : l.length = k) : (rws f l).take k ++ [f x] = rws f (l ++ [x]) := by
 rw [zhZ, List.take_of_length_le (by rw [zab]; omega)]; rfl
theorem zjG {α : Type} {f : α → List AV} {l : List α} {k : Nat} {x y : α} (h : l.length = k) : (rws f l).take k ++ [f x, f y] = rws f (l ++ [x, y]) := by
 rw [zhZ, List.take_of_length_le (by rw [zab]; omega)]; rfl
theorem zcT {α : Type} {f : α → List AV} (hf : zae f) (l : List α) : ∀ r ∈ rws f l, ∀ a ∈ r, Cl a := fun r hr a ha => by
 simp only [rws, List.mem_map] at hr
 obtain ⟨x, _, rfl⟩ := hr
 exact hf x a ha
theorem Cl.rws {α : Type} {f : α → List AV} (hf : zae f) {sz : Nat} {l : List α} : Cl (.sl sz (Ax.rws f l)) := Cl.sl (zcT hf l)
theorem zbz {α : Type} {f : α → List AV} (hf : zae f) {n : Nat} {l : List α} : zh6 n (rws f l) := zof (zcT hf l)
theorem zdu {α : Type} {f : α → List AV} (hf : zae f) {b : Nat} {l : List α} : ∀ r ∈ rws f l, ∀ a ∈ r, NO b a := fun r hr a ha => .cl (zcT hf l r hr a ha)
theorem zh2 {α : Type} {f : α → List AV} (hf : zae f) {b sz : Nat} (h1 : ∀ x, (f x).length = sz ∧ ∀ a ∈ f x, a.one = true) {l : List α} : zb1 b sz (rws f l) := fun r hr => by
 simp only [rws, List.mem_map] at hr
 obtain ⟨x, _, rfl⟩ := hr
 exact ⟨(h1 x).1, fun a ha => ⟨(h1 x).2 a ha, .cl (hf x a ha)⟩⟩
def zaD (p : Int × Int × Int) : List AV := [.v (.int .i64 p.1), .v (.int .i64 p.2.1), .v (.int .i64 p.2.2)]
theorem zbJ : zae zaD := fun x a ha => by
 simp only [zaD, List.mem_cons, List.not_mem_nil, or_false] at ha
 rcases ha with rfl | rfl | rfl <;> exact Cl.v _
def zad (n : Int) : List AV := [.v (.int .i64 n)]
theorem zbh : zae zad := fun x a ha => by
 simp only [zad, List.mem_cons, List.not_mem_nil, or_false] at ha
 rcases ha with rfl; exact Cl.v _
theorem zjH {b : Nat} {l : List Int} : zb1 b 1 (rws zad l) := zh2 zbh (fun x => ⟨rfl, fun a ha => by
 simp only [zad, List.mem_cons, List.not_mem_nil, or_false] at ha
 rcases ha with rfl; rfl⟩)
theorem zhg {rows : List (List AV)} (h : ∀ r ∈ rows, zeo [.int .i64] r) : ∃ l : List Int, (∀ p ∈ l, -9223372036854775808 ≤ p ∧ p ≤ 9223372036854775807) ∧ rows = rws zad l ∧ rows.length = l.length := by
 induction rows with
 | nil => exact ⟨[], fun r hr => by simp at hr, rfl, rfl⟩
 | cons r l ih =>
  obtain ⟨m, h1, h2, h3⟩ := ih (fun r' h' => h r' (List.mem_cons_of_mem _ h'))
  obtain ⟨a, l1, rfl, ha, q1⟩ := (h r (List.mem_cons_self ..)).i64
  obtain rfl := q1.nil
  refine ⟨a :: m, fun p hp => ?_, by rw [h2]; rfl, by simp [h3]⟩
  rcases List.mem_cons.1 hp with rfl | hp
  ·exact ha
  ·exact h1 p hp
section
variable {P : Program} {ti : zaN} {D : Base} {S0 : Nat → Prop} {w0 : World} {σ : Sig} {S : Nat → Prop} {w : World} {mem : List (Nat × MB)} {U : Nat → Prop}
theorem Fit.alias (hF : Fit D S0 w0 σ S mem U w) {b next k0 k : Nat} {m : MB} (hid : ¬ U next) (hm : look mem b = some m) (hσ : σ b = some k0) :
  Fit D S0 w0 (upd σ next k0) S ((next, ⟨m.sz, m.rows.take k⟩) :: dropM b mem) (fun c => U c ∨ c = next) w where
 below := hF.below
 dom c k1 hk := by
  unfold upd at hk
  split at hk
  ·injection hk with hk; subst hk; rename_i hc; exact ⟨.inr hc, (hF.dom b _ hσ).2⟩
  ·have := hF.dom c k1 hk; exact ⟨.inl this.1, this.2⟩
 inj c c' k1 m1 m2 h1 h2 h3 h4 := by
  simp only [look] at h1 h2
  unfold upd at h3 h4
  by_cases e1 : c = next <;> by_cases e2 : c' = next
  ·rw [e1, e2]
  ·rw [if_pos e1] at h3; rw [if_neg e2] at h4
   rw [if_neg (fun e => e2 e.symm)] at h2
   injection h3 with h3; subst h3
   obtain ⟨n1, n2⟩ := za2 _ _ _ h2
   exact (n1 (hF.inj c' b k0 m2 m n2 hm h4 hσ)).elim
  ·rw [if_neg e1] at h3; rw [if_pos e2] at h4
   rw [if_neg (fun e => e1 e.symm)] at h1
   injection h4 with h4; subst h4
   obtain ⟨n1, n2⟩ := za2 _ _ _ h1
   exact (n1 (hF.inj c b k0 m1 m n2 hm h3 hσ)).elim
  ·rw [if_neg e1] at h3; rw [if_neg e2] at h4
   rw [if_neg (fun e => e1 e.symm)] at h1; rw [if_neg (fun e => e2 e.symm)] at h2
   exact hF.inj c c' k1 m1 m2 (za2 _ _ _ h1).2 (za2 _ _ _ h2).2 h3 h4
 sbd := hF.sbd
 s0 := hF.s0
 s1 := hF.s1
 glob := ⟨hF.glob.1, fun k hk => zdf hF hid 0 k (hF.glob.2 k hk) _⟩
 mem c mc hmc := by
  have up : ∀ {x : Value} {av : AV}, Rel σ S w x av → Rel (upd σ next k0) S w x av := fun hr => hr.mono (fun b k hb => zdf hF hid b k hb _) (fun _ h => h) zaF
  simp only [look] at hmc
  split at hmc
  ·rename_i hc
   injection hmc with hmc
   subst hmc hc
   obtain ⟨k1, c1, e1, g1, g2, g3, g4, g5, g6, g7⟩ := (hF.mem b m hm).named hσ
   have : k1 = k0 := Option.some.inj (g1.symm.trans hσ)
   subst this
   refine .inr ⟨k1, c1, e1, by simp [upd], g2, g3, g4, fun r hr => g5 r (List.mem_of_mem_take hr), ?_, fun i r j av hi hj => ?_⟩
   ·simp only [List.length_take]
    exact Nat.le_trans (Nat.mul_le_mul_right _ (Nat.min_le_right ..)) g6
   ·simp only [List.getElem?_take] at hi
    split at hi
    ·obtain ⟨x, hx, hr⟩ := g7 i r j av hi hj
     exact ⟨x, hx, up hr⟩
    ·cases hi
  ·rename_i hc
   obtain ⟨n1, n2⟩ := za2 _ _ _ hmc
   rcases hF.mem c mc n2 with ⟨h1, h2⟩ | ⟨k1, c1, e1, g1, g2, g3, g4, g5, g6, g7⟩
   ·refine .inl ⟨h1, ?_⟩
    unfold upd; rw [if_neg (fun e => hc e.symm)]; exact h2
   ·refine .inr ⟨k1, c1, e1, zdf hF hid c k1 g1 _, g2, g3, g4, g5, g6, fun i r j av hi hj => ?_⟩
    obtain ⟨x, hx, hr⟩ := g7 i r j av hi hj
    exact ⟨x, hx, up hr⟩
theorem Fit.none (hF : Fit D S0 w0 σ S mem U w) {next sz : Nat} (hid : ¬ U next) : Fit D S0 w0 σ S ((next, ⟨sz, []⟩) :: mem) (fun c => U c ∨ c = next) w where
 below := hF.below
 dom c k1 hk := ⟨.inl (hF.dom c k1 hk).1, (hF.dom c k1 hk).2⟩
 inj c c' k1 m1 m2 h1 h2 h3 h4 := by
  have ne : ∀ c, σ c = some k1 → c ≠ next := fun c hc e => hid (e ▸ (hF.dom c k1 hc).1)
  simp only [look] at h1 h2
  rw [if_neg (fun e => ne c h3 e.symm)] at h1
  rw [if_neg (fun e => ne c' h4 e.symm)] at h2
  exact hF.inj c c' k1 m1 m2 h1 h2 h3 h4
 sbd := hF.sbd
 s0 := hF.s0
 s1 := hF.s1
 glob := hF.glob
 mem c mc hmc := by
  simp only [look] at hmc
  split at hmc
  ·rename_i hc
   injection hmc with hmc
   subst hmc hc
   refine .inl ⟨rfl, ?_⟩
   cases hs : σ next with
   | none => rfl
   | some k => exact (hid (hF.dom next k hs).1).elim
  ·exact hF.mem c mc hmc
def srcY (sz : Nat) : Option AV → Option (List (List AV))
 | some (.sl sz' rows) => if sz' = sz then some rows else none
 | some (.v (.slice none 0 0)) => some []
 | _ => none
theorem srcY_A {sz : Nat} {a : Option AV} {rows : List (List AV)} (h : srcY sz a = some rows) : srcA mem sz a = some (True, rows) := by
 unfold srcY at h
 split at h
 ·split at h
  ·rename_i sz' rows' hsz; injection h with h; subst h; simp [srcA, hsz]
  ·cases h
 ·injection h with h; subst h; rfl
 ·cases h
end
section
variable {C : Cx} {s : AS} {o : Oper}
theorem opR_app (hT : zam C.P C.ti) {x y : Operand} {t tx e : TypeId} {q1 q2 : Nat} {q3 : List Z} {z : TyI} (ho : o.op = .call ⟨.builtin .append, #[x, y], #[t, tx]⟩) (ht : C.ti t = some ⟨q1, q2, q3, .slc e⟩) (hz : C.ti e = some z) (htx : isSlcT (C.ti tx) = true)
  {b sz k : Nat} {m : MB} {rows : List (List AV)} (hx : ev s x = some (.ps b sz 0 k)) (hm : look s.mem b = some m) (hy : srcY sz (ev s y) = some rows)
  (hc : z.size = sz ∧ m.sz = sz ∧ 0 < sz) (hp : k ≤ m.rows.length ∧ (k + rows.length) * z.bytes ≤ 140737488355328 ∧ k + rows.length ≤ 9223372036854775807)
  (hrows : zb1 b sz rows) (rd wr : Option Nat) : OpR C s o ⟨.ps s.next sz 0 (k + rows.length), .app b ⟨sz, m.rows.take k ++ rows⟩, rd, wr⟩ := by
 intro D S0 w0 σ S U a w K Q hG hid hF hE hK
 simp only [AS.upd, zfT] at hK
 obtain ⟨c1, c2, c3⟩ := hc
 obtain ⟨p2, p3, p4⟩ := hp
 obtain ⟨i, d, h1, h2, h3, h4, h5, h6⟩ := zag hT ht
 have hd := zbU h5
 subst hd
 obtain ⟨i', d', g1, g2, g3, g4, g5, ⟨zv, hz1, hz2, hz3⟩, g7⟩ := zag hT hz
 cases hyv : ev s y with
 | none => rw [hyv] at hy; simp [srcY] at hy
 | some av =>
 rw [hyv] at hy
 obtain ⟨news, hs, hn⟩ := ziD (P := C.P) hT hF htx (size := sz) (b := b) c3 (za3 hE hyv) (srcY_A hy) trivial hrows
 have hisz : i'.size = sz := by rw [g3, c1]
 have hnl : news.length = rows.length * sz := hs.newsLen
 have wp : ∀ v w', (Builtin.append_ #[t, tx] o.type #[a.eval x, a.eval y]).run C.P w = .ok v w' → K (a.put o.dst v) w' → o.wp C.P a w K Q := fun v w' hr hk => by
  unfold Oper.wp
  rw [zdQ ho hr]
  exact hk
 have hxr := za3 hE hx
 have newlen : (m.rows.take k ++ rows).length = k + rows.length := by simp; omega
 have hFs : Fit D S0 w0 σ S (dropM b s.mem) U w := hF.sub fun c mc h => (za2 _ _ _ h).2
 have grow : ∀ (base : Option Addr) (cap : Nat) (olds : List Value), a.eval x = .slice base k cap → cap < k + rows.length → olds.length = k * sz →
   (Builtin.firstCells sz k (.slice base k cap)).run C.P w.drew = .ok olds.toArray w.drew →
   (∀ (i : Nat) (r : List AV) (j : Nat) (av : AV), (m.rows.take k)[i]? = some r → r[j]? = some av → ∃ v, olds[i * sz + j]? = some v ∧ Rel σ S w v av) →
   (∀ r ∈ m.rows.take k, r.length = sz) → o.wp C.P a w K Q := fun base cap olds hxe hcap hol hfc hor hlr => by
  have hrun := run_append_grow_src (P := C.P) w t tx o.type e i' zv h2 g1 hz1 base k cap olds (by rw [hisz]; exact hfc) (a.eval y) rows.length news (by rw [hisz]; exact hs) hcap (by omega) (growslice_fits hcap (by rw [g4]; exact p3))
  refine wp _ _ (by rw [hxe]; exact hrun) ?_
  have hb : Below w.heap.size w w.drew := (Below.refl _ w).drew
  have hke := hFs.keeps_below hb
  have hFd : Fit D S0 w0 σ S (dropM b s.mem) U w.drew := ⟨hFs.below.then hb, hFs.dom, hFs.inj, hFs.sbd, hFs.s0, hFs.s1, hFs.glob, fun b m hm => by
   rcases hFs.mem b m hm with hn | ⟨k, c, e, h1, h2, h3, h4, h5, h6, h7⟩
   ·exact .inl hn
   ·exact .inr ⟨k, c, e, h1, h2, h3, h4, h5, h6, fun i r j av hi hj => by
     obtain ⟨x, hx, hr⟩ := h7 i r j av hi hj
     exact ⟨x, hx, Rel.mono (fun _ _ h => h) (fun _ h => h) hke hr⟩⟩⟩
  have hEd : zat σ S w.drew s.env a := zat.mono (fun _ _ h => h) (fun _ h => h) hke hE
  have hcs : ((olds ++ news).toArray ++ Builtin.zeroCells zv.cells (grownCap w (k + rows.length) cap e - (k + rows.length))).size = (k + rows.length) * sz + (grownCap w (k + rows.length) cap e - (k + rows.length)) * sz := by
   rw [Array.size_append, size_zeroCells]
   have : zv.cells.size = sz := by rw [hz2]; simp [g7, c1]
   simp [hol, hnl, this, Nat.add_mul]
  have hcap2 : k + rows.length ≤ grownCap w (k + rows.length) cap e := by simp only [grownCap, Question.cut]; omega
  have hFn := hFd.new (next := s.next) hid ((olds ++ news).toArray ++ Builtin.zeroCells zv.cells (grownCap w (k + rows.length) cap e - (k + rows.length))) e ⟨sz, m.rows.take k ++ rows⟩
   (fun r hr => by
    rcases List.mem_append.1 hr with hr | hr
    ·exact hlr r hr
    ·exact (hrows r hr).1)
   (by simp only; rw [newlen, hcs]; omega)
   (fun i r j av hi hj => by
    simp only at hi
    rw [List.getElem?_append] at hi
    have hlen : (m.rows.take k).length = k := by simp; omega
    split at hi
    ·rename_i hlt
     obtain ⟨v, hv, hvr⟩ := hor i r j av hi hj
     have hvlt := (List.getElem?_eq_some_iff.1 hv).1
     refine ⟨v, ?_, hvr.mono (fun _ _ h => h) (fun _ h => h) hke⟩
     rw [Array.getElem?_append_left (by simp; omega)]
     simp only [List.getElem?_toArray]
     rw [List.getElem?_append_left hvlt]; exact hv
    ·rename_i hge
     rw [hlen] at hi hge
     obtain ⟨v, hv, hvr⟩ := hn (i - k) r j av hi hj
     have hvlt := (List.getElem?_eq_some_iff.1 hv).1
     refine ⟨v, ?_, hvr.mono (fun _ _ h => h) (fun _ h => h) hke⟩
     have e1 : i * sz + j = olds.length + ((i - k) * sz + j) := by
      rw [hol, Nat.sub_mul]
      have : k * sz ≤ i * sz := Nat.mul_le_mul_right _ (by omega)
      omega
     simp only [e1]
     rw [Array.getElem?_append_left (by simp; omega)]
     simp only [List.getElem?_toArray]
     rw [List.getElem?_append_right (by omega), Nat.add_sub_cancel_left]; exact hv)
  refine hK _ _ _ S hFn (hEd.new hFd hid _ _) ?_
  refine .ps (k := w.heap.size) (off := 0) (by simp [upd]) hcap2 (.inl (by simp)) ⟨_, e, (0, 0), zbc w.drew _, ?_⟩
  rw [hcs, Nat.zero_add, ← Nat.add_mul]
  exact Nat.mul_le_mul_right _ (by omega)
 rcases zgX hxr with ⟨hx1, rfl⟩ | ⟨kk, off, cap, f1, f2, f3, f4, f5⟩
 ·-- no block yet
  by_cases hr0 : rows = []
  ·subst hr0
   have hn0 : news = [] := by simpa using hnl
   subst hn0
   have hrun := zbH (P := C.P) (ty := o.type) h2 g1 none 0 0 (a.eval y) (by rw [hisz]; exact hs) (Nat.le_refl _)
   refine wp _ _ (by rw [hx1]; exact hrun) ?_
   simp only [List.take_zero, List.append_nil] at hK
   exact hK _ w σ S (hFs.none hid) hE .ps0
  ·have hlen : 0 < rows.length := by
    rcases Nat.eq_zero_or_pos rows.length with h | h
    ·exact (hr0 (List.length_eq_zero_iff.1 h)).elim
    ·exact h
   exact grow none 0 [] hx1 (by omega) (by simp) (run_firstCells_none w.drew sz 0 0 0) (fun i r j av hi => by simp at hi) (by simp)
 ·obtain ⟨cc, ee, ff, f5, f6⟩ := f5
  obtain ⟨k0, c0, e0, u1, u2, u3, u4, u5, u6, u7⟩ := (hF.mem b m hm).named f1
  have : k0 = kk := Option.some.inj (u1.symm.trans f1)
  subst this
  rw [u4] at f5
  injection f5 with f5
  injection f5 with f5a f5b f5c
  subst f5a f5b f5c
  have hFa := hF.alias (k := k) hid hm f1
  have hEa : zat (upd σ s.next k0) S w s.env a := hE.mono (fun b k hb => zdf hF hid b k hb _) (fun _ h => h) zaF
  by_cases hroom : k + rows.length ≤ cap
  ·-- in place
   by_cases hr0 : rows = []
   ·subst hr0
    have hn0 : news = [] := by simpa using hnl
    subst hn0
    have hrun := zbH (P := C.P) (ty := o.type) h2 g1 (some ⟨k0, off, none⟩) k cap (a.eval y) (by rw [hisz]; exact hs) f3
    refine wp _ _ (by rw [f2]; exact hrun) ?_
    simp only [List.append_nil] at hK
    rw [c2] at hFa
    exact hK _ w _ S hFa hEa (.ps (by simp [upd]) (by simpa using f3) f4 ⟨c0, e0, (0, 0), u4, f6⟩)
   ·have hlen : 0 < rows.length := by
     rcases Nat.eq_zero_or_pos rows.length with h | h
     ·exact (hr0 (List.length_eq_zero_iff.1 h)).elim
     ·exact h
    have hoff : off = 0 := by
     rcases f4 with f4 | f4
     ·simpa using f4
     ·omega
    subst hoff
    have hfit : 0 + k * sz + news.length ≤ c0.size := by
     rw [hnl]
     have : (k + rows.length) * sz ≤ cap * sz := Nat.mul_le_mul_right _ hroom
     rw [Nat.add_mul] at this
     omega
    have hrun := zfc (P := C.P) (ty := o.type) h2 g1 k0 0 k cap (a.eval y) rows.length news (by rw [hisz]; exact hs) c0 e0 u4 hroom (by rw [hisz]; exact hfit)
    rw [hisz] at hrun
    simp only [Nat.zero_add] at hrun hfit
    refine wp _ _ (by rw [f2]; exact hrun) ?_
    have up : ∀ {x : Value} {av : AV}, Rel σ S w x av → Rel (upd σ s.next k0) S w x av := fun hr => hr.mono (fun b k hb => zdf hF hid b k hb _) (fun _ h => h) zaF
    have key := hFa.set (b := s.next) (m := ⟨m.sz, m.rows.take k⟩) (m' := ⟨sz, m.rows.take k ++ rows⟩) (by simp [look]) (by simp [upd] : upd σ s.next k0 s.next = some k0) (c' := (c0.toList.take (k * sz) ++ news ++ c0.toList.drop (k * sz + news.length)).toArray) u4
     (by simp; omega)
     (fun r hr => by
      rcases List.mem_append.1 hr with hr | hr
      ·rw [← c2]; exact u5 r (List.mem_of_mem_take hr)
      ·exact (hrows r hr).1)
     (by
      simp only [newlen]
      simp
      rw [Nat.add_mul, ← hnl]
      omega)
     (fun i r j av hi hj => by
      simp only at hi
      simp only [List.getElem?_toArray]
      rw [List.getElem?_append] at hi
      have hlen' : (m.rows.take k).length = k := by simp; omega
      have htl : (c0.toList.take (k * sz)).length = k * sz := by simp; omega
      split at hi
      ·rename_i hlt
       rw [hlen'] at hlt
       rw [List.getElem?_take, if_pos hlt] at hi
       obtain ⟨v, hv, hvr⟩ := u7 i r j av hi hj
       rw [c2] at hv
       have hj' : j < sz := by rw [← c2, ← u5 r (List.mem_of_getElem? hi)]; exact (List.getElem?_eq_some_iff.1 hj).1
       have hlt2 : i * sz + j < k * sz := by
        have : (i + 1) * sz ≤ k * sz := Nat.mul_le_mul_right _ hlt
        rw [Nat.add_mul, Nat.one_mul] at this
        omega
       refine ⟨v, ?_, up hvr⟩
       rw [List.append_assoc, List.getElem?_append_left (by rw [htl]; exact hlt2), List.getElem?_take, if_pos hlt2]
       simpa using hv
      ·rename_i hge
       rw [hlen'] at hi hge
       obtain ⟨v, hv, hvr⟩ := hn (i - k) r j av hi hj
       have hvlt := (List.getElem?_eq_some_iff.1 hv).1
       refine ⟨v, ?_, up hvr⟩
       have e1 : i * sz + j = k * sz + ((i - k) * sz + j) := by
        rw [Nat.sub_mul]
        have : k * sz ≤ i * sz := Nat.mul_le_mul_right _ (by omega)
        omega
       rw [e1, List.append_assoc, List.getElem?_append_right (by rw [htl]; omega), htl, Nat.add_sub_cancel_left, List.getElem?_append_left hvlt]
       exact hv)
    obtain ⟨hF', hke⟩ := key
    refine hK _ _ _ S (hF'.congr (fun c => ?_) (fun _ h => h)) (hEa.mono (fun _ _ h => h) (fun _ h => h) hke) (.ps (by simp [upd]) hroom (.inl (by simp)) ⟨_, e0, (0, 0), setRow_heap w k0 c0 _ e0 (0, 0) u4, ?_⟩)
    ·simp only [look]; split <;> rfl
    ·simp
     omega
  ·have hol := zcN (Q := fun q v => c0[q]? = some v) (k * sz) (fun q hq => by
    have : k * sz ≤ m.rows.length * m.sz := by rw [c2]; exact Nat.mul_le_mul_right _ p2
    exact ⟨c0[q]'(by omega), by simp [show q < c0.size by omega]⟩)
   obtain ⟨olds, ol1, ol2⟩ := hol
   have hoff : k = 0 ∨ off = 0 := by
    rcases f4 with f4 | f4
    ·right; simpa using f4
    ·left; omega
   refine grow (some ⟨k0, off, none⟩) cap olds f2 (by omega) ol1 ?_ ?_ (fun r hr => by rw [← c2]; exact u5 r (List.mem_of_mem_take hr))
   ·refine run_firstCells_some w.drew sz k _ k cap olds ol1 (fun j v hj => ?_)
    rw [zcd]
    have hjl : j < k * sz := by rw [← ol1]; exact (List.getElem?_eq_some_iff.1 hj).1
    have hoff' : off = 0 := by
     rcases hoff with h | h
     ·rw [h] at hjl; simp at hjl
     ·exact h
    subst hoff'
    have : (w.drew).heap[k0]? = some (.cells c0 e0 (0, 0)) := u4
    rw [zbm this, Nat.zero_add]
    exact ol2 j v hj
   ·intro i r j av hi hj
    rw [List.getElem?_take] at hi
    split at hi
    ·rename_i hlt
     obtain ⟨v, hv, hvr⟩ := u7 i r j av hi hj
     rw [c2] at hv
     have hj' : j < sz := by rw [← c2, ← u5 r (List.mem_of_getElem? hi)]; exact (List.getElem?_eq_some_iff.1 hj).1
     have hlt2 : i * sz + j < olds.length := by
      rw [ol1]
      have : (i + 1) * sz ≤ k * sz := Nat.mul_le_mul_right _ hlt
      rw [Nat.add_mul, Nat.one_mul] at this
      omega
     have hq := ol2 (i * sz + j) olds[i * sz + j] (by simp [hlt2])
     rw [hv] at hq
     exact ⟨v, by rw [List.getElem?_eq_getElem hlt2]; exact hq.symm, hvr⟩
    ·cases hi
theorem znY (hT : zam C.P C.ti) {x y : Operand} {t tx e : TypeId} {q1 q2 : Nat} {q3 : List Z} {z : TyI} (ho : o.op = .call ⟨.builtin .append, #[x, y], #[t, tx]⟩) (ht : C.ti t = some ⟨q1, q2, q3, .slc e⟩) (hz : C.ti e = some z) (htx : isSlcT (C.ti tx) = true)
  {b sz k : Nat} {m : MB} {rows : List (List AV)} (hx : ev s x = some (.ps b sz 0 k)) (hm : look s.mem b = some m) (hy : srcY sz (ev s y) = some rows)
  (hc : z.size = sz ∧ m.sz = sz ∧ 0 < sz) (hp : k ≤ m.rows.length ∧ (k + rows.length) * z.bytes ≤ 140737488355328 ∧ k + rows.length ≤ 9223372036854775807)
  (hrows : zb1 b sz rows) : OwnOK C s o ⟨.ps s.next sz 0 (k + rows.length), .app b ⟨sz, m.rows.take k ++ rows⟩, some b, some s.next⟩ where
 nocall := by rw [ho]; rfl
 noop s' := by rw [ho]; rfl
 run s' hA := by
  obtain ⟨h1, h2, h3⟩ := hA
  have hop : o.op.operands.toList = [x, y] := by rw [ho]; rfl
  have := opR_app (s := s') hT ho ht hz htx (by rw [← h1 x (by rw [hop]; simp)]; exact hx) (by rw [← h2 b (.inl rfl)]; exact hm) (by rw [← h1 y (by rw [hop]; simp)]; exact hy) hc hp hrows (some b) (some s'.next)
  rw [← h3] at this; exact this
 tch b' h := by
  simp only [tch, Bool.or_eq_true, beq_iff_eq] at h
  rcases h with h | h
  ·exact .inl (by rw [h])
  ·exact .inr ⟨by rw [h], by rw [ho]; rfl⟩
theorem zi7 {n : Nat} {r : List It} {Q : Lab → AS → Prop} {all l : List Oper} {fps : List FP} {fp : FP} {d : Option Tmp} {u : TypeId} {pos : String} {af : Array Edge} {g : Option (Nat × Bool)} (hT : zam C.P C.ti) {x y : Operand} {t tx e : TypeId} {q1 q2 : Nat} {q3 : List Z} {z : TyI} (ht : C.ti t = some ⟨q1, q2, q3, .slc e⟩) (hz : C.ti e = some z) (htx : isSlcT (C.ti tx) = true)
  {b sz k : Nat} {m : MB} {rows : List (List AV)} (hx : ev s x = some (.ps b sz 0 k)) (hm : look s.mem b = some m) (hc : z.size = sz ∧ m.sz = sz ∧ 0 < sz) (hy : srcY sz (ev s y) = some rows)
  (hp : True ∧ k ≤ m.rows.length ∧ (k + rows.length) * z.bytes ≤ 140737488355328 ∧ k + rows.length ≤ 9223372036854775807) (hrows : zb1 b sz rows)
  (kk : zax C n r (bump ((⟨s.env, (s.next, ⟨sz, m.rows.take k ++ rows⟩) :: dropM b s.mem, s.next + 1⟩ : AS).put d (.ps s.next sz 0 (k + rows.length))) (s.next + 1)) Q all l ((some b, some s.next) :: fps)) :
  za0 C n r s Q all ⟨d, .call ⟨.builtin .append, #[x, y], #[t, tx]⟩, u, pos, af, g⟩ none fp l fps := by
 refine zfx (znY hT rfl ht hz htx hx hm hy hc hp.2 hrows) ?_
 cases d <;> exact kk
end
section
variable {σ : Sig} {S : Nat → Prop} {w : World}
end
theorem zaI.trans {s s1 s2 : AS} (h : zaI s s1) (h1 : s.next ≤ s1.next) (k : zaI s1 s2) : zaI s s2 := by
 intro D S0 w0 σ S w hF h0
 obtain ⟨σ', S', g1, g2⟩ := h D S0 w0 σ S w hF (fun hne => by
  cases hk : D.an with
  | none => exact absurd hk hne
  | some k => exact Nat.lt_of_lt_of_le (hF.dom 0 k (hF.glob.2 k hk)).1 h1)
 obtain ⟨σ2, S2, k1, k2⟩ := k D S0 w0 σ' S' w g1 h0
 exact ⟨σ2, S2, k1, fun a ha => k2 a (g2 a ha)⟩
theorem zhN {l : List AV} (h : ∀ x ∈ l, Cl x := by (try simp only [List.mem_cons, List.not_mem_nil, or_false, forall_eq_or_imp, forall_eq]); (repeat' (first | exact Cl.v _ | exact Cl.u32s | exact Cl.vec | exact Cl.rws clrow_p | exact Cl.rws zbh | exact Cl.rws zbJ | exact Cl.rws clrow_l | exact Cl.rws (by assumption) | exact Cl.mat | exact Cl.strs | exact Cl.i64s | exact Cl.sl (by assumption) | refine And.intro ?_ ?_ | refine Cl.agg ?_ | refine Cl.rp ?_ | refine Cl.sl ?_ | refine Cl.tup ?_ | simp only [List.mem_cons, List.not_mem_nil, or_false, forall_eq_or_imp, forall_eq, false_imp_iff, implies_true]))) : ∀ x ∈ l, Cl x := h
theorem zdk {a : AV} (h : Cl a := by (try simp only [List.mem_cons, List.not_mem_nil, or_false, forall_eq_or_imp, forall_eq]); (repeat' (first | exact Cl.v _ | exact Cl.u32s | exact Cl.vec | exact Cl.rws clrow_p | exact Cl.rws zbh | exact Cl.rws zbJ | exact Cl.rws clrow_l | exact Cl.rws (by assumption) | exact Cl.mat | exact Cl.strs | exact Cl.i64s | exact Cl.sl (by assumption) | refine And.intro ?_ ?_ | refine Cl.agg ?_ | refine Cl.rp ?_ | refine Cl.sl ?_ | refine Cl.tup ?_ | simp only [List.mem_cons, List.not_mem_nil, or_false, forall_eq_or_imp, forall_eq, false_imp_iff, implies_true]))) : Cl a := h
theorem byClM {rows : List (List AV)} (h : ∀ r ∈ rows, ∀ a ∈ r, Cl a := by intro r hr a ha; first | (obtain ⟨w, _, rfl⟩ := zgp hr; simp only [u32, List.mem_cons, List.not_mem_nil, or_false] at ha; subst ha; exact Cl.v _) | (simp only [List.mem_cons, List.not_mem_nil, or_false] at hr; subst hr; simp only [List.mem_cons, List.not_mem_nil, or_false] at ha; (repeat' (rcases ha with ha | ha)) <;> subst ha <;> first | exact Cl.v _ | exact Cl.u32s | exact Cl.dy | assumption)) : ∀ r ∈ rows, ∀ a ∈ r, Cl a := h
theorem zah {s s' : AS} (h : zaI s s' := by (first | exact zaI.of (by (repeat' (first | exact trivial | exact ⟨_, rfl, .refl _⟩ | exact ⟨_, rfl, Le.nil _⟩ | exact ⟨_, rfl, Le.ps0 _ _ _⟩ | exact ⟨_, rfl, Le.top _⟩ | refine And.intro ?_ ?_))) (by (repeat' (first | exact trivial | exact rfl | refine And.intro ?_ ?_))) (by first | exact Nat.le_refl _ | exact Nat.le_of_ble_eq_true rfl) | exact zaI.cut (by (repeat' (first | exact trivial | exact ⟨_, rfl, .refl _⟩ | exact ⟨_, rfl, Le.nil _⟩ | exact ⟨_, rfl, Le.ps0 _ _ _⟩ | exact ⟨_, rfl, Le.top _⟩ | refine And.intro ?_ ?_))) (by (repeat' (first | exact trivial | exact rfl | refine And.intro ?_ ?_))) (by (repeat' (first | exact trivial | exact .v | exact .top | exact .p (Nat.le_of_ble_eq_true rfl) | exact .ps (Nat.le_of_ble_eq_true rfl) | exact zeQ | exact nbRows_strs | exact nbRows_vrows | exact zbz clrow_p | exact zbz zbh | exact zbz zbJ | exact zbz clrow_l | exact zbz (by assumption) | exact nbRows_mrows | exact .cl (by (first | exact Cl.v _ | exact Cl.u32s | exact Cl.vec | exact Cl.rws clrow_p | exact Cl.rws zbh | exact Cl.rws zbJ | exact Cl.rws clrow_l | exact Cl.rws (by assumption) | exact Cl.mat | exact Cl.strs | exact Cl.i64s | exact Cl.sl (by assumption) | assumption | ((first | refine Cl.agg ?_ | refine Cl.rp ?_ | refine Cl.sl ?_ | refine Cl.tup ?_); simp only [List.mem_cons, List.not_mem_nil, or_false, forall_eq_or_imp, forall_eq]; (repeat' (first | exact Cl.v _ | exact Cl.u32s | exact Cl.vec | exact Cl.rws clrow_p | exact Cl.rws zbh | exact Cl.rws zbJ | exact Cl.rws clrow_l | exact Cl.rws (by assumption) | exact Cl.mat | exact Cl.strs | exact Cl.sl (by assumption) | assumption | refine And.intro ?_ ?_))))) | refine And.intro ?_ ?_))) (by (repeat' (first | exact trivial | exact Nat.le_of_ble_eq_true rfl | exact .v | exact .top | exact .p (Nat.le_of_ble_eq_true rfl) | exact .ps (Nat.le_of_ble_eq_true rfl) | exact zeQ | exact nbRows_strs | exact nbRows_vrows | exact zbz clrow_p | exact zbz zbh | exact zbz zbJ | exact zbz clrow_l | exact zbz (by assumption) | exact nbRows_mrows | exact .cl (by (first | exact Cl.v _ | exact Cl.u32s | exact Cl.vec | exact Cl.rws clrow_p | exact Cl.rws zbh | exact Cl.rws zbJ | exact Cl.rws clrow_l | exact Cl.rws (by assumption) | exact Cl.mat | exact Cl.strs | exact Cl.i64s | exact Cl.sl (by assumption) | assumption | ((first | refine Cl.agg ?_ | refine Cl.rp ?_ | refine Cl.sl ?_ | refine Cl.tup ?_); simp only [List.mem_cons, List.not_mem_nil, or_false, forall_eq_or_imp, forall_eq]; (repeat' (first | exact Cl.v _ | exact Cl.u32s | exact Cl.vec | exact Cl.rws clrow_p | exact Cl.rws zbh | exact Cl.rws zbJ | exact Cl.rws clrow_l | exact Cl.rws (by assumption) | exact Cl.mat | exact Cl.strs | exact Cl.sl (by assumption) | assumption | refine And.intro ?_ ?_))))) | refine And.intro ?_ ?_))))) : zaI s s' := h
theorem zbj {b sz : Nat} {rows : List (List AV)} (h : zb1 b sz rows := by (first | exact zkN | exact zmz (.v) | exact rowsOK_vrows | exact zjH | exact rowsOK_prows | exact zmA (by (repeat' (first | exact trivial | exact rfl | exact .v | exact .cl (by (first | exact Cl.v _ | exact Cl.u32s | exact Cl.vec | exact Cl.rws clrow_p | exact Cl.rws zbh | exact Cl.rws zbJ | exact Cl.rws clrow_l | exact Cl.rws (by assumption) | exact Cl.mat | exact Cl.strs | exact Cl.i64s | exact Cl.sl (by assumption) | assumption | ((first | refine Cl.agg ?_ | refine Cl.rp ?_ | refine Cl.sl ?_ | refine Cl.tup ?_); simp only [List.mem_cons, List.not_mem_nil, or_false, forall_eq_or_imp, forall_eq]; (repeat' (first | exact Cl.v _ | exact Cl.u32s | exact Cl.vec | exact Cl.rws clrow_p | exact Cl.rws zbh | exact Cl.rws zbJ | exact Cl.rws clrow_l | exact Cl.rws (by assumption) | exact Cl.mat | exact Cl.strs | exact Cl.sl (by assumption) | assumption | refine And.intro ?_ ?_))))) | refine And.intro ?_ ?_))))) : zb1 b sz rows := h
theorem zfC {b : Nat} {l : List (Nat × AV)} (h : zmH b l := by (repeat' (first | exact trivial | exact .inl rfl | exact .inr .v | exact .inr (.p (by decide)) | exact .inr (.ps (by decide)) | exact .inr .top | exact .inr (.cl (by (first | exact Cl.v _ | exact Cl.u32s | exact Cl.vec | exact Cl.rws clrow_p | exact Cl.rws zbh | exact Cl.rws zbJ | exact Cl.rws clrow_l | exact Cl.rws (by assumption) | exact Cl.mat | exact Cl.strs | exact Cl.i64s | exact Cl.sl (by assumption) | assumption | ((first | refine Cl.agg ?_ | refine Cl.rp ?_ | refine Cl.sl ?_ | refine Cl.tup ?_); simp only [List.mem_cons, List.not_mem_nil, or_false, forall_eq_or_imp, forall_eq]; (repeat' (first | exact Cl.v _ | exact Cl.u32s | exact Cl.vec | exact Cl.rws clrow_p | exact Cl.rws zbh | exact Cl.rws zbJ | exact Cl.rws clrow_l | exact Cl.rws (by assumption) | exact Cl.mat | exact Cl.strs | exact Cl.sl (by assumption) | assumption | refine And.intro ?_ ?_)))))) | refine And.intro ?_ ?_))) : zmH b l := h
theorem zfB {b : Nat} {l : List (Nat × MB)} (h : zmG b l := by (repeat' (first | exact trivial | exact noRows_u32s | exact noRows_strs | exact noRows_vrows | exact zdu clrow_p | exact zdu zbh | exact zdu zbJ | exact zdu clrow_l | exact zdu (by assumption) | exact noRows_mrows | exact zmF (by (repeat' (first | exact trivial | exact .v | exact .p (by decide) | exact .ps (by decide) | exact .cl (by (first | exact Cl.v _ | exact Cl.u32s | exact Cl.vec | exact Cl.rws clrow_p | exact Cl.rws zbh | exact Cl.rws zbJ | exact Cl.rws clrow_l | exact Cl.rws (by assumption) | exact Cl.mat | exact Cl.strs | exact Cl.i64s | exact Cl.sl (by assumption) | assumption | ((first | refine Cl.agg ?_ | refine Cl.rp ?_ | refine Cl.sl ?_ | refine Cl.tup ?_); simp only [List.mem_cons, List.not_mem_nil, or_false, forall_eq_or_imp, forall_eq]; (repeat' (first | exact Cl.v _ | exact Cl.u32s | exact Cl.vec | exact Cl.rws clrow_p | exact Cl.rws zbh | exact Cl.rws zbJ | exact Cl.rws clrow_l | exact Cl.rws (by assumption) | exact Cl.mat | exact Cl.strs | exact Cl.sl (by assumption) | assumption | refine And.intro ?_ ?_))))) | refine And.intro ?_ ?_))) | refine And.intro ?_ ?_))) : zmG b l := h
theorem zpD {r : List It} {k : Nat} (h : Ax.fresh r = k := by simp only [Ax.fresh, Nat.max_def, Nat.zero_add, Nat.reduceAdd, Nat.reduceLeDiff, Nat.le_refl, Nat.zero_le, Nat.le_zero_eq, Nat.one_ne_zero, reduceIte, ite_self, if_true, if_false]; rfl) : Ax.fresh r = k := h
theorem zgd {P : Program} {w : World} : ∀ {laid : List (String × DataW Unit)} {ps : List MemPlace} {n : String} {d : DataW Unit}, DataW.LaidVars P w laid ps → (n, d) ∈ laid →
  ∃ g t cs fuel p, P.globalNamed n = some g ∧ (P.globals[g]?).map (·.type) = some t ∧ w.var? P n = some cs ∧ DataW.trod (fun _ => ()) P w 0 (fun _ => true) false fuel t cs.toList = some (d, p)
 | [], _, _, _, _, h => by cases h
 | (n', d') :: laid, ps, n, d, h, hm => by
  obtain ⟨g, t, cs, fuel, p, q, h1, h2, h3, h4, h5, _⟩ := h
  rcases List.mem_cons.1 hm with he | hm
  ·injection he with e1 e2
   subst e1 e2
   exact ⟨g, t, cs, fuel, p, h1, h2, h3, h4⟩
  ·exact zgd h5 hm
theorem zmL {α : Type} {P : Program} {w : World} {laid : List (String × DataW Unit)} (h : laidMetH P laid w) (hp : (laid.all fun x => x.2.handleName?.isNone) = true) {n : String} {d : DataW Unit} (hm : (n, d) ∈ laid) {g N : Nat} {t e : TypeId} {k : IntKind}
  (hg : P.globalNamed n = some g) (ht : (P.globals[g]?).map (·.type) = some t) (hu : P.underlying t = some (.array N e)) (hc : P.cellsOf e = 1) (hct : P.cellsOf t = N) (he : P.underlying e = some (.int k)) (ds : List α) (f : α → Int)
  (hd : d = .agg (ds.map fun x => .lit (.int k (f x)))) (hN : ds.length = N) (h0 : ds ≠ []) : GH w g (ds.map fun x => Value.int k (f x)) := by
 rw [MakeChecks.laidMetH_plain _ _ _ hp] at h
 obtain ⟨ps, hv, _⟩ := h
 obtain ⟨g', t', cs, fuel, p, h1, h2, h3, h4⟩ := zgd hv hm
 obtain rfl := Option.some.inj (hg.symm.trans h1)
 obtain rfl := Option.some.inj (ht.symm.trans h2)
 obtain ⟨c, ty, fr, hb, hcs⟩ : ∃ c ty fr, w.heap[g]? = some (.cells c ty fr) ∧ cs = c := by
  simp only [World.var?, hg, Option.bind_some] at h3
  split at h3
  ·rename_i c t' fr hb
   injection h3 with h3
   exact ⟨c, t', fr, hb, h3.symm⟩
  ·cases h3
 subst hcs
 have hcs := Lib.cells_of_tab (zs := ds.map f) hu he hc hct (by rw [hd] at h4; rw [show Lib.tabData k (ds.map f) = (.agg (ds.map fun x => .lit (.int k (f x))) : DataW Unit) by simp [Lib.tabData, Function.comp_def]]; exact h4)
 have e1 : cs = (ds.map fun x => Value.int k (f x)).toArray := by
  apply Array.toList_inj.1
  rw [hcs]
  simp [Function.comp_def]
 refine ⟨cs, ty, fr, hb, fun j x hj => ?_, Or.inl ⟨fun h => h0 (List.map_eq_nil_iff.1 h), by rw [e1]; simp⟩⟩
 rw [e1]
 simpa using hj
theorem Dy.mul_comm (x y : Dy) : x.mul y = y.mul x := by unfold Dy.mul; rw [Int.mul_comm, Nat.add_comm]
theorem zmI (x y : Dy) : (x.min y).v ≤ (x.max y).v := by
 rw [Dy.v_min, Dy.v_max]; split <;> split <;> grind
section
variable {C : Cx} {n : Nat} {r : List It} {s : AS} {Q : Lab → AS → Prop} {o : Oper} {d : Option Tmp} {all l : List Oper} {fps : List FP} {fp : FP}
theorem cF {g : FuncId} {as : List AV} {res : AV} (h : CallOK C.P C.G g as res) (k : ex C n r (s.put d res) Q) : zfA C n r s Q g as d := zmk h k
theorem dF {g : FuncId} {as : List AV} {res : AV} (h : CallOK C.P C.G g as res) (k : zax C n r (bump (s.put d res) (s.next + 1)) Q all l ((none, none) :: fps)) : zgn C n r s Q all g as d l fps := zl9 h k
theorem gS {b want : Bool} (h1 : b = true → zaH C n r s Q (some (.v (.bool b))) want o) (h2 : b = false → zaH C n r s Q (some (.v (.bool b))) want o) : zaH C n r s Q (some (.v (.bool b))) want o := zk7 h1 h2
theorem dS {b want : Bool} (h1 : b = true → zaQ C n r s Q all (some (.v (.bool b))) want o l fps) (h2 : b = false → zaQ C n r s Q all (some (.v (.bool b))) want o l fps) : zaQ C n r s Q all (some (.v (.bool b))) want o l fps := zhp h1 h2
theorem cC {b : Bool} {x y : Code} (h1 : b = true → zbM C n r s Q (some (.v (.bool b))) x y) (h2 : b = false → zbM C n r s Q (some (.v (.bool b))) x y) : zbM C n r s Q (some (.v (.bool b))) x y := zmQ h1 h2
variable {t : TypeId} {len : Nat} {parts : List (Nat × Operand)} {u : TypeId} {pos : String} {af : Array Edge} {g : Option (Nat × Bool)}
theorem aL (hT : zam C.P C.ti) (h : zfQ C n r s Q d (aLit C.ti s t len parts)) : after C n r s Q ⟨d, .buildSlice t len parts.toArray, u, pos, af, g⟩ none := zpJ hT h
theorem dL (hT : zam C.P C.ti) (h : zcj C n r s Q all d (aLit C.ti s t len parts) fp l fps) : za0 C n r s Q all ⟨d, .buildSlice t len parts.toArray, u, pos, af, g⟩ none fp l fps := zi6 hT h
end
theorem dcA : (∀ (p : Prop) [Decidable p], (decide p = true) = p) ∧ (∀ (p : Prop) [Decidable p], (decide p = false) = ¬p) ∧ (∀ b : Bool, (¬b = true) = (b = false)) ∧ (∀ b : Bool, (¬b = false) = (b = true)) ∧ (∀ b : Bool, ((!b) = true) = (b = false)) ∧ (∀ b : Bool, ((!b) = false) = (b = true)) :=
 ⟨fun _ _ => dcT, fun _ _ => propext dcF, fun _ => bnT, fun _ => bnF, fun _ => bnU, fun _ => bnV⟩
theorem wA : (∀ x : Int, (-9223372036854775808 ≤ x ∧ x ≤ 9223372036854775807) → IntKind.i64.wrap x = x) ∧ (∀ x : Int, (0 ≤ x ∧ x ≤ 18446744073709551615) → IntKind.u64.wrap x = x) ∧ (∀ x : Int, (0 ≤ x ∧ x ≤ 4294967295) → IntKind.u32.wrap x = x) ∧ (∀ a b : Nat, a ≤ b → min a b = a) :=
 ⟨fun _ h => w64 h, fun _ h => wu64 h, fun _ h => wu32 h, fun _ _ h => Nat.min_eq_left h⟩
section
variable {C : Cx} {n : Nat} {r : List It} {s : AS} {Q : Lab → AS → Prop} {o : Oper} {all l : List Oper} {fps : List FP}
theorem dG (k : ex C n r s Q) (h : zbR all fps.reverse = true := by kernel_rfl) : zeT C n r s Q all fps := zmP h k
end
end Go.Ax
