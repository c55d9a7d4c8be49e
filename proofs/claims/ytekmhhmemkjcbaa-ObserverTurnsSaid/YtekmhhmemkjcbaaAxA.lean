/- The abstract executor, part 10: a region that draws its order: whatever the order, it ends as the order of the text does, if what conflicts is ordered. -/
import Derived.Test.YtekmhhmemkjcbaaAx9
set_option linter.unusedSimpArgs false
set_option linter.unusedVariables false
set_option linter.deprecated false
namespace Go.Ax
open Go Go.RowKit

/-! ### the same operation in another state -/
theorem ev_congr {s s' : AS} {x : Operand} (h : ∀ t, x = .tmp t → look s.env t = look s'.env t) : ev s x = ev s' x := by
  cases x <;> simp only [ev]
  exact h _ rfl

theorem evL_congr {s s' : AS} : ∀ (xs : List Operand), (∀ x ∈ xs, ev s x = ev s' x) → evL s xs = evL s' xs
  | [], _ => rfl
  | x :: xs, h => by
    simp only [evL]
    rw [h x (by simp), evL_congr xs (fun y hy => h y (by simp [hy]))]

theorem placed_congr {s s' : AS} (place : Nat → Option (Nat × Nat)) : ∀ (ps : List (Nat × Operand)), (∀ p ∈ ps, ev s p.2 = ev s' p.2) → placed place s ps = placed place s' ps
  | [], _ => rfl
  | (i, x) :: ps, h => by
    simp only [placed]
    have e : ev s x = ev s' x := h (i, x) (by simp)
    rw [e, placed_congr place ps (fun y hy => h y (by simp [hy]))]

theorem behind_congr {mem mem' : List (Nat × MB)} {av : AV} (h : ∀ b, blockOf (some av) = some b → look mem b = look mem' b) : behind mem av = behind mem' av := by
  unfold behind
  cases av <;> first | rfl | skip
  rename_i b sz row j
  simp only
  rw [h b rfl]

theorem aop_congr {ti : Types} {s s' : AS} {op : Op} (hc : isCall op = false) (hv : ∀ x ∈ op.operands.toList, ev s x = ev s' x) (hm : ∀ b, rdOf s op = some b ∨ wrOf s op = some b → look s.mem b = look s'.mem b) (hn : s.next = s'.next) : aop ti s op = aop ti s' op := by
  cases op <;> simp only [aop]
  case move x => rw [hv x (by simp [Op.operands])]
  case assign x => rw [hv x (by simp [Op.operands])]
  case pick c a b => rw [hv c (by simp [Op.operands]), hv a (by simp [Op.operands]), hv b (by simp [Op.operands])]
  case alloc t => rw [hn]
  case box t x => rw [hn, hv x (by simp [Op.operands])]
  case build t parts =>
    have : ∀ place, placed place s parts.toList = placed place s' parts.toList := fun place => placed_congr place _ (fun p hp => hv p.2 (by simp only [Op.operands]; exact List.mem_map.2 ⟨p, hp, rfl⟩))
    unfold aBuild
    simp only [this]
  case load t x =>
    have ex := hv x (by simp [Op.operands])
    unfold aLoad
    rw [← ex]
    cases hx : ev s x with
    | none => cases ti t <;> rfl
    | some av =>
      have : behind s.mem av = behind s'.mem av := behind_congr (fun b hb => hm b (.inl (by simp [rdOf, hx, hb])))
      cases ti t with
      | none => rfl
      | some y => simp only [this]
  case store t x y =>
    have ex := hv x (by simp [Op.operands])
    have ey := hv y (by simp [Op.operands])
    unfold aStore
    rw [← ex, ← ey]
    cases hx : ev s x with
    | none => cases ti t <;> rfl
    | some av =>
      cases av <;> first | (cases ti t <;> rfl) | skip
      rename_i b sz row j
      have hb := hm b (.inr (by simp [wrOf, hx, blockOf]))
      cases ti t with
      | none => rfl
      | some yy => cases ev s y <;> first | rfl | simp only [hb]
  case nilCheck x => rw [hv x (by simp [Op.operands])]
  case makeSlice t x y => rw [hn, hv x (by simp [Op.operands]), hv y (by simp [Op.operands])]
  case slice t x lo hi mx =>
    have e1 : lo.map (ev s) = lo.map (ev s') := by
      cases lo with
      | none => rfl
      | some l => simp only [Option.map_some]; rw [hv l (by simp [Op.operands])]
    have e2 : hi.map (ev s) = hi.map (ev s') := by
      cases hi with
      | none => rfl
      | some l => simp only [Option.map_some]; rw [hv l (by simp [Op.operands])]
    rw [hv x (by simp [Op.operands]), e1, e2]
  case binOp op t x y t' => rw [hv x (by simp [Op.operands]), hv y (by simp [Op.operands])]
  case unOp op t x => rw [hv x (by simp [Op.operands])]
  case convert t u x => rw [hv x (by simp [Op.operands])]
  case makeInterface t x => rw [hv x (by simp [Op.operands])]
  case makeFunc fn first captured =>
    unfold aMakeFunc
    rw [evL_congr captured.toList (fun x hx => hv x (by simp [Op.operands]; right; simpa using hx))]
  case fieldAddr t x f => rw [hv x (by simp [Op.operands])]
  case field t x f => rw [hv x (by simp [Op.operands])]
  case indexAddr t x i => rw [hv x (by simp [Op.operands]), hv i (by simp [Op.operands])]
  case index t x i => rw [hv x (by simp [Op.operands]), hv i (by simp [Op.operands])]
  case typeAssert x t u c => rw [hv x (by simp [Op.operands])]
  case extract x i => rw [hv x (by simp [Op.operands])]
  case call c =>
    obtain ⟨cl, args, types⟩ := c
    cases cl with
    | value f => simp [isCall] at hc
    | invoke r m => rfl
    | builtin b =>
      have hv' : ∀ x ∈ args.toList, ev s x = ev s' x := fun x hx => hv x (by simp [Op.operands, Call.operands]; simpa using hx)
      simp only
      unfold aBuiltin
      split
      · rename_i x hx; rw [hv' x (by rw [hx]; simp)]
      · rw [evL_congr _ hv']
      · rw [evL_congr _ hv']
      · rfl

/-! ### the order of the text -/
abbrev FP := Option Nat × Option Nat

def AS.didD (s : AS) (o : Oper) (rc : Rc) : AS := ⟨(s.did o rc).env, (s.did o rc).mem, s.next + 1⟩

inductive Tr (C : Cx) (all : List Oper) : AS → List Oper → List Rc → AS → Prop
  | nil (s : AS) : Tr C all s [] [] s
  | cons {s s' : AS} {o : Oper} {l : List Oper} {rc : Rc} {recs : List Rc} (hd : dstOK C o.dst) (h : RecG C s o (gd all o) rc) (t : Tr C all (s.didD o rc) l recs s') : Tr C all s (o :: l) (rc :: recs) s'

/-! ### what must be ordered -/
def tmpsOf (x : List Operand) : List Tmp := x.filterMap fun | .tmp t => some t | _ => none
def looks (all : List Oper) (o : Oper) : List Tmp := tmpsOf o.op.operands.toList ++ (match gd all o with | some (some t, _) => [t] | _ => [])

def maskOf (acc : List Nat) (edges : List Edge) : Nat := (edges.filter (Region.binds .any)).foldl (fun m e => m ||| 2 ^ e.on ||| acc.getD e.on 0) 0
def bef : List Nat → List Oper → List Nat
  | acc, [] => acc
  | acc, o :: l => bef (acc ++ [maskOf acc o.after.toList]) l

def edgesOK : Nat → List Oper → Bool
  | _, [] => true
  | k, o :: l => o.after.toList.all (fun e => decide (e.on < k) || !Region.binds .any e) && edgesOK (k + 1) l

def optMem (x : Option Nat) (l : List Nat) : Bool := match x with | some t => l.contains t | none => false
def optEq (x y : Option Nat) : Bool := match x, y with | some a, some b => a == b | _, _ => false

def conf (all : List Oper) (a b : Oper) (f g : FP) : Bool :=
  optMem a.dst (looks all b) || optMem b.dst (looks all a) || optEq a.dst b.dst || optEq f.2 g.1 || optEq f.2 g.2 || optEq f.1 g.2

def drawCheck (ops : List Oper) (fps : List FP) : Bool :=
  fps.length == ops.length && edgesOK 0 ops &&
  (let masks := bef [] ops
   (List.range ops.length).all fun j => (List.range j).all fun i =>
     (masks.getD j 0).testBit i || (match ops[i]?, ops[j]?, fps[i]?, fps[j]? with | some a, some b, some f, some g => !conf all a b f g | _, _, _, _ => true))
where all := ops

def Rc.fp (rc : Rc) : FP := (rc.rd, rc.wr)

/-- A set of operations that holds, with each, what must come before it. -/
def Closed (ops : List Oper) (L : Nat → Bool) : Prop := ∀ (j : Nat) (o : Oper), ops[j]? = some o → L j = true → ∀ e ∈ o.after, Region.binds .any e = true → L e.on = true

theorem foldl_mask (acc : List Nat) : ∀ (es : List Edge) (m : Nat) (i : Nat), (es.foldl (fun m (e : Edge) => m ||| 2 ^ e.on ||| acc.getD e.on 0) m).testBit i = true → m.testBit i = true ∨ ∃ e ∈ es, e.on = i ∨ (acc.getD e.on 0).testBit i = true
  | [], m, i, h => .inl h
  | e :: es, m, i, h => by
    simp only [List.foldl_cons] at h
    rcases foldl_mask acc es _ i h with h1 | ⟨e', he', h1⟩
    · rw [Nat.testBit_or, Nat.testBit_or, Nat.testBit_two_pow] at h1
      simp only [Bool.or_eq_true, decide_eq_true_eq] at h1
      rcases h1 with (h1 | h1) | h1
      · exact .inl h1
      · exact .inr ⟨e, by simp, .inl h1⟩
      · exact .inr ⟨e, by simp, .inr h1⟩
    · exact .inr ⟨e', by simp [he'], h1⟩

theorem bef_spec (ops : List Oper) (L : Nat → Bool) (hL : Closed ops L) : ∀ (l : List Oper) (acc : List Nat), (∀ j, l[j]? = ops[acc.length + j]?) → (∀ j i, L j = true → (acc.getD j 0).testBit i = true → L i = true) →
    ∀ j i, L j = true → ((bef acc l).getD j 0).testBit i = true → L i = true
  | [], acc, _, h => h
  | o :: l, acc, hl, h => by
    simp only [bef]
    refine bef_spec ops L hL l _ (fun j => by have := hl (j + 1); simp only [List.length_append, List.length_cons, List.length_nil] at *; rw [← Nat.add_assoc] at this; rw [show acc.length + (0 + 1) + j = acc.length + j + 1 by omega]; simpa using this) (fun j i hj hb => ?_)
    rcases Nat.lt_trichotomy j acc.length with hlt | heq | hgt
    · have : (acc ++ [maskOf acc o.after.toList]).getD j 0 = acc.getD j 0 := by simp [List.getD, List.getElem?_append, hlt]
      rw [this] at hb
      exact h j i hj hb
    · subst heq
      have : (acc ++ [maskOf acc o.after.toList]).getD acc.length 0 = maskOf acc o.after.toList := by simp [List.getD]
      rw [this] at hb
      have ho : ops[acc.length]? = some o := by simpa using (hl 0).symm
      rcases foldl_mask acc _ 0 i hb with h1 | ⟨e, he, h1⟩
      · simp at h1
      · simp only [List.mem_filter] at he
        have hon := hL acc.length o ho hj e (by simpa using he.1) he.2
        rcases h1 with h1 | h1
        · rw [← h1]; exact hon
        · exact h e.on i hon h1
    · have : (acc ++ [maskOf acc o.after.toList])[j]? = none := by rw [List.getElem?_eq_none]; simp; omega
      simp [List.getD, this] at hb

/-! ### states in which some operations have run -/
def putE (d : Option Tmp) (v : AV) (env : List (Nat × AV)) : List (Nat × AV) := match d with | some d => (d, v) :: env | none => env
def updM (id : Nat) (u : Upd) (mem : List (Nat × MB)) : List (Nat × MB) := match u with | .keep => mem | .new m => (id, m) :: mem | .set b m => (b, m) :: mem

def envL (L : Nat → Bool) : Nat → List (Oper × Rc) → List (Nat × AV) → List (Nat × AV)
  | _, [], env => env
  | k, (o, rc) :: l, env => envL L (k + 1) l (if L k then putE o.dst rc.val env else env)
def memL (L : Nat → Bool) (n0 : Nat) : Nat → List (Oper × Rc) → List (Nat × MB) → List (Nat × MB)
  | _, [], mem => mem
  | k, (_, rc) :: l, mem => memL L n0 (k + 1) l (if L k then updM (n0 + k) rc.up mem else mem)

/-- The block that a record touches. -/
def touch (id : Nat) : Upd → Option Nat
  | .keep => none
  | .new _ => some id
  | .set b _ => some b

theorem look_putE_ne {d : Option Tmp} {v : AV} {env : List (Nat × AV)} {t : Nat} (h : d ≠ some t) : look (putE d v env) t = look env t := by
  cases d with
  | none => rfl
  | some d => simp only [putE, look]; rw [if_neg (fun e => h (by rw [e]))]
theorem look_updM_ne {id : Nat} {u : Upd} {mem : List (Nat × MB)} {b : Nat} (h : touch id u ≠ some b) : look (updM id u mem) b = look mem b := by
  cases u with
  | keep => rfl
  | new m => simp only [updM, look]; rw [if_neg (fun e => h (by simp [touch, e]))]
  | set c m => simp only [updM, look]; rw [if_neg (fun e => h (by simp [touch, e]))]
theorem look_putE_eq {d : Option Tmp} {v : AV} {env env' : List (Nat × AV)} {t : Nat} (h : d = some t) : look (putE d v env) t = look (putE d v env') t := by
  subst h; simp [putE, look]
theorem look_updM_eq {id : Nat} {u : Upd} {mem mem' : List (Nat × MB)} {b : Nat} (h : touch id u = some b) : look (updM id u mem) b = look (updM id u mem') b := by
  cases u <;> simp [touch] at h <;> subst h <;> simp [updM, look]

theorem envL_agree {L L' : Nat → Bool} {t : Nat} : ∀ (l : List (Oper × Rc)) (k : Nat) (env env' : List (Nat × AV)), (∀ j o rc, l[j]? = some (o, rc) → o.dst = some t → L (k + j) = L' (k + j)) → look env t = look env' t →
    look (envL L k l env) t = look (envL L' k l env') t
  | [], _, _, _, _, h => h
  | (o, rc) :: l, k, env, env', hL, h => by
    simp only [envL]
    refine envL_agree l (k + 1) _ _ (fun j o' rc' hj hd => by have := hL (j + 1) o' rc' (by simpa using hj) hd; rwa [show k + (j + 1) = k + 1 + j by omega] at this) ?_
    by_cases hd : o.dst = some t
    · have h0 := hL 0 o rc rfl hd
      simp only [Nat.add_zero] at h0
      rw [h0]
      split
      · exact look_putE_eq hd
      · exact h
    · have e1 : look (if L k = true then putE o.dst rc.val env else env) t = look env t := by split; exact look_putE_ne hd; rfl
      have e2 : look (if L' k = true then putE o.dst rc.val env' else env') t = look env' t := by split; exact look_putE_ne hd; rfl
      rw [e1, e2, h]

theorem memL_agree {L L' : Nat → Bool} {n0 b : Nat} : ∀ (l : List (Oper × Rc)) (k : Nat) (mem mem' : List (Nat × MB)), (∀ j o rc, l[j]? = some (o, rc) → touch (n0 + (k + j)) rc.up = some b → L (k + j) = L' (k + j)) → look mem b = look mem' b →
    look (memL L n0 k l mem) b = look (memL L' n0 k l mem') b
  | [], _, _, _, _, h => h
  | (o, rc) :: l, k, mem, mem', hL, h => by
    simp only [memL]
    refine memL_agree l (k + 1) _ _ (fun j o' rc' hj hd => by have := hL (j + 1) o' rc' (by simpa using hj) (by rwa [show k + (j + 1) = k + 1 + j by omega]); rwa [show k + (j + 1) = k + 1 + j by omega] at this) ?_
    by_cases hd : touch (n0 + k) rc.up = some b
    · have h0 := hL 0 o rc rfl hd
      simp only [Nat.add_zero] at h0
      rw [h0]
      split
      · exact look_updM_eq hd
      · exact h
    · have e1 : look (if L k = true then updM (n0 + k) rc.up mem else mem) b = look mem b := by split; exact look_updM_ne hd; rfl
      have e2 : look (if L' k = true then updM (n0 + k) rc.up mem' else mem') b = look mem' b := by split; exact look_updM_ne hd; rfl
      rw [e1, e2, h]

/-- The last one that runs decides. -/
theorem envL_last {L : Nat → Bool} {t : Nat} : ∀ (l : List (Oper × Rc)) (k i : Nat) (env env' : List (Nat × AV)) (o : Oper) (rc : Rc), l[i]? = some (o, rc) → o.dst = some t → L (k + i) = true →
    (∀ j o' rc', i < j → l[j]? = some (o', rc') → o'.dst = some t → L (k + j) = false) → look (envL L k l env) t = look (putE o.dst rc.val env') t
  | [], _, _, _, _, _, _, h, _, _, _ => by simp at h
  | (o1, rc1) :: l, k, 0, env, env', o, rc, h, hd, hL, hlast => by
    simp at h
    obtain ⟨rfl, rfl⟩ := h
    simp only [envL]
    simp only [Nat.add_zero] at hL
    rw [if_pos hL]
    have := envL_agree (L := L) (L' := fun _ => false) (t := t) l (k + 1) (putE o1.dst rc1.val env) (putE o1.dst rc1.val env') (fun j o' rc' hj hdj => by
      have := hlast (j + 1) o' rc' (by omega) (by simpa using hj) hdj
      rwa [show k + (j + 1) = k + 1 + j by omega] at this) (look_putE_eq hd)
    rw [this]
    have none : ∀ (l : List (Oper × Rc)) (k : Nat) (env : List (Nat × AV)), envL (fun _ => false) k l env = env := fun l => by
      induction l with
      | nil => intro k env; rfl
      | cons x l ih => intro k env; obtain ⟨x1, x2⟩ := x; simp only [envL]; exact ih _ _
    rw [none]
  | (o1, rc1) :: l, k, i + 1, env, env', o, rc, h, hd, hL, hlast => by
    simp only [envL]
    refine envL_last l (k + 1) i _ env' o rc (by simpa using h) hd (by rwa [show k + 1 + i = k + (i + 1) by omega]) (fun j o' rc' hij hj hdj => ?_)
    have := hlast (j + 1) o' rc' (by omega) (by simpa using hj) hdj
    rwa [show k + 1 + j = k + (j + 1) by omega]

theorem memL_last {L : Nat → Bool} {n0 b : Nat} : ∀ (l : List (Oper × Rc)) (k i : Nat) (mem mem' : List (Nat × MB)) (o : Oper) (rc : Rc), l[i]? = some (o, rc) → touch (n0 + (k + i)) rc.up = some b → L (k + i) = true →
    (∀ j o' rc', i < j → l[j]? = some (o', rc') → touch (n0 + (k + j)) rc'.up = some b → L (k + j) = false) → look (memL L n0 k l mem) b = look (updM (n0 + (k + i)) rc.up mem') b
  | [], _, _, _, _, _, _, h, _, _, _ => by simp at h
  | (o1, rc1) :: l, k, 0, mem, mem', o, rc, h, hd, hL, hlast => by
    simp at h
    obtain ⟨rfl, rfl⟩ := h
    simp only [memL]
    simp only [Nat.add_zero] at hL hd ⊢
    rw [if_pos hL]
    have := memL_agree (L := L) (L' := fun _ => false) (n0 := n0) (b := b) l (k + 1) (updM (n0 + k) rc1.up mem) (updM (n0 + k) rc1.up mem') (fun j o' rc' hj hdj => by
      have := hlast (j + 1) o' rc' (by omega) (by simpa using hj) (by rwa [show k + (j + 1) = k + 1 + j by omega])
      rwa [show k + (j + 1) = k + 1 + j by omega] at this) (look_updM_eq hd)
    rw [this]
    have none : ∀ (l : List (Oper × Rc)) (k : Nat) (mem : List (Nat × MB)), memL (fun _ => false) n0 k l mem = mem := fun l => by
      induction l with
      | nil => intro k mem; rfl
      | cons x l ih => intro k mem; obtain ⟨x1, x2⟩ := x; simp only [memL]; exact ih _ _
    rw [none]
  | (o1, rc1) :: l, k, i + 1, mem, mem', o, rc, h, hd, hL, hlast => by
    simp only [memL]
    have := memL_last (L := L) (n0 := n0) (b := b) l (k + 1) i (if L k = true then updM (n0 + k) rc1.up mem else mem) mem' o rc (by simpa using h) (by rwa [show k + 1 + i = k + (i + 1) by omega]) (by rwa [show k + 1 + i = k + (i + 1) by omega]) (fun j o' rc' hij hj hdj => by
      have := hlast (j + 1) o' rc' (by omega) (by simpa using hj) (by rwa [show k + (j + 1) = k + 1 + j by omega])
      rwa [show k + 1 + j = k + (j + 1) by omega])
    rwa [show k + 1 + i = k + (i + 1) by omega] at this

end Go.Ax
