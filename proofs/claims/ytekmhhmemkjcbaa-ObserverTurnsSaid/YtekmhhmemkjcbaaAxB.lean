/- The abstract executor, part 11: a region that draws its order: the theorem. -/
import Derived.Test.YtekmhhmemkjcbaaAxA
set_option linter.unusedSimpArgs false
set_option linter.unusedVariables false
set_option linter.deprecated false
namespace Go.Ax
open Go Go.RowKit

section
variable {C : Cx} {D : Base} {S0 : Nat → Prop} {w0 : World}

theorem Fit.congr {σ : Sig} {S U U' : Nat → Prop} {mem mem' : List (Nat × MB)} {w : World} (h : Fit D S0 w0 σ S mem U w) (hm : ∀ b, look mem' b = look mem b) (hU : ∀ b, U b → U' b) : Fit D S0 w0 σ S mem' U' w where
  below := h.below
  dom b k hk := ⟨hU b (h.dom b k hk).1, (h.dom b k hk).2⟩
  inj b b' k m m' h1 h2 h3 h4 := h.inj b b' k m m' (by rw [← hm]; exact h1) (by rw [← hm]; exact h2) h3 h4
  sbd := h.sbd
  s0 := h.s0
  s1 := h.s1
  glob := h.glob
  mem b m hb := h.mem b m (by rw [← hm]; exact hb)

theorem EnvOK.congr {σ : Sig} {S : Nat → Prop} {w : World} {env env' : List (Nat × AV)} {a : Act} (h : EnvOK σ S w env a) (he : ∀ t, look env' t = look env t) : EnvOK σ S w env' a := fun t av ht => h t av (by rw [← he]; exact ht)

theorem looks_guard {all : List Oper} {o : Oper} {t : Tmp} {want : Bool} (h : gd all o = some (some t, want)) : t ∈ looks all o := by simp [looks, h]
theorem looks_op {all : List Oper} {o : Oper} {t : Tmp} (h : Operand.tmp t ∈ o.op.operands.toList) : t ∈ looks all o := by
  unfold looks tmpsOf
  rw [List.mem_append]
  left
  rw [List.mem_filterMap]
  exact ⟨_, h, rfl⟩

theorem evs_congr {all : List Oper} {o : Oper} {s s' : AS} (hv : ∀ t ∈ looks all o, look s.env t = look s'.env t) : ∀ x ∈ o.op.operands.toList, ev s x = ev s' x := fun x hx => ev_congr (fun t ht => hv t (looks_op (by rw [← ht]; exact hx)))

theorem rdwr_congr {op : Op} {s s' : AS} (hv : ∀ x ∈ op.operands.toList, ev s x = ev s' x) (hn : s.next = s'.next) : rdOf s op = rdOf s' op ∧ wrOf s op = wrOf s' op := by
  constructor
  · cases op <;> first | rfl | skip
    simp only [rdOf]
    rw [hv _ (by simp [Op.operands])]
  · cases op <;> first | rfl | skip
    · simp only [wrOf]; rw [hn]
    · simp only [wrOf]; rw [hn]
    rotate_left
    · simp only [wrOf]; rw [hn]
    · simp only [wrOf]; rw [hv _ (by simp [Op.operands])]

theorem recOK_congr {all : List Oper} {o : Oper} {s s' : AS} {rc : Rc} (h : RecOK C s o rc) (hv : ∀ t ∈ looks all o, look s.env t = look s'.env t) (hm : ∀ b, rc.rd = some b ∨ rc.wr = some b → look s.mem b = look s'.mem b) (hn : s.next = s'.next) : RecOK C s' o rc := by
  have hv' := evs_congr hv
  cases h with
  | plain e hc he hneed =>
    have e1 := aop_congr (ti := C.ti) hc hv' hm hn
    obtain ⟨e2, e3⟩ := rdwr_congr hv' hn
    rw [e2, e3]
    exact .plain e hc (by rw [← e1]; exact he) hneed
  | sem av hc he h =>
    have e1 := aop_congr (ti := C.ti) hc hv' hm hn
    obtain ⟨e2, e3⟩ := rdwr_congr hv' hn
    rw [e2, e3]
    exact .sem av hc (by rw [← e1]; exact he) (fun σ S a w hS hgs hx => h σ S a w hS hgs (fun x hxo b hb => hx x hxo b (by rw [← hv' x hxo]; exact hb)))
  | call f args ty g caps as args' res ho hf ha hle hk =>
    have hf' : ev s f = ev s' f := hv' f (by rw [ho]; simp [Op.operands, Call.operands])
    have ha' : evL s args.toList = evL s' args.toList := evL_congr _ (fun x hx => hv' x (by rw [ho]; simp [Op.operands, Call.operands]; right; simpa using hx))
    exact .call f args ty g caps as args' res ho (by rw [← hf']; exact hf) (by rw [← ha']; exact ha) hle hk

theorem recG_congr {all : List Oper} {o : Oper} {s s' : AS} {rc : Rc} (h : RecG C s o (gd all o) rc) (hv : ∀ t ∈ looks all o, look s.env t = look s'.env t) (hm : ∀ b, rc.rd = some b ∨ rc.wr = some b → look s.mem b = look s'.mem b) (hn : s.next = s'.next) : RecG C s' o (gd all o) rc := by
  generalize hg : gd all o = g at h
  cases h with
  | none h => exact .none (recOK_congr (all := all) h hv hm hn)
  | yes hl h => exact .yes (by rw [← hv _ (looks_guard hg)]; exact hl) (recOK_congr (all := all) h hv hm hn)
  | no hl hx => exact .no (by rw [← hv _ (looks_guard hg)]; exact hl) hx

theorem didD_eq (s : AS) (o : Oper) (rc : Rc) : s.didD o rc = ⟨putE o.dst rc.val s.env, updM s.next rc.up s.mem, s.next + 1⟩ := by
  obtain ⟨val, up, rd, wr⟩ := rc
  cases up <;> cases hd : o.dst <;> simp [AS.didD, AS.did, AS.upd, AS.put, putE, updM, hd]

def zipR (l : List Oper) (recs : List Rc) : List (Oper × Rc) := l.zip recs

theorem envL_lt (k0 : Nat) : ∀ (l : List (Oper × Rc)) (k : Nat) (env : List (Nat × AV)), k0 ≤ k → envL (fun j => decide (j < k0)) k l env = env
  | [], _, _, _ => rfl
  | (o, rc) :: l, k, env, h => by
    simp only [envL]
    rw [if_neg (by simp; omega)]
    exact envL_lt k0 l (k + 1) env (by omega)
theorem memL_lt (k0 n0 : Nat) : ∀ (l : List (Oper × Rc)) (k : Nat) (mem : List (Nat × MB)), k0 ≤ k → memL (fun j => decide (j < k0)) n0 k l mem = mem
  | [], _, _, _ => rfl
  | (o, rc) :: l, k, mem, h => by
    simp only [memL]
    rw [if_neg (by simp; omega)]
    exact memL_lt k0 n0 l (k + 1) mem (by omega)

theorem tr_len {all : List Oper} {s s' : AS} {l : List Oper} {recs : List Rc} (h : Tr C all s l recs s') : recs.length = l.length := by
  induction h with
  | nil => rfl
  | cons _ _ _ ih => simp [ih]

/-- The state of the text's order before the i-th operation. -/
theorem tr_get {all : List Oper} {n0 : Nat} : ∀ {s s' : AS} {l : List Oper} {recs : List Rc} (k : Nat), Tr C all s l recs s' → s.next = n0 + k → ∀ (i : Nat) (o : Oper) (rc : Rc), l[i]? = some o → recs[i]? = some rc →
    dstOK C o.dst ∧ RecG C ⟨envL (fun j => decide (j < k + i)) k (zipR l recs) s.env, memL (fun j => decide (j < k + i)) n0 k (zipR l recs) s.mem, n0 + (k + i)⟩ o (gd all o) rc
  | s, s', [], recs, k, h, hn, i, o, rc, ho, hr => by simp at ho
  | s, s', o1 :: l, recs, k, h, hn, i, o, rc, ho, hr => by
    cases h with
    | @cons _ _ _ _ rc1 recs1 hd hg t =>
      cases i with
      | zero =>
        simp at ho hr
        subst ho hr
        refine ⟨hd, ?_⟩
        have : (⟨envL (fun j => decide (j < k + 0)) k (zipR (o1 :: l) (rc1 :: recs1)) s.env, memL (fun j => decide (j < k + 0)) n0 k (zipR (o1 :: l) (rc1 :: recs1)) s.mem, n0 + (k + 0)⟩ : AS) = s := by
          rw [envL_lt _ _ _ _ (by omega), memL_lt _ _ _ _ _ (by omega)]
          simp only [Nat.add_zero]
          rw [← hn]
        rw [this]; exact hg
      | succ i =>
        simp at ho hr
        have ih := tr_get (n0 := n0) (k + 1) t (by simp only [AS.didD]; omega) i o rc ho hr
        rw [didD_eq] at ih
        simp only [zipR, List.zip_cons_cons, envL, memL] at ih ⊢
        rw [if_pos (by simp), if_pos (by simp)]
        rw [show k + (i + 1) = k + 1 + i by omega]
        rw [show n0 + k = s.next from hn.symm]
        exact ih

theorem tr_end {all : List Oper} {n0 : Nat} : ∀ {s s' : AS} {l : List Oper} {recs : List Rc} (k : Nat), Tr C all s l recs s' → s.next = n0 + k →
    s' = ⟨envL (fun _ => true) k (zipR l recs) s.env, memL (fun _ => true) n0 k (zipR l recs) s.mem, n0 + k + l.length⟩
  | s, s', [], recs, k, h, hn => by
    cases h
    simp only [zipR, List.zip_nil_left, envL, memL, List.length_nil, Nat.add_zero]
    rw [← hn]
  | s, s', o1 :: l, recs, k, h, hn => by
    cases h with
    | @cons _ _ _ _ rc1 recs1 hd hg t =>
      have ih := tr_end (n0 := n0) (k + 1) t (by simp only [AS.didD]; omega)
      rw [didD_eq] at ih
      rw [ih]
      simp only [zipR, List.zip_cons_cons, envL, memL, if_true, List.length_cons, hn]
      congr 1
      omega

/-! ### what the check says -/
theorem edgesOK_spec : ∀ (l : List Oper) (k i : Nat) (o : Oper), edgesOK k l = true → l[i]? = some o → ∀ e ∈ o.after, Region.binds .any e = true → e.on < k + i
  | [], _, _, _, _, h => by simp at h
  | o1 :: l, k, i, o, h, ho => by
    simp only [edgesOK, Bool.and_eq_true] at h
    cases i with
    | zero =>
      simp at ho; subst ho
      intro e he hb
      have := List.all_eq_true.1 h.1 e (by simpa using he)
      simpa [hb] using this
    | succ i =>
      simp at ho
      intro e he hb
      have := edgesOK_spec l (k + 1) i o h.2 ho e he hb
      omega

theorem check_spec {ops : List Oper} {fps : List FP} (h : drawCheck ops fps = true) : fps.length = ops.length ∧ edgesOK 0 ops = true ∧
    ∀ (L : Nat → Bool), Closed ops L → ∀ (i j : Nat) (a b : Oper) (f g : FP), i < j → ops[i]? = some a → ops[j]? = some b → fps[i]? = some f → fps[j]? = some g → conf ops a b f g = true → L j = true → L i = true := by
  unfold drawCheck at h
  simp only [Bool.and_eq_true, beq_iff_eq] at h
  obtain ⟨⟨h1, h2⟩, h3⟩ := h
  refine ⟨h1, h2, fun L hL i j a b f g hij ha hb hf hg hc hLj => ?_⟩
  have hjl : j < ops.length := (List.getElem?_eq_some_iff.1 hb).1
  have q := List.all_eq_true.1 (List.all_eq_true.1 h3 j (List.mem_range.2 hjl)) i (List.mem_range.2 hij)
  simp only [ha, hb, hf, hg, drawCheck.all, hc, Bool.not_true, Bool.or_false] at q
  exact bef_spec ops L hL ops [] (fun j => by simp) (fun j i _ hb => by simp at hb) j i hLj q

theorem toEff_keep {x : Option (Prop × Value)} {e : Eff} (h : toEff x = some e) : e.upd = .keep := by
  unfold toEff at h
  split at h
  · injection h with h; subst h; rfl
  · cases h
theorem eqBool_keep {op : BinOp} {x y : Bool} {e : Eff} (h : eqBool op x y = some e) : e.upd = .keep := by
  unfold eqBool at h
  split at h <;> first | (injection h with h; subst h; rfl) | cases h
theorem eqNil_keep {op : BinOp} {x : Bool} {e : Eff} (h : eqNil op x = some e) : e.upd = .keep := by
  unfold eqNil at h
  split at h <;> first | (injection h with h; subst h; rfl) | cases h
theorem aLen_keep {x : Option AV} {e : Eff} (h : aLen x = some e) : e.upd = .keep := by
  unfold aLen at h
  split at h <;> first | (injection h with h; subst h; rfl) | cases h
def changes : Op → Bool
  | .alloc _ => true
  | .box _ _ => true
  | .store _ _ _ => true
  | .makeSlice _ _ _ => true
  | _ => false
theorem strBin_keep {op : BinOp} {x y : ByteArray} {e : Eff} (h : strBin op x y = some e) : e.upd = .keep := by
  unfold strBin at h
  split at h <;> first | (injection h with h; subst h; rfl) | cases h
theorem aSlice_keep {ti : Types} {y : Option TyI} {a : Option AV} {lo hi : Option (Option AV)} {mx : Bool} {e : Eff} (h : aSlice ti y a lo hi mx = some e) : e.upd = .keep := by
  unfold aSlice at h
  (repeat' split at h) <;> first | (injection h with h; subst h; rfl) | cases h
theorem aBin_keep {ti : Types} {op : BinOp} {t : TypeId} {y : Operand} {a b : Option AV} {e : Eff} (h : aBin ti op t y a b = some e) : e.upd = .keep := by
  unfold aBin at h
  (repeat' split at h) <;> first | (injection h with h; subst h; rfl) | cases h | exact toEff_keep h | exact strBin_keep h | exact eqBool_keep h | exact eqNil_keep h | exact aLen_keep h
theorem aUn_keep {op : UnOp} {a : Option AV} {e : Eff} (h : aUn op a = some e) : e.upd = .keep := by
  unfold aUn at h
  (repeat' split at h) <;> first | (injection h with h; subst h; rfl) | cases h | exact toEff_keep h | exact strBin_keep h | exact eqBool_keep h | exact eqNil_keep h | exact aLen_keep h
theorem aPick_keep {c a b : Option AV} {e : Eff} (h : aPick c a b = some e) : e.upd = .keep := by
  unfold aPick at h
  (repeat' split at h) <;> first | (injection h with h; subst h; rfl) | cases h | exact toEff_keep h | exact strBin_keep h | exact eqBool_keep h | exact eqNil_keep h | exact aLen_keep h
theorem aBuild_keep {ti : Types} {s : AS} {y : Option TyI} {ps : List (Nat × Operand)} {e : Eff} (h : aBuild ti s y ps = some e) : e.upd = .keep := by
  unfold aBuild at h
  (repeat' split at h) <;> first | (injection h with h; subst h; rfl) | cases h | exact toEff_keep h | exact strBin_keep h | exact eqBool_keep h | exact eqNil_keep h | exact aLen_keep h
theorem aLoad_keep {mem : List (Nat × MB)} {y : Option TyI} {a : Option AV} {e : Eff} (h : aLoad mem y a = some e) : e.upd = .keep := by
  unfold aLoad at h
  (repeat' split at h) <;> first | (injection h with h; subst h; rfl) | cases h | exact toEff_keep h | exact strBin_keep h | exact eqBool_keep h | exact eqNil_keep h | exact aLen_keep h
theorem aNilCheck_keep {a : Option AV} {e : Eff} (h : aNilCheck a = some e) : e.upd = .keep := by
  unfold aNilCheck at h
  (repeat' split at h) <;> first | (injection h with h; subst h; rfl) | cases h | exact toEff_keep h | exact strBin_keep h | exact eqBool_keep h | exact eqNil_keep h | exact aLen_keep h
theorem aConvert_keep {y z : Option TyI} {a : Option AV} {e : Eff} (h : aConvert y z a = some e) : e.upd = .keep := by
  unfold aConvert at h
  (repeat' split at h) <;> first | (injection h with h; subst h; rfl) | cases h | exact toEff_keep h | exact strBin_keep h | exact eqBool_keep h | exact eqNil_keep h | exact aLen_keep h
theorem aMakeInterface_keep {t : TypeId} {y : Option TyI} {a : Option AV} {e : Eff} (h : aMakeInterface t y a = some e) : e.upd = .keep := by
  unfold aMakeInterface at h
  (repeat' split at h) <;> first | (injection h with h; subst h; rfl) | cases h | exact toEff_keep h | exact strBin_keep h | exact eqBool_keep h | exact eqNil_keep h | exact aLen_keep h
theorem aMakeFunc_keep {s : AS} {fn : Fn} {f c : List Operand} {e : Eff} (h : aMakeFunc s fn f c = some e) : e.upd = .keep := by
  unfold aMakeFunc at h
  (repeat' split at h) <;> first | (injection h with h; subst h; rfl) | cases h | exact toEff_keep h | exact strBin_keep h | exact eqBool_keep h | exact eqNil_keep h | exact aLen_keep h
theorem aFieldAddr_keep {ti : Types} {y : Option TyI} {a : Option AV} {f : Nat} {e : Eff} (h : aFieldAddr ti y a f = some e) : e.upd = .keep := by
  unfold aFieldAddr at h
  (repeat' split at h) <;> first | (injection h with h; subst h; rfl) | cases h | exact toEff_keep h | exact strBin_keep h | exact eqBool_keep h | exact eqNil_keep h | exact aLen_keep h
theorem aField_keep {ti : Types} {y : Option TyI} {a : Option AV} {f : Nat} {e : Eff} (h : aField ti y a f = some e) : e.upd = .keep := by
  unfold aField at h
  (repeat' split at h) <;> first | (injection h with h; subst h; rfl) | cases h | exact toEff_keep h | exact strBin_keep h | exact eqBool_keep h | exact eqNil_keep h | exact aLen_keep h
theorem aIndexAddr_keep {ti : Types} {y : Option TyI} {a i : Option AV} {e : Eff} (h : aIndexAddr ti y a i = some e) : e.upd = .keep := by
  unfold aIndexAddr at h
  (repeat' split at h) <;> first | (injection h with h; subst h; rfl) | cases h | exact toEff_keep h | exact strBin_keep h | exact eqBool_keep h | exact eqNil_keep h | exact aLen_keep h
theorem aIndex_keep {ti : Types} {y : Option TyI} {a i : Option AV} {e : Eff} (h : aIndex ti y a i = some e) : e.upd = .keep := by
  unfold aIndex at h
  (repeat' split at h) <;> first | (injection h with h; subst h; rfl) | cases h | exact toEff_keep h | exact strBin_keep h | exact eqBool_keep h | exact eqNil_keep h | exact aLen_keep h
theorem aAssert_keep {t : TypeId} {y : Option TyI} {a : Option AV} {e : Eff} (h : aAssert t y a = some e) : e.upd = .keep := by
  unfold aAssert at h
  (repeat' split at h) <;> first | (injection h with h; subst h; rfl) | cases h | exact toEff_keep h | exact strBin_keep h | exact eqBool_keep h | exact eqNil_keep h | exact aLen_keep h
theorem aExtract_keep {a : Option AV} {i : Nat} {e : Eff} (h : aExtract a i = some e) : e.upd = .keep := by
  unfold aExtract at h
  (repeat' split at h) <;> first | (injection h with h; subst h; rfl) | cases h | exact toEff_keep h | exact strBin_keep h | exact eqBool_keep h | exact eqNil_keep h | exact aLen_keep h
theorem aMin_keep {l : Option (List AV)} {e : Eff} (h : aMin l = some e) : e.upd = .keep := by
  unfold aMin at h
  (repeat' split at h) <;> first | (injection h with h; subst h; rfl) | cases h | exact toEff_keep h | exact strBin_keep h | exact eqBool_keep h | exact eqNil_keep h | exact aLen_keep h
theorem aMax_keep {l : Option (List AV)} {e : Eff} (h : aMax l = some e) : e.upd = .keep := by
  unfold aMax at h
  (repeat' split at h) <;> first | (injection h with h; subst h; rfl) | cases h | exact toEff_keep h | exact strBin_keep h | exact eqBool_keep h | exact eqNil_keep h | exact aLen_keep h
theorem aLenT_keep {ti : Types} {t : Option TypeId} {a : Option AV} {e : Eff} (h : aLenT ti t a = some e) : e.upd = .keep := by
  unfold aLenT at h
  (repeat' split at h) <;> first | (injection h with h; subst h; rfl) | cases h | exact toEff_keep h | exact strBin_keep h | exact eqBool_keep h | exact eqNil_keep h | exact aLen_keep h
theorem aop_keep {ti : Types} {s : AS} {op : Op} {e : Eff} (h : aop ti s op = some e) (hc : changes op = false) : e.upd = .keep := by
  cases op <;> simp only [aop] at h <;> simp [changes] at hc
  case move x => split at h <;> first | (injection h with h; subst h; rfl) | cases h
  case assign x => split at h <;> first | (injection h with h; subst h; rfl) | cases h
  case pick => exact aPick_keep h
  case build => exact aBuild_keep h
  case slice => exact aSlice_keep h
  case load => exact aLoad_keep h
  case nilCheck => exact aNilCheck_keep h
  case binOp => exact aBin_keep h
  case unOp => exact aUn_keep h
  case convert => exact aConvert_keep h
  case makeInterface => exact aMakeInterface_keep h
  case makeFunc => exact aMakeFunc_keep h
  case fieldAddr => exact aFieldAddr_keep h
  case field => exact aField_keep h
  case indexAddr => exact aIndexAddr_keep h
  case index => exact aIndex_keep h
  case typeAssert => split at h; exact aAssert_keep h; cases h
  case extract => exact aExtract_keep h
  case call c =>
    obtain ⟨cl, args, types⟩ := c
    cases cl <;> simp only [] at h <;> try (cases h; done)
    unfold aBuiltin at h
    split at h
    · exact aLenT_keep h
    · exact aMin_keep h
    · exact aMax_keep h
    · cases h
  all_goals cases h

theorem touch_wr {s : AS} {o : Oper} {all : List Oper} {rc : Rc} (h : RecG C s o (gd all o) rc) (b : Nat) (ht : touch s.next rc.up = some b) : rc.wr = some b := by
  have plain : ∀ rc, RecOK C s o rc → touch s.next rc.up = some b → rc.wr = some b := fun rc h ht => by
    cases h with
    | plain e hc he hn =>
      simp only at ht ⊢
      cases ho : o.op <;> rw [ho] at he <;> simp only [wrOf]
      case alloc t =>
        simp only [aop] at he
        unfold aAlloc at he
        split at he
        · injection he with he; subst he; exact ht
        · cases he
      case box t x =>
        simp only [aop] at he
        unfold aBox at he
        split at he
        · split at he
          · injection he with he; subst he; exact ht
          · cases he
        · cases he
      case makeSlice t x y =>
        simp only [aop] at he
        unfold aMakeSlice at he
        split at he
        · split at he
          · split at he
            · cases he
            · injection he with he; subst he; exact ht
          · cases he
        · cases he
      case store t x y =>
        simp only [aop] at he
        unfold aStore at he
        split at he
        · rename_i hx _
          split at he
          · split at he
            · injection he with he; subst he
              simp only [touch, Option.some.injEq] at ht
              subst ht
              simp [hx, blockOf]
            · cases he
          · cases he
        · cases he
      all_goals
        exfalso
        rw [aop_keep (ti := C.ti) (s := s) (op := o.op) (by rw [ho]; exact he) (by rw [ho]; rfl)] at ht
        cases ht
    | call => cases ht
    | sem => cases ht
  generalize gd all o = g at h
  cases h with
  | none h => exact plain _ h ht
  | yes hl h => exact plain _ h ht
  | no hl _ => cases ht
end
end Go.Ax
