/- The abstract executor, part 19: append to nothing; empty literals; private blocks that are frozen; slices without a block. -/
import Derived.Test.YtekmhhmemkjcbaaAxS
import Derived.Test.YtekmhhmemkjcbaaAxH
set_option linter.unusedSimpArgs false
set_option linter.unusedVariables false
set_option linter.deprecated false
namespace Go.Ax
open Go Go.RowKit

section
variable {C : Cx} {s : AS} {o : Oper}

theorem new_next {D : Base} {S0 : Nat → Prop} {w0 : World} {σ : Sig} {S : Nat → Prop} {mem : List (Nat × MB)} {w : World} {n : Nat} (hF : Fit D S0 w0 σ S mem (fun b => b < n) w) : σ n = none := by
  cases h : σ n with
  | none => rfl
  | some k => exact (Nat.lt_irrefl _ (hF.dom n k h).1).elim

/-- A slice that has no block yet. -/
theorem Fit.newnil {D : Base} {S0 : Nat → Prop} {w0 : World} {σ : Sig} {S : Nat → Prop} {mem : List (Nat × MB)} {w : World} {n b sz : Nat} (hF : Fit D S0 w0 σ S mem (fun b => b < n) w) (hb : n ≤ b) : Fit D S0 w0 σ S ((b, ⟨sz, []⟩) :: mem) (fun c => c < b + 1) w := by
  have hσ : σ b = none := by
    cases h : σ b with
    | none => rfl
    | some k => have := (hF.dom b k h).1; omega
  refine ⟨hF.below, fun c k h => ⟨by have := (hF.dom c k h).1; omega, (hF.dom c k h).2⟩, fun b1 b2 k m1 m2 h1 h2 h3 h4 => ?_, hF.sbd, hF.s0, hF.s1, hF.glob, fun b1 m1 h1 => ?_⟩
  · simp only [look] at h1 h2
    split at h1
    · rename_i he; subst he; rw [hσ] at h3; cases h3
    · split at h2
      · rename_i he; subst he; rw [hσ] at h4; cases h4
      · exact hF.inj b1 b2 k m1 m2 h1 h2 h3 h4
  · simp only [look] at h1
    split at h1
    · rename_i he
      injection h1 with h1; subst h1 he
      exact .inl ⟨rfl, hσ⟩
    · exact hF.mem b1 m1 h1

theorem Weak.newnil {s : AS} (b sz : Nat) (hb : s.next ≤ b) : Weak s ⟨s.env, (b, ⟨sz, []⟩) :: s.mem, b + 1⟩ := by
  intro D S0 w0 σ S w hF
  exact ⟨σ, S, hF.newnil hb, fun _ h => h⟩

theorem big_append_nil (hT : TypesOK C.P C.ti) {x y : Operand} {t tx e : TypeId} {q1 q2 : Nat} {q3 : List Z} {z : TyI} (ho : o.op = .call ⟨.builtin .append, #[x, y], #[t, tx]⟩) (ht : C.ti t = some ⟨q1, q2, q3, .slc e⟩) (hz : C.ti e = some z) (htx : isSlcT (C.ti tx) = true)
    {sz : Nat} {p : Prop} {rows : List (List AV)} (hx : ev s x = some (.v (.slice none 0 0))) (hy : srcA s.mem sz (ev s y) = some (p, rows))
    (hc : z.size = sz ∧ 0 < sz) (hp : p ∧ rows.length * z.bytes ≤ 140737488355328 ∧ rows.length ≤ 9223372036854775807) (hrows : ∀ b, RowsOK b sz rows) :
    OpG C s o ⟨s.env, (s.next, ⟨sz, rows⟩) :: s.mem, s.next + 1⟩ (.ps s.next sz 0 rows.length) := by
  intro D S0 w0 σ S a w K Q hG hF hE hK
  obtain ⟨c1, c3⟩ := hc
  obtain ⟨p1, p3, p4⟩ := hp
  obtain ⟨i, d, h1, h2, h3, h4, h5, h6⟩ := underlying_of hT ht
  have hd := slc_desc h5
  subst hd
  obtain ⟨i', d', g1, g2, g3, g4, g5, ⟨zv, hz1, hz2, hz3⟩, g7⟩ := underlying_of hT hz
  cases hyv : ev s y with
  | none => rw [hyv] at hy; simp [srcA] at hy
  | some av =>
  rw [hyv] at hy
  obtain ⟨news, hs, hn⟩ := src_spec (P := C.P) hT hF htx (size := sz) (b := 0) c3 (ev_rel hE hyv) hy p1 (hrows 0)
  have hisz : i'.size = sz := by rw [g3, c1]
  have hnl : news.length = rows.length * sz := hs.newsLen
  have hxe := ev_v hE hx
  have hid : ¬ (s.next < s.next) := Nat.lt_irrefl _
  by_cases hr0 : rows = []
  · subst hr0
    have hn0 : news = [] := by simpa using hnl
    subst hn0
    have hrun := run_append_stay (P := C.P) (ty := o.type) h2 g1 none 0 0 (a.eval y) (by rw [hisz]; exact hs) (Nat.le_refl _)
    unfold Oper.wp
    rw [exec_append ho (by rw [hxe]; exact hrun)]
    exact hK σ S _ _ (hF.newnil (Nat.le_refl _)) hE .ps0
  · have hlen : 0 < rows.length := by
      rcases Nat.eq_zero_or_pos rows.length with h | h
      · exact (hr0 (List.length_eq_zero_iff.1 h)).elim
      · exact h
    have hrun := run_append_grow_src (P := C.P) w t tx o.type e i' zv h2 g1 hz1 none 0 0 [] (by rw [hisz]; exact run_firstCells_none w.drew sz 0 0 0) (a.eval y) rows.length news (by rw [hisz]; exact hs) (by omega) (by omega) (growslice_fits (by omega) (by rw [g4, Nat.zero_add]; exact p3))
    simp only [Nat.zero_add, List.nil_append] at hrun
    unfold Oper.wp
    rw [exec_append ho (by rw [hxe]; exact hrun)]
    have hcap : rows.length ≤ grownCap w rows.length 0 e := by simp only [grownCap, Question.cut]; omega
    have hcs : (news.toArray ++ Builtin.zeroCells zv.cells (grownCap w rows.length 0 e - rows.length)).size = rows.length * sz + (grownCap w rows.length 0 e - rows.length) * sz := by
      rw [Array.size_append, size_zeroCells]
      have : zv.cells.size = sz := by rw [hz2]; simp [g7, c1]
      simp [hnl, this]
    have hb : Below w.heap.size w w.drew := (Below.refl _ w).drew
    have hFd : Fit D S0 w0 σ S s.mem (fun b => b < s.next) w.drew := by
      have hke := hF.keeps_below hb
      exact ⟨hF.below.then hb, hF.dom, hF.inj, hF.sbd, hF.s0, hF.s1, hF.glob, fun b m hm => by
        rcases hF.mem b m hm with hn | ⟨k, c, e, h1, h2, h3, h4, h5, h6, h7⟩
        · exact .inl hn
        · exact .inr ⟨k, c, e, h1, h2, h3, h4, h5, h6, fun i r j av hi hj => by
            obtain ⟨x, hx, hr⟩ := h7 i r j av hi hj
            exact ⟨x, hx, Rel.mono (fun _ _ h => h) (fun _ h => h) hke hr⟩⟩⟩
    have hEd : EnvOK σ S w.drew s.env a := EnvOK.mono (fun _ _ h => h) (fun _ h => h) (hF.keeps_below hb) hE
    have hFn := hFd.new (next := s.next) hid (news.toArray ++ Builtin.zeroCells zv.cells (grownCap w rows.length 0 e - rows.length)) e ⟨sz, rows⟩ (fun r hr => (hrows 0 r hr).1) (by simp only; rw [hcs]; omega) (fun i r j av hi hj => by
      obtain ⟨v, hv, hvr⟩ := hn i r j av hi hj
      refine ⟨v, ?_, hvr.mono (fun _ _ h => h) (fun _ h => h) (hF.keeps_below hb)⟩
      have := (List.getElem?_eq_some_iff.1 hv).1
      rw [Array.getElem?_append_left (by simpa using this)]
      simpa using hv)
    refine hK _ S _ _ (hFn.congr (fun _ => rfl) (fun b hb => by rcases hb with hb | hb <;> simp <;> omega)) (hEd.new hFd hid _ _) ?_
    refine .ps (k := w.heap.size) (off := 0) (by simp [upd]) hcap (.inl (by simp)) ⟨_, e, (0, 0), heap_alloc_new w.drew _, ?_⟩
    rw [hcs, Nat.zero_add, ← Nat.add_mul]
    exact Nat.mul_le_mul_right _ (by omega)

/-- An empty literal. -/
theorem big_lit0 (hT : TypesOK C.P C.ti) {t e : TypeId} {q1 q2 : Nat} {q3 : List Z} {z : TyI} (ho : o.op = .buildSlice t 0 #[]) (ht : C.ti t = some ⟨q1, q2, q3, .slc e⟩) (hz : C.ti e = some z) :
    OpG C s o ⟨s.env, (s.next, ⟨z.size, []⟩) :: s.mem, s.next + 1⟩ (.ps s.next z.size 0 0) := by
  intro D S0 w0 σ S a w K Q hG hF hE hK
  obtain ⟨i, d, h1, h2, h3, h4, h5, h6⟩ := underlying_of hT ht
  have hd := slc_desc h5
  subst hd
  obtain ⟨i', d', g1, g2, g3, g4, g5, ⟨zv, hz1, hz2, hz3⟩, g7⟩ := underlying_of hT hz
  have hrun : (execOp a.eval o).run C.P w = .ok (.value (.slice (some ⟨w.heap.size, 0, none⟩) 0 0)) (w.alloc (.cells #[] e)) := by
    simp [execOp, ho, Instr.buildSlice, run_underlying h2, run_sizeOf_of g1, Instr.fill, newRow]
    have e0 : (Array.range 0).map (fun (_ : Nat) => (default : Value)) = #[] := by simp [Array.range]
    rw [e0]
  unfold Oper.wp
  rw [hrun]
  have hid : ¬ (s.next < s.next) := Nat.lt_irrefl _
  have hFn := hF.new (next := s.next) hid #[] e ⟨z.size, []⟩ (fun r hr => by cases hr) (by simp) (fun i r j av hi => by simp at hi)
  exact hK _ S _ _ (hFn.congr (fun _ => rfl) (fun b hb => by rcases hb with hb | hb <;> simp <;> omega)) (hE.new hF hid _ _)
    (.ps (k := w.heap.size) (off := 0) (by simp [upd]) (Nat.le_refl _) (.inl (by simp)) ⟨_, e, (0, 0), heap_alloc_new w _, by simp⟩)

/-! ### private blocks are frozen -/
section
variable {D : Base} {S0 : Nat → Prop} {w0 : World} {σ : Sig} {S : Nat → Prop} {w : World} {mem : List (Nat × MB)} {U : Nat → Prop}

/-- What is read and written without block b, b being frozen. -/
theorem Fit.frz (hF : Fit D S0 w0 σ S mem U w) {b : Nat} {m : MB} (hm : look mem b = some m) : Fit D S0 w0 σ (With σ [(b, m)] S) (dropM b mem) U w := by
  have hin : ∀ k, With σ [(b, m)] S k → S k ∨ σ b = some k := fun k hk => by
    rcases hk with hk | ⟨b', m', h1, h2⟩
    · exact .inl hk
    · simp only [look] at h1
      split at h1
      · rename_i he; subst he; exact .inr h2
      · cases h1
  refine ⟨hF.below, hF.dom, fun b1 b2 k m1 m2 h1 h2 h3 h4 => hF.inj b1 b2 k m1 m2 (look_dropM _ _ _ h1).2 (look_dropM _ _ _ h2).2 h3 h4, fun k hk => ?_, fun k hk => .inl (hF.s0 k hk), fun k hk => ?_, fun g l hg => .inl (hF.glob g l hg), fun b1 m1 h1 => ?_⟩
  · rcases hin k hk with hk | hk
    · exact hF.sbd k hk
    · exact (hF.dom b k hk).2
  · rcases hin k hk with hk | hk
    · exact hF.s1 k hk
    · obtain ⟨k', c, e, g1, g2, _⟩ := (hF.mem b m hm).named hk
      have : k' = k := Option.some.inj (g1.symm.trans hk)
      subst this; exact .inr g2
  · obtain ⟨hne, hl⟩ := look_dropM _ _ _ h1
    rcases hF.mem b1 m1 hl with hn | ⟨k, c, e, h1, h2, h3, h4, h5, h6, h7⟩
    · exact .inl hn
    · refine .inr ⟨k, c, e, h1, h2, fun hk => ?_, h4, h5, h6, fun i r j av hi hj => ?_⟩
      · rcases hin k hk with hk | hk
        · exact h3 hk
        · exact hne (hF.inj b1 b k m1 m hl hm h1 hk)
      · obtain ⟨x, hx, hr⟩ := h7 i r j av hi hj
        exact ⟨x, hx, hr.more⟩

theorem frz_rel (hF : Fit D S0 w0 σ S mem U w) {b : Nat} {m : MB} (hm : look mem b = some m) {x : Value} {av c : AV} (hr : Rel σ S w x av) (h : Pub [(b, m)] av c) : Rel σ (With σ [(b, m)] S) w x c :=
  pub_rel (hF.sub (mem' := [(b, m)]) (fun b' m' h' => by
    simp only [look] at h'
    split at h'
    · rename_i he; injection h' with h'; subst h' he; exact hm
    · cases h')) hr h
end

theorem frz_ps {b sz row n : Nat} {m : MB} (hsz : m.sz = sz) (hn : row + n ≤ m.rows.length) : Pub [(b, m)] (.ps b sz row n) (.sl sz ((m.rows.drop row).take n)) := .one (.one (.ps (by simp [look]) hsz hn))
theorem frz_p {b sz row j : Nat} {m : MB} (hsz : m.sz = sz) (hn : row < m.rows.length) : Pub [(b, m)] (.p b sz row j) (.rp ((m.rows.getD row []).drop j)) := .one (.one (.p (by simp [look]) hsz hn))

/-- A call that is given a private block to read, which is not written again. -/
theorem callG_frz {g : FuncId} {as as' args' : List AV} {res : AV} (b : Nat) {m : MB} (hm : look s.mem b = some m) (has : PubL (Pub [(b, m)]) as as') (hle : LeL as' args') (h : CallOK C.P C.G g args' res) : CallG C s g as ⟨s.env, dropM b s.mem, s.next⟩ res := by
  intro D S0 w0 σ S a w vs hG hF hE hsz hr
  obtain ⟨hl, hp⟩ := has.spec
  have hF' := hF.frz hm
  refine (h.runs (With σ [(b, m)] S) w vs hF'.sbd (by rw [← hG]; exact hF'.gs) (by rw [hsz, hl, hle.length]) (fun i x av hx hav => ?_)).mono fun e w' hw => ?_
  · obtain ⟨c, hc, hle'⟩ := hle.get i av hav
    obtain ⟨a0, ha, hpub⟩ := hp i c hc
    exact h.cla av (List.mem_of_getElem? hav) _ _ _ _ (hle' _ _ _ _ (frz_rel hF hm (hr i x a0 hx ha) hpub))
  · obtain ⟨hb, x, rfl, hx⟩ := hw
    refine ⟨x, rfl, σ, _, hF'.grow hb, ?_, hx.mono (fun b k h => by cases h) (fun _ h => h) ⟨fun _ _ => rfl, fun b k c e f hs hc => ⟨c, e, f, hc, Nat.le_refl _⟩⟩⟩
    have hE' : EnvOK σ (With σ [(b, m)] S) w s.env a := fun t av ht => by
      obtain ⟨x, h1, h2⟩ := hE t av ht
      exact ⟨x, h1, h2.more⟩
    exact hE'.grow hF' hb

/-- A state in which block b is frozen. -/
def frzEnv (b : Nat) (m : MB) (env : List (Nat × AV)) : List (Nat × AV) → Prop
  | [] => True
  | (t, av) :: l => (∃ a c, look env t = some a ∧ Pub [(b, m)] a c ∧ Le c av) ∧ frzEnv b m env l
theorem frzEnv_look {b : Nat} {m : MB} {env : List (Nat × AV)} : ∀ (l : List (Nat × AV)), frzEnv b m env l → ∀ t av, look l t = some av → ∃ a c, look env t = some a ∧ Pub [(b, m)] a c ∧ Le c av
  | [], _, t, av, h => by simp [look] at h
  | (t', av') :: l, hl, t, av, h => by
    simp only [look] at h
    split at h
    · rename_i he; injection h with h; subst he h; exact hl.1
    · exact frzEnv_look l hl.2 t av h
/-- One block says less than another. -/
def MBle (b : Nat) (m : MB) (m0 m' : MB) : Prop := m'.sz = m0.sz ∧ m'.rows.length = m0.rows.length ∧ ∀ (i : Nat) (r' : List AV), m'.rows[i]? = some r' → ∃ r, m0.rows[i]? = some r ∧ r'.length = r.length ∧ ∀ (j : Nat) (av : AV), r'[j]? = some av → ∃ a c, r[j]? = some a ∧ Pub [(b, m)] a c ∧ Le c av
theorem MBle.refl (b : Nat) (m m0 : MB) : MBle b m m0 m0 := ⟨rfl, rfl, fun i r h => ⟨r, h, rfl, fun j av hj => ⟨av, av, hj, .same, .refl _⟩⟩⟩
def frzMem (b : Nat) (m : MB) (mem : List (Nat × MB)) : List (Nat × MB) → Prop
  | [] => True
  | (k, m') :: l => (k ≠ b ∧ ∃ m0, look mem k = some m0 ∧ MBle b m m0 m') ∧ frzMem b m mem l
theorem frzMem_look {b : Nat} {m : MB} {mem : List (Nat × MB)} : ∀ (l : List (Nat × MB)), frzMem b m mem l → ∀ k m', look l k = some m' → k ≠ b ∧ ∃ m0, look mem k = some m0 ∧ MBle b m m0 m'
  | [], _, k, m', h => by simp [look] at h
  | (k0, m1) :: l, hl, k, m', h => by
    simp only [look] at h
    split at h
    · rename_i he; injection h with h; subst he h; exact hl.1
    · exact frzMem_look l hl.2 k m' h

theorem Weak.frz {s s' : AS} (b : Nat) (m : MB) (hm : look s.mem b = some m) (he : frzEnv b m s.env s'.env) (hmem : frzMem b m s.mem s'.mem) (hn : s.next ≤ s'.next) : Weak s s' := by
  intro D S0 w0 σ S w hF
  have hF' := hF.frz hm
  refine ⟨σ, With σ [(b, m)] S, ⟨hF'.below, fun b1 k h1 => ⟨by have := (hF.dom b1 k h1).1; omega, (hF.dom b1 k h1).2⟩, fun b1 b2 k m1 m2 h1 h2 h3 h4 => ?_, hF'.sbd, hF'.s0, hF'.s1, hF'.glob, fun b1 m1 h1 => ?_⟩, fun a hE t av ht => ?_⟩
  · obtain ⟨_, n1, q1, _⟩ := frzMem_look _ hmem b1 m1 h1
    obtain ⟨_, n2, q2, _⟩ := frzMem_look _ hmem b2 m2 h2
    exact hF.inj b1 b2 k n1 n2 q1 q2 h3 h4
  · obtain ⟨hne, m0, q1, q2, q3, q4⟩ := frzMem_look _ hmem b1 m1 h1
    rcases hF.mem b1 m0 q1 with ⟨e1, e2⟩ | ⟨k, c, e, f1, f2, f3, f4, f5, f6, f7⟩
    · exact .inl ⟨List.length_eq_zero_iff.1 (by rw [q3, e1]; rfl), e2⟩
    · refine .inr ⟨k, c, e, f1, f2, fun hk => ?_, f4, fun r hr => ?_, by rw [q2, q3]; exact f6, fun i r j av hi hj => ?_⟩
      · rcases hk with hk | ⟨b', m', g1, g2⟩
        · exact f3 hk
        · simp only [look] at g1
          split at g1
          · rename_i he'; subst he'; exact hne (hF.inj b1 _ k m0 m q1 hm f1 g2)
          · cases g1
      · obtain ⟨i, hi⟩ := List.getElem?_of_mem hr
        obtain ⟨r0, h1, h2, _⟩ := q4 i r hi
        rw [h2, q2]; exact f5 r0 (List.mem_of_getElem? h1)
      · obtain ⟨r0, h1, h2, h3⟩ := q4 i r hi
        obtain ⟨a0, c0, g1, g2, g3⟩ := h3 j av hj
        obtain ⟨x, hx, hxr⟩ := f7 i r0 j a0 h1 g1
        exact ⟨x, by rw [q2]; exact hx, g3 _ _ _ _ (frz_rel hF hm hxr g2)⟩
  · obtain ⟨a0, c0, g1, g2, g3⟩ := frzEnv_look _ he t av ht
    obtain ⟨x, hx, hxr⟩ := hE t a0 g1
    exact ⟨x, hx, g3 _ _ _ _ (frz_rel hF hm hxr g2)⟩
end

section
variable {C : Cx} {n : Nat} {r : List It} {s : AS} {Q : Lab → AS → Prop} {d : Option Tmp} {t tx u e : TypeId} {x y : Operand} {pos : String} {af : Array Edge} {g : Option (Nat × Bool)}

theorem after_append_nil (hT : TypesOK C.P C.ti) {q1 q2 : Nat} {q3 : List Z} {z : TyI} (ht : C.ti t = some ⟨q1, q2, q3, .slc e⟩) (hz : C.ti e = some z) (htx : isSlcT (C.ti tx) = true)
    {sz : Nat} {p : Prop} {rows : List (List AV)} (hx : ev s x = some (.v (.slice none 0 0))) (hc : z.size = sz ∧ 0 < sz) (hy : srcA s.mem sz (ev s y) = some (p, rows))
    (hp : p ∧ rows.length * z.bytes ≤ 140737488355328 ∧ rows.length ≤ 9223372036854775807) (hrows : ∀ b, RowsOK b sz rows)
    (k : ex C n r ((⟨s.env, (s.next, ⟨sz, rows⟩) :: s.mem, s.next + 1⟩ : AS).put d (.ps s.next sz 0 rows.length)) Q) : after C n r s Q ⟨d, .call ⟨.builtin .append, #[x, y], #[t, tx]⟩, u, pos, af, g⟩ none :=
  after_big (big_append_nil hT rfl ht hz htx hx hy hc hp hrows) k
theorem after_append_own (hT : TypesOK C.P C.ti) {q1 q2 : Nat} {q3 : List Z} {z : TyI} (ht : C.ti t = some ⟨q1, q2, q3, .slc e⟩) (hz : C.ti e = some z) (htx : isSlcT (C.ti tx) = true)
    {b sz k : Nat} {m : MB} {p : Prop} {rows : List (List AV)} (hx : ev s x = some (.ps b sz 0 k)) (hm : look s.mem b = some m) (hc : z.size = sz ∧ m.sz = sz ∧ 0 < sz ∧ b < s.next) (hy : srcA s.mem sz (ev s y) = some (p, rows))
    (hp : p ∧ k ≤ m.rows.length ∧ (k + rows.length) * z.bytes ≤ 140737488355328 ∧ k + rows.length ≤ 9223372036854775807)
    (hrows : RowsOK b sz rows) (he : noEnv b s.env) (hmem : noMem b s.mem)
    (kk : ex C n r ((⟨killT b [] s.env, (b, ⟨sz, m.rows.take k ++ rows⟩) :: s.mem, s.next⟩ : AS).put d (.ps b sz 0 (k + rows.length))) Q) : after C n r s Q ⟨d, .call ⟨.builtin .append, #[x, y], #[t, tx]⟩, u, pos, af, g⟩ none :=
  after_big (big_append_own hT rfl ht hz htx hx hm hy hc hp hrows he hmem) kk
theorem after_lit0 (hT : TypesOK C.P C.ti) {q1 q2 : Nat} {q3 : List Z} {z : TyI} (ht : C.ti t = some ⟨q1, q2, q3, .slc e⟩) (hz : C.ti e = some z)
    (k : ex C n r ((⟨s.env, (s.next, ⟨z.size, []⟩) :: s.mem, s.next + 1⟩ : AS).put d (.ps s.next z.size 0 0)) Q) : after C n r s Q ⟨d, .buildSlice t 0 #[], u, pos, af, g⟩ none :=
  after_big (big_lit0 hT rfl ht hz) k
theorem callF_frz {f : FuncId} {as as' args' : List AV} {res : AV} (b : Nat) {m : MB} (hm : look s.mem b = some m) (has : PubL (Pub [(b, m)]) as as') (hle : LeL as' args') (h : CallOK C.P C.G f args' res)
    (k : ex C n r ((⟨s.env, dropM b s.mem, s.next⟩ : AS).put d res) Q) : callF C n r s Q f as d := callF_big h.enters (callG_frz b hm has hle h) k

/-- An operation in a state that says less. -/
theorem after_weak (hT : TypesOK C.P C.ti) {o : Oper} {s1 : AS} (hw : Weak s s1) (hc : isCall o.op = false) {e : Eff} (he : aop C.ti s1 o.op = some e) (hn : e.need) (k : ex C n r ((s1.upd e.upd).put o.dst e.val) Q) : after C n r s Q o none := by
  refine after_big (s' := s1.upd e.upd) (av := e.val) ?_ k
  intro D S0 w0 σ S a w K R hG hF hE hK
  obtain ⟨σ', S', h1, h2⟩ := hw _ _ _ _ _ _ hF
  refine recOK_sound (rc := ⟨e.val, e.upd, rdOf s1 o.op, wrOf s1 o.op⟩) (U := fun b => b < s1.next) hT hG (Nat.lt_irrefl _) h1 (h2 a hE) (.plain e hc he hn) (fun x w' σ2 S2 g1 g2 g3 => hK σ2 S2 x w' (g1.congr (fun _ => rfl) (fun b hb => ?_)) (by rw [upd_env]; exact g2) g3)
  cases hu : e.upd with
  | keep => rw [hu] at hb; exact hb
  | set c m => rw [hu] at hb; exact hb
  | new m => rw [hu] at hb; rcases hb with hb | hb <;> simp [AS.upd] <;> omega

/-! ### a block is frozen: the state that is left -/
def thaw (b : Nat) (m : MB) : AV → AV
  | .p c sz row j => bif c == b then .rp ((m.rows.getD row []).drop j) else .p c sz row j
  | .ps c sz row k => bif c == b then .sl sz ((m.rows.drop row).take k) else .ps c sz row k
  | a => a
def thawOK (b : Nat) (m : MB) : AV → Prop
  | .p c sz row _ => c = b → m.sz = sz ∧ row < m.rows.length
  | .ps c sz row k => c = b → m.sz = sz ∧ row + k ≤ m.rows.length
  | _ => True
theorem thaw_pub {b : Nat} {m : MB} {a : AV} (h : thawOK b m a) : Pub [(b, m)] a (thaw b m a) := by
  cases a <;> try exact .same
  case p c sz row j =>
    by_cases hc : c = b
    · subst hc
      obtain ⟨h1, h2⟩ := h rfl
      simp only [thaw, beq_self_eq_true, cond_true]
      exact frz_p h1 h2
    · simp only [thaw, beq_eq_false_iff_ne.2 hc, cond_false]; exact .same
  case ps c sz row k =>
    by_cases hc : c = b
    · subst hc
      obtain ⟨h1, h2⟩ := h rfl
      simp only [thaw, beq_self_eq_true, cond_true]
      exact frz_ps h1 h2
    · simp only [thaw, beq_eq_false_iff_ne.2 hc, cond_false]; exact .same
def thawE (b : Nat) (m : MB) : List (Nat × AV) → List (Nat × AV)
  | [] => []
  | (t, a) :: l => (t, thaw b m a) :: thawE b m l
def thawEOK (b : Nat) (m : MB) : List (Nat × AV) → Prop
  | [] => True
  | (_, a) :: l => thawOK b m a ∧ thawEOK b m l
def thawS (b : Nat) (m : MB) (s : AS) : AS := ⟨thawE b m s.env, dropM b s.mem, s.next⟩
theorem thawE_look {b : Nat} {m : MB} : ∀ (l : List (Nat × AV)), thawEOK b m l → ∀ t av, look (thawE b m l) t = some av → ∃ a, look l t = some a ∧ Pub [(b, m)] a av
  | [], _, t, av, h => by simp [thawE, look] at h
  | (t', a') :: l, hl, t, av, h => by
    simp only [thawE, look] at h
    split at h
    · rename_i he
      injection h with h; subst h he
      exact ⟨a', by simp [look], thaw_pub hl.1⟩
    · rename_i he
      obtain ⟨a, h1, h2⟩ := thawE_look l hl.2 t av h
      exact ⟨a, by simp only [look]; rw [if_neg he]; exact h1, h2⟩
theorem Weak.thaw (b : Nat) {m : MB} (hm : look s.mem b = some m) (h : thawEOK b m s.env) : Weak s (thawS b m s) := by
  intro D S0 w0 σ S w hF
  refine ⟨σ, With σ [(b, m)] S, hF.frz hm, fun a hE t av ht => ?_⟩
  obtain ⟨a0, h1, h2⟩ := thawE_look s.env h t av ht
  obtain ⟨x, hx, hr⟩ := hE t a0 h1
  exact ⟨x, hx, frz_rel hF hm hr h2⟩
theorem after_thaw (hT : TypesOK C.P C.ti) {o : Oper} (b : Nat) {m : MB} (hm : look s.mem b = some m) (h : thawEOK b m s.env) (hc : isCall o.op = false) {e : Eff} (he : aop C.ti (thawS b m s) o.op = some e) (hn : e.need) (k : ex C n r (((thawS b m s).upd e.upd).put o.dst e.val) Q) : after C n r s Q o none :=
  after_weak hT (Weak.thaw b hm h) hc he hn k
end
end Go.Ax
