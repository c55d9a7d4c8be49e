/- The abstract executor, part 20: the arguments of a statement as abstract values. -/
import Derived.Test.YtekmhhmemkjcbaaAxM
import Derived.OpenShut
import Derived.Carry
import Derived.WalkKit
import Derived.ProofKit
set_option linter.unusedSimpArgs false
set_option linter.unusedVariables false
set_option linter.deprecated false
namespace Go.Ax
open Go Go.RowKit

inductive KD
  | int (k : IntKind)
  | bool
  | str
  | sl (ks : List KD)

inductive FitC : KD → AV → Prop
  | int {k : IntKind} {n : Int} (h : (Lit.int k n).wf = true) : FitC (.int k) (.v (.int k n))
  | bool {b : Bool} : FitC .bool (.v (.bool b))
  | str {s : ByteArray} (h : s.size ≤ maxLen) : FitC .str (.v (.string s))
  | sl {ks : List KD} {rows : List (List AV)} (hm : rows.length ≤ maxLen) (hl : ∀ r ∈ rows, r.length = ks.length) (h : ∀ r ∈ rows, ∀ (i : Nat) (k : KD) (a : AV), ks[i]? = some k → r[i]? = some a → FitC k a) : FitC (.sl ks) (.sl ks.length rows)

def FitL (ks : List KD) (l : List AV) : Prop := l.length = ks.length ∧ ∀ (i : Nat) (k : KD) (a : AV), ks[i]? = some k → l[i]? = some a → FitC k a

theorem FitL.cons {k : KD} {ks : List KD} {l : List AV} (h : FitL (k :: ks) l) : ∃ a l', l = a :: l' ∧ FitC k a ∧ FitL ks l' := by
  obtain ⟨h1, h2⟩ := h
  cases l with
  | nil => simp at h1
  | cons a l' => exact ⟨a, l', rfl, h2 0 k a rfl rfl, by simpa using h1, fun i k b hk hb => h2 (i + 1) k b (by simpa using hk) (by simpa using hb)⟩
theorem FitL.nil {l : List AV} (h : FitL [] l) : l = [] := List.length_eq_zero_iff.1 h.1
theorem FitL.int {k : IntKind} {ks : List KD} {l : List AV} (h : FitL (.int k :: ks) l) : ∃ n l', l = .v (.int k n) :: l' ∧ (Lit.int k n).wf = true ∧ FitL ks l' := by
  obtain ⟨a, l', rfl, hc, hl⟩ := h.cons
  cases hc with
  | int hw => exact ⟨_, l', rfl, hw, hl⟩
theorem FitL.bool {ks : List KD} {l : List AV} (h : FitL (.bool :: ks) l) : ∃ b l', l = .v (.bool b) :: l' ∧ FitL ks l' := by
  obtain ⟨a, l', rfl, hc, hl⟩ := h.cons
  cases hc
  exact ⟨_, l', rfl, hl⟩
theorem FitL.str {ks : List KD} {l : List AV} (h : FitL (.str :: ks) l) : ∃ s l', l = .v (.string s) :: l' ∧ s.size ≤ maxLen ∧ FitL ks l' := by
  obtain ⟨a, l', rfl, hc, hl⟩ := h.cons
  cases hc with
  | str hw => exact ⟨_, l', rfl, hw, hl⟩
theorem FitL.sl {es ks : List KD} {l : List AV} (h : FitL (.sl es :: ks) l) : ∃ rows l', l = .sl es.length rows :: l' ∧ rows.length ≤ maxLen ∧ (∀ r ∈ rows, FitL es r) ∧ FitL ks l' := by
  obtain ⟨a, l', rfl, hc, hl⟩ := h.cons
  cases hc with
  | sl hm h1 h2 => exact ⟨_, l', rfl, hm, fun r hr => ⟨h1 r hr, h2 r hr⟩, hl⟩
theorem FitL.i64 {ks : List KD} {l : List AV} (h : FitL (.int .i64 :: ks) l) : ∃ n l', l = .v (.int .i64 n) :: l' ∧ (-9223372036854775808 ≤ n ∧ n ≤ 9223372036854775807) ∧ FitL ks l' := by
  obtain ⟨n, l', h1, h2, h3⟩ := h.int
  exact ⟨n, l', h1, by simpa [Lit.wf, IntKind.min, IntKind.max, IntKind.signed, IntKind.bits] using h2, h3⟩

theorem fitC_cl {k : KD} {a : AV} (h : FitC k a) : Cl a := by
  induction h with
  | int _ => exact .v _
  | bool => exact .v _
  | str _ => exact .v _
  | sl hm hl h ih =>
    refine .sl fun r hr a ha => ?_
    obtain ⟨i, hi⟩ := List.getElem?_of_mem ha
    have hlt := (List.getElem?_eq_some_iff.1 hi).1
    rw [hl r hr] at hlt
    exact ih r hr i _ a (List.getElem?_eq_getElem hlt) hi
theorem FitL.cl {ks : List KD} {l : List AV} (h : FitL ks l) : ∀ a ∈ l, Cl a := fun a ha => by
  obtain ⟨i, hi⟩ := List.getElem?_of_mem ha
  have hlt := (List.getElem?_eq_some_iff.1 hi).1
  rw [h.1] at hlt
  exact fitC_cl (h.2 i _ a (List.getElem?_eq_getElem hlt) hi)

theorem FitL.append {ks ks' : List KD} {l l' : List AV} (h : FitL ks l) (h' : FitL ks' l') : FitL (ks ++ ks') (l ++ l') := by
  refine ⟨by simp [h.1, h'.1], fun i k a hk ha => ?_⟩
  by_cases hi : i < ks.length
  · rw [List.getElem?_append_left hi] at hk
    rw [List.getElem?_append_left (by rw [h.1]; exact hi)] at ha
    exact h.2 i k a hk ha
  · rw [List.getElem?_append_right (by omega)] at hk
    rw [List.getElem?_append_right (by rw [h.1]; omega), h.1] at ha
    exact h'.2 _ k a hk ha

def fieldsK (f : TypeId → Option (List KD)) (size : TypeId → Nat) : Nat → List Field → Option (List KD)
  | _, [] => some []
  | off, fd :: fs => match f fd.type, fieldsK f size (off + size fd.type) fs with
    | some a, some b => if fd.offset = off ∧ a.length = size fd.type then some (a ++ b) else none
    | _, _ => none
def repK (ks : List KD) : Nat → List KD
  | 0 => []
  | n + 1 => ks ++ repK ks n

def kindsOf (P : Program) : Nat → TypeId → Option (List KD)
  | 0, _ => none
  | d + 1, t => match P.underlying t with
    | some (.int k) => if P.cellsOf t = 1 then some [.int k] else none
    | some .bool => if P.cellsOf t = 1 then some [.bool] else none
    | some .string => if P.cellsOf t = 1 then some [.str] else none
    | some (.slice e) => if P.cellsOf t = 1 then (match kindsOf P d e with | some ks => if ks.length = P.cellsOf e ∧ 0 < ks.length then some [.sl ks] else none | none => none) else none
    | some (.struct fs) => (match fieldsK (kindsOf P d) P.cellsOf 0 fs.toList with | some ks => if ks.length = P.cellsOf t then some ks else none | none => none)
    | some (.array n e) => (match kindsOf P d e with | some ks => if ks.length = P.cellsOf e ∧ (repK ks n).length = P.cellsOf t then some (repK ks n) else none | none => none)
    | _ => none

def CallsTrue (P : Program) (f : FuncId) (args : Array Value) (w : World) : Prop := Calls P f args w fun e W' => Below w.heap.size w W' ∧ e = .returned (.bool true)

section
variable {H : Type} {enc : TypeId × Value → H} {P : Program} {w : World} {base : Nat} {spare : Nat → Bool} {held : Bool}

def RelV (w : World) (cs : List Value) (l : List AV) : Prop := cs.length = l.length ∧ ∀ (i : Nat) (c : Value) (a : AV), cs[i]? = some c → l[i]? = some a → Rel nσ (fun k => k < w.heap.size) w c a
theorem RelV.append {cs cs' : List Value} {l l' : List AV} (h : RelV w cs l) (h' : RelV w cs' l') : RelV w (cs ++ cs') (l ++ l') := by
  refine ⟨by simp [h.1, h'.1], fun i k a hk ha => ?_⟩
  by_cases hi : i < cs.length
  · rw [List.getElem?_append_left hi] at hk
    rw [List.getElem?_append_left (by rw [← h.1]; exact hi)] at ha
    exact h.2 i k a hk ha
  · rw [List.getElem?_append_right (by omega)] at hk
    rw [List.getElem?_append_right (by rw [← h.1]; omega), ← h.1] at ha
    exact h'.2 _ k a hk ha

theorem add_add (a : Addr) (n m : Nat) : (a.add n).add m = a.add (n + m) := by
  unfold Addr.add
  by_cases hn : n = 0
  · subst hn; simp
  · by_cases hm : m = 0
    · subst hm; simp [hn]
    · have : ¬ (n + m = 0) := by omega
      simp [hn, hm, Nat.add_assoc]
theorem add_none {b o n : Nat} : (⟨b, o, none⟩ : Addr).add n = ⟨b, o + n, none⟩ := by
  unfold Addr.add
  by_cases hn : n = 0
  · subst hn; simp
  · simp [hn]

theorem pick_rows {α : Type} (n : Nat) (p : Nat → α → Prop) (h : ∀ i, i < n → ∃ r, p i r) : ∃ rows : List α, rows.length = n ∧ ∀ i r, rows[i]? = some r → p i r := by
  induction n with
  | zero => exact ⟨[], rfl, fun i r hr => by simp at hr⟩
  | succ n ih =>
    obtain ⟨rows, h1, h2⟩ := ih (fun i hi => h i (by omega))
    obtain ⟨r, hr⟩ := h n (by omega)
    refine ⟨rows ++ [r], by simp [h1], fun i x hx => ?_⟩
    by_cases hi : i < rows.length
    · rw [List.getElem?_append_left hi] at hx; exact h2 i x hx
    · rw [List.getElem?_append_right (by omega)] at hx
      have : i - rows.length = 0 := by
        rcases Nat.eq_zero_or_pos (i - rows.length) with h0 | h0
        · exact h0
        · rw [List.getElem?_eq_none (by simp; omega)] at hx; cases hx
      rw [this] at hx
      simp at hx
      subst hx
      rw [show i = n by omega]
      exact hr

theorem open_trod : ∀ (d : Nat) (t : TypeId) (ks : List KD), kindsOf P d t = some ks → ∀ (fuel : Nat) (cs : List Value) (x : DataW H × List MemPlace), DataW.trod enc P w base spare held fuel t cs = some x →
    cs.length = ks.length ∧ ks.length = P.cellsOf t ∧ ∃ l, FitL ks l ∧ RelV w cs l
  | 0, _, _, h, _, _, _, _ => by cases h
  | d + 1, t, ks, h, fuel, cs, x, hx => by
    simp only [kindsOf] at h
    split at h
    · rename_i k hu
      split at h
      · rename_i hc
        injection h with h; subst h
        obtain ⟨n, rfl, _, hw⟩ := DataW.trod_int hu hx
        refine ⟨rfl, hc.symm, [.v (.int k n)], ⟨rfl, fun i k' a hk ha => ?_⟩, rfl, fun i c a hc ha => ?_⟩
        · cases i <;> simp at hk ha
          subst hk ha; exact .int hw
        · cases i <;> simp at hc ha
          subst hc ha; exact .v _
      · cases h
    · rename_i hu
      split at h
      · rename_i hc
        injection h with h; subst h
        obtain ⟨b, rfl, _⟩ := DataW.trod_bool hu hx
        refine ⟨rfl, hc.symm, [.v (.bool b)], ⟨rfl, fun i k' a hk ha => ?_⟩, rfl, fun i c a hc ha => ?_⟩
        · cases i <;> simp at hk ha
          subst hk ha; exact .bool
        · cases i <;> simp at hc ha
          subst hc ha; exact .v _
      · cases h
    · rename_i hu
      split at h
      · rename_i hc
        injection h with h; subst h
        obtain ⟨s, rfl, _, hs⟩ := DataW.trod_string hu hx
        refine ⟨rfl, hc.symm, [.v (.string s)], ⟨rfl, fun i k' a hk ha => ?_⟩, rfl, fun i c a hc ha => ?_⟩
        · cases i <;> simp at hk ha
          subst hk ha; exact .str hs
        · cases i <;> simp at hc ha
          subst hc ha; exact .v _
      · cases h
    · rename_i e hu
      split at h
      · rename_i hc
        split at h
        · rename_i es hes
          split at h
          · rename_i hlen
            injection h with h; subst h
            have fin : ∀ (v : Value) (rows : List (List AV)), cs = [v] → rows.length ≤ maxLen → (∀ r ∈ rows, FitL es r) → Rel nσ (fun k => k < w.heap.size) w v (.sl es.length rows) → cs.length = [KD.sl es].length ∧ [KD.sl es].length = P.cellsOf t ∧ ∃ l, FitL [KD.sl es] l ∧ RelV w cs l := fun v rows hcs hm hf hr => by
              subst hcs
              refine ⟨rfl, hc.symm, [.sl es.length rows], ⟨rfl, fun i k' a hk ha => ?_⟩, rfl, fun i c a hc ha => ?_⟩
              · cases i <;> simp at hk ha
                subst hk ha; exact .sl hm (fun r hr => (hf r hr).1) (fun r hr => (hf r hr).2)
              · cases i <;> simp at hc ha
                subst hc ha; exact hr
            rcases DataW.trod_slice hu hx with ⟨rfl, _⟩ | ⟨a, len, cap, elems, rest, m, _, rfl, _, _, hl, hm, hel, hget, _, _⟩
            · exact fin _ [] rfl (Nat.zero_le _) (fun r hr => by cases hr) .nil
            · by_cases h0 : len = 0
              · subst h0
                exact fin _ [] rfl (Nat.zero_le _) (fun r hr => by cases hr) .e
              · have each : ∀ i, i < len → ∃ r : List Value × List AV, (∀ j, j < P.cellsOf e → w.cell? (a.add (i * P.cellsOf e + j)) = r.1[j]?) ∧ r.1.length = P.cellsOf e ∧ FitL es r.2 ∧ RelV w r.1 r.2 := fun i hi => by
                  have hg := hget i hi
                  rw [List.getElem?_eq_getElem (by omega)] at hg
                  obtain ⟨ci, hci, htr⟩ := Option.bind_eq_some_iff.1 hg
                  obtain ⟨g1, g2, l, g3, g4⟩ := open_trod d e es hes m ci _ htr
                  unfold World.cells? at hci
                  split at hci
                  · refine ⟨(ci, l), fun j hj => ?_, by rw [g1, g2], g3, g4⟩
                    have := mapM_some_get hci j j (by simp [hj])
                    rw [← add_add]; exact this
                  · cases hci
                obtain ⟨rs, hrl, hrs⟩ := pick_rows len _ each
                have hlen' : es.length = P.cellsOf e := hlen.1
                have hblock : a.spot = none ∧ a.block < w.heap.size := by
                  obtain ⟨r, hr⟩ : ∃ r, rs[0]? = some r := ⟨rs[0]'(by omega), by rw [List.getElem?_eq_getElem (by omega)]⟩
                  obtain ⟨q1, q2, _⟩ := hrs 0 r hr
                  have q := q1 0 (by omega)
                  rw [List.getElem?_eq_getElem (by omega), Nat.zero_mul, Nat.add_zero, show a.add 0 = a from rfl] at q
                  unfold World.cell? at q
                  split at q
                  · rename_i c e' f hh
                    refine ⟨?_, (Array.getElem?_eq_some_iff.1 hh).1⟩
                    split at q
                    · cases q
                    · rename_i hs; simpa using hs
                  · cases q
                obtain ⟨blk, off, sp⟩ := a
                obtain ⟨hsp, hb⟩ := hblock
                simp only at hsp hb
                subst hsp
                have hrows : (rs.map (·.2)).length = len := by simp [hrl]
                refine fin _ (rs.map (·.2)) rfl (by omega) (fun r hr => ?_) ?_
                · obtain ⟨p, hp, rfl⟩ := List.mem_map.1 hr
                  obtain ⟨i, hi⟩ := List.getElem?_of_mem hp
                  exact (hrs i p hi).2.2.1
                · have key := Rel.sl (σ := nσ) (S := fun k => k < w.heap.size) (w := w) (k := blk) (off := off) (cap := cap) (sz := es.length) (rows := rs.map (·.2)) (fun i j => ((rs[i]?.getD ([], [])).1[j]?).getD undef) hb (by omega)
                    (fun r hr => by
                      obtain ⟨p, hp, rfl⟩ := List.mem_map.1 hr
                      obtain ⟨i, hi⟩ := List.getElem?_of_mem hp
                      exact (hrs i p hi).2.2.1.1)
                    (fun i r j av h1 h2 => by
                      rw [List.getElem?_map] at h1
                      obtain ⟨p, hp, rfl⟩ := Option.map_eq_some_iff.1 h1
                      obtain ⟨q1, q2, q3, q4⟩ := hrs i p hp
                      have hj : j < P.cellsOf e := by
                        have := (List.getElem?_eq_some_iff.1 h2).1
                        rw [q3.1] at this; omega
                      have q := q1 j hj
                      rw [show (⟨blk, off, none⟩ : Addr).add (i * P.cellsOf e + j) = ⟨blk, off + (i * P.cellsOf e + j), none⟩ from add_none] at q
                      rw [hp, hlen', Nat.add_assoc, q]
                      simp only [Option.getD_some]
                      rw [List.getElem?_eq_getElem (by omega)]
                      rfl)
                    (fun i r j av h1 h2 => by
                      rw [List.getElem?_map] at h1
                      obtain ⟨p, hp, rfl⟩ := Option.map_eq_some_iff.1 h1
                      obtain ⟨q1, q2, q3, q4⟩ := hrs i p hp
                      have hj : j < p.1.length := by
                        have := (List.getElem?_eq_some_iff.1 h2).1
                        rw [q4.1]; exact this
                      rw [hp]
                      simp only [Option.getD_some]
                      exact q4.2 j _ av (by rw [List.getElem?_eq_getElem hj]; rfl) h2)
                  rw [hrows] at key
                  exact key
          · cases h
        · cases h
      · cases h
    · rename_i fs hu
      split at h
      · rename_i ks' hk
        split at h
        · rename_i hlen
          injection h with h; subst h
          obtain ⟨xs, m, _, rfl, hcl, hxl, hf⟩ := DataW.trod_struct hu hx
          have key : ∀ (l : List Field) (off : Nat) (ks : List KD), fieldsK (kindsOf P d) P.cellsOf off l = some ks → off + ks.length = cs.length → (∀ fd ∈ l, ∃ y, DataW.trod enc P w base spare held m fd.type ((cs.drop fd.offset).take (P.cellsOf fd.type)) = some y) →
              ∃ v, FitL ks v ∧ RelV w (cs.drop off) v := by
            intro l
            induction l with
            | nil =>
              intro off ks hk hoff _
              simp only [fieldsK, Option.some.injEq] at hk
              subst hk
              refine ⟨[], ⟨rfl, fun i k a hk => by simp at hk⟩, by simp; simp at hoff; omega, fun i c a _ ha => by simp at ha⟩
            | cons fd l ih =>
              intro off ks hk hoff hall
              simp only [fieldsK] at hk
              split at hk
              · rename_i a b ha hb
                split at hk
                · rename_i hcond
                  injection hk with hk; subst hk
                  obtain ⟨y, hy⟩ := hall fd (List.mem_cons_self ..)
                  obtain ⟨g1, g2, v1, g3, g4⟩ := open_trod d fd.type a ha m _ y hy
                  simp only [List.length_append] at hoff
                  obtain ⟨v2, g5, g6⟩ := ih (off + P.cellsOf fd.type) b hb (by omega) (fun f hf => hall f (List.mem_cons_of_mem _ hf))
                  refine ⟨v1 ++ v2, g3.append g5, ?_⟩
                  have e : cs.drop off = (cs.drop fd.offset).take (P.cellsOf fd.type) ++ cs.drop (off + P.cellsOf fd.type) := by
                    rw [hcond.1, ← List.drop_drop, List.take_append_drop]
                  rw [e]
                  exact g4.append g6
                · cases hk
              · cases hk
          obtain ⟨v, g1, g2⟩ := key fs.toList 0 ks' hk (by omega) (fun fd hfd => by
            obtain ⟨i, hi⟩ := List.getElem?_of_mem hfd
            have hi' : fs[i]? = some fd := by simpa using hi
            have hlt : i < xs.length := by rw [hxl]; exact (Array.getElem?_eq_some_iff.1 hi').1
            exact ⟨xs[i], by rw [hf i fd hi', List.getElem?_eq_getElem hlt]⟩)
          exact ⟨by omega, hlen, v, g1, by simpa using g2⟩
        · cases h
      · cases h
    · rename_i n e hu
      split at h
      · rename_i es hes
        split at h
        · rename_i hlen
          injection h with h; subst h
          obtain ⟨xs, m, _, rfl, hcl, hxl, hf⟩ := DataW.trod_array hu hx
          have key : ∀ (q off : Nat), off + q = n → off * P.cellsOf e + (repK es q).length = cs.length → ∃ v, FitL (repK es q) v ∧ RelV w (cs.drop (off * P.cellsOf e)) v := by
            intro q
            induction q with
            | zero =>
              intro off _ hoff
              refine ⟨[], ⟨rfl, fun i k a hk => by simp [repK] at hk⟩, by simp [repK] at hoff ⊢; omega, fun i c a _ ha => by simp at ha⟩
            | succ q ih =>
              intro off ho hoff
              have hi : off < n := by omega
              have hg := hf off hi
              rw [List.getElem?_eq_getElem (by omega)] at hg
              obtain ⟨g1, g2, v1, g3, g4⟩ := open_trod d e es hes m _ _ hg
              simp only [repK, List.length_append] at hoff
              obtain ⟨v2, g5, g6⟩ := ih (off + 1) (by omega) (by rw [Nat.add_mul, Nat.one_mul]; omega)
              refine ⟨v1 ++ v2, g3.append g5, ?_⟩
              have e : cs.drop (off * P.cellsOf e) = (cs.drop (off * P.cellsOf e)).take (P.cellsOf e) ++ cs.drop ((off + 1) * P.cellsOf e) := by
                rw [Nat.add_mul, Nat.one_mul, ← List.drop_drop, List.take_append_drop]
              rw [e]
              exact g4.append g6
          obtain ⟨v, g1, g2⟩ := key n 0 (by omega) (by omega)
          exact ⟨by omega, hlen.2, v, g1, by simpa using g2⟩
        · cases h
      · cases h
    · cases h

/-- A value of an aggregate type, as a parameter. -/
theorem arg_agg {r : Reach} {b0 d : Nat} {t : TypeId} {ks : List KD} {v : Value} {x : DataW H} {ps : List MemPlace} (ht : (∃ fs, P.underlying t = some (.struct fs)) ∨ ∃ n e, P.underlying t = some (.array n e)) (hk : kindsOf P d t = some ks)
    (hval : Value.okWide P w r b0 t v) (hd : DataW.Trod enc P w base spare held t v x ps) : ∃ l, FitL ks l ∧ Rel nσ (fun k => k < w.heap.size) w v (.agg l) := by
  have : ∃ cs, v = .agg cs := by
    unfold Value.okWide at hval
    rcases ht with ⟨fs, h⟩ | ⟨n, e, h⟩
    · simp only [h] at hval; obtain ⟨cs, h1, _⟩ := hval; exact ⟨cs, h1⟩
    · simp only [h] at hval; obtain ⟨cs, h1, _⟩ := hval; exact ⟨cs, h1⟩
  obtain ⟨cs, rfl⟩ := this
  obtain ⟨fuel, hf⟩ := hd
  obtain ⟨_, _, l, h1, h2⟩ := open_trod d t ks hk fuel _ _ hf
  exact ⟨l, h1, .agg (by simpa [Value.cells] using h2.1) (fun i y a hy ha => h2.2 i y a (by simpa [Value.cells] using hy) ha)⟩

theorem arg_one {r : Reach} {b0 d : Nat} {t : TypeId} {k : KD} {v : Value} {x : DataW H} {ps : List MemPlace} (hk : kindsOf P d t = some [k]) (ht : (∀ fs, P.underlying t ≠ some (.struct fs)) ∧ ∀ n e, P.underlying t ≠ some (.array n e))
    (hval : Value.okWide P w r b0 t v) (hd : DataW.Trod enc P w base spare held t v x ps) : ∃ a, FitC k a ∧ Rel nσ (fun k => k < w.heap.size) w v a := by
  obtain ⟨fuel, hf⟩ := hd
  obtain ⟨_, _, l, h1, h2⟩ := open_trod d t [k] hk fuel _ _ hf
  obtain ⟨a, l', rfl, h3, h4⟩ := h1.cons
  obtain rfl := h4.nil
  have hv : v.cells = #[v] := by
    cases v with
    | agg cs =>
      exfalso
      cases d with
      | zero => cases hk
      | succ d =>
        simp only [kindsOf] at hk
        unfold Value.okWide Cell.okWide Cell.ok at hval
        cases hu : P.underlying t with
        | none => rw [hu] at hk; cases hk
        | some td =>
          rw [hu] at hk hval
          cases td with
          | struct fs => exact ht.1 fs hu
          | array n e => exact ht.2 n e hu
          | int k => simp at hval
          | bool => simp at hval
          | string => simp at hval
          | slice e => simp at hval
          | _ => cases hk
    | _ => rfl
  exact ⟨a, h3, h2.2 0 v a (by rw [hv]; rfl) rfl⟩

theorem trodAll_stays {W' : World} {sp' : Nat → Bool} (hl : laidOutB P = true) : ∀ {ts : List TypeId} {vs : List Value} {ds : List (DataW H)} {ps : List MemPlace}, ts.all (fun t => P.readableRec t && decide (t < P.types.size)) = true →
    DataW.TrodAll enc P w base (fun _ => true) true ts vs ds ps → (∀ p ∈ ps, w.sameAt W' p) → (∀ p ∈ ps, sp' p.block = true) → DataW.TrodAll enc P W' base sp' true ts vs ds ps
  | [], [], [], _, _, h, _, _ => h
  | [], _ :: _, _, _, _, h, _, _ => h.elim
  | [], [], _ :: _, _, _, h, _, _ => h.elim
  | _ :: _, [], _, _, _, h, _, _ => h.elim
  | _ :: _, _ :: _, [], _, _, h, _, _ => h.elim
  | t :: ts, v :: vs, d :: ds, ps, hr, h, hs, hp => by
    obtain ⟨p, q, h1, h2, rfl⟩ := h
    simp only [List.all_cons, Bool.and_eq_true, decide_eq_true_eq] at hr
    exact ⟨p, q, WideElems.Trod_stays hl hr.1.1 hr.1.2 h1 (fun x hx => hs x (by simp [hx])) (fun x hx => hp x (by simp [hx])), trodAll_stays hl hr.2 h2 (fun x hx => hs x (by simp [hx])) (fun x hx => hp x (by simp [hx])), rfl⟩

/-- What a statement's row asks of its code. -/
theorem law_post {f : FuncId} {fn : Func} {s : ChangeSpec} {apart fresh handsOn : Bool} {args : Array Value} {ds gs : List (DataW H)} {before : List MemPlace} {tb : TypeId}
    (hl : laidOutB P = true) (hr : fn.params.toList.all (fun t => P.readableRec t && decide (t < P.types.size)) = true) (hrt : fn.resultTypes = #[tb]) (hub : P.underlying tb = some .bool) (hvars : s.vars = [])
    (hspec : s.fn H ds = { results := [.lit (.bool true)], args := ds })
    (hW : DataW.Whole enc P fn.params.toList s.vars apart w args.toList ds gs before)
    (calls : CallsTrue P f args w) :
    Calls P f args w fun e W' => ∃ v, e = .returned v ∧ s.post enc P fn apart fresh handsOn false w args v W' := by
  refine calls.mono fun e W' ⟨hb, he⟩ => ?_
  subst he
  have hW' := hW
  obtain ⟨p, q, hA, hV, hpq, hfz, hnd⟩ := hW
  rw [hvars] at hV
  obtain ⟨rfl, rfl⟩ := ChangeShapes.trodVars_none hV
  have hpq : before = p := by simpa using hpq
  subst hpq
  refine ⟨_, rfl, ds, [], before, [], before, [], hW', ?_, ?_, ?_, hb.frame _, fun h => by cases h⟩
  · rw [hrt, List.append_nil, hspec]
    exact ChangeShapes.trodAll_mk1 (shut_bool hub _)
  · rw [List.append_nil, hspec]
    exact trodAll_stays hl hr hA (fun x hx => hb.same (hW'.lt x hx)) (fun x hx => by simpa using hW'.lt x hx)
  · rw [hvars, List.append_nil, hspec]
    exact rfl
end

theorem relV_nil {w : World} : RelV w [] [] := ⟨rfl, fun i c a h => by simp at h⟩
theorem relV_cons {w : World} {c : Value} {a : AV} {cs : List Value} {l : List AV} (h : Rel nσ (fun k => k < w.heap.size) w c a) (h' : RelV w cs l) : RelV w (c :: cs) (a :: l) :=
  ⟨by simp [h'.1], fun i x y hx hy => by
    cases i with
    | zero => simp at hx hy; subst hx hy; exact h
    | succ i => exact h'.2 i x y (by simpa using hx) (by simpa using hy)⟩
theorem fitC_sl {ks : List KD} {a : AV} (h : FitC (.sl ks) a) : ∃ rows, a = .sl ks.length rows ∧ rows.length ≤ maxLen ∧ ∀ r ∈ rows, FitL ks r := by
  cases h with
  | sl hm h1 h2 => exact ⟨_, rfl, hm, fun r hr => ⟨h1 r hr, h2 r hr⟩⟩
theorem fitC_int {k : IntKind} {a : AV} (h : FitC (.int k) a) : ∃ n, a = .v (.int k n) ∧ (Lit.int k n).wf = true := by
  cases h with
  | int hw => exact ⟨_, rfl, hw⟩
theorem fitC_bool {a : AV} (h : FitC .bool a) : ∃ b, a = .v (.bool b) := by
  cases h
  exact ⟨_, rfl⟩
theorem fitC_str {a : AV} (h : FitC .str a) : ∃ s, a = .v (.string s) ∧ s.size ≤ maxLen := by
  cases h with
  | str hw => exact ⟨_, rfl, hw⟩

/-- From a contract: the call returns true and leaves old memory alone. -/
theorem true_of_call {P : Program} {G : GL} {f : FuncId} {as : List AV} {vs : Array Value} {w : World} (h : CallOK P G f as (.v (.bool true))) (hg : ∀ g l, (g, l) ∈ G → GH w g l) (hs : vs.size = as.length) (hr : RelV w vs.toList as) : CallsTrue P f vs w := by
  refine (h.runs (fun k => k < w.heap.size) w vs (fun k hk => hk) (fun g l h => ⟨(hg g l h).lt, hg g l h⟩) hs (fun i x av hx ha => hr.2 i x av (by simpa using hx) ha)).mono fun e W' ⟨hb, x, he, hx⟩ => ?_
  cases hx
  exact ⟨hb, he⟩
end Go.Ax
