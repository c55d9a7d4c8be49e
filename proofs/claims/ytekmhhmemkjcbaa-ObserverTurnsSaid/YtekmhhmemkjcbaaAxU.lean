/- Numbers as lists of words of 32 bits, the least significant one first; such lists as the executor's rows. -/
import Derived.Test.YtekmhhmemkjcbaaAxT
set_option linter.unusedSimpArgs false
set_option linter.unusedVariables false
set_option linter.deprecated false
namespace Go.Ax
open Go Go.RowKit

theorem getD_in {α : Type} {l : List α} {d : α} {i : Nat} (h : i < l.length) : l.getD i d = l[i] := by simp [List.getD, h]
theorem getD_out {α : Type} {l : List α} {d : α} {i : Nat} (h : l.length ≤ i) : l.getD i d = d := by simp [List.getD, h]
/-- The number of a list of words. -/
def val : List Nat → Nat
  | [] => 0
  | w :: ws => w + 4294967296 * val ws
/-- All are words. -/
def Wd (ws : List Nat) : Prop := ∀ w ∈ ws, w < 4294967296

theorem Wd.nil : Wd [] := fun _ h => by cases h
theorem Wd.cons {w : Nat} {ws : List Nat} (h : w < 4294967296) (k : Wd ws) : Wd (w :: ws) := fun x hx => by
  rcases List.mem_cons.1 hx with rfl | hx
  · exact h
  · exact k x hx
theorem Wd.head {w : Nat} {ws : List Nat} (h : Wd (w :: ws)) : w < 4294967296 := h w (by simp)
theorem Wd.tail {w : Nat} {ws : List Nat} (h : Wd (w :: ws)) : Wd ws := fun x hx => h x (by simp [hx])
theorem Wd.append {a b : List Nat} (h : Wd a) (k : Wd b) : Wd (a ++ b) := fun x hx => by
  rcases List.mem_append.1 hx with hx | hx
  · exact h x hx
  · exact k x hx
theorem Wd.take {a : List Nat} (h : Wd a) (n : Nat) : Wd (a.take n) := fun x hx => h x (List.mem_of_mem_take hx)
theorem Wd.drop {a : List Nat} (h : Wd a) (n : Nat) : Wd (a.drop n) := fun x hx => h x (List.mem_of_mem_drop hx)
theorem Wd.set {a : List Nat} (h : Wd a) (i : Nat) {w : Nat} (hw : w < 4294967296) : Wd (a.set i w) := fun x hx => by
  rcases List.mem_or_eq_of_mem_set hx with hx | rfl
  · exact h x hx
  · exact hw
theorem Wd.zeros (n : Nat) : Wd (List.replicate n 0) := fun x hx => by rw [List.eq_of_mem_replicate hx]; omega
theorem Wd.get {a : List Nat} (h : Wd a) (i : Nat) : a.getD i 0 < 4294967296 := by
  by_cases hi : i < a.length
  · rw [getD_in hi]; exact h _ (List.getElem_mem hi)
  · rw [getD_out (by omega)]; omega

theorem val_append (a b : List Nat) : val (a ++ b) = val a + 4294967296 ^ a.length * val b := by
  induction a with
  | nil => simp [val]
  | cons w a ih => simp only [List.cons_append, val, ih, List.length_cons, Nat.pow_succ, Nat.mul_add, ← Nat.mul_assoc]; rw [Nat.mul_comm (4294967296 ^ a.length) 4294967296]; omega
theorem val_zeros (n : Nat) : val (List.replicate n 0) = 0 := by
  induction n with
  | zero => rfl
  | succ n ih => simp [List.replicate_succ, val, ih]
theorem val_lt {ws : List Nat} (h : Wd ws) : val ws < 4294967296 ^ ws.length := by
  induction ws with
  | nil => simp [val]
  | cons w ws ih =>
    have h1 := h.head
    have h2 := ih h.tail
    simp only [val, List.length_cons, Nat.pow_succ]
    omega
theorem val_take_drop (ws : List Nat) {k : Nat} (h : k ≤ ws.length) : val ws = val (ws.take k) + 4294967296 ^ k * val (ws.drop k) := by
  have := val_append (ws.take k) (ws.drop k)
  rw [List.take_append_drop, List.length_take, Nat.min_eq_left h] at this
  exact this
theorem take_succ_getD {ws : List Nat} {k : Nat} (h : k < ws.length) : ws.take (k + 1) = ws.take k ++ [ws.getD k 0] := by
  rw [List.take_succ_eq_append_getElem h, getD_in h]
theorem drop_getD {ws : List Nat} {k : Nat} (h : k < ws.length) : ws.drop k = ws.getD k 0 :: ws.drop (k + 1) := by
  rw [List.drop_eq_getElem_cons h, getD_in h]
theorem val_take_succ {ws : List Nat} {k : Nat} (h : k < ws.length) : val (ws.take (k + 1)) = val (ws.take k) + 4294967296 ^ k * ws.getD k 0 := by
  rw [take_succ_getD h, val_append, List.length_take, Nat.min_eq_left (Nat.le_of_lt h)]
  simp [val]
theorem val_drop_getD {ws : List Nat} {k : Nat} (h : k < ws.length) : val (ws.drop k) = ws.getD k 0 + 4294967296 * val (ws.drop (k + 1)) := by
  rw [drop_getD h]; rfl
theorem take_set_succ {ws : List Nat} {k : Nat} (h : k < ws.length) (d : Nat) : (ws.set k d).take (k + 1) = ws.take k ++ [d] := by
  rw [take_succ_getD (by simpa using h), List.take_set_of_le (by omega)]
  simp [List.getD, h]
theorem val_take_set {ws : List Nat} {k : Nat} (h : k < ws.length) (d : Nat) : val ((ws.set k d).take (k + 1)) = val (ws.take k) + 4294967296 ^ k * d := by
  rw [take_set_succ h, val_append, List.length_take, Nat.min_eq_left (Nat.le_of_lt h)]
  simp [val]
theorem val_set {ws : List Nat} {k : Nat} (h : k < ws.length) (d : Nat) : val (ws.set k d) + 4294967296 ^ k * ws.getD k 0 = val ws + 4294967296 ^ k * d := by
  have h1 := val_take_drop ws (k := k + 1) (show k + 1 ≤ ws.length from h)
  have h2 := val_take_drop (ws.set k d) (k := k + 1) (show k + 1 ≤ (ws.set k d).length by rw [List.length_set]; exact h)
  rw [val_take_set h] at h2
  rw [val_take_succ h] at h1
  rw [List.drop_set_of_lt (show k < k + 1 by omega)] at h2
  omega
theorem getD_set_eq {ws : List Nat} {k : Nat} (h : k < ws.length) (d : Nat) : (ws.set k d).getD k 0 = d := by simp [List.getD, h]
theorem getD_set_of_ne {ws : List Nat} {k i : Nat} (h : k ≠ i) (d : Nat) : (ws.set k d).getD i 0 = ws.getD i 0 := by simp [List.getD, List.getElem?_set_ne h]
/-- A word of a list, out of its number. -/
theorem getD_val {ws : List Nat} (h : Wd ws) (k : Nat) : ws.getD k 0 = val ws / 4294967296 ^ k % 4294967296 := by
  by_cases hk : k < ws.length
  · have h1 := val_take_drop ws (Nat.le_of_lt hk)
    have h2 := val_lt (h.take k)
    rw [List.length_take, Nat.min_eq_left (Nat.le_of_lt hk)] at h2
    have h3 := val_drop_getD hk
    have h4 := h.get k
    rw [h1, Nat.add_mul_div_left _ _ (Nat.pow_pos (by omega)), Nat.div_eq_of_lt h2, Nat.zero_add, h3, Nat.add_mul_mod_self_left, Nat.mod_eq_of_lt h4]
  · rw [getD_out (by omega)]
    have h2 := val_lt h
    have : val ws < 4294967296 ^ k := Nat.lt_of_lt_of_le h2 (Nat.pow_le_pow_right (by omega) (by omega))
    rw [Nat.div_eq_of_lt this]
theorem val_take {ws : List Nat} (h : Wd ws) (k : Nat) : val (ws.take k) = val ws % 4294967296 ^ k := by
  by_cases hk : k ≤ ws.length
  · have h1 := val_take_drop ws hk
    have h2 := val_lt (h.take k)
    rw [List.length_take, Nat.min_eq_left hk] at h2
    rw [h1, Nat.add_mul_mod_self_left, Nat.mod_eq_of_lt h2]
  · rw [List.take_of_length_le (by omega), Nat.mod_eq_of_lt]
    exact Nat.lt_of_lt_of_le (val_lt h) (Nat.pow_le_pow_right (by omega) (by omega))
theorem val_drop {ws : List Nat} (h : Wd ws) (k : Nat) : val (ws.drop k) = val ws / 4294967296 ^ k := by
  by_cases hk : k ≤ ws.length
  · have h1 := val_take_drop ws hk
    have h2 := val_lt (h.take k)
    rw [List.length_take, Nat.min_eq_left hk] at h2
    rw [h1, Nat.add_mul_div_left _ _ (Nat.pow_pos (by omega)), Nat.div_eq_of_lt h2, Nat.zero_add]
  · rw [List.drop_eq_nil_of_le (by omega), Nat.div_eq_of_lt]
    · rfl
    · exact Nat.lt_of_lt_of_le (val_lt h) (Nat.pow_le_pow_right (by omega) (by omega))

/-- The words of a number, no more than are needed. -/
def words (n : Nat) : List Nat := if h : n = 0 then [] else n % 4294967296 :: words (n / 4294967296)
termination_by n
decreasing_by exact Nat.div_lt_self (by omega) (by omega)

theorem words_zero : words 0 = [] := by rw [words]; simp
theorem words_pos {n : Nat} (h : n ≠ 0) : words n = n % 4294967296 :: words (n / 4294967296) := by rw [words, dif_neg h]
theorem words_small {n : Nat} (h : n ≠ 0) (h2 : n < 4294967296) : words n = [n] := by
  rw [words_pos h, Nat.mod_eq_of_lt h2, Nat.div_eq_of_lt h2, words_zero]
theorem Wd.words (n : Nat) : Wd (words n) := by
  induction n using Nat.strongRecOn with
  | _ n ih =>
    by_cases h : n = 0
    · rw [h, words_zero]; exact .nil
    · rw [words_pos h]; exact .cons (Nat.mod_lt _ (by omega)) (ih _ (Nat.div_lt_self (by omega) (by omega)))
theorem val_words (n : Nat) : val (words n) = n := by
  induction n using Nat.strongRecOn with
  | _ n ih =>
    by_cases h : n = 0
    · rw [h, words_zero]; rfl
    · rw [words_pos h]
      simp only [val]
      rw [ih _ (Nat.div_lt_self (by omega) (by omega))]
      omega
theorem words_nil {n : Nat} : words n = [] ↔ n = 0 := by
  by_cases h : n = 0
  · simp [h, words_zero]
  · simp [words_pos h, h]
theorem words_length_pos {n : Nat} : 0 < (words n).length ↔ n ≠ 0 := by
  rw [List.length_pos_iff, ne_eq, words_nil]
/-- Without zeros at the end. -/
def Trimmed (ws : List Nat) : Prop := ws = [] ∨ ws.getD (ws.length - 1) 0 ≠ 0
theorem words_trimmed (n : Nat) : Trimmed (words n) := by
  induction n using Nat.strongRecOn with
  | _ n ih =>
    by_cases h : n = 0
    · left; rw [h, words_zero]
    · right
      rw [words_pos h]
      rcases ih (n / 4294967296) (Nat.div_lt_self (by omega) (by omega)) with h1 | h1
      · rw [h1]
        rw [words_nil] at h1
        simp only [List.length_singleton, List.getD_cons_zero]
        simp only [Nat.sub_self, List.getD_cons_zero, List.length_nil, Nat.zero_add]
        omega
      · have h2 : 0 < (words (n / 4294967296)).length := by
          rcases Nat.eq_zero_or_pos (words (n / 4294967296)).length with h3 | h3
          · rw [List.length_eq_zero_iff.1 h3] at h1; simp at h1
          · exact h3
        rw [List.length_cons, Nat.add_sub_cancel]
        obtain ⟨k, hk⟩ : ∃ k, (words (n / 4294967296)).length = k + 1 := ⟨_, (Nat.succ_pred_eq_of_pos h2).symm⟩
        rw [hk] at h1 ⊢
        simpa using h1
theorem words_val {ws : List Nat} (h : Wd ws) (ht : Trimmed ws) : words (val ws) = ws := by
  induction ws with
  | nil => exact words_zero
  | cons w ws ih =>
    have h1 := h.head
    have ht' : Trimmed ws := by
      cases ws with
      | nil => exact .inl rfl
      | cons u us =>
        right
        rcases ht with ht | ht
        · cases ht
        · simpa using ht
    have h2 : val (w :: ws) ≠ 0 := by
      intro h0
      simp only [val] at h0
      have e1 : w = 0 := by omega
      have e2 : val ws = 0 := by omega
      have e3 := ih h.tail ht'
      rw [e2, words_zero] at e3
      rw [← e3, e1] at ht
      rcases ht with ht | ht
      · cases ht
      · simp at ht
    rw [words_pos h2]
    simp only [val]
    rw [show (w + 4294967296 * val ws) % 4294967296 = w by omega, show (w + 4294967296 * val ws) / 4294967296 = val ws by omega, ih h.tail ht']
theorem val_inj {a b : List Nat} (ha : Wd a) (hb : Wd b) (ta : Trimmed a) (tb : Trimmed b) (h : val a = val b) : a = b := by
  rw [← words_val ha ta, ← words_val hb tb, h]
theorem words_length_le {n k : Nat} (h : n < 4294967296 ^ k) : (words n).length ≤ k := by
  induction k generalizing n with
  | zero => simp at h; rw [h, words_zero]; simp
  | succ k ih =>
    by_cases h0 : n = 0
    · rw [h0, words_zero]; simp
    · rw [words_pos h0, List.length_cons]
      have := ih (n := n / 4294967296) (by rw [Nat.div_lt_iff_lt_mul (by omega)]; rwa [Nat.pow_succ] at h)
      omega
theorem lt_words (n : Nat) : n < 4294967296 ^ (words n).length := by
  have := val_lt (Wd.words n)
  rwa [val_words] at this
theorem words_ge {n : Nat} (h : n ≠ 0) : 4294967296 ^ ((words n).length - 1) ≤ n := by
  rcases Nat.lt_or_ge n (4294967296 ^ ((words n).length - 1)) with h1 | h1
  · have := words_length_le h1
    have := words_length_pos.2 h
    omega
  · exact h1
/-- What trim leaves. -/
theorem take_words {ws : List Nat} (h : Wd ws) : ws.take (words (val ws)).length = words (val ws) ∧ (words (val ws)).length ≤ ws.length := by
  have hl := words_length_le (val_lt h)
  refine ⟨?_, hl⟩
  have h1 := val_take h (words (val ws)).length
  rw [Nat.mod_eq_of_lt (lt_words _)] at h1
  by_cases h0 : val ws = 0
  · rw [h0, words_zero]; simp
  refine (words_val (h.take _) (.inr ?_)).symm.trans (by rw [h1])
  have hp := words_length_pos.2 h0
  have hlen : (ws.take (words (val ws)).length).length = (words (val ws)).length := by rw [List.length_take, Nat.min_eq_left hl]
  rw [hlen, getD_val (h.take _), h1]
  have hg := words_ge h0
  have hlt := lt_words (val ws)
  obtain ⟨k, hk⟩ : ∃ k, (words (val ws)).length = k + 1 := ⟨_, (Nat.succ_pred_eq_of_pos hp).symm⟩
  rw [hk] at hg hlt ⊢
  rw [Nat.add_sub_cancel] at hg ⊢
  rw [Nat.mod_eq_of_lt (by rw [Nat.div_lt_iff_lt_mul (Nat.pow_pos (by omega)), Nat.mul_comm]; rwa [Nat.pow_succ] at hlt)]
  have := Nat.div_pos hg (Nat.pow_pos (by omega))
  omega
/-- Where a list may be cut: it ends in zeros from k on. -/
theorem val_take_of_zeros {ws : List Nat} {k : Nat} (hk : k ≤ ws.length) (h : ∀ i, k ≤ i → ws.getD i 0 = 0) : val (ws.take k) = val ws := by
  have h1 := val_take_drop ws hk
  have h2 : val (ws.drop k) = 0 := by
    have : ∀ l : List Nat, (∀ i, l.getD i 0 = 0) → val l = 0 := fun l => by
      induction l with
      | nil => intro _; rfl
      | cons w l ih =>
        intro hz
        have h0 := hz 0
        simp at h0
        simp only [val, h0, ih (fun i => by have := hz (i + 1); simpa using this)]
    refine this _ (fun i => ?_)
    have := h (k + i) (by omega)
    simpa [List.getD, List.getElem?_drop] using this
  rw [h2] at h1; omega

/-! ### as rows -/
def u32 (w : Nat) : List AV := [.v (.int .u32 w)]
def u32s (ws : List Nat) : List (List AV) := ws.map u32
theorem u32s_length (ws : List Nat) : (u32s ws).length = ws.length := by simp [u32s]
theorem u32s_nil : u32s [] = [] := rfl
theorem u32s_getD {ws : List Nat} {i : Nat} (h : i < ws.length) : (u32s ws).getD i [] = [.v (.int .u32 (ws.getD i 0 : Nat))] := by
  simp [u32s, List.getD, h, u32]
theorem u32s_set (ws : List Nat) (i w : Nat) : (u32s ws).set i [.v (.int .u32 (w : Nat))] = u32s (ws.set i w) := by
  simp [u32s, List.map_set, u32]
theorem u32s_take (ws : List Nat) (k : Nat) : (u32s ws).take k = u32s (ws.take k) := by simp [u32s, List.map_take]
theorem u32s_drop (ws : List Nat) (k : Nat) : (u32s ws).drop k = u32s (ws.drop k) := by simp [u32s, List.map_drop]
theorem u32s_append (a b : List Nat) : u32s a ++ u32s b = u32s (a ++ b) := by simp [u32s]
theorem u32s_zeros (n : Nat) : List.replicate n [AV.v (.int .u32 0)] = u32s (List.replicate n 0) := by simp [u32s, u32]
theorem u32s_mem {ws : List Nat} {r : List AV} (h : r ∈ u32s ws) : ∃ w ∈ ws, r = u32 w := by
  obtain ⟨w, hw, rfl⟩ := List.mem_map.1 h
  exact ⟨w, hw, rfl⟩
theorem nbRows_u32s {n : Nat} : ∀ {ws : List Nat}, nbRows n (u32s ws)
  | [] => trivial
  | _ :: _ => ⟨⟨.v, trivial⟩, nbRows_u32s⟩
theorem Cl.u32s {ws : List Nat} {sz : Nat} : Cl (.sl sz (u32s ws)) := Cl.sl (fun r hr a ha => by
  obtain ⟨w, _, rfl⟩ := u32s_mem hr
  simp [u32] at ha
  subst ha
  exact .v _)
theorem rowsOK_u32s {b : Nat} {ws : List Nat} : RowsOK b 1 (u32s ws) := fun r hr => by
  obtain ⟨w, _, rfl⟩ := u32s_mem hr
  exact ⟨rfl, fun a ha => by simp [u32] at ha; subst ha; exact ⟨rfl, .v⟩⟩
theorem rowsOK_one {b : Nat} {x : AV} (h : NO b x) (h1 : x.one = true := by rfl) : RowsOK b 1 [[x]] := fun r hr => by
  simp at hr; subst hr
  exact ⟨rfl, fun a ha => by simp at ha; subst ha; exact ⟨h1, h⟩⟩
theorem noRows_u32s {b : Nat} {ws : List Nat} : ∀ r ∈ u32s ws, ∀ a ∈ r, NO b a := fun r hr a ha => by
  obtain ⟨w, _, rfl⟩ := u32s_mem hr
  simp [u32] at ha; subst ha; exact .v
/-- Rows that are written out. -/
def noL (b : Nat) : List AV → Prop
  | [] => True
  | a :: l => NO b a ∧ noL b l
def noRL (b : Nat) : List (List AV) → Prop
  | [] => True
  | r :: l => noL b r ∧ noRL b l
theorem noL_mem {b : Nat} : ∀ (l : List AV), noL b l → ∀ a ∈ l, NO b a
  | [], _, a, h => by cases h
  | x :: l, hl, a, h => by
    rcases List.mem_cons.1 h with rfl | h
    · exact hl.1
    · exact noL_mem l hl.2 a h
theorem noRows_lit {b : Nat} {rows : List (List AV)} (h : noRL b rows) : ∀ r ∈ rows, ∀ a ∈ r, NO b a := by
  induction rows with
  | nil => intro r hr; cases hr
  | cons r0 rows ih =>
    intro r hr
    rcases List.mem_cons.1 hr with rfl | hr
    · exact noL_mem _ h.1
    · exact ih h.2 r hr
end Go.Ax
