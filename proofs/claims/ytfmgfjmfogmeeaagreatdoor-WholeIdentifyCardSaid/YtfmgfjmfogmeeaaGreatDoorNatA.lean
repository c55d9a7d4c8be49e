/- Natural numbers as words (nat.go of layer 2), part 10: the length of a word. -/
import Derived.Test.YtfmgfjmfogmeeaaGreatDoorNat9
import Derived.Test.YtfmgfjmfogmeeaaGreatDoorU3
set_option linter.unusedSimpArgs false
set_option linter.unusedVariables false
set_option linter.deprecated false
namespace Go.Proofs.YtfmgfjmfogmeeaaGreatDoor
open Go Go.Ax
set_option maxRecDepth 100000
set_option maxHeartbeats 4000000
def blen (w : Nat) : Nat := if w = 0 then 0 else Nat.log2 w + 1
theorem blen_le {w l : Nat} : blen w ≤ l ↔ w < 2 ^ l := by
  unfold blen
  split
  · rename_i h; subst h; simp [Nat.pow_pos]
  · rename_i h; rw [Nat.succ_le_iff, Nat.log2_lt h]
theorem blen_div (w k : Nat) : blen (w / 2 ^ k) = blen w - k := by
  have h : ∀ l, blen (w / 2 ^ k) ≤ l ↔ blen w ≤ l + k := fun l => by
    rw [blen_le, blen_le, Nat.div_lt_iff_lt_mul (Nat.pow_pos (by omega)), Nat.pow_add]
  have h1 := h (blen (w / 2 ^ k))
  have h2 := h (blen w - k)
  omega
theorem blen_hi {w k : Nat} (h : 2 ^ k ≤ w) : blen w = k + blen (w / 2 ^ k) := by
  rw [blen_div]
  have := mt (blen_le (w := w) (l := k)).1 (by omega)
  omega
theorem blen_word {w : Nat} (h : w < 4294967296) : blen w ≤ 32 := blen_le.2 h
theorem len8 {l : List UInt8} (hl : l.map UInt8.toNat = (List.range 256).map blen) {k : Nat} (h : k < 256) : AV.v (.int .u8 ((l.getD (Int.toNat (k : Int)) 0).toNat : Nat)) = .v (.int .u8 (blen k : Nat)) := by
  have hlen : l.length = 256 := by have := congrArg List.length hl; simpa using this
  have e := congrArg (fun m => m[k]?) hl
  simp only [List.getElem?_map, List.getElem?_range h, Option.map_some] at e
  rw [Int.toNat_natCast, List.getD_eq_getElem?_getD]
  rw [List.getElem?_eq_getElem (by omega)] at e ⊢
  injection e with e
  simp only [Option.getD_some]
  rw [e]
theorem idx_ok {s : ByteArray} {k : Nat} (hs : s.size = 256) (h : k < 256) : 0 ≤ (k : Int) ∧ (k : Int) < (s.size : Int) := by omega
theorem after_as {C : Cx} {n : Nat} {r : List It} {s : AS} {Q : Lab → AS → Prop} {o : Oper} {p : Prop} {v v' : AV} {u : Upd} (hp : p) (hv : v = v') (k : ex C n r ((s.upd u).put o.dst v') Q) : after C n r s Q o (some ⟨p, v, u⟩) := by
  subst hv; exact ⟨hp, k⟩
theorem u8_wrap {k : Nat} (h : k < 256) : IntKind.u8.wrap (k : Int) = k := by
  simp only [IntKind.wrap, IntKind.bits, IntKind.signed]; simp; omega
theorem bits_Len32 (w : Nat) (h : w < 4294967296) : CallOK Tryz.prog gl 108 [.v (.int .u32 (w))] (.v (.int .i64 ((blen w : Nat)))) := by
  refine call_ok (C := ⟨Tryz.prog, gl, ti, 19, false⟩) ti_ok mixed 3000 Tryz.call108 Tryz.func108 rfl Tryz.ntmps108 (by simp) byClL byCl ?_
  rw [Tryz.results108]
  have d1 : (w : Int) / 65536 = ((w / 65536 : Nat) : Int) := rfl
  have d2 : (((w / 65536 : Nat) : Int)) / 256 = ((w / 65536 / 256 : Nat) : Int) := rfl
  have d3 : (w : Int) / 256 = ((w / 256 : Nat) : Int) := rfl
  by_cases h1 : 65536 ≤ w
  ·
    have b1 : blen w = 16 + blen (w / 65536) := blen_hi (k := 16) h1
    by_cases h2 : 256 ≤ w / 65536
    ·
      have b2 : blen (w / 65536) = 8 + blen (w / 65536 / 256) := blen_hi (k := 8) h2
      have h3 : w / 65536 / 256 < 256 := by omega
      have u := u8_wrap h3
      have b3 := (blen_le (w := w / 65536 / 256) (l := 8)).2 h3
      rw [b1, b2]
      generalize w / 65536 / 256 = k at *
      clear b1 b2
      generalize w / 65536 = q at *
      repeat' (first | (simp only [go_sem, seval, IntKind.bits.eq_def, ti, tin, d1, d2, u]) | (simp (disch := omega) only [wA]) | refine aL ti_ok ?_ | refine dL ti_ok ?_ | refine dG ?_ | ((first | refine cC ?_ ?_ | refine gS ?_ ?_ | refine dS ?_ ?_) <;> intro hc <;> first | (exfalso; simp only [dcA] at hc; omega) | (simp only [hc]; try simp only [dcA] at hc)) | refine aO ?_ | refine dO ?_)
      refine after_as (idx_ok (by kernel_rfl) h3) (len8 (by kernel_rfl) h3) ?_
      repeat' (first | (simp only [go_sem, seval, IntKind.bits.eq_def, ti, tin, d1, d2, u]) | (simp (disch := omega) only [wA]) | refine aL ti_ok ?_ | refine dL ti_ok ?_ | refine dG ?_ | ((first | refine cC ?_ ?_ | refine gS ?_ ?_ | refine dS ?_ ?_) <;> intro hc <;> first | (exfalso; simp only [dcA] at hc; omega) | (simp only [hc]; try simp only [dcA] at hc)) | refine aO ?_ | refine dO ?_)
      exact fin_same trivial (by rw [Int.natCast_add, Int.natCast_add, ← Int.add_assoc]; rfl)
    ·
      have h3 : w / 65536 < 256 := by omega
      have u := u8_wrap h3
      have b3 := (blen_le (w := w / 65536) (l := 8)).2 h3
      rw [b1]
      clear b1 d2
      generalize w / 65536 = k at *
      repeat' (first | (simp only [go_sem, seval, IntKind.bits.eq_def, ti, tin, d1, u]) | (simp (disch := omega) only [wA]) | refine aL ti_ok ?_ | refine dL ti_ok ?_ | refine dG ?_ | ((first | refine cC ?_ ?_ | refine gS ?_ ?_ | refine dS ?_ ?_) <;> intro hc <;> first | (exfalso; simp only [dcA] at hc; omega) | (simp only [hc]; try simp only [dcA] at hc)) | refine aO ?_ | refine dO ?_)
      refine after_as (idx_ok (by kernel_rfl) h3) (len8 (by kernel_rfl) h3) ?_
      repeat' (first | (simp only [go_sem, seval, IntKind.bits.eq_def, ti, tin, d1, u]) | (simp (disch := omega) only [wA]) | refine aL ti_ok ?_ | refine dL ti_ok ?_ | refine dG ?_ | ((first | refine cC ?_ ?_ | refine gS ?_ ?_ | refine dS ?_ ?_) <;> intro hc <;> first | (exfalso; simp only [dcA] at hc; omega) | (simp only [hc]; try simp only [dcA] at hc)) | refine aO ?_ | refine dO ?_)
      exact fin_same trivial (by rw [Int.natCast_add]; rfl)
  ·
    by_cases h2 : 256 ≤ w
    ·
      have b2 : blen w = 8 + blen (w / 256) := blen_hi (k := 8) h2
      have h3 : w / 256 < 256 := by omega
      have u := u8_wrap h3
      have b3 := (blen_le (w := w / 256) (l := 8)).2 h3
      rw [b2]
      clear b2 d1 d2
      generalize w / 256 = k at *
      repeat' (first | (simp only [go_sem, seval, IntKind.bits.eq_def, ti, tin, d3, u]) | (simp (disch := omega) only [wA]) | refine aL ti_ok ?_ | refine dL ti_ok ?_ | refine dG ?_ | ((first | refine cC ?_ ?_ | refine gS ?_ ?_ | refine dS ?_ ?_) <;> intro hc <;> first | (exfalso; simp only [dcA] at hc; omega) | (simp only [hc]; try simp only [dcA] at hc)) | refine aO ?_ | refine dO ?_)
      refine after_as (idx_ok (by kernel_rfl) h3) (len8 (by kernel_rfl) h3) ?_
      repeat' (first | (simp only [go_sem, seval, IntKind.bits.eq_def, ti, tin, d3, u]) | (simp (disch := omega) only [wA]) | refine aL ti_ok ?_ | refine dL ti_ok ?_ | refine dG ?_ | ((first | refine cC ?_ ?_ | refine gS ?_ ?_ | refine dS ?_ ?_) <;> intro hc <;> first | (exfalso; simp only [dcA] at hc; omega) | (simp only [hc]; try simp only [dcA] at hc)) | refine aO ?_ | refine dO ?_)
      exact fin_same trivial (by rw [Int.natCast_add]; rfl)
    ·
      have h3 : w < 256 := by omega
      have u := u8_wrap h3
      have b3 := (blen_le (w := w) (l := 8)).2 h3
      clear d1 d2 d3
      repeat' (first | (simp only [go_sem, seval, IntKind.bits.eq_def, ti, tin, u]) | (simp (disch := omega) only [wA]) | refine aL ti_ok ?_ | refine dL ti_ok ?_ | refine dG ?_ | ((first | refine cC ?_ ?_ | refine gS ?_ ?_ | refine dS ?_ ?_) <;> intro hc <;> first | (exfalso; simp only [dcA] at hc; omega) | (simp only [hc]; try simp only [dcA] at hc)) | refine aO ?_ | refine dO ?_)
      refine after_as (idx_ok (by kernel_rfl) h3) (len8 (by kernel_rfl) h3) ?_
      repeat' (first | (simp only [go_sem, seval, IntKind.bits.eq_def, ti, tin, u]) | (simp (disch := omega) only [wA]) | refine aL ti_ok ?_ | refine dL ti_ok ?_ | refine dG ?_ | ((first | refine cC ?_ ?_ | refine gS ?_ ?_ | refine dS ?_ ?_) <;> intro hc <;> first | (exfalso; simp only [dcA] at hc; omega) | (simp only [hc]; try simp only [dcA] at hc)) | refine aO ?_ | refine dO ?_)
      exact fin_same trivial (by first | rfl | (rw [Int.zero_add]; rfl))
end Go.Proofs.YtfmgfjmfogmeeaaGreatDoor
