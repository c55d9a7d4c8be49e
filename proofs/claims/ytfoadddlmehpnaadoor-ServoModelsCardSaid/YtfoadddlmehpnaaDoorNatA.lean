/- Natural numbers as words (nat.go of layer 2), part 10: the length of a word. -/
import Derived.Test.YtfoadddlmehpnaaDoorNat9
import Derived.Test.YtfoadddlmehpnaaDoorU3
set_option linter.unusedSimpArgs false
set_option linter.unusedVariables false
set_option linter.deprecated false
namespace Go.Proofs.YtfoadddlmehpnaaDoor
open Go Go.Ax
set_option maxRecDepth 100000
set_option maxHeartbeats 4000000

/-- How many bits a number has. -/
def blen (w : Nat) : Nat := if w = 0 then 0 else Nat.log2 w + 1
theorem blen_le {w l : Nat} : blen w ≤ l ↔ w < 2 ^ l := by
  unfold blen
  split
  · rename_i h; subst h; simp [Nat.pow_pos]
  · rename_i h; rw [Nat.succ_le_iff, Nat.log2_lt h]
theorem blen_div (w k : Nat) : blen (w / 2 ^ k) = blen w - k := by
  have h : ∀ l, blen (w / 2 ^ k) ≤ l ↔ blen w ≤ l + k := fun l => by
    rw [blen_le, blen_le, Nat.div_lt_iff_lt_mul (Nat.pow_pos (by omega)), Nat.pow_add]
  have h1 := h (blen (w / 2 ^ k))
  have h2 := h (blen w - k)
  omega
theorem blen_hi {w k : Nat} (h : 2 ^ k ≤ w) : blen w = k + blen (w / 2 ^ k) := by
  rw [blen_div]
  have := mt (blen_le (w := w) (l := k)).1 (by omega)
  omega
theorem blen_word {w : Nat} (h : w < 4294967296) : blen w ≤ 32 := blen_le.2 h
theorem len8 {l : List UInt8} (hl : l.map UInt8.toNat = (List.range 256).map blen) {k : Nat} (h : k < 256) : AV.v (.int .u8 ((l.getD (Int.toNat (k : Int)) 0).toNat : Nat)) = .v (.int .u8 (blen k : Nat)) := by
  have hlen : l.length = 256 := by have := congrArg List.length hl; simpa using this
  have e := congrArg (fun m => m[k]?) hl
  simp only [List.getElem?_map, List.getElem?_range h, Option.map_some] at e
  rw [Int.toNat_natCast, List.getD_eq_getElem?_getD]
  rw [List.getElem?_eq_getElem (by omega)] at e ⊢
  injection e with e
  simp only [Option.getD_some]
  rw [e]
theorem idx_ok {s : ByteArray} {k : Nat} (hs : s.size = 256) (h : k < 256) : 0 ≤ (k : Int) ∧ (k : Int) < (s.size : Int) := by omega
theorem after_as {C : Cx} {n : Nat} {r : List It} {s : AS} {Q : Lab → AS → Prop} {o : Oper} {p : Prop} {v v' : AV} {u : Upd} (hp : p) (hv : v = v') (k : ex C n r ((s.upd u).put o.dst v') Q) : after C n r s Q o (some ⟨p, v, u⟩) := by
  subst hv; exact ⟨hp, k⟩
theorem u8_wrap {k : Nat} (h : k < 256) : IntKind.u8.wrap (k : Int) = k := by
  simp only [IntKind.wrap, IntKind.bits, IntKind.signed]; simp; omega

end Go.Proofs.YtfoadddlmehpnaaDoor
