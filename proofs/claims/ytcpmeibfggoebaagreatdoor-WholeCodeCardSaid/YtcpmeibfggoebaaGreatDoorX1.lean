/- What the functions that the statement reaches compute. -/
import Derived.Test.YtcpmeibfggoebaaGreatDoorProg
import Derived.Test.YtcpmeibfggoebaaGreatDoorV2
import Derived.Test.YtcpmeibfggoebaaGreatDoorV4
import Derived.Test.YtcpmeibfggoebaaGreatDoorV3
set_option linter.unusedSimpArgs false
set_option linter.unusedVariables false
set_option linter.deprecated false
namespace Go.Proofs.YtcpmeibfggoebaaGreatDoor
open Go Go.Ax
set_option maxRecDepth 100000
def gl : GL := [(0, dbT.map fun (k : Nat) => Value.int .u8 k)]
def tin : Nat → Option TyI
 | 2 => some ⟨1, 8, [.int .i64], .int .i64⟩
 | 3 => some ⟨1, 8, [.int .i64], .int .i64⟩
 | 4 => some ⟨1, 1, [.bool], .bool⟩
 | 5 => some ⟨1, 1, [.int .u8], .int .u8⟩
 | 6 => some ⟨1, 1, [.int .u8], .int .u8⟩
 | 7 => some ⟨4, 24, [.int .i64, .int .i64, .bool, .int .u8], .st [(0, 2), (1, 3), (2, 4), (3, 6)]⟩
 | 8 => some ⟨4, 24, [.int .i64, .int .i64, .bool, .int .u8], .st [(0, 2), (1, 3), (2, 4), (3, 6)]⟩
 | 9 => some ⟨1, 16, [.str], .str⟩
 | 10 => some ⟨1, 16, [.str], .str⟩
 | 11 => some ⟨1, 16, [.str], .str⟩
 | 12 => some ⟨1, 8, [.int .u64], .int .u64⟩
 | 13 => some ⟨2, 24, [.str, .int .u64], .st [(0, 9), (1, 12)]⟩
 | 14 => some ⟨2, 24, [.str, .int .u64], .st [(0, 9), (1, 12)]⟩
 | 15 => some ⟨1, 8, [.ptr], .ptr 158⟩
 | 16 => some ⟨1, 8, [.ptr], .ptr 161⟩
 | 17 => some ⟨1, 8, [.ptr], .ptr 169⟩
 | 18 => some ⟨1, 8, [.ptr], .st [(0, 17)]⟩
 | 19 => some ⟨1, 8, [.ptr], .st [(0, 17)]⟩
 | 20 => some ⟨1, 16, [.iface], .iface⟩
 | 21 => some ⟨1, 4, [.int .i32], .int .i32⟩
 | 22 => some ⟨1, 24, [.slc], .slc 66⟩
 | 23 => some ⟨1, 24, [.slc], .slc 70⟩
 | 24 => some ⟨1, 24, [.slc], .slc 3⟩
 | 25 => some ⟨3, 72, [.slc, .slc, .slc], .st [(0, 22), (1, 23), (2, 24)]⟩
 | 26 => some ⟨3, 72, [.slc, .slc, .slc], .st [(0, 22), (1, 23), (2, 24)]⟩
 | 27 => some ⟨1, 24, [.slc], .slc 24⟩
 | 29 => some ⟨1, 24, [.slc], .slc 63⟩
 | 30 => some ⟨1, 24, [.slc], .slc 55⟩
 | 31 => some ⟨3, 72, [.slc, .slc, .slc], .st [(0, 24), (1, 29), (2, 30)]⟩
 | 32 => some ⟨3, 72, [.slc, .slc, .slc], .st [(0, 24), (1, 29), (2, 30)]⟩
 | 33 => some ⟨1, 16, [.iface], .iface⟩
 | 34 => some ⟨1, 16, [.iface], .iface⟩
 | 37 => some ⟨1, 24, [.slc], .slc 85⟩
 | 38 => some ⟨4, 96, [.slc, .slc, .slc, .slc], .st [(0, 22), (1, 24), (2, 37), (3, 24)]⟩
 | 39 => some ⟨4, 96, [.slc, .slc, .slc, .slc], .st [(0, 22), (1, 24), (2, 37), (3, 24)]⟩
 | 48 => some ⟨3, 56, [.slc, .slc, .bool], .st [(0, 24), (1, 24), (2, 4)]⟩
 | 49 => some ⟨3, 56, [.slc, .slc, .bool], .st [(0, 24), (1, 24), (2, 4)]⟩
 | 53 => some ⟨1, 24, [.slc], .slc 126⟩
 | 54 => some ⟨3, 40, [.bool, .slc, .int .i64], .st [(0, 4), (1, 53), (2, 3)]⟩
 | 55 => some ⟨3, 40, [.bool, .slc, .int .i64], .st [(0, 4), (1, 53), (2, 3)]⟩
 | 62 => some ⟨6, 80, [.bool, .slc, .int .i64, .bool, .slc, .int .i64], .st [(0, 55), (3, 55)]⟩
 | 63 => some ⟨6, 80, [.bool, .slc, .int .i64, .bool, .slc, .int .i64], .st [(0, 55), (3, 55)]⟩
 | 65 => some ⟨3, 24, [.int .i64, .int .i64, .int .i64], .st [(0, 3), (1, 3), (2, 3)]⟩
 | 66 => some ⟨3, 24, [.int .i64, .int .i64, .int .i64], .st [(0, 3), (1, 3), (2, 3)]⟩
 | 67 => some ⟨2, 16, [.int .i64, .int .i64], .st [(0, 3), (1, 3)]⟩
 | 68 => some ⟨2, 16, [.int .i64, .int .i64], .st [(0, 3), (1, 3)]⟩
 | 69 => some ⟨6, 64, [.int .i64, .slc, .int .i64, .int .i64, .int .i64, .int .i64], .st [(0, 3), (1, 24), (2, 68), (4, 68)]⟩
 | 70 => some ⟨6, 64, [.int .i64, .slc, .int .i64, .int .i64, .int .i64, .int .i64], .st [(0, 3), (1, 24), (2, 68), (4, 68)]⟩
 | 71 => some ⟨1, 8, [.int .i64], .int .i64⟩
 | 78 => some ⟨2, 16, [.int .i64, .int .i64], .st [(0, 3), (1, 3)]⟩
 | 79 => some ⟨2, 16, [.int .i64, .int .i64], .st [(0, 3), (1, 3)]⟩
 | 84 => some ⟨7, 56, [.int .i64, .int .i64, .int .i64, .int .i64, .int .i64, .int .i64, .int .i64], .st [(0, 3), (1, 3), (2, 3), (3, 3), (4, 3), (5, 3), (6, 3)]⟩
 | 85 => some ⟨7, 56, [.int .i64, .int .i64, .int .i64, .int .i64, .int .i64, .int .i64, .int .i64], .st [(0, 3), (1, 3), (2, 3), (3, 3), (4, 3), (5, 3), (6, 3)]⟩
 | 90 => some ⟨0, 0, [], .st []⟩
 | 91 => some ⟨0, 0, [], .st []⟩
 | 97 => some ⟨1, 24, [.slc], .slc 126⟩
 | 102 => some ⟨1, 8, [.int .u64], .int .u64⟩
 | 126 => some ⟨1, 4, [.int .u32], .int .u32⟩
 | 131 => some ⟨1, 8, [.int .u64], .int .u64⟩
 | 133 => some ⟨1, 24, [.slc], .slc 4⟩
 | 154 => some ⟨32, 32, [.int .u8, .int .u8, .int .u8, .int .u8, .int .u8, .int .u8, .int .u8, .int .u8, .int .u8, .int .u8, .int .u8, .int .u8, .int .u8, .int .u8, .int .u8, .int .u8, .int .u8, .int .u8, .int .u8, .int .u8, .int .u8, .int .u8, .int .u8, .int .u8, .int .u8, .int .u8, .int .u8, .int .u8, .int .u8, .int .u8, .int .u8, .int .u8], .arr 32 5⟩
 | 157 => some ⟨4, 40, [.ptr, .ptr, .ptr, .str], .st [(0, 17), (1, 17), (2, 17), (3, 9)]⟩
 | 158 => some ⟨4, 40, [.ptr, .ptr, .ptr, .str], .st [(0, 17), (1, 17), (2, 17), (3, 9)]⟩
 | 159 => some ⟨0, 0, [], .arr 0 16⟩
 | 160 => some ⟨0, 0, [], .st [(0, 159)]⟩
 | 161 => some ⟨0, 0, [], .st [(0, 159)]⟩
 | 162 => some ⟨1, 1, [.int .u8], .int .u8⟩
 | 163 => some ⟨1, 1, [.int .u8], .int .u8⟩
 | 165 => some ⟨1, 8, [.ptr], .ptr 5⟩
 | 166 => some ⟨1, 4, [.int .i32], .int .i32⟩
 | 167 => some ⟨1, 4, [.int .i32], .int .i32⟩
 | 168 => some ⟨11, 48, [.int .u64, .int .u64, .int .u32, .int .u8, .int .u8, .int .u8, .int .u8, .func, .ptr, .int .i32, .int .i32], .st [(0, 12), (1, 12), (2, 126), (3, 162), (4, 5), (5, 5), (6, 163), (7, 164), (8, 165), (9, 166), (10, 167)]⟩
 | 169 => some ⟨11, 48, [.int .u64, .int .u64, .int .u32, .int .u8, .int .u8, .int .u8, .int .u8, .func, .ptr, .int .i32, .int .i32], .st [(0, 12), (1, 12), (2, 126), (3, 162), (4, 5), (5, 5), (6, 163), (7, 164), (8, 165), (9, 166), (10, 167)]⟩
 | _ => none
def ti (t : Nat) : Option TyI := if t < 171 then tin t else none
theorem ti_check : zhW Tryz.prog 171 tin = true := by kernel_rfl
theorem za1 : zam Tryz.prog ti := zgO ti_check
theorem zgl : Tryz.prog.follows .mixedOrders = true := by kernel_rfl
attribute [go_sem] ti tin
set_option maxHeartbeats 4000000
theorem zmX (x y c : Nat) (hx : x < 4294967296) (hy : y < 4294967296) (hc0 : c ≤ 1) : CallOK Tryz.prog gl 115 [.v (.int .u32 (x)), .v (.int .u32 (y)), .v (.int .u32 (c))] (.tup [.v (.int .u32 (((x + y + c) % 4294967296 : Nat))), .v (.int .u32 (((x + y + c) / 4294967296 : Nat)))]) := by
 refine okC 22 Tryz.call115 Tryz.func115 Tryz.ntmps115 Tryz.results115 ?_
 have e0 : (x : Int) + (y : Int) + (c : Int) = ((x + y + c : Nat) : Int) := by omega
 have e1 := zcw (x + y + c)
 have e2 : ((x + y + c : Nat) : Int) / 4294967296 = ((x + y + c) / 4294967296 : Nat) := rfl
 exact we (zc3 e0 e1 e2)
theorem zmV (x y c : Nat) (hx : x < 4294967296) (hy : y < 4294967296) (hc0 : c ≤ 1) : CallOK Tryz.prog gl 116 [.v (.int .u32 (x)), .v (.int .u32 (y)), .v (.int .u32 (c))] (.tup [.v (.int .u32 (((x + 8589934592 - y - c) % 4294967296 : Nat))), .v (.int .u32 (((if x < y + c then 1 else 0 : Nat) : Nat)))]) := by
 refine okC 25 Tryz.call116 Tryz.func116 Tryz.ntmps116 Tryz.results116 ?_
 have hb := zpE (d := (x + 8589934592 - y - c) % 4294967296) hx hy hc0 rfl
 have hxy : x ^^^ y < 4294967296 := Nat.xor_lt_two_pow (n := 32) hx hy
 have e0 : IntKind.u32.wrap (IntKind.u32.wrap ((x : Int) - (y : Int)) - (c : Int)) = (((x + 8589934592 - y - c) % 4294967296 : Nat) : Int) := by
  simp only [IntKind.wrap, IntKind.bits, IntKind.signed]; simp; omega
 have e1 : (4294967295 : Int) - (x : Int) = ((4294967295 - x : Nat) : Int) := by omega
 have e2 := xor32 hx hy
 have e3 : (4294967295 : Int) - ((x ^^^ y : Nat) : Int) = ((4294967295 - (x ^^^ y) : Nat) : Int) := by omega
 have hd : (x + 8589934592 - y - c) % 4294967296 < 4294967296 := Nat.mod_lt _ (by omega)
 generalize (x + 8589934592 - y - c) % 4294967296 = d at *
 have e4 := and32 (a := 4294967295 - x) (b := y) (by omega) hy
 have e5 := and32 (a := 4294967295 - (x ^^^ y)) (b := d) (by omega) hd
 have h2 : (4294967295 - x) &&& y < 4294967296 := Nat.lt_of_le_of_lt Nat.and_le_right hy
 have h3 : (4294967295 - (x ^^^ y)) &&& d < 4294967296 := Nat.lt_of_le_of_lt Nat.and_le_right hd
 have e6 := or32 h2 h3
 have h4 : (((4294967295 - x) &&& y) ||| ((4294967295 - (x ^^^ y)) &&& d)) < 4294967296 := Nat.or_lt_two_pow (n := 32) h2 h3
 have e7 : (((((4294967295 - x) &&& y) ||| ((4294967295 - (x ^^^ y)) &&& d)) : Nat) : Int) / 2147483648 = ((((((4294967295 - x) &&& y) ||| ((4294967295 - (x ^^^ y)) &&& d))) / 2147483648 : Nat) : Int) := rfl
 rw [hb] at e7
 exact we (zc8 e0 e1 e2 e3 e4 e5 e6 e7)
theorem zpG (w k q : Nat) (hw : w = 2 ^ k * (2 * q + 1)) (h : w < 4294967296) : CallOK Tryz.prog gl 113 [.v (.int .u32 (w))] (.v (.int .i64 k)) := by
 refine okC 14 Tryz.call113 Tryz.func113 Tryz.ntmps113 Tryz.results113 ?_
 obtain ⟨hl, hk⟩ := zos hw h
 have h0 : 0 < w := by rw [hw]; exact Nat.mul_pos (Nat.pow_pos (by omega)) (by omega)
 have hT := dbT_ok k hk
 have hp : 2 ^ k < 4294967296 := by
  have hp32 : (2 : Nat) ^ 32 = 4294967296 := by decide
  rw [← hp32]; exact Nat.pow_lt_pow_right (by omega) hk
 have e0 : IntKind.u32.wrap (0 - (w : Int)) = ((4294967296 - w : Nat) : Int) := by
  simp only [IntKind.wrap, IntKind.bits, IntKind.signed]; simp; omega
 have e1 := and32 (a := w) (b := 4294967296 - w) h (by omega)
 rw [hl] at e1
 have e2 : ((2 ^ k : Nat) : Int) * 125613361 = ((2 ^ k * 125613361 : Nat) : Int) := by simp
 have e3 := zcw (2 ^ k * 125613361)
 have hm : 2 ^ k * 125613361 % 4294967296 < 4294967296 := Nat.mod_lt _ (by omega)
 generalize 2 ^ k * 125613361 % 4294967296 = m at *
 have e4 : (m : Int) / 134217728 = ((m / 134217728 : Nat) : Int) := rfl
 have hj : m / 134217728 < 32 := by omega
 generalize m / 134217728 = j at *
 have e5 : (dbT.map fun (k : Nat) => Value.int .u8 k).getD j undef = .int .u8 k := by
  have hlen2 : j < dbT.length := hj
  have hlen : j < (dbT.map fun (k : Nat) => Value.int .u8 k).length := by rw [List.length_map]; exact hlen2
  rw [zaB hlen, List.getElem_map]
  rw [zaB hlen2] at hT
  rw [hT]
 clear hT hw hl
 generalize 2 ^ k = p at *
 repeat' (first | simp only [go_sem, Int.reduceAdd, Int.reduceEq, Int.reduceLE, Int.reduceLT, Int.reduceMul, Int.reduceNeg, Int.reducePow, Int.reduceSub, Int.reduceToNat, Nat.reduceAdd, Nat.reduceBEq, Nat.reduceEqDiff, Nat.reduceLT, Nat.reduceLeDiff, Nat.reduceMul, Nat.reducePow, Nat.reduceSub, reduceCtorEq, reduceIte, IntKind.bits.eq_def, e0, e1, e2, e3, e4, e5] | simp (disch := omega) only [wA] | (refine zm4 za1 (dbT.map fun (k : Nat) => Value.int .u8 k) rfl rfl (by simp [gl]) rfl (by omega) rfl rfl (by rw [Int.toNat_natCast, e5]) ?_) | refine aI ?_ | refine dI ?_ | refine dG ?_ | ((first | refine cC ?_ ?_ | refine gS ?_ ?_ | refine dS ?_ ?_) <;> intro hc <;> simp only [hc] <;> try simp only [dcA] at hc <;> try omega) | refine aP ?_ | refine dP ?_)
 exact zal trivial rfl
theorem zlS (ws : List Nat) (i : Nat) : CallOK Tryz.prog gl 114 [.sl 1 (u32s (ws)), .v (.int .i64 i)] (.v (.int .u32 ((ws.getD i 0 : Nat)))) := by
 refine okC 13 Tryz.call114 Tryz.func114 Tryz.ntmps114 Tryz.results114 ?_
 by_cases h : i < ws.length
 ·
  have r := zaK h
  exact weu r
 ·
  have r : ws.getD i 0 = 0 := ziZ (by omega)
  repeat' (first | simp only [go_sem, Int.reduceAdd, Int.reduceEq, Int.reduceLE, Int.reduceLT, Int.reduceMul, Int.reduceNeg, Int.reducePow, Int.reduceSub, Int.reduceToNat, Nat.reduceAdd, Nat.reduceBEq, Nat.reduceEqDiff, Nat.reduceLT, Nat.reduceLeDiff, Nat.reduceMul, Nat.reducePow, Nat.reduceSub, reduceCtorEq, reduceIte, IntKind.bits.eq_def, zaa] | simp (disch := omega) only [wA] | refine aI ?_ | refine dI ?_ | refine dG ?_ | ((first | refine cC ?_ ?_ | refine gS ?_ ?_ | refine dS ?_ ?_) <;> intro hc <;> simp only [hc] <;> try simp only [dcA] at hc <;> try omega) | refine aP ?_ | refine dP ?_)
  rw [r]
  exact zal trivial rfl
theorem trim_end {ws : List Nat} (h : Wd ws) {k : Nat} (hk : k ≤ ws.length) (hv : val (ws.take k) = val ws) (ht : k = 0 ∨ ws.getD (k - 1) 0 ≠ 0) : ws.take k = words (val ws) := by
 rw [← hv]
 refine (zjv (h.take k) ?_).symm
 rcases ht with rfl | ht
 ·left; simp
 ·by_cases h0 : k = 0
  ·left; rw [h0]; simp
  ·right
   have hlen : (ws.take k).length = k := by rw [List.length_take]; omega
   rw [hlen]
   have : (ws.take k).getD (k - 1) 0 = ws.getD (k - 1) 0 := by simp [List.getD, List.getElem?_take, show k - 1 < k by omega]
   rw [this]; exact ht
theorem zdK (ws : List Nat) (h : Wd ws) (hl : ws.length ≤ 4611686018427387904) : CallOK Tryz.prog gl 72 [.sl 1 (u32s (ws))] (.sl 1 (u32s (words (val ws)))) := by
 refine okC 21 Tryz.call72 Tryz.func72 Tryz.ntmps72 Tryz.results72 ?_
 refine wku zc0 ?_
 refine lL (α := Nat) (fun k => ⟨[(0, .sl 1 (u32s (ws))), (3, .v (.int .i64 k)), (2, .v (.slice none 0 0))], [], 0⟩) (fun k => k ≤ ws.length ∧ val (ws.take k) = val ws) (fun k => k) (ws.length) ?_ ?_ ?_
 ·exact ⟨Nat.le_refl _, by simp⟩
 ·exact zah
 rintro k ⟨hk, hv⟩
 have fin : (k = 0 ∨ ws.getD (k - 1) 0 ≠ 0) → ((u32s ws).drop 0).take (k - 0) = u32s (words (val ws)) := fun ht => by
  rw [List.drop_zero, Nat.sub_zero, zdp, trim_end h hk hv ht]
 cases k with
 | zero =>
  repeat' (first | simp only [go_sem, Int.reduceAdd, Int.reduceEq, Int.reduceLE, Int.reduceLT, Int.reduceMul, Int.reduceNeg, Int.reducePow, Int.reduceSub, Int.reduceToNat, Nat.reduceAdd, Nat.reduceBEq, Nat.reduceEqDiff, Nat.reduceLT, Nat.reduceLeDiff, Nat.reduceMul, Nat.reducePow, Nat.reduceSub, reduceCtorEq, reduceIte, IntKind.bits.eq_def, zaa] | simp (disch := omega) only [wA] | refine aI ?_ | refine dI ?_ | refine dG ?_ | ((first | refine cC ?_ ?_ | refine gS ?_ ?_ | refine dS ?_ ?_) <;> intro hc <;> simp only [hc] <;> try simp only [dcA] at hc <;> try omega) | refine aP ?_ | refine dP ?_)
  have fin := fin (.inl rfl)
  simp only [List.drop_zero, Nat.sub_zero] at fin
  refine zal trivial ?_
  simp [one, ← fin]
 | succ m =>
  have e1 : ((m + 1 : Nat) : Int) - 1 = (m : Int) := by omega
  have r := zaK (ws := ws) (i := m) (by omega)
  by_cases h0 : ws.getD m 0 = 0
  ·
   rw [h0] at r
   refine wku (zc2 e1 r) ?_
   refine zac (α := Nat) m ⟨by omega, ?_⟩ (by omega) ?_
   ·rw [← hv, zdF (by omega), h0, Nat.mul_zero, Nat.add_zero]
   ·exact zah
  ·
   have fin := fin (.inr h0)
   have h1 : ¬ ((ws.getD m 0 : Nat) : Int) = 0 := by omega
   generalize ws.getD m 0 = x at *
   repeat' (first | simp only [go_sem, Int.reduceAdd, Int.reduceEq, Int.reduceLE, Int.reduceLT, Int.reduceMul, Int.reduceNeg, Int.reducePow, Int.reduceSub, Int.reduceToNat, Nat.reduceAdd, Nat.reduceBEq, Nat.reduceEqDiff, Nat.reduceLT, Nat.reduceLeDiff, Nat.reduceMul, Nat.reducePow, Nat.reduceSub, reduceCtorEq, reduceIte, IntKind.bits.eq_def, zaa, e1, r] | simp (disch := omega) only [wA] | refine aI ?_ | refine dI ?_ | refine dG ?_ | ((first | refine cC ?_ ?_ | refine gS ?_ ?_ | refine dS ?_ ?_) <;> intro hc <;> simp only [hc] <;> try simp only [dcA] at hc <;> try omega) | refine aP ?_ | refine dP ?_)
   refine zal trivial ?_
   simp only [List.drop_zero] at fin
   simp only [one, Int.toNat_natCast, fin]
set_option maxHeartbeats 4000000
theorem zjO {a b : Nat} (h : a ≤ b) : 4294967296 ^ a ≤ 4294967296 ^ b := Nat.pow_le_pow_right (by omega) h
theorem zox {a b : Nat} (h : (words a).length < (words b).length) : a < b := by
 have hb : b ≠ 0 := za4.1 (by omega)
 exact Nat.lt_of_lt_of_le (zaV a) (Nat.le_trans (zjO (by omega)) (zix hb))
theorem zgJ {ws : List Nat} {k : Nat} (h : k < ws.length) : val ws = val (ws.take k) + 4294967296 ^ k * (ws.getD k 0 + 4294967296 * val (ws.drop (k + 1))) := by
 rw [zb4 ws (Nat.le_of_lt h), ze2 h]
theorem lt_at {xs ys : List Nat} (hx : Wd xs) {k : Nat} (h1 : k < xs.length) (h2 : k < ys.length) (hd : xs.drop (k + 1) = ys.drop (k + 1)) (h : xs.getD k 0 < ys.getD k 0) : val xs < val ys := by
 rw [zgJ h1, zgJ h2, hd]
 have h3 := zf6 (hx.take k)
 rw [List.length_take, Nat.min_eq_left (Nat.le_of_lt h1)] at h3
 generalize xs.getD k 0 = x at *
 generalize ys.getD k 0 = y at *
 obtain ⟨d, rfl⟩ : ∃ d, y = x + 1 + d := ⟨y - x - 1, by omega⟩
 generalize 4294967296 * val (ys.drop (k + 1)) = r at *
 simp only [Nat.mul_add, Nat.mul_one]
 omega
def zhM (a b : Nat) : Int := if a < b then -1 else if b < a then 1 else 0
theorem zpo {a b : Nat} (h : a < b) : zhM a b = -1 := by rw [zhM, if_pos h]
theorem zpp {a b : Nat} (h : b < a) : zhM a b = 1 := by rw [zhM, if_neg (by omega), if_pos h]
theorem cmpI_eq {a b : Nat} (h : a = b) : zhM a b = 0 := by rw [zhM, if_neg (by omega), if_neg (by omega)]
theorem zg6 (a b : Nat) (ha : (words a).length ≤ 4611686018427387904) (hb : (words b).length ≤ 4611686018427387904) : CallOK Tryz.prog gl 43 [.sl 1 (u32s (words a)), .sl 1 (u32s (words b))] (.v (.int .i64 ((zhM a b : Int)))) := by
 refine okC 41 Tryz.call43 Tryz.func43 Tryz.ntmps43 Tryz.results43 ?_
 have la := zaV a
 have lb := zaV b
 by_cases hl : (words a).length = (words b).length
 ·
  refine wku zc0 ?_
  refine lL (α := Nat) (fun k => ⟨[(0, .sl 1 (u32s (words a))), (1, .sl 1 (u32s (words b))), (5, .v (.int .i64 (((k : Int) - 1)))), (4, .v (.int .i64 0))], [], 0⟩) (fun k => k ≤ (words a).length ∧ (words a).drop k = (words b).drop k) (fun k => k) ((words a).length) ?_ ?_ ?_
  ·exact ⟨Nat.le_refl _, by rw [List.drop_length, hl, List.drop_length]⟩
  ·exact zah
  rintro k ⟨hk, hd⟩
  cases k with
  | zero =>
   repeat' (first | simp only [go_sem, seval, zaa] | simp (disch := omega) only [wA] | refine aI ?_ | refine dI ?_ | refine dG ?_ | ((first | refine cC ?_ ?_ | refine gS ?_ ?_ | refine dS ?_ ?_) <;> intro hc <;> simp only [hc] <;> try simp only [dcA] at hc <;> try omega) | refine aP ?_ | refine dP ?_)
   rw [List.drop_zero, List.drop_zero] at hd
   have e : zhM a b = 0 := cmpI_eq (by rw [← za7 a, hd, za7])
   rw [e]
   exact zal trivial rfl
  | succ m =>
   have e1 : ((m + 1 : Nat) : Int) - 1 = (m : Int) := by omega
   have r := zaK (ws := words a) (i := m) (by omega)
   have r' := zaK (ws := words b) (i := m) (by omega)
   have c1 := lt_at (xs := words a) (ys := words b) (Wd.words a) (k := m) (by omega) (by omega) hd
   have c2 := lt_at (xs := words b) (ys := words a) (Wd.words b) (k := m) (by omega) (by omega) hd.symm
   rw [za7, za7] at c1 c2
   have c0 : (words a).getD m 0 = (words b).getD m 0 → (words a).drop m = (words b).drop m := fun h => by
    rw [zhn (by omega), zhn (ws := words b) (by omega), h, hd]
   have hg := zpp (a := a) (b := b)
   have hc1 := zpo (a := a) (b := b)
   generalize zhM a b = z at *
   generalize (words a).getD m 0 = x at *
   generalize (words b).getD m 0 = y at *
   repeat' (first | simp only [go_sem, seval, zaa, e1, r, r'] | simp (disch := omega) only [wA] | refine aI ?_ | refine dI ?_ | refine dG ?_ | ((first | refine cC ?_ ?_ | refine gS ?_ ?_ | refine dS ?_ ?_) <;> intro hc <;> simp only [hc] <;> try simp only [dcA] at hc <;> try omega) | refine aP ?_ | refine dP ?_)
   ·rw [hc1 (c1 (by omega))]
    exact zal trivial rfl
   ·rw [hg (c2 (by omega))]
    exact zal trivial rfl
   ·refine zac (α := Nat) m ⟨by omega, c0 (by omega)⟩ (by omega) ?_
    exact zah
 ·by_cases hl2 : (words a).length < (words b).length
  ·have e := zpo (zox hl2)
   rw [e]
   exact weu zc0
  ·have e := zpp (zox (a := b) (b := a) (by omega))
   rw [e]
   exact weu zc0
theorem add_step {v c p x y aa bb : Nat} (h : v + c * p = aa + bb) : (v + p * ((x + y + c) % 4294967296)) + ((x + y + c) / 4294967296) * (p * 4294967296) = (aa + p * x) + (bb + p * y) := by
 have h1 := Nat.div_add_mod (x + y + c) 4294967296
 generalize (x + y + c) / 4294967296 = q at *
 generalize (x + y + c) % 4294967296 = r at *
 have e : q * (p * 4294967296) = p * (4294967296 * q) := by rw [Nat.mul_left_comm, Nat.mul_comm q]
 have e2 : p * (4294967296 * q + r) = p * (x + y + c) := by rw [h1]
 rw [e]
 simp only [Nat.mul_add] at e2
 rw [Nat.mul_comm c p] at h
 omega
theorem zdL (a i : Nat) : a % 4294967296 ^ (i + 1) = a % 4294967296 ^ i + 4294967296 ^ i * (words a).getD i 0 := by
 rw [zc9 (Wd.words a), za7, Nat.mod_pow_succ]
theorem zoi (a b : Nat) (ha : (words a).length ≤ 1099511627776) (hb : (words b).length ≤ 1099511627776) : CallOK Tryz.prog gl 75 [.sl 1 (u32s (words a)), .sl 1 (u32s (words b))] (.sl 1 (u32s (words (a + b)))) := by
 refine okC 37 Tryz.call75 Tryz.func75 Tryz.ntmps75 Tryz.results75 ?_
 obtain ⟨n, hn, e1⟩ : ∃ n : Nat, ((words a).length < n ∧ (words b).length < n ∧ n ≤ 1099511627777) ∧ max ((words a).length : Int) ((words b).length : Int) + 1 = (n : Int) := ⟨max (words a).length (words b).length + 1, by omega, by omega⟩
 repeat' (first | simp only [go_sem, seval, zaa, e1, zdo] | simp (disch := omega) only [wA] | refine aI ?_ | refine dI ?_ | refine dG ?_ | ((first | refine cC ?_ ?_ | refine gS ?_ ?_ | refine dS ?_ ?_) <;> intro hc <;> simp only [hc] <;> try simp only [dcA] at hc <;> try omega) | refine aP ?_ | refine dP ?_)
 refine lL (α := Nat × List Nat × Nat) (fun x => ⟨[(0, .sl 1 (u32s (words a))), (1, .sl 1 (u32s (words b))), (17, .v (.int .i64 x.1)), (16, .v (.int .i64 n)), (5, .ps 0 1 0 n), (6, .v (.int .u32 (x.2.2))), (4, .v (.slice none 0 0))], [(0, ⟨1, u32s x.2.1⟩)], 1⟩) (fun x => x.1 ≤ n ∧ x.2.1.length = n ∧ Wd x.2.1 ∧ x.2.2 ≤ 1 ∧ val (x.2.1.take x.1) + x.2.2 * 4294967296 ^ x.1 = a % 4294967296 ^ x.1 + b % 4294967296 ^ x.1) (fun x => n - x.1) ((0, List.replicate n 0, 0)) ?_ ?_ ?_
 ·exact ⟨Nat.zero_le _, by simp, Wd.zeros n, Nat.zero_le _, by simp [val, Nat.mod_one]⟩
 ·exact zah
 rintro ⟨i, ws, c⟩ ⟨hi, hw, hW, hc0, hv⟩
 simp only at hi hw hW hc0 hv
 by_cases hin : i < n
 ·
  have hs := add_step (x := (words a).getD i 0) (y := (words b).getD i 0) hv
  rw [← zdL, ← zdL] at hs
  have hx := (Wd.words a).get i
  have hy := (Wd.words b).get i
  have at1 := zlS (words a) i
  have at2 := zlS (words b) i
  generalize (words a).getD i 0 = x at *
  generalize (words b).getD i 0 = y at *
  have ad := zmX x y c hx hy hc0
  have hr : (x + y + c) % 4294967296 < 4294967296 := Nat.mod_lt _ (by omega)
  have hq : (x + y + c) / 4294967296 ≤ 1 := by omega
  generalize (x + y + c) % 4294967296 = r at *
  generalize (x + y + c) / 4294967296 = q at *
  have r0 := zaK (ws := ws) (i := i) (by omega)
  repeat' (first | simp only [go_sem, seval, zaa, zeq, r0] | simp (disch := omega) only [wA] | (with_reducible first | refine cA ?_ | refine dA ?_) | refine aI ?_ | refine dI ?_ | refine dG ?_ | ((first | refine cC ?_ ?_ | refine gS ?_ ?_ | refine dS ?_ ?_) <;> intro hc <;> simp only [hc] <;> try simp only [dcA] at hc <;> try omega) | refine aP ?_ | refine dP ?_)
  refine zac (α := Nat × List Nat × Nat) (i + 1, ws.set i r, q) ?_ ?_ ?_
  ·refine ⟨by omega, by simp [hw], hW.set i hr, hq, ?_⟩
   show val ((ws.set i r).take (i + 1)) + q * 4294967296 ^ (i + 1) = _
   rw [zcR (by omega), ← hs, Nat.pow_succ]
  ·show n - (i + 1) < n - i
   omega
  ·exact zah
 ·
  have hn1 : i = n := by omega
  subst hn1
  repeat' (first | simp only [go_sem, seval, zaa] | simp (disch := omega) only [wA] | refine aI ?_ | refine dI ?_ | refine dG ?_ | ((first | refine cC ?_ ?_ | refine gS ?_ ?_ | refine dS ?_ ?_) <;> intro hc <;> simp only [hc] <;> try simp only [dcA] at hc <;> try omega) | refine aP ?_ | refine dP ?_)
  have hval : val ws = a + b := by
   have h1 := zaV a
   have h2 := zaV b
   have h3 := zjO (a := (words a).length) (b := i - 1) (by omega)
   have h4 := zjO (a := (words b).length) (b := i - 1) (by omega)
   have h5 : 4294967296 ^ i = 4294967296 ^ (i - 1) * 4294967296 := by rw [← Nat.pow_succ]; congr 1; omega
   rw [List.take_of_length_le (by omega), Nat.mod_eq_of_lt (by omega), Nat.mod_eq_of_lt (by omega)] at hv
   rcases (by omega : c = 0 ∨ c = 1) with rfl | rfl <;> omega
  refine zel 0 rfl (.cons (zgf rfl (by show 0 + i ≤ (u32s ws).length; rw [zaa]; omega)) .nil) ?_ (zdK ws hW (by omega)) ?_
  ·simp only [List.drop_zero, zdp]
   rw [List.take_of_length_le (by omega)]
   exact LeL.refl _
  ·rw [hval]
   exact we zc0
theorem sub_step {v c p x y aa bb d e : Nat} (hc : c ≤ 1) (hx : x < 4294967296) (hy : y < 4294967296) (hd : d = (x + 8589934592 - y - c) % 4294967296) (he : e = if x < y + c then 1 else 0) (h : v + bb = aa + c * p) : (v + p * d) + (bb + p * y) = (aa + p * x) + e * (p * 4294967296) := by
 have h1 : d + y + c = x + 4294967296 * e := by
  subst hd he
  split <;> omega
 have e1 : e * (p * 4294967296) = p * (4294967296 * e) := by rw [Nat.mul_left_comm, Nat.mul_comm e]
 have e2 : p * (d + y + c) = p * (x + 4294967296 * e) := by rw [h1]
 rw [e1]
 simp only [Nat.mul_add] at e2
 rw [Nat.mul_comm c p] at h
 omega
theorem zoh (a b : Nat) (hba : b ≤ a) (ha : (words a).length ≤ 1099511627776) : CallOK Tryz.prog gl 76 [.sl 1 (u32s (words a)), .sl 1 (u32s (words b))] (.sl 1 (u32s (words (a - b)))) := by
 refine okC 34 Tryz.call76 Tryz.func76 Tryz.ntmps76 Tryz.results76 ?_
 obtain ⟨n, hn⟩ : ∃ n : Nat, n = (words a).length := ⟨_, rfl⟩
 have e1 : (words a).length = n := hn.symm
 have hbl : (words b).length ≤ n := by
  rw [hn]
  rcases Nat.lt_or_ge (words a).length (words b).length with h | h
  ·have := zox h; omega
  ·exact h
 repeat' (first | simp only [go_sem, seval, zaa, e1, zdo] | simp (disch := omega) only [wA] | refine aI ?_ | refine dI ?_ | refine dG ?_ | ((first | refine cC ?_ ?_ | refine gS ?_ ?_ | refine dS ?_ ?_) <;> intro hc <;> simp only [hc] <;> try simp only [dcA] at hc <;> try omega) | refine aP ?_ | refine dP ?_)
 refine lL (α := Nat × List Nat × Nat) (fun x => ⟨[(0, .sl 1 (u32s (words a))), (1, .sl 1 (u32s (words b))), (13, .v (.int .i64 x.1)), (12, .v (.int .i64 n)), (5, .ps 0 1 0 n), (6, .v (.int .u32 (x.2.2))), (4, .v (.slice none 0 0))], [(0, ⟨1, u32s x.2.1⟩)], 1⟩) (fun x => x.1 ≤ n ∧ x.2.1.length = n ∧ Wd x.2.1 ∧ x.2.2 ≤ 1 ∧ val (x.2.1.take x.1) + b % 4294967296 ^ x.1 = a % 4294967296 ^ x.1 + x.2.2 * 4294967296 ^ x.1) (fun x => n - x.1) ((0, List.replicate n 0, 0)) ?_ ?_ ?_
 ·exact ⟨Nat.zero_le _, by simp, Wd.zeros n, Nat.zero_le _, by simp [val, Nat.mod_one]⟩
 ·exact zah
 rintro ⟨i, ws, c⟩ ⟨hi, hw, hW, hc0, hv⟩
 simp only at hi hw hW hc0 hv
 by_cases hin : i < n
 ·
  have hx := (Wd.words a).get i
  have hy := (Wd.words b).get i
  have hs := sub_step (x := (words a).getD i 0) (y := (words b).getD i 0) hc0 hx hy rfl rfl hv
  rw [← zdL, ← zdL] at hs
  have ra := zaK (ws := words a) (i := i) (by omega)
  have at2 := zlS (words b) i
  generalize (words a).getD i 0 = x at *
  generalize (words b).getD i 0 = y at *
  have ad := zmV x y c hx hy hc0
  have hr : (x + 8589934592 - y - c) % 4294967296 < 4294967296 := Nat.mod_lt _ (by omega)
  have hq : (if x < y + c then 1 else 0) ≤ 1 := by split <;> omega
  generalize (x + 8589934592 - y - c) % 4294967296 = r at *
  generalize (if x < y + c then 1 else 0) = q at *
  have r0 := zaK (ws := ws) (i := i) (by omega)
  repeat' (first | simp only [go_sem, seval, zaa, zeq, r0, ra] | simp (disch := omega) only [wA] | (with_reducible first | refine cA ?_ | refine dA ?_) | refine aI ?_ | refine dI ?_ | refine dG ?_ | ((first | refine cC ?_ ?_ | refine gS ?_ ?_ | refine dS ?_ ?_) <;> intro hc <;> simp only [hc] <;> try simp only [dcA] at hc <;> try omega) | refine aP ?_ | refine dP ?_)
  refine zac (α := Nat × List Nat × Nat) (i + 1, ws.set i r, q) ?_ ?_ ?_
  ·refine ⟨by omega, by simp [hw], hW.set i hr, hq, ?_⟩
   show val ((ws.set i r).take (i + 1)) + _ = _ + q * 4294967296 ^ (i + 1)
   rw [zcR (by omega), hs, Nat.pow_succ]
  ·show n - (i + 1) < n - i
   omega
  ·exact zah
 ·
  have hn1 : i = n := by omega
  subst hn1
  repeat' (first | simp only [go_sem, seval, zaa] | simp (disch := omega) only [wA] | refine aI ?_ | refine dI ?_ | refine dG ?_ | ((first | refine cC ?_ ?_ | refine gS ?_ ?_ | refine dS ?_ ?_) <;> intro hc <;> simp only [hc] <;> try simp only [dcA] at hc <;> try omega) | refine aP ?_ | refine dP ?_)
  have hval : val ws = a - b := by
   have h1 := zaV a
   have h2 := zaV b
   have h3 := zjO (a := (words b).length) (b := i) hbl
   have h4 := zf6 hW
   rw [hw] at h4
   rw [e1] at h1
   rw [List.take_of_length_le (by omega), Nat.mod_eq_of_lt (by omega), Nat.mod_eq_of_lt (by omega)] at hv
   rcases (by omega : c = 0 ∨ c = 1) with rfl | rfl <;> omega
  refine zel 0 rfl (.cons (zgf rfl (by show 0 + i ≤ (u32s ws).length; rw [zaa]; omega)) .nil) ?_ (zdK ws hW (by omega)) ?_
  ·simp only [List.drop_zero, zdp]
   rw [List.take_of_length_le (by omega)]
   exact LeL.refl _
  ·rw [hval]
   exact we zc0
set_option maxHeartbeats 4000000
theorem mul_step {V V' V0 c x y o r q Pi Bj bj : Nat} (hs : V' + Pi * Bj * o = V + Pi * Bj * r) (ht : 4294967296 * q + r = x * y + o + c) (hi : V + c * (Pi * Bj) = V0 + x * bj * Pi) : V' + q * (Pi * (Bj * 4294967296)) = V0 + x * (bj + Bj * y) * Pi := by
 have e2 : Pi * Bj * (4294967296 * q + r) = Pi * Bj * (x * y + o + c) := by rw [ht]
 have e3 : q * (Pi * (Bj * 4294967296)) = Pi * Bj * (4294967296 * q) := by ac_rfl
 have e4 : x * (bj + Bj * y) * Pi = x * bj * Pi + Pi * Bj * (x * y) := by rw [Nat.mul_add, Nat.add_mul]; congr 1; ac_rfl
 have e5 : c * (Pi * Bj) = Pi * Bj * c := Nat.mul_comm _ _
 simp only [Nat.mul_add] at e2
 generalize Pi * Bj = P at *
 omega
theorem zlT {x y : Nat} (hx : x < 4294967296) (hy : y < 4294967296) : x * y ≤ 18446744065119617025 := Nat.le_trans (Nat.mul_le_mul (Nat.le_of_lt_succ hx) (Nat.le_of_lt_succ hy)) (by decide)
theorem nat_mul (a b : Nat) (ha : (words a).length ≤ 1099511627776) (hb : (words b).length ≤ 1099511627776) : CallOK Tryz.prog gl 109 [.sl 1 (u32s (words a)), .sl 1 (u32s (words b))] (.sl 1 (u32s (words (a * b)))) := by
 refine okC 68 Tryz.call109 Tryz.func109 Tryz.ntmps109 Tryz.results109 ?_
 obtain ⟨k, hk⟩ : ∃ k : Nat, k = (words a).length := ⟨_, rfl⟩
 obtain ⟨m, hm⟩ : ∃ m : Nat, m = (words b).length := ⟨_, rfl⟩
 have ek : (words a).length = k := hk.symm
 have em : (words b).length = m := hm.symm
 have e1 : (k : Int) + (m : Int) = ((k + m : Nat) : Int) := by omega
 obtain ⟨n, hn⟩ : ∃ n : Nat, n = k + m := ⟨_, rfl⟩
 rw [← hn] at e1
 repeat' (first | simp only [go_sem, seval, zaa, ek, em, e1, zdo] | simp (disch := omega) only [wA] | refine aI ?_ | refine dI ?_ | refine dG ?_ | ((first | refine cC ?_ ?_ | refine gS ?_ ?_ | refine dS ?_ ?_) <;> intro hc <;> simp only [hc] <;> try simp only [dcA] at hc <;> try omega) | refine aP ?_ | refine dP ?_)
 refine lL (α := Nat × List Nat) (fun x => ⟨[(0, .sl 1 (u32s (words a))), (1, .sl 1 (u32s (words b))), (18, .v (.int .i64 x.1)), (17, .v (.int .i64 k)), (5, .ps 0 1 0 n), (4, .v (.slice none 0 0))], [(0, ⟨1, u32s x.2⟩)], 1⟩) (fun x => x.1 ≤ k ∧ x.2.length = n ∧ Wd x.2 ∧ val x.2 = (a % 4294967296 ^ x.1) * b) (fun x => k - x.1) ((0, List.replicate n 0)) ?_ ?_ ?_
 ·exact ⟨Nat.zero_le _, by simp, Wd.zeros n, by simp [zjx, Nat.mod_one]⟩
 ·exact zah
 rintro ⟨i, ws0⟩ ⟨hi, hw0, hW0, hv0⟩
 simp only at hi hw0 hW0 hv0
 by_cases hin : i < k
 ·
  have hx := (Wd.words a).get i
  have ra := zaK (ws := words a) (i := i) (by omega)
  have hz0 : ws0.getD (i + m) 0 = 0 := by
   rw [zc9 hW0, hv0]
   have h1 : a % 4294967296 ^ i * b < 4294967296 ^ (i + m) := by
    rw [Nat.pow_add]
    have h2 : a % 4294967296 ^ i < 4294967296 ^ i := Nat.mod_lt _ (Nat.pow_pos (by omega))
    have h3 : b < 4294967296 ^ m := by rw [hm]; exact zaV b
    exact Nat.mul_lt_mul'' h2 h3
   rw [Nat.div_eq_of_lt h1]
  have hs0 := zdL a i
  generalize (words a).getD i 0 = x at *
  refine wku (zc2 ek em) ?_
  refine lL (α := Nat × List Nat × Nat) (fun z => ⟨[(0, .sl 1 (u32s (words a))), (1, .sl 1 (u32s (words b))), (23, .v (.int .i64 z.1)), (22, .v (.int .i64 m)), (6, .v (.int .i64 i)), (7, .v (.int .u64 (z.2.2))), (18, .v (.int .i64 i)), (17, .v (.int .i64 k)), (5, .ps 0 1 0 n), (4, .v (.slice none 0 0))], [(0, ⟨1, u32s z.2.1⟩)], 1⟩) (fun z => z.1 ≤ m ∧ z.2.1.length = n ∧ Wd z.2.1 ∧ z.2.2 < 4294967296 ∧ z.2.1.getD (i + m) 0 = 0 ∧ val z.2.1 + z.2.2 * (4294967296 ^ i * 4294967296 ^ z.1) = val ws0 + x * (b % 4294967296 ^ z.1) * 4294967296 ^ i) (fun z => m - z.1) ((0, ws0, 0)) ?_ ?_ ?_
  ·exact ⟨Nat.zero_le _, hw0, hW0, Nat.zero_lt_succ _, hz0, by simp [Nat.mod_one]⟩
  ·exact zah
  rintro ⟨j, ws, c⟩ ⟨hj, hw, hW, hc0, hz, hv⟩
  simp only at hj hw hW hc0 hz hv
  by_cases hjm : j < m
  ·
   have hy := (Wd.words b).get j
   have rb := zaK (ws := words b) (i := j) (by omega)
   have ro := zaK (ws := ws) (i := i + j) (by omega)
   have ho := hW.get (i + j)
   have hset := ziz (ws := ws) (k := i + j) (by omega) ((x * (words b).getD j 0 + ws.getD (i + j) 0 + c) % 4294967296)
   rw [Nat.pow_add] at hset
   have hms := zdL b j
   generalize (words b).getD j 0 = y at *
   generalize ws.getD (i + j) 0 = o at *
   have hp := zlT hx hy
   have f1 : (x : Int) * (y : Int) = ((x * y : Nat) : Int) := by simp
   have hr : (x * y + o + c) % 4294967296 < 4294967296 := Nat.mod_lt _ (by omega)
   have ht := Nat.div_add_mod (x * y + o + c) 4294967296
   have hst := mul_step hset ht hv
   generalize hpp : x * y = p at *
   have f2 : (p : Int) + (o : Int) + (c : Int) = ((p + o + c : Nat) : Int) := by omega
   have f3 := zcw (p + o + c)
   have f4 : ((p + o + c : Nat) : Int) / 4294967296 = (((p + o + c) / 4294967296 : Nat) : Int) := rfl
   have f5 : (i : Int) + (j : Int) = ((i + j : Nat) : Int) := by omega
   have hq : (p + o + c) / 4294967296 < 4294967296 := by omega
   have htl : p + o + c < 18446744073709551616 := by omega
   generalize (p + o + c) % 4294967296 = r at *
   generalize (p + o + c) / 4294967296 = q at *
   repeat' (first | simp only [go_sem, seval, zaa, ek, em, ra, rb, ro, zeq, f1, f2, f3, f4, f5] | simp (disch := omega) only [wA] | refine aI ?_ | refine dI ?_ | refine dG ?_ | ((first | refine cC ?_ ?_ | refine gS ?_ ?_ | refine dS ?_ ?_) <;> intro hc <;> simp only [hc] <;> try simp only [dcA] at hc <;> try omega) | refine aP ?_ | refine dP ?_)
   refine zac (α := Nat × List Nat × Nat) (j + 1, ws.set (i + j) r, q) ?_ ?_ ?_
   ·refine ⟨by omega, by simp [hw], hW.set _ hr, hq, ?_, ?_⟩
    ·show (ws.set (i + j) r).getD (i + m) 0 = 0
     rw [zdg (by omega)]; exact hz
    ·show val (ws.set (i + j) r) + q * (4294967296 ^ i * 4294967296 ^ (j + 1)) = _
     rw [hms, Nat.pow_succ]; exact hst
   ·show m - (j + 1) < m - j
    omega
   ·exact zah
  ·
   have hjm1 : j = m := by omega
   subst hjm1
   have ro := zaK (ws := ws) (i := i + j) (by omega)
   have f5 : (i : Int) + (j : Int) = ((i + j : Nat) : Int) := by omega
   have f3 := zcw c
   rw [Nat.mod_eq_of_lt hc0] at f3
   have hset := ziz (ws := ws) (k := i + j) (by omega) c
   rw [hz] at hset ro
   repeat' (first | simp only [go_sem, seval, zaa, ek, em, ro, zeq, f3, f5] | simp (disch := omega) only [wA] | refine aI ?_ | refine dI ?_ | refine dG ?_ | ((first | refine cC ?_ ?_ | refine gS ?_ ?_ | refine dS ?_ ?_) <;> intro hc <;> simp only [hc] <;> try simp only [dcA] at hc <;> try omega) | refine aP ?_ | refine dP ?_)
   refine zac (α := Nat × List Nat) (i + 1, ws.set (i + j) c) ?_ ?_ ?_
   ·refine ⟨by omega, by simp [hw], hW.set _ hc0, ?_⟩
    show val (ws.set (i + j) c) = _
    have hb : b % 4294967296 ^ j = b := Nat.mod_eq_of_lt (by rw [hm]; exact zaV b)
    rw [hb, hv0, ← Nat.pow_add] at hv
    rw [Nat.mul_zero] at hset
    have e2 : x * b * 4294967296 ^ i = 4294967296 ^ i * x * b := by ac_rfl
    show _ = (a % 4294967296 ^ (i + 1)) * b
    rw [hs0, Nat.add_mul, ← e2, ← hv, Nat.mul_comm c]
    omega
   ·show k - (i + 1) < k - i
    omega
   ·exact zah
 ·
  have hi1 : i = k := by omega
  subst hi1
  repeat' (first | simp only [go_sem, seval, zaa] | simp (disch := omega) only [wA] | refine aI ?_ | refine dI ?_ | refine dG ?_ | ((first | refine cC ?_ ?_ | refine gS ?_ ?_ | refine dS ?_ ?_) <;> intro hc <;> simp only [hc] <;> try simp only [dcA] at hc <;> try omega) | refine aP ?_ | refine dP ?_)
  have hval : val ws0 = a * b := by
   rw [hv0, Nat.mod_eq_of_lt (by rw [hk]; exact zaV a)]
  refine zel 0 rfl (.cons (zgf rfl (by show 0 + n ≤ (u32s ws0).length; rw [zaa]; omega)) .nil) ?_ (zdK ws0 hW0 (by omega)) ?_
  ·simp only [List.drop_zero, zdp]
   rw [List.take_of_length_le (by omega)]
   exact LeL.refl _
  ·rw [hval]
   exact we zc0
set_option maxHeartbeats 4000000
theorem zlQ : ∀ {k k' q q' : Nat}, 2 ^ k * (2 * q + 1) = 2 ^ k' * (2 * q' + 1) → k = k'
 | 0, 0, _, _, _ => rfl
 | 0, k' + 1, q, q', h => by
  rw [Nat.pow_succ, Nat.mul_comm (2 ^ k') 2, Nat.mul_assoc] at h
  generalize 2 ^ k' * (2 * q' + 1) = z at h
  omega
 | k + 1, 0, q, q', h => by
  rw [Nat.pow_succ, Nat.mul_comm (2 ^ k) 2, Nat.mul_assoc] at h
  generalize 2 ^ k * (2 * q + 1) = z at h
  omega
 | k + 1, k' + 1, q, q', h => by
  rw [Nat.pow_succ, Nat.mul_comm (2 ^ k) 2, Nat.mul_assoc, Nat.pow_succ, Nat.mul_comm (2 ^ k') 2, Nat.mul_assoc] at h
  rw [zlQ (Nat.eq_of_mul_eq_mul_left (by omega : 0 < 2) h)]
theorem zes (i : Nat) : 4294967296 ^ i = 2 ^ (32 * i) := by rw [Nat.pow_mul]
theorem zeros_at {n i w j r rest k q : Nat} (hn : n = 4294967296 ^ i * (w + 4294967296 * rest)) (hw : w = 2 ^ j * (2 * r + 1)) (hj : j < 32) (hk : n = 2 ^ k * (2 * q + 1)) : k = 32 * i + j := by
 obtain ⟨d, hd⟩ : ∃ d, 32 = j + 1 + d := ⟨32 - j - 1, by omega⟩
 have e1 : 4294967296 = 2 ^ j * (2 * 2 ^ d) := by
  rw [← Nat.mul_assoc, ← Nat.pow_succ, ← Nat.pow_add, ← hd]
 refine zlQ (q := q) (q' := r + 2 ^ d * rest) ?_
 rw [← hk, hn, hw, zes, Nat.pow_add, Nat.mul_assoc]
 congr 1
 rw [show 4294967296 * rest = 2 ^ j * (2 * (2 ^ d * rest)) by rw [← Nat.mul_assoc 2, ← Nat.mul_assoc, ← e1], ← Nat.mul_add]
 congr 1
 omega
theorem zjT (n k q : Nat) (hn : n = 2 ^ k * (2 * q + 1)) (hl : (words n).length ≤ 1099511627776) : CallOK Tryz.prog gl 73 [.sl 1 (u32s (words n))] (.v (.int .i64 k)) := by
 refine okC 20 Tryz.call73 Tryz.func73 Tryz.ntmps73 Tryz.results73 ?_
 have hn0 : n ≠ 0 := by
  have := Nat.mul_pos (Nat.pow_pos (n := k) (by omega : 0 < 2)) (by omega : 0 < 2 * q + 1)
  omega
 refine wku zc0 ?_
 refine lL (α := Nat) (fun i => ⟨[(0, .sl 1 (u32s (words n))), (5, .sl 1 (u32s (words n))), (7, .v (.int .i64 i)), (6, .v (.int .i64 ((words n).length))), (2, .v (.int .i64 0))], [], 0⟩) (fun i => i ≤ (words n).length ∧ val ((words n).take i) = 0) (fun i => (words n).length - i) (0) ?_ ?_ ?_
 ·exact ⟨Nat.zero_le _, rfl⟩
 ·exact zah
 rintro i ⟨hi, hv⟩
 by_cases hin : i < (words n).length
 ·
  have r := zaK hin
  have hw := (Wd.words n).get i
  have hvs := zgJ hin
  have hts := zdF hin
  rw [hv, Nat.zero_add, za7] at hvs
  generalize (words n).getD i 0 = w at *
  by_cases h0 : w = 0
  ·
   subst h0
   refine wku r ?_
   refine zac (α := Nat) (i + 1) ⟨by omega, by rw [hts, hv]; simp⟩ (by omega) ?_
   exact zah
  ·
   obtain ⟨j, s, hjs⟩ := ziS w h0
   have ct := zpG w j s hjs hw
   have hj : j < 32 := (zos hjs hw).2
   have hk := zeros_at hvs hjs hj hn
   have h1 : ¬ (w : Int) = 0 := by omega
   repeat' (first | simp only [go_sem, seval, zaa, r] | simp (disch := omega) only [wA] | (with_reducible first | refine cA ?_ | refine dA ?_) | refine aI ?_ | refine dI ?_ | refine dG ?_ | ((first | refine cC ?_ ?_ | refine gS ?_ ?_ | refine dS ?_ ?_) <;> intro hc <;> simp only [hc] <;> try simp only [dcA] at hc <;> try omega) | refine aP ?_ | refine dP ?_)
   refine zal trivial ?_
   simp only [one]
   congr 3
   omega
 ·
  have : i = (words n).length := by omega
  subst this
  rw [List.take_length, za7] at hv
  exact absurd hv hn0
theorem ze3 (n : Nat) : 2 ^ n = 4294967296 ^ (n / 32) * 2 ^ (n % 32) := by
 rw [zes, ← Nat.pow_add]; congr 1; omega
theorem ziV (a n : Nat) (ha : (words a).length ≤ 1099511627776) (hn : n ≤ 1099511627776) : CallOK Tryz.prog gl 39 [.sl 1 (u32s (words a)), .v (.int .i64 n)] (.sl 1 (u32s (words (a * 2 ^ n)))) := by
 refine okC 63 Tryz.call39 Tryz.func39 Tryz.ntmps39 Tryz.results39 ?_
 have d1 : (n : Int).tdiv 32 = ((n / 32 : Nat) : Int) := rfl
 have d2 : (n : Int).tmod 32 = ((n % 32 : Nat) : Int) := rfl
 have hp := ze3 n
 by_cases h0 : n = 0 ∨ (words a).length = 0
 ·
  have e : words (a * 2 ^ n) = words a := by
   rcases h0 with rfl | h0
   ·simp
   ·have := zdn.1 (List.length_eq_zero_iff.1 h0)
    subst this; simp
  rw [e]
  clear hp d1 d2
  exact weu zc0
 ·
  have hn0 : ¬ (n : Int) = 0 := by omega
  have hl0 : ¬ ((words a).length : Int) = 0 := by omega
  have hk : n % 32 < 32 := Nat.mod_lt _ (by omega)
  have hwd : n / 32 ≤ n := Nat.div_le_self _ _
  generalize n / 32 = wd at *
  generalize n % 32 = k at *
  obtain ⟨la, hla⟩ : ∃ la : Nat, la = (words a).length := ⟨_, rfl⟩
  have el : (words a).length = la := hla.symm
  obtain ⟨N, hN⟩ : ∃ N : Nat, N = la + wd + 1 := ⟨_, rfl⟩
  have eN : (la : Int) + (wd : Int) + 1 = (N : Int) := by omega
  repeat' (first | simp only [go_sem, seval, zaa, el, d1, d2, eN, zdo] | simp (disch := omega) only [wA] | refine aI ?_ | refine dI ?_ | refine dG ?_ | ((first | refine cC ?_ ?_ | refine gS ?_ ?_ | refine dS ?_ ?_) <;> intro hc <;> simp only [hc] <;> try simp only [dcA] at hc <;> try omega) | refine aP ?_ | refine dP ?_)
  refine lL (α := Nat × List Nat) (fun x => ⟨[(0, .sl 1 (u32s (words a))), (30, .sl 1 (u32s (words a))), (32, .v (.int .i64 x.1)), (31, .v (.int .i64 la)), (7, .ps 0 1 0 N), (6, .v (.int .u64 (k))), (5, .v (.int .i64 wd)), (4, .v (.slice none 0 0))], [(0, ⟨1, u32s x.2⟩)], 1⟩) (fun x => x.1 ≤ la ∧ x.2.length = N ∧ Wd x.2 ∧ val x.2 = (a % 4294967296 ^ x.1) * (4294967296 ^ wd * 2 ^ k)) (fun x => la - x.1) ((0, List.replicate N 0)) ?_ ?_ ?_
  ·exact ⟨Nat.zero_le _, by simp, Wd.zeros N, by simp [zjx, Nat.mod_one]⟩
  ·exact zah
  rintro ⟨i, ws⟩ ⟨hi, hw, hW, hv⟩
  simp only at hi hw hW hv
  have hk2 : 2 ^ k < 4294967296 := by
   have hp32 : (2 : Nat) ^ 32 = 4294967296 := by decide
   rw [← hp32]; exact Nat.pow_lt_pow_right (by omega) hk
  have hk0 : 0 < 2 ^ k := Nat.pow_pos (by omega)
  by_cases hin : i < la
  ·
   have hx := (Wd.words a).get i
   have ra := zaK (ws := words a) (i := i) (by omega)
   have hms := zdL a i
   have hlt : val ws < 4294967296 ^ (i + wd) * 2 ^ k := by
    rw [hv, Nat.pow_add, Nat.mul_assoc]
    exact Nat.mul_lt_mul_of_pos_right (Nat.mod_lt _ (Nat.pow_pos (by omega))) (Nat.mul_pos (Nat.pow_pos (by omega)) hk0)
   have ho : ws.getD (i + wd) 0 < 2 ^ k := by
    rw [zc9 hW]
    have := Nat.div_lt_of_lt_mul hlt
    rw [Nat.mod_eq_of_lt (by omega)]; exact this
   have hz : ws.getD (i + wd + 1) 0 = 0 := by
    rw [zc9 hW, Nat.div_eq_of_lt]
    rw [Nat.pow_succ]
    exact Nat.lt_of_lt_of_le hlt (Nat.mul_le_mul_left _ (Nat.le_of_lt hk2))
   obtain ⟨p, hpp⟩ : ∃ p, p = i + wd := ⟨_, rfl⟩
   rw [← hpp] at hlt ho hz
   have f5 : (i : Int) + (wd : Int) = (p : Int) := by omega
   have f6 : (p : Int) + 1 = ((p + 1 : Nat) : Int) := by omega
   have ro := zaK (ws := ws) (i := p) (by omega)
   have hset := fun d => ziz (ws := ws) (k := p) (by omega) d
   have hpw : 4294967296 ^ p = 4294967296 ^ i * 4294967296 ^ wd := by rw [hpp, Nat.pow_add]
   generalize (words a).getD i 0 = w at *
   have hor : ∀ o, o < 2 ^ k → o ||| (w * 2 ^ k % 4294967296) = o + w * 2 ^ k % 4294967296 := fun o ho => by
    have e : 4294967296 = 2 ^ (32 - k) * 2 ^ k := by rw [← Nat.pow_add, Nat.sub_add_cancel (Nat.le_of_lt hk)]
    have e2 : w * 2 ^ k % 4294967296 = 2 ^ k * (w % 2 ^ (32 - k)) := by rw [e, Nat.mul_mod_mul_right, Nat.mul_comm]
    rw [e2, Nat.or_comm, or_add ho, Nat.add_comm]
   have hop : ∀ o, o < 2 ^ k → o + w * 2 ^ k % 4294967296 < 4294967296 := fun o ho => by
    rw [← hor o ho]
    exact Nat.or_lt_two_pow (n := 32) (Nat.lt_trans ho hk2) (Nat.mod_lt _ (by omega))
   have hor := hor _ ho
   have hop := hop _ ho
   have ho2 : ws.getD p 0 < 4294967296 := Nat.lt_trans ho hk2
   have o32 := or32 ho2 (Nat.mod_lt (w * 2 ^ k) (by omega : 0 < 4294967296))
   rw [hor] at o32
   have f0 : (w : Int) * 2 ^ k = ((w * 2 ^ k : Nat) : Int) := by simp
   have htl : w * 2 ^ k < 18446744073709551616 := Nat.lt_of_le_of_lt (zlT hx hk2) (by decide)
   have hst : 4294967296 ^ i * w * (4294967296 ^ wd * 2 ^ k) = 4294967296 ^ p * (w * 2 ^ k) := by rw [hpw]; ac_rfl
   have hdm := Nat.div_add_mod (w * 2 ^ k) 4294967296
   generalize w * 2 ^ k = t at *
   have f1 := zcw t
   have f2 : (t : Int) / 4294967296 = ((t / 4294967296 : Nat) : Int) := rfl
   have hq : t / 4294967296 < 4294967296 := by omega
   generalize t % 4294967296 = tl at *
   generalize t / 4294967296 = th at *
   have f3 := zcw th
   rw [Nat.mod_eq_of_lt hq] at f3
   have hset2 := ziz (ws := ws.set p (ws.getD p 0 + tl)) (k := p + 1) (by rw [List.length_set]; omega) th
   rw [zdg (by omega), hz] at hset2
   have ro2 := zaK (ws := ws.set p (ws.getD p 0 + tl)) (i := p + 1) (by rw [List.length_set]; omega)
   rw [zdg (by omega), hz] at ro2
   have hset := hset (ws.getD p 0 + tl)
   generalize ws.getD p 0 = o at *
   generalize hs : o + tl = s at *
   clear hp hlt hpw hor ho
   repeat' (first | simp only [go_sem, seval, zaa, ra, ro, ro2, f0, f1, f2, f3, f5, f6, o32, zeq, List.length_set] | simp (disch := omega) only [wA] | refine aI ?_ | refine dI ?_ | refine dG ?_ | ((first | refine cC ?_ ?_ | refine gS ?_ ?_ | refine dS ?_ ?_) <;> intro hc <;> simp only [hc] <;> try simp only [dcA] at hc <;> try omega) | refine aP ?_ | refine dP ?_)
   refine zac (α := Nat × List Nat) (i + 1, (ws.set p s).set (p + 1) th) ?_ ?_ ?_
   ·refine ⟨by omega, by simp [hw], (hW.set _ hop).set _ hq, ?_⟩
    show val ((ws.set p s).set (p + 1) th) = a % 4294967296 ^ (i + 1) * (4294967296 ^ wd * 2 ^ k)
    rw [hms, Nat.add_mul, hst, ← hv, ← hdm]
    rw [Nat.mul_zero, Nat.pow_succ, Nat.mul_assoc] at hset2
    rw [← hs] at hset hset2 ⊢
    simp only [Nat.mul_add] at hset ⊢
    omega
   ·show la - (i + 1) < la - i
    omega
   ·exact zah
  ·
   have hi1 : i = la := by omega
   subst hi1
   repeat' (first | simp only [go_sem, seval, zaa] | simp (disch := omega) only [wA] | refine aI ?_ | refine dI ?_ | refine dG ?_ | ((first | refine cC ?_ ?_ | refine gS ?_ ?_ | refine dS ?_ ?_) <;> intro hc <;> simp only [hc] <;> try simp only [dcA] at hc <;> try omega) | refine aP ?_ | refine dP ?_)
   have hval : val ws = a * 2 ^ n := by
    rw [hv, Nat.mod_eq_of_lt (by rw [hla]; exact zaV a), hp]
   refine zel 0 rfl (.cons (zgf rfl (by show 0 + N ≤ (u32s ws).length; rw [zaa]; omega)) .nil) ?_ (zdK ws hW (by omega)) ?_
   ·simp only [List.drop_zero, zdp]
    rw [List.take_of_length_le (by omega)]
    exact LeL.refl _
   ·rw [hval]
    exact we zc0
set_option maxHeartbeats 4000000
theorem zh9  : CallOK Tryz.prog gl 73 [.sl 1 (u32s (words 0))] (.v (.int .i64 1099511627776)) := by
 refine okC 20 Tryz.call73 Tryz.func73 Tryz.ntmps73 Tryz.results73 ?_
 rw [zay]
 repeat' (first | simp only [go_sem, seval, zer] | simp (disch := omega) only [wA] | (refine zbi 1 _ rfl ?_) | refine aI ?_ | refine dI ?_ | refine dG ?_ | ((first | refine cC ?_ ?_ | refine gS ?_ ?_ | refine dS ?_ ?_) <;> intro hc <;> simp only [hc] <;> try simp only [dcA] at hc <;> try omega) | refine aP ?_ | refine dP ?_)
 exact zal trivial rfl
theorem shr_word {y P Q : Nat} (hP : 0 < P) (h : P * Q = 4294967296) : (y % (4294967296 * 4294967296)) / P % 4294967296 = y / P % 4294967296 := by
 have h1 := Nat.div_add_mod y (4294967296 * 4294967296)
 generalize y % (4294967296 * 4294967296) = t at *
 generalize y / (4294967296 * 4294967296) = q at *
 have e : y = P * (Q * 4294967296 * q) + t := by rw [← h1, ← Nat.mul_assoc, ← Nat.mul_assoc, h]
 rw [e, Nat.mul_add_div hP, Nat.mul_comm Q, Nat.mul_assoc, Nat.mul_add_mod]
theorem znj (ws : List Nat) (h : Wd ws) (p : Nat) : ws.getD (p + 1) 0 * 4294967296 + ws.getD p 0 = val ws / 4294967296 ^ p % (4294967296 * 4294967296) := by
 rw [zc9 h, zc9 h, Nat.pow_succ, ← Nat.div_div_eq_div_mul]
 omega
theorem zb9 (a n : Nat) (ha : (words a).length ≤ 1099511627776) (hn : n ≤ 1099511627776) : CallOK Tryz.prog gl 74 [.sl 1 (u32s (words a)), .v (.int .i64 n)] (.sl 1 (u32s (words (a / 2 ^ n)))) := by
 refine okC 55 Tryz.call74 Tryz.func74 Tryz.ntmps74 Tryz.results74 ?_
 have d1 : (n : Int).tdiv 32 = ((n / 32 : Nat) : Int) := rfl
 have d2 : (n : Int).tmod 32 = ((n % 32 : Nat) : Int) := rfl
 have hp := ze3 n
 have hk : n % 32 < 32 := Nat.mod_lt _ (by omega)
 have hwd : n / 32 ≤ n := Nat.div_le_self _ _
 have lt := zaV a
 generalize n / 32 = wd at *
 generalize n % 32 = k at *
 obtain ⟨la, hla⟩ : ∃ la : Nat, la = (words a).length := ⟨_, rfl⟩
 have el : (words a).length = la := hla.symm
 rw [el] at lt
 by_cases h0 : la ≤ wd
 ·
  have e : words (a / 2 ^ n) = [] := by
   rw [zdn, Nat.div_eq_of_lt]
   rw [hp]
   have h1 := zjO h0
   have h2 : 0 < 2 ^ k := Nat.pow_pos (by omega)
   have h3 := Nat.mul_le_mul_left (4294967296 ^ wd) h2
   rw [Nat.mul_one] at h3
   omega
  rw [e]
  clear hp
  repeat' (first | simp only [go_sem, seval, zaa, el, d1, d2] | simp (disch := omega) only [wA] | refine aI ?_ | refine dI ?_ | refine dG ?_ | ((first | refine cC ?_ ?_ | refine gS ?_ ?_ | refine dS ?_ ?_) <;> intro hc <;> simp only [hc] <;> try simp only [dcA] at hc <;> try omega) | refine aP ?_ | refine dP ?_)
  exact zbQ trivial (Le.nil _)
 ·
  obtain ⟨N, hN⟩ : ∃ N : Nat, la = N + wd := ⟨la - wd, by omega⟩
  have eN : (la : Int) - (wd : Int) = (N : Int) := by omega
  repeat' (first | simp only [go_sem, seval, zaa, el, d1, d2, eN, zdo] | simp (disch := omega) only [wA] | refine aI ?_ | refine dI ?_ | refine dG ?_ | ((first | refine cC ?_ ?_ | refine gS ?_ ?_ | refine dS ?_ ?_) <;> intro hc <;> simp only [hc] <;> try simp only [dcA] at hc <;> try omega) | refine aP ?_ | refine dP ?_)
  refine lL (α := Nat × List Nat) (fun x => ⟨[(0, .sl 1 (u32s (words a))), (26, .v (.int .i64 x.1)), (25, .v (.int .i64 N)), (7, .ps 0 1 0 N), (6, .v (.int .u64 (k))), (5, .v (.int .i64 wd)), (4, .v (.slice none 0 0))], [(0, ⟨1, u32s x.2⟩)], 1⟩) (fun x => x.1 ≤ N ∧ x.2.length = N ∧ Wd x.2 ∧ val (x.2.take x.1) = a / 2 ^ n % 4294967296 ^ x.1) (fun x => N - x.1) ((0, List.replicate N 0)) ?_ ?_ ?_
  ·exact ⟨Nat.zero_le _, by simp, Wd.zeros N, by simp [val, Nat.mod_one]⟩
  ·exact zah
  rintro ⟨i, ws⟩ ⟨hi, hw, hW, hv⟩
  simp only at hi hw hW hv
  by_cases hin : i < N
  ·
   have hx := (Wd.words a).get (i + wd + 1)
   have hy := (Wd.words a).get (i + wd)
   have ra := zaK (ws := words a) (i := i + wd) (by omega)
   have ca := zlS (words a) (i + wd + 1)
   have f5 : (i : Int) + (wd : Int) = ((i + wd : Nat) : Int) := by omega
   have f6 : ((i + wd : Nat) : Int) + 1 = ((i + wd + 1 : Nat) : Int) := by omega
   have h2w := znj (words a) (Wd.words a) (i + wd)
   rw [za7] at h2w
   have hP : 0 < 2 ^ k := Nat.pow_pos (by omega)
   have hword : (((words a).getD (i + wd + 1) 0 * 4294967296 + (words a).getD (i + wd) 0) / 2 ^ k) % 4294967296 = a / 2 ^ n / 4294967296 ^ i % 4294967296 := by
    rw [h2w, shr_word hP (Q := 2 ^ (32 - k)) (by rw [← Nat.pow_add, Nat.add_sub_cancel' (Nat.le_of_lt hk)]), Nat.div_div_eq_div_mul, Nat.div_div_eq_div_mul, hp, Nat.pow_add]
    congr 2
    ac_rfl
   generalize (words a).getD (i + wd + 1) 0 = x at *
   generalize (words a).getD (i + wd) 0 = y at *
   have f0 : (x : Int) * 4294967296 = ((x * 4294967296 : Nat) : Int) := by omega
   have f1 := ziP hx hy
   have f2 : ((x * 4294967296 + y : Nat) : Int) / 2 ^ k = (((x * 4294967296 + y) / 2 ^ k : Nat) : Int) := by simp
   have hz : (x * 4294967296 + y) / 2 ^ k ≤ x * 4294967296 + y := Nat.div_le_self _ _
   have hms := Nat.mod_pow_succ (x := a / 2 ^ n) (b := 4294967296) (k := i)
   rw [← hword] at hms
   generalize (x * 4294967296 + y) / 2 ^ k = z at *
   have f3 := zcw z
   have hr : z % 4294967296 < 4294967296 := Nat.mod_lt _ (by omega)
   generalize z % 4294967296 = r at *
   have hlt : x * 4294967296 + y < 18446744073709551616 := by omega
   generalize hi1 : i + wd = p at *
   clear h2w hword hp
   have r0 := zaK (ws := ws) (i := i) (by omega)
   repeat' (first | simp only [go_sem, seval, zaa, el, ra, r0, f0, f1, f2, f3, f5, f6, zeq] | simp (disch := omega) only [wA] | (with_reducible first | refine cA ?_ | refine dA ?_) | refine aI ?_ | refine dI ?_ | refine dG ?_ | ((first | refine cC ?_ ?_ | refine gS ?_ ?_ | refine dS ?_ ?_) <;> intro hc <;> simp only [hc] <;> try simp only [dcA] at hc <;> try omega) | refine aP ?_ | refine dP ?_)
   refine zac (α := Nat × List Nat) (i + 1, ws.set i r) ?_ ?_ ?_
   ·refine ⟨by omega, by simp [hw], hW.set i hr, ?_⟩
    show val ((ws.set i r).take (i + 1)) = _
    rw [zcR (by omega), hv, hms]
   ·show N - (i + 1) < N - i
    omega
   ·exact zah
  ·
   have hi1 : i = N := by omega
   subst hi1
   have hval : val ws = a / 2 ^ n := by
    rw [List.take_of_length_le (by omega)] at hv
    rw [hv, Nat.mod_eq_of_lt]
    rw [hp, ← Nat.div_div_eq_div_mul]
    refine Nat.lt_of_le_of_lt (Nat.div_le_self _ _) ?_
    rw [Nat.div_lt_iff_lt_mul (Nat.pow_pos (by omega)), ← Nat.pow_add, ← hN]
    exact lt
   clear hp
   repeat' (first | simp only [go_sem, seval, zaa] | simp (disch := omega) only [wA] | refine aI ?_ | refine dI ?_ | refine dG ?_ | ((first | refine cC ?_ ?_ | refine gS ?_ ?_ | refine dS ?_ ?_) <;> intro hc <;> simp only [hc] <;> try simp only [dcA] at hc <;> try omega) | refine aP ?_ | refine dP ?_)
   refine zel 0 rfl (.cons (zgf rfl (by show 0 + i ≤ (u32s ws).length; rw [zaa]; omega)) .nil) ?_ (zdK ws hW (by omega)) ?_
   ·simp only [List.drop_zero, zdp]
    rw [List.take_of_length_le (by omega)]
    exact LeL.refl _
   ·rw [hval]
    exact we zc0
theorem zn7 (u : Nat) (hu : u < 18446744073709551616) : CallOK Tryz.prog gl 40 [.v (.int .u64 (u))] (.sl 1 (u32s (words u))) := by
 refine okC 10 Tryz.call40 Tryz.func40 Tryz.ntmps40 Tryz.results40 ?_
 have f1 := zcw u
 have f2 : (u : Int) / 4294967296 = ((u / 4294967296 : Nat) : Int) := rfl
 have hq : u / 4294967296 < 4294967296 := by omega
 have hr : u % 4294967296 < 4294967296 := Nat.mod_lt _ (by omega)
 have hv : val [u % 4294967296, u / 4294967296] = u := by simp only [val]; omega
 have f3 := zcw (u / 4294967296)
 rw [Nat.mod_eq_of_lt hq] at f3
 have hW : Wd [u % 4294967296, u / 4294967296] := Wd.cons hr (Wd.cons hq Wd.nil)
 generalize u % 4294967296 = r at *
 generalize u / 4294967296 = q at *
 have tr := zdK [r, q] hW (by simp)
 rw [hv] at tr
 simp only [u32s, u32, List.map_cons, List.map_nil] at tr
 exact we (zc3 f1 f2 f3)
set_option maxHeartbeats 4000000
theorem zdT (s : Bool) (ws : List Nat) (d : Int) (hl : ws.length ≤ 4611686018427387904) : CallOK Tryz.prog gl 28 [.agg [.v (.bool s), .sl 1 (u32s ws), .v (.int .i64 d)]] (.v (.bool (zcJ s ws d))) := by
 refine okC 47 Tryz.call28 Tryz.func28 Tryz.ntmps28 Tryz.results28 ?_
 by_cases h1 : d < 0 ∨ 65536 < d
 ·have e : zcJ s ws d = false := by unfold zcJ; rw [if_pos h1]
  rw [e]
  repeat' (first | simp only [go_sem, seval, zaa] | simp (disch := omega) only [wA] | refine aI ?_ | refine dI ?_ | refine dG ?_ | ((first | refine cC ?_ ?_ | refine gS ?_ ?_ | refine dS ?_ ?_) <;> intro hc <;> simp only [hc] <;> try simp only [dcA] at hc <;> try omega) | refine aP ?_ | refine dP ?_)
  all_goals first | exact zal trivial rfl | (exfalso; simp at *; omega)
 ·by_cases h2 : ws.length = 0
  ·have : ws = [] := List.length_eq_zero_iff.1 h2
   subst this
   have e : zcJ s [] d = (!s && decide (d = 0)) := by unfold zcJ; rw [if_neg h1, if_pos h2]
   rw [e]
   cases s
   ·
    repeat' (first | simp only [go_sem, seval, zer] | simp (disch := omega) only [wA] | refine aI ?_ | refine dI ?_ | refine dG ?_ | ((first | refine cC ?_ ?_ | refine gS ?_ ?_ | refine dS ?_ ?_) <;> intro hc <;> simp only [hc] <;> try simp only [dcA] at hc <;> try omega) | refine aP ?_ | refine dP ?_)
    all_goals (refine zal trivial ?_; simp [one])
   ·
    repeat' (first | simp only [go_sem, seval, zer] | simp (disch := omega) only [wA] | refine aI ?_ | refine dI ?_ | refine dG ?_ | ((first | refine cC ?_ ?_ | refine gS ?_ ?_ | refine dS ?_ ?_) <;> intro hc <;> simp only [hc] <;> try simp only [dcA] at hc <;> try omega) | refine aP ?_ | refine dP ?_)
    all_goals (refine zal trivial ?_; simp [one])
  ·have e : zcJ s ws d = (decide (ws.getD (ws.length - 1) 0 ≠ 0) && (decide (d = 0) || decide (ws.getD 0 0 % 2 = 1))) := by unfold zcJ; rw [if_neg h1, if_neg h2]
   have r0 := zaK (ws := ws) (i := 0) (by omega)
   obtain ⟨n, hn⟩ : ∃ n, ws.length = n + 1 := ⟨ws.length - 1, by omega⟩
   have r1 := zaK (ws := ws) (i := n) (by omega)
   have e1 : ((n + 1 : Nat) : Int) - 1 = (n : Int) := by omega
   rw [e]
   rw [show ws.length - 1 = n by omega]
   have hx : (ws.getD 0 0 : Int).tmod 2 = ((ws.getD 0 0 % 2 : Nat) : Int) := rfl
   generalize ws.getD n 0 = a at *
   generalize ws.getD 0 0 = b at *
   by_cases ha : a = 0
   ·subst ha
    repeat' (first | simp only [go_sem, seval, zaa, hn, e1, r0, r1, hx] | simp (disch := omega) only [wA] | refine aI ?_ | refine dI ?_ | refine dG ?_ | ((first | refine cC ?_ ?_ | refine gS ?_ ?_ | refine dS ?_ ?_) <;> intro hc <;> simp only [hc] <;> try simp only [dcA] at hc <;> try omega) | refine aP ?_ | refine dP ?_)
    all_goals (refine zal trivial ?_; simp [one])
   ·have ha' : ¬ (a : Int) = 0 := by omega
    by_cases hd : d = 0
    ·subst hd
     repeat' (first | simp only [go_sem, seval, zaa, hn, e1, r0, r1, hx] | simp (disch := omega) only [wA] | refine aI ?_ | refine dI ?_ | refine dG ?_ | ((first | refine cC ?_ ?_ | refine gS ?_ ?_ | refine dS ?_ ?_) <;> intro hc <;> simp only [hc] <;> try simp only [dcA] at hc <;> try omega) | refine aP ?_ | refine dP ?_)
     all_goals (refine zal trivial ?_; simp [one, ha])
    ·
     repeat' (first | simp only [go_sem, seval, zaa, hn, e1, r0, r1, hx] | simp (disch := omega) only [wA] | refine aI ?_ | refine dI ?_ | refine dG ?_ | ((first | refine cC ?_ ?_ | refine gS ?_ ?_ | refine dS ?_ ?_) <;> intro hc <;> simp only [hc] <;> try simp only [dcA] at hc <;> try omega) | refine aP ?_ | refine dP ?_)
     all_goals (refine zal trivial ?_; simp [one, ha, hd]; try omega)
theorem zb6 (s : Bool) (ws : List Nat) (d : Int) (x : Dy) (h : Arg s ws d x) : CallOK Tryz.prog gl 35 [.agg [.v (.bool s), .sl 1 (u32s ws), .v (.int .i64 d)]] (.tup [.v (.bool (sg x)), .sl 1 (u32s (ms x)), .v (.int .i64 (dn x))]) := by
 refine okC 14 Tryz.call35 Tryz.func35 Tryz.ntmps35 Tryz.results35 ?_
 have va := zdT s ws d (by have := h.len; omega)
 rcases h.is with ⟨hv, rfl, h2, rfl⟩ | ⟨hv, rfl⟩
 ·subst h2
  rw [hv] at va
  exact we zc0
 ·rw [hv] at va
  rw [zeR]
  repeat' (first | simp only [go_sem, seval] | simp (disch := omega) only [wA] | (with_reducible first | refine cA ?_ | refine dA ?_) | refine aI ?_ | refine dI ?_ | refine dG ?_ | ((first | refine cC ?_ ?_ | refine gS ?_ ?_ | refine dS ?_ ?_) <;> intro hc <;> simp only [hc] <;> try simp only [dcA] at hc <;> try omega) | refine aP ?_ | refine dP ?_)
  exact zbQ trivial (Le.tup (.cons (.refl _) (.cons (Le.nil _) (.cons (.refl _) .nil))))
set_option maxHeartbeats 4000000
theorem zbx (s : Bool) (ws : List Nat) (den : Int) (hW : Wd ws) (hl : ws.length ≤ 1099511627776) (h0 : 0 ≤ den) (h1 : den ≤ 549755813888) : CallOK Tryz.prog gl 36 [.v (.bool (s)), .sl 1 (u32s (ws)), .v (.int .i64 den)] (.agg [.v (.bool (sg (nrm (sgn s (val ws)) den.toNat))), .sl 1 (u32s (ms (nrm (sgn s (val ws)) den.toNat))), .v (.int .i64 (dn (nrm (sgn s (val ws)) den.toNat)))]) := by
 refine okC 48 Tryz.call36 Tryz.func36 Tryz.ntmps36 Tryz.results36 ?_
 obtain ⟨e, rfl⟩ : ∃ e : Nat, den = e := ⟨den.toNat, by omega⟩
 rw [Int.toNat_natCast]
 have tr := zdK ws hW (by omega)
 have hlm : (words (val ws)).length ≤ 1099511627776 := Nat.le_trans (zmw hW).2 hl
 generalize val ws = m at *
 by_cases hm : m = 0
 ·subst hm
  have ze := zh9
  have ri := zb9 0 e (by rw [zay]; simp) (by omega)
  have e1 : min (1099511627776 : Int) (e : Int) = e := by omega
  have e2 : (e : Int) - e = 0 := by omega
  simp only [zay, zer, Nat.zero_div] at tr ze ri
  rw [zdH, ziU]
  repeat' (first | simp only [go_sem, seval, e1, e2] | simp (disch := omega) only [wA] | (with_reducible first | refine cF tr ?_ | refine dF tr ?_ | refine cF ze ?_ | refine dF ze ?_ | refine cF ri ?_ | refine dF ri ?_) | refine aI ?_ | refine dI ?_ | refine dG ?_ | ((first | refine cC ?_ ?_ | refine gS ?_ ?_ | refine dS ?_ ?_) <;> intro hc <;> simp only [hc] <;> try simp only [dcA] at hc <;> try omega) | refine aP ?_ | refine dP ?_)
  all_goals exact zbQ trivial Le.dy0
 obtain ⟨k, q, hk⟩ := ziS m hm
 have ze := zjT m k q hk hlm
 have hst := zgQ (den := e) hk
 have e1 : min (k : Int) (e : Int) = ((min k e : Nat) : Int) := by omega
 have hze : min k e ≤ e := Nat.min_le_right _ _
 have hzk : min k e ≤ k := Nat.min_le_left _ _
 generalize min k e = z at *
 obtain ⟨n1, hn1⟩ : ∃ n1, n1 = m / 2 ^ z := ⟨_, rfl⟩
 obtain ⟨d1, hd1⟩ : ∃ d1, d1 = e - z := ⟨_, rfl⟩
 have ri := zb9 m z hlm (by omega)
 rw [← hn1, ← hd1] at hst
 rw [← hn1] at ri
 have e2 : (e : Int) - (z : Int) = (d1 : Int) := by omega
 have hn0 : n1 ≠ 0 := by
  rw [hn1]
  have hz : 2 ^ z ≤ m := by
   rw [hk]
   have h2 : 2 ^ z ≤ 2 ^ k := Nat.pow_le_pow_right (by omega) hzk
   exact Nat.le_trans h2 (Nat.le_mul_of_pos_right _ (by omega))
  have := Nat.div_pos hz (Nat.pow_pos (by omega)); omega
 have hl1 : (words n1).length ≤ 1099511627776 := by rw [hn1]; exact zcx hlm
 have hpos : 0 < (words n1).length := za4.2 hn0
 by_cases hd : d1 ≤ 65536
 ·have hr := res_one (s := s) (m := m) (den := e) (by rw [hst]; exact hd)
  rw [hst] at hr
  obtain ⟨r1, r2⟩ := hr
  simp only at r1 r2
  have hne : (nrm (sgn s m) e).n ≠ 0 := fun h => by
   have h2 : words (nrm (sgn s m) e).n.natAbs = words n1 := r1
   rw [h, Int.natAbs_zero, zay] at h2
   rw [← h2] at hpos; simp at hpos
  rw [sg_nrm hne, r1, r2]
  clear ri hst r1 r2 hne hk
  rcases Nat.eq_zero_or_pos z with hz | hz
  ·subst hz
   rw [Nat.pow_zero, Nat.div_one] at hn1
   subst hn1
   rw [Nat.sub_zero] at hd1
   subst hd1
   repeat' (first | simp only [go_sem, seval, e1, zaa] | simp (disch := omega) only [wA] | (with_reducible first | refine cF tr ?_ | refine dF tr ?_ | refine cF ze ?_ | refine dF ze ?_) | (refine zas za1 rfl rfl rfl rfl ⟨rfl, by decide⟩ rfl ⟨trivial, by (try simp only [List.length_cons, List.length_nil, List.length_append, zaa, List.length_map]); omega, by (try simp only [List.length_cons, List.length_nil, List.length_append, zaa, List.length_map]); omega⟩ (fun _ => zbj) ?_) | (refine zar za1 rfl rfl rfl rfl rfl ⟨rfl, rfl, by decide, Nat.le_of_ble_eq_true rfl⟩ (fun h => by first | (cases h; done) | decide) rfl ⟨trivial, by (try simp only [List.length_cons, List.length_nil, List.length_append, zaa, List.length_map]); omega, by (try simp only [List.length_cons, List.length_nil, List.length_append, zaa, List.length_map]); omega, by (try simp only [List.length_cons, List.length_nil, List.length_append, zaa, List.length_map]); omega⟩ zbj zfC zfB ?_) | refine aI ?_ | refine dI ?_ | refine dG ?_ | ((first | refine cC ?_ ?_ | refine gS ?_ ?_ | refine dS ?_ ?_) <;> intro hc <;> simp only [hc] <;> try simp only [dcA] at hc <;> try omega) | refine aP ?_ | refine dP ?_)
   all_goals (refine zci trivial (.one (.agg (.cons .same (.cons (.ps rfl rfl (by simp [zaa])) (.cons .same .nil))))) ?_; simp [zaa, List.take_of_length_le]; exact .refl _)
  ·have ri := zb9 m z hlm (by omega)
   rw [← hn1] at ri
   repeat' (first | simp only [go_sem, seval, e1, e2, zaa] | simp (disch := omega) only [wA] | (with_reducible first | refine cF tr ?_ | refine dF tr ?_ | refine cF ze ?_ | refine dF ze ?_ | refine cF ri ?_ | refine dF ri ?_) | (refine zas za1 rfl rfl rfl rfl ⟨rfl, by decide⟩ rfl ⟨trivial, by (try simp only [List.length_cons, List.length_nil, List.length_append, zaa, List.length_map]); omega, by (try simp only [List.length_cons, List.length_nil, List.length_append, zaa, List.length_map]); omega⟩ (fun _ => zbj) ?_) | (refine zar za1 rfl rfl rfl rfl rfl ⟨rfl, rfl, by decide, Nat.le_of_ble_eq_true rfl⟩ (fun h => by first | (cases h; done) | decide) rfl ⟨trivial, by (try simp only [List.length_cons, List.length_nil, List.length_append, zaa, List.length_map]); omega, by (try simp only [List.length_cons, List.length_nil, List.length_append, zaa, List.length_map]); omega, by (try simp only [List.length_cons, List.length_nil, List.length_append, zaa, List.length_map]); omega⟩ zbj zfC zfB ?_) | refine aI ?_ | refine dI ?_ | refine dG ?_ | ((first | refine cC ?_ ?_ | refine gS ?_ ?_ | refine dS ?_ ?_) <;> intro hc <;> simp only [hc] <;> try simp only [dcA] at hc <;> try omega) | refine aP ?_ | refine dP ?_)
   all_goals (refine zci trivial (.one (.agg (.cons .same (.cons (.ps rfl rfl (by simp [zaa])) (.cons .same .nil))))) ?_; simp [zaa, List.take_of_length_le]; exact .refl _)
 ·have hr := res_two (s := s) (m := m) (den := e) (by rw [hst]; exact hd)
  rw [hst] at hr
  simp only at hr
  have rj := zb9 n1 (d1 - 65536) hl1 (by omega)
  have e3 : (d1 : Int) - 65536 = ((d1 - 65536 : Nat) : Int) := by omega
  have hl2 : (words (n1 / 2 ^ (d1 - 65536))).length ≤ 1099511627776 := zcx hl1
  generalize n1 / 2 ^ (d1 - 65536) = n2 at *
  generalize hx : nrm (sgn s m) e = x at *
  by_cases hm2 : n2 = 0
  ·subst hm2
   rw [zdq, zay] at hr
   have hx0 := zon.1 hr.1
   subst hx0
   have zf := zh9
   have rk := zb9 0 65536 (by rw [zay]; simp) (by omega)
   have e4 : min (1099511627776 : Int) 65536 = 65536 := by omega
   simp only [zay, zer, Nat.zero_div] at zf rk rj
   have rk : CallOK _ _ _ _ _ := rk
   clear hst hk hr hx ri
   rcases Nat.eq_zero_or_pos z with hz | hz
   ·subst hz
    rw [Nat.pow_zero, Nat.div_one] at hn1
    subst hn1
    rw [Nat.sub_zero] at hd1
    subst hd1
    repeat' (first | simp only [go_sem, seval, e1, e3, e4, zaa] | simp (disch := omega) only [wA] | (with_reducible first | refine cF tr ?_ | refine dF tr ?_ | refine cF ze ?_ | refine dF ze ?_ | refine cF rj ?_ | refine dF rj ?_ | refine cF zf ?_ | refine dF zf ?_ | refine cF rk ?_ | refine dF rk ?_) | refine aI ?_ | refine dI ?_ | refine dG ?_ | ((first | refine cC ?_ ?_ | refine gS ?_ ?_ | refine dS ?_ ?_) <;> intro hc <;> simp only [hc] <;> try simp only [dcA] at hc <;> try omega) | refine aP ?_ | refine dP ?_)
    all_goals exact zbQ trivial Le.dy0
   ·have ri := zb9 m z hlm (by omega)
    rw [← hn1] at ri
    repeat' (first | simp only [go_sem, seval, e1, e2, e3, e4, zaa] | simp (disch := omega) only [wA] | (with_reducible first | refine cF tr ?_ | refine dF tr ?_ | refine cF ze ?_ | refine dF ze ?_ | refine cF ri ?_ | refine dF ri ?_ | refine cF rj ?_ | refine dF rj ?_ | refine cF zf ?_ | refine dF zf ?_ | refine cF rk ?_ | refine dF rk ?_) | refine aI ?_ | refine dI ?_ | refine dG ?_ | ((first | refine cC ?_ ?_ | refine gS ?_ ?_ | refine dS ?_ ?_) <;> intro hc <;> simp only [hc] <;> try simp only [dcA] at hc <;> try omega) | refine aP ?_ | refine dP ?_)
    all_goals exact zbQ trivial Le.dy0
  ·obtain ⟨k2, q2, hk2⟩ := ziS n2 hm2
   have zf := zjT n2 k2 q2 hk2 hl2
   rw [zgQ hk2] at hr
   have e4 : min (k2 : Int) 65536 = ((min k2 65536 : Nat) : Int) := by omega
   have hz2 : min k2 65536 ≤ 65536 := Nat.min_le_right _ _
   have hzk2 : min k2 65536 ≤ k2 := Nat.min_le_left _ _
   generalize min k2 65536 = z2 at *
   have rk := zb9 n2 z2 hl2 (by omega)
   have e5 : (65536 : Int) - (z2 : Int) = ((65536 - z2 : Nat) : Int) := by omega
   have hn3 : n2 / 2 ^ z2 ≠ 0 := by
    have hz : 2 ^ z2 ≤ n2 := by
     rw [hk2]
     have h2 : 2 ^ z2 ≤ 2 ^ k2 := Nat.pow_le_pow_right (by omega) hzk2
     exact Nat.le_trans h2 (Nat.le_mul_of_pos_right _ (by omega))
    have := Nat.div_pos hz (Nat.pow_pos (by omega)); omega
   have hl3 : (words (n2 / 2 ^ z2)).length ≤ 1099511627776 := zcx hl2
   have hpos3 : 0 < (words (n2 / 2 ^ z2)).length := za4.2 hn3
   obtain ⟨r1, r2⟩ := hr
   simp only at r1 r2
   have hne : x.n ≠ 0 := fun h => by
    have h2 : words x.n.natAbs = words (n2 / 2 ^ z2) := r1
    rw [h, Int.natAbs_zero, zay] at h2
    rw [← h2] at hpos3; simp at hpos3
   have hsg : sg x = s := by rw [← hx] at hne ⊢; exact sg_nrm hne
   rw [hsg, r1, r2]
   clear ri hst r1 r2 hne hk hsg hx hk2
   generalize n2 / 2 ^ z2 = n3 at *
   rcases Nat.eq_zero_or_pos z with hz | hz
   ·subst hz
    rw [Nat.pow_zero, Nat.div_one] at hn1
    subst hn1
    rw [Nat.sub_zero] at hd1
    subst hd1
    repeat' (first | simp only [go_sem, seval, e1, e3, e4, e5, zaa] | simp (disch := omega) only [wA] | (with_reducible first | refine cF tr ?_ | refine dF tr ?_ | refine cF ze ?_ | refine dF ze ?_ | refine cF rj ?_ | refine dF rj ?_ | refine cF zf ?_ | refine dF zf ?_ | refine cF rk ?_ | refine dF rk ?_) | (refine zas za1 rfl rfl rfl rfl ⟨rfl, by decide⟩ rfl ⟨trivial, by (try simp only [List.length_cons, List.length_nil, List.length_append, zaa, List.length_map]); omega, by (try simp only [List.length_cons, List.length_nil, List.length_append, zaa, List.length_map]); omega⟩ (fun _ => zbj) ?_) | (refine zar za1 rfl rfl rfl rfl rfl ⟨rfl, rfl, by decide, Nat.le_of_ble_eq_true rfl⟩ (fun h => by first | (cases h; done) | decide) rfl ⟨trivial, by (try simp only [List.length_cons, List.length_nil, List.length_append, zaa, List.length_map]); omega, by (try simp only [List.length_cons, List.length_nil, List.length_append, zaa, List.length_map]); omega, by (try simp only [List.length_cons, List.length_nil, List.length_append, zaa, List.length_map]); omega⟩ zbj zfC zfB ?_) | refine aI ?_ | refine dI ?_ | refine dG ?_ | ((first | refine cC ?_ ?_ | refine gS ?_ ?_ | refine dS ?_ ?_) <;> intro hc <;> simp only [hc] <;> try simp only [dcA] at hc <;> try omega) | refine aP ?_ | refine dP ?_)
    all_goals (refine zci trivial (.one (.agg (.cons .same (.cons (.ps rfl rfl (by simp [zaa])) (.cons .same .nil))))) ?_; simp [zaa, List.take_of_length_le]; exact .refl _)
   ·have ri := zb9 m z hlm (by omega)
    rw [← hn1] at ri
    repeat' (first | simp only [go_sem, seval, e1, e2, e3, e4, e5, zaa] | simp (disch := omega) only [wA] | (with_reducible first | refine cF tr ?_ | refine dF tr ?_ | refine cF ze ?_ | refine dF ze ?_ | refine cF ri ?_ | refine dF ri ?_ | refine cF rj ?_ | refine dF rj ?_ | refine cF zf ?_ | refine dF zf ?_ | refine cF rk ?_ | refine dF rk ?_) | (refine zas za1 rfl rfl rfl rfl ⟨rfl, by decide⟩ rfl ⟨trivial, by (try simp only [List.length_cons, List.length_nil, List.length_append, zaa, List.length_map]); omega, by (try simp only [List.length_cons, List.length_nil, List.length_append, zaa, List.length_map]); omega⟩ (fun _ => zbj) ?_) | (refine zar za1 rfl rfl rfl rfl rfl ⟨rfl, rfl, by decide, Nat.le_of_ble_eq_true rfl⟩ (fun h => by first | (cases h; done) | decide) rfl ⟨trivial, by (try simp only [List.length_cons, List.length_nil, List.length_append, zaa, List.length_map]); omega, by (try simp only [List.length_cons, List.length_nil, List.length_append, zaa, List.length_map]); omega, by (try simp only [List.length_cons, List.length_nil, List.length_append, zaa, List.length_map]); omega⟩ zbj zfC zfB ?_) | refine aI ?_ | refine dI ?_ | refine dG ?_ | ((first | refine cC ?_ ?_ | refine gS ?_ ?_ | refine dS ?_ ?_) <;> intro hc <;> simp only [hc] <;> try simp only [dcA] at hc <;> try omega) | refine aP ?_ | refine dP ?_)
    all_goals (refine zci trivial (.one (.agg (.cons .same (.cons (.ps rfl rfl (by simp [zaa])) (.cons .same .nil))))) ?_; simp [zaa, List.take_of_length_le]; exact .refl _)
set_option maxHeartbeats 4000000
theorem zeY (n : Int) (h : -9223372036854775808 ≤ n ∧ n ≤ 9223372036854775807) : CallOK Tryz.prog gl 15 [.v (.int .i64 n)] (.agg [.v (.bool (sg (Dy.int n))), .sl 1 (u32s (ms (Dy.int n))), .v (.int .i64 (dn (Dy.int n)))]) := by
 refine okC 15 Tryz.call15 Tryz.func15 Tryz.ntmps15 Tryz.results15 ?_
 have ou := zn7 n.natAbs (by omega)
 have hl : (words n.natAbs).length ≤ 2 := zaO (by omega)
 have rs := zbx (decide (n < 0)) (words n.natAbs) 0 (Wd.words _) (by omega) (by omega) (by omega)
 rw [res_int] at rs
 by_cases hn : n < 0
 ·have e1 : IntKind.u64.wrap n = n + 18446744073709551616 := by simp only [IntKind.wrap, IntKind.bits, IntKind.signed]; simp; omega
  have e2 : IntKind.u64.wrap (0 - (n + 18446744073709551616)) = (n.natAbs : Int) := by simp only [IntKind.wrap, IntKind.bits, IntKind.signed]; simp; omega
  exact we (zc2 e1 e2)
 ·have e1 : IntKind.u64.wrap n = (n.natAbs : Int) := by simp only [IntKind.wrap, IntKind.bits, IntKind.signed]; simp; omega
  exact we e1
theorem zfD (s : Bool) (ws : List Nat) (d : Int) (x : Dy) (h : Arg s ws d x) : CallOK Tryz.prog gl 38 [.agg [.v (.bool s), .sl 1 (u32s ws), .v (.int .i64 d)]] (.agg [.v (.bool (sg (x.neg))), .sl 1 (u32s (ms (x.neg))), .v (.int .i64 (dn (x.neg)))]) := by
 refine okC 17 Tryz.call38 Tryz.func38 Tryz.ntmps38 Tryz.results38 ?_
 have pa := zb6 s ws d x h
 have hl := h.mlen
 have hd := zkf x
 have rs := zbx (!sg x) (ms x) (dn x) (zg7 x) (by omega) (by omega) (by omega)
 rw [res_neg] at rs
 exact we zc0
theorem zit (s : Bool) (ws : List Nat) (d : Int) (x : Dy) (h : Arg s ws d x) : CallOK Tryz.prog gl 12 [.agg [.v (.bool s), .sl 1 (u32s ws), .v (.int .i64 d)]] (.agg [.v (.bool (sg (x.abs))), .sl 1 (u32s (ms (x.abs))), .v (.int .i64 (dn (x.abs)))]) := by
 refine okC 15 Tryz.call12 Tryz.func12 Tryz.ntmps12 Tryz.results12 ?_
 have pa := zb6 s ws d x h
 have hl := h.mlen
 have hd := zkf x
 have rs := zbx false (ms x) (dn x) (zg7 x) (by omega) (by omega) (by omega)
 rw [res_abs] at rs
 exact we zc0
theorem zf3 (s : Bool) (ws : List Nat) (d : Int) (x : Dy) (h : Arg s ws d x) : CallOK Tryz.prog gl 41 [.agg [.v (.bool s), .sl 1 (u32s ws), .v (.int .i64 d)]] (.v (.int .i64 x.sign)) := by
 refine okC 18 Tryz.call41 Tryz.func41 Tryz.ntmps41 Tryz.results41 ?_
 have pa := zb6 s ws d x h
 have hl := h.mlen
 rw [zkG]
 by_cases h0 : x.n = 0
 ·have h1 : (ms x).length = 0 := by show (words x.n.natAbs).length = 0; rw [h0, Int.natAbs_zero, zay]; rfl
  rw [if_pos h0]
  exact weu h1
 ·have h1 : 0 < (ms x).length := za4.2 (by omega)
  rw [if_neg h0]
  cases hs : sg x
  ·rw [hs] at pa
   exact weu zc0
  ·rw [hs] at pa
   exact weu zc0
theorem zmt (s : Bool) (ws : List Nat) (d : Int) (s' : Bool) (ws' : List Nat) (d' : Int) (x y : Dy) (h : Arg s ws d x) (h' : Arg s' ws' d' y) : CallOK Tryz.prog gl 42 [.agg [.v (.bool s), .sl 1 (u32s ws), .v (.int .i64 d)], .agg [.v (.bool s'), .sl 1 (u32s ws'), .v (.int .i64 d')]] (.tup [.v (.bool (sg x)), .sl 1 (u32s (words (x.n.natAbs * 2 ^ (max x.d y.d - x.d)))), .v (.bool (sg y)), .sl 1 (u32s (words (y.n.natAbs * 2 ^ (max x.d y.d - y.d)))), .v (.int .i64 (((max x.d y.d : Nat) : Int)))]) := by
 refine okC 39 Tryz.call42 Tryz.func42 Tryz.ntmps42 Tryz.results42 ?_
 have pa := zb6 s ws d x h
 have pb := zb6 s' ws' d' y h'
 have hl : (words x.n.natAbs).length ≤ _ := h.mlen
 have hl' : (words y.n.natAbs).length ≤ _ := h'.mlen
 have hd := x.ok.1
 have hd' := y.ok.1
 have e1 := max_dn x y
 have e2 : ((max x.d y.d : Nat) : Int) - dn x = ((max x.d y.d - x.d : Nat) : Int) := by unfold dn; omega
 have e3 : ((max x.d y.d : Nat) : Int) - dn y = ((max x.d y.d - y.d : Nat) : Int) := by unfold dn; omega
 have la := ziV x.n.natAbs (max x.d y.d - x.d) (by omega) (by omega)
 have lb := ziV y.n.natAbs (max x.d y.d - y.d) (by omega) (by omega)
 have hD : max x.d y.d ≤ 65536 := by omega
 generalize x.n.natAbs * 2 ^ (max x.d y.d - x.d) = a at *
 generalize y.n.natAbs * 2 ^ (max x.d y.d - y.d) = b at *
 have g1 : max x.d y.d - x.d ≤ 65536 := by omega
 have g2 : max x.d y.d - y.d ≤ 65536 := by omega
 generalize max x.d y.d - x.d = k at *
 generalize max x.d y.d - y.d = l at *
 generalize max x.d y.d = D at *
 exact we (zc3 e1 e2 e3)
set_option maxHeartbeats 4000000
theorem zb2 (s : Bool) (ws : List Nat) (d : Int) (s' : Bool) (ws' : List Nat) (d' : Int) (x y : Dy) (h : Arg s ws d x) (h' : Arg s' ws' d' y) : CallOK Tryz.prog gl 16 [.agg [.v (.bool s), .sl 1 (u32s ws), .v (.int .i64 d)], .agg [.v (.bool s'), .sl 1 (u32s ws'), .v (.int .i64 d')]] (.v (.int .i64 ((x.cmp y)))) := by
 refine okC 39 Tryz.call16 Tryz.func16 Tryz.ntmps16 Tryz.results16 ?_
 have sa := zf3 s ws d x h
 have sb := zf3 s' ws' d' y h'
 have al := zmt s ws d s' ws' d' x y h h'
 have hl : (words x.n.natAbs).length ≤ _ := h.mlen
 have hl' : (words y.n.natAbs).length ≤ _ := h'.mlen
 have hd := x.ok.1
 have hd' := y.ok.1
 by_cases hs : x.sign = y.sign
 ·have key := cmp_same hs rfl rfl
  have la := zb3 (a := x.n.natAbs) (n := max x.d y.d - x.d) (by omega)
  have lb := zb3 (a := y.n.natAbs) (n := max x.d y.d - y.d) (by omega)
  generalize x.n.natAbs * 2 ^ (max x.d y.d - x.d) = a at *
  generalize y.n.natAbs * 2 ^ (max x.d y.d - y.d) = b at *
  have co := zg6 a b (by omega) (by omega)
  generalize max x.d y.d = D at *
  have hb : -1 ≤ zhM a b ∧ zhM a b ≤ 1 := by unfold zhM; split <;> (try split) <;> omega
  have key : x.cmp y = if sg x then -(zhM a b) else zhM a b := key
  generalize zhM a b = c at *
  generalize x.sign = p at *
  generalize y.sign = q at *
  have e0 : (0 : Int) - c = -c := by omega
  cases hx : sg x
  ·rw [hx] at key al
   rw [key]
   exact we zc0
  ·rw [hx] at key al
   rw [key]
   exact we e0
 ·have key := zpm hs
  rw [key]
  generalize x.sign = p at *
  generalize y.sign = q at *
  by_cases hpq : p < q
  ·rw [if_pos hpq]
   exact we zc0
  ·rw [if_neg hpq]
   exact we zc0
theorem zbT (s : Bool) (ws : List Nat) (d : Int) (s' : Bool) (ws' : List Nat) (d' : Int) (x y : Dy) (h : Arg s ws d x) (h' : Arg s' ws' d' y) : CallOK Tryz.prog gl 37 [.agg [.v (.bool s), .sl 1 (u32s ws), .v (.int .i64 d)], .agg [.v (.bool s'), .sl 1 (u32s ws'), .v (.int .i64 d')]] (.agg [.v (.bool (sg (x.add y))), .sl 1 (u32s (ms (x.add y))), .v (.int .i64 (dn (x.add y)))]) := by
 refine okC 48 Tryz.call37 Tryz.func37 Tryz.ntmps37 Tryz.results37 ?_
 have al := zmt s ws d s' ws' d' x y h h'
 have hl : (words x.n.natAbs).length ≤ _ := h.mlen
 have hl' : (words y.n.natAbs).length ≤ _ := h'.mlen
 have hd := x.ok.1
 have hd' := y.ok.1
 have la := zb3 (a := x.n.natAbs) (n := max x.d y.d - x.d) (by omega)
 have lb := zb3 (a := y.n.natAbs) (n := max x.d y.d - y.d) (by omega)
 have hr := fun s m => res_add (x := x) (y := y) (s := s) (m := m)
 have hD : max x.d y.d ≤ 65536 := by omega
 generalize x.n.natAbs * 2 ^ (max x.d y.d - x.d) = a at *
 generalize y.n.natAbs * 2 ^ (max x.d y.d - y.d) = b at *
 have co := zg6 a b (by omega) (by omega)
 generalize max x.d y.d = D at *
 by_cases hst : sg x = sg y
 ·have ad := zoi a b (by omega) (by omega)
  have lab := ze1 (a := a) (b := b) (k := 68719478784) (by omega) (by omega)
  have rs := zbx (sg x) (words (a + b)) D (Wd.words _) (by omega) (by omega) (by omega)
  rw [hr (sg x) (a + b) (by rw [zjF, ← hst])] at rs
  rw [← hst] at al
  exact we zc0
 ·have hst' : ¬ (sg x = sg y) := hst
  have e1 : decide (sg x = sg y) = false := decide_eq_false hst
  by_cases hab : b ≤ a
  ·have sb := zoh a b hab (by omega)
   have lab := ze0 (a := a) (b := b) (k := 68719478784) (by omega)
   have rs := zbx (sg x) (words (a - b)) D (Wd.words _) (by omega) (by omega) (by omega)
   rw [hr (sg x) (a - b) (ze7 hab hst)] at rs
   have hc0 : 0 ≤ zhM a b := by unfold zhM; split <;> (try split) <;> omega
   generalize zhM a b = c at *
   exact we e1
  ·have sb := zoh b a (by omega) (by omega)
   have lab := ze0 (a := b) (b := a) (k := 68719478784) (by omega)
   have rs := zbx (sg y) (words (b - a)) D (Wd.words _) (by omega) (by omega) (by omega)
   rw [hr (sg y) (b - a) (by rw [ze7 (t := sg x) (by omega) (fun h => hst h.symm)]; omega)] at rs
   have hc0 : zhM a b < 0 := by unfold zhM; split <;> (try split) <;> omega
   generalize zhM a b = c at *
   exact we e1
theorem Sub_ok (s : Bool) (ws : List Nat) (d : Int) (s' : Bool) (ws' : List Nat) (d' : Int) (x y : Dy) (h : Arg s ws d x) (h' : Arg s' ws' d' y) : CallOK Tryz.prog gl 13 [.agg [.v (.bool s), .sl 1 (u32s ws), .v (.int .i64 d)], .agg [.v (.bool s'), .sl 1 (u32s ws'), .v (.int .i64 d')]] (.agg [.v (.bool (sg (x.sub y))), .sl 1 (u32s (ms (x.sub y))), .v (.int .i64 (dn (x.sub y)))]) := by
 refine okC 9 Tryz.call13 Tryz.func13 Tryz.ntmps13 Tryz.results13 ?_
 have ne := zfD s' ws' d' y h'
 have ad := zbT s ws d _ _ _ x y.neg h (h'.neg_of)
 exact we zc0
theorem zdd (s : Bool) (ws : List Nat) (d : Int) (s' : Bool) (ws' : List Nat) (d' : Int) (x y : Dy) (h : Arg s ws d x) (h' : Arg s' ws' d' y) : CallOK Tryz.prog gl 69 [.agg [.v (.bool s), .sl 1 (u32s ws), .v (.int .i64 d)], .agg [.v (.bool s'), .sl 1 (u32s ws'), .v (.int .i64 d')]] (.agg [.v (.bool (sg (x.mul y))), .sl 1 (u32s (ms (x.mul y))), .v (.int .i64 (dn (x.mul y)))]) := by
 refine okC 33 Tryz.call69 Tryz.func69 Tryz.ntmps69 Tryz.results69 ?_
 have pa := zb6 s ws d x h
 have pb := zb6 s' ws' d' y h'
 have hl : (words x.n.natAbs).length ≤ _ := h.mlen
 have hl' : (words y.n.natAbs).length ≤ _ := h'.mlen
 have hd := zkf x
 have hd' := zkf y
 have mu := nat_mul x.n.natAbs y.n.natAbs (by omega) (by omega)
 have lm := ziw (a := x.n.natAbs) (b := y.n.natAbs)
 have rs := zbx (!decide (sg x = sg y)) (words (x.n.natAbs * y.n.natAbs)) (dn x + dn y) (Wd.words _) (by omega) (by omega) (by omega)
 rw [res_mul] at rs
 exact we zc0
theorem zaS (s : Bool) (ws : List Nat) (d : Int) (k : Int) (x : Dy) (h : Arg s ws d x) : CallOK Tryz.prog gl 14 [.agg [.v (.bool s), .sl 1 (u32s ws), .v (.int .i64 d)], .v (.int .i64 k)] (.agg [.v (.bool (sg (x.shift k))), .sl 1 (u32s (ms (x.shift k))), .v (.int .i64 (dn (x.shift k)))]) := by
 refine okC 29 Tryz.call14 Tryz.func14 Tryz.ntmps14 Tryz.results14 ?_
 have pa := zb6 s ws d x h
 have hl : (words x.n.natAbs).length ≤ _ := h.mlen
 have hd := zkf x
 have hdd : dn x = (x.d : Int) := rfl
 have hl2 := h.mlen
 have hc1 := clipD_bd k
 have e1 : max (-65536) (min k 65536) = zbe k := rfl
 by_cases hk : zbe k ≤ x.d
 ·have rs := zbx (sg x) (ms x) (dn x - zbe k) (zg7 x) (by omega) (by omega) (by omega)
  rw [znI hk] at rs
  generalize zbe k = c at *
  exact we e1
 ·have lf := ziV x.n.natAbs (zbe k - x.d).toNat (by omega) (by omega)
  have ll := zb3 (a := x.n.natAbs) (n := (zbe k - x.d).toNat) (by omega)
  have rs := zbx (sg x) (words (x.n.natAbs * 2 ^ (zbe k - x.d).toNat)) 0 (Wd.words _) (by omega) (by omega) (by omega)
  rw [zmB hk] at rs
  have e2 : (0 : Int) - (dn x - zbe k) = ((zbe k - x.d).toNat : Int) := by omega
  generalize x.n.natAbs * 2 ^ (zbe k - x.d).toNat = m at *
  generalize (zbe k - x.d).toNat = j at *
  generalize zbe k = c at *
  exact we (zc2 e1 e2)
theorem zgj (s : Bool) (ws : List Nat) (d : Int) (s' : Bool) (ws' : List Nat) (d' : Int) (x y : Dy) (h : Arg s ws d x) (h' : Arg s' ws' d' y) : CallOK Tryz.prog gl 70 [.agg [.v (.bool s), .sl 1 (u32s ws), .v (.int .i64 d)], .agg [.v (.bool s'), .sl 1 (u32s ws'), .v (.int .i64 d')]] (.agg [.v (.bool (sg (x.min y))), .sl 1 (u32s (ms (x.min y))), .v (.int .i64 (dn (x.min y)))]) := by
 refine okC 13 Tryz.call70 Tryz.func70 Tryz.ntmps70 Tryz.results70 ?_
 have cm := zb2 s ws d s' ws' d' x y h h'
 have sa := zaS s ws d 0 x h
 have sb := zaS s' ws' d' 0 y h'
 rw [zcF] at sa sb
 rw [min_cmp]
 generalize x.cmp y = c at *
 by_cases hc1 : c ≤ 0
 ·rw [if_pos hc1]
  exact we zc0
 ·rw [if_neg hc1]
  exact we zc0
theorem zct (s : Bool) (ws : List Nat) (d : Int) (s' : Bool) (ws' : List Nat) (d' : Int) (x y : Dy) (h : Arg s ws d x) (h' : Arg s' ws' d' y) : CallOK Tryz.prog gl 59 [.agg [.v (.bool s), .sl 1 (u32s ws), .v (.int .i64 d)], .agg [.v (.bool s'), .sl 1 (u32s ws'), .v (.int .i64 d')]] (.agg [.v (.bool (sg (x.max y))), .sl 1 (u32s (ms (x.max y))), .v (.int .i64 (dn (x.max y)))]) := by
 refine okC 13 Tryz.call59 Tryz.func59 Tryz.ntmps59 Tryz.results59 ?_
 have cm := zb2 s ws d s' ws' d' x y h h'
 have sa := zaS s ws d 0 x h
 have sb := zaS s' ws' d' 0 y h'
 rw [zcF] at sa sb
 rw [max_cmp]
 generalize x.cmp y = c at *
 by_cases hc1 : 0 ≤ c
 ·rw [if_pos hc1]
  exact we zc0
 ·rw [if_neg hc1]
  exact we zc0
set_option maxHeartbeats 4000000
def eV (e : Int) : Value := if e = 0 then .nilIface else .iface 71 (.int .i64 e)
theorem zbg : eV 0 = .nilIface := (rfl)
theorem zcD {e : Int} (h : ¬ e = 0) : eV e = .iface 71 (.int .i64 e) := if_neg h
theorem ig {l : List Int} {i : Nat} (h : i < l.length) : (rws zad l).getD i [] = [.v (.int .i64 (l.getD i 0))] := by rw [zcS (f := zad) 0 h]; rfl
theorem bg {l : List Blk} {i : Nat} (h : i < l.length) : (rws zao l).getD i [] = zao (l.getD i Blk.zero) := by rw [zcS (f := zao) Blk.zero h]
theorem pg {l : List (Int × Int × Int)} {i : Nat} (h : i < l.length) : (rws zaD l).getD i [] = zaD (l.getD i (0, 0, 0)) := by rw [zcS (f := zaD) (0, 0, 0) h]
theorem zgB (k : Int) : CallOK Tryz.prog gl 110 [.v (.int .i64 k)] (.v (.int .i64 ((zgF k)))) := by
 refine okC 19 Tryz.call110 Tryz.func110 Tryz.ntmps110 Tryz.results110 ?_
 unfold zgF
 by_cases h1 : k = 1
 ·rw [if_pos h1]
  exact we zc0
 ·rw [if_neg h1]
  by_cases h2 : k = 0 ∨ k = 2 ∨ k = 5 ∨ k = 10 ∨ k = 6 ∨ k = 11
  ·rw [if_pos h2]
   exact we zc0
  ·rw [if_neg h2]
   by_cases h3 : k = 3 ∨ k = 4 ∨ k = 7 ∨ k = 8 ∨ k = 9
   ·rw [if_pos h3]
    exact we zc0
   ·rw [if_neg h3]
    exact we zc0
theorem zco : EqTy Tryz.prog 68 [true, true] := ⟨⟨_, Tryz.underlying68⟩, by kernel_rfl, by kernel_rfl⟩
theorem veq_sc (n e : Int) : veqs (vals [AV.v (.int .i64 n), .v (.int .i64 e)]) (vals [AV.v (.int .i64 0), .v (.int .i64 0)]) = (decide (n = 0) && decide (e = 0)) := by
 simp [vals, veqs, veq]
theorem zby (n e : Int) (u : Bool) : CallOK Tryz.prog gl 111 [.agg [.v (.int .i64 n), .v (.int .i64 e)], .v (.bool (u))] (.v (eV (zhs n e u))) := by
 refine okC 30 Tryz.call111 Tryz.func111 Tryz.ntmps111 Tryz.results111 ?_
 obtain ⟨z, hz⟩ : ∃ z, zhs n e u = z := ⟨_, rfl⟩
 rw [hz]
 unfold zhs at hz
 cases u with
 | false =>
  rw [if_pos rfl] at hz
  by_cases h : n = 0 ∧ e = 0
  ·rw [if_pos h] at hz
   subst hz
   obtain ⟨rfl, rfl⟩ := h
   have hv := veq_sc 0 0
   repeat' (first | simp only [go_sem, seval, hv] | simp (disch := omega) only [wA] | (refine zdD (sem_eql zco rfl rfl rfl rfl rfl rfl) ?_) | (refine zdD (ziG zco rfl rfl rfl rfl rfl rfl) ?_) | (refine zcc (sem_eql zco rfl rfl rfl rfl rfl rfl) ?_) | (refine zcc (ziG zco rfl rfl rfl rfl rfl rfl) ?_) | refine aI ?_ | refine dI ?_ | refine dG ?_ | ((first | refine cC ?_ ?_ | refine gS ?_ ?_ | refine dS ?_ ?_) <;> intro hc <;> simp only [hc] <;> try simp only [dcA] at hc <;> try omega) | refine aP ?_ | refine dP ?_)
   all_goals exact zal trivial rfl
  ·rw [if_neg h] at hz
   subst hz
   have hv : veqs (vals [AV.v (.int .i64 n), .v (.int .i64 e)]) (vals [AV.v (.int .i64 0), .v (.int .i64 0)]) = false := by rw [veq_sc]; simpa using h
   repeat' (first | simp only [go_sem, seval, hv] | simp (disch := omega) only [wA] | (refine zdD (sem_eql zco rfl rfl rfl rfl rfl rfl) ?_) | (refine zdD (ziG zco rfl rfl rfl rfl rfl rfl) ?_) | (refine zcc (sem_eql zco rfl rfl rfl rfl rfl rfl) ?_) | (refine zcc (ziG zco rfl rfl rfl rfl rfl rfl) ?_) | refine aI ?_ | refine dI ?_ | refine dG ?_ | ((first | refine cC ?_ ?_ | refine gS ?_ ?_ | refine dS ?_ ?_) <;> intro hc <;> simp only [hc] <;> try simp only [dcA] at hc <;> try omega) | refine aP ?_ | refine dP ?_)
   all_goals first | exact zal trivial rfl | exact absurd (by simpa using hc) h
 | true =>
  rw [if_neg (show ¬ true = false from Bool.noConfusion)] at hz
  by_cases h : zbO n e
  ·rw [if_pos h] at hz
   subst hz
   unfold zbO at h
   exact we zc0
  ·rw [if_neg h] at hz
   subst hz
   unfold zbO at h
   exact we zc0
set_option maxHeartbeats 4000000
theorem zmb (n e : Int) (h : zbO n e) : CallOK Tryz.prog gl 112 [.agg [.v (.int .i64 n), .v (.int .i64 e)]] (.agg [.v (.bool (sg (scN n e))), .sl 1 (u32s (ms (scN n e))), .v (.int .i64 (dn (scN n e)))]) := by
 refine okC 9 Tryz.call112 Tryz.func112 Tryz.ntmps112 Tryz.results112 ?_
 have hn : -9223372036854775808 ≤ n ∧ n ≤ 9223372036854775807 := by unfold zbO at h; omega
 have o1 := zeY n hn
 have s1 := zaS _ _ _ e _ (Arg.of (zcY hn) (by omega))
 change CallOK _ _ _ _ (.agg [.v (.bool (sg (scN n e))), .sl 1 (u32s (ms (scN n e))), .v (.int .i64 (dn (scN n e)))]) at s1
 generalize scN n e = z at *
 generalize Dy.int n = y at *
 exact we zc0
set_option maxHeartbeats 4000000
theorem zgH (s : Bool) (ws : List Nat) (d : Int) (den : Nat) (x : Dy) (h : Arg s ws d x) (hd : den ≤ 65536) : CallOK Tryz.prog gl 63 [.agg [.v (.bool s), .sl 1 (u32s ws), .v (.int .i64 d)], .v (.int .i64 den)] (.tup [.agg [.v (.bool (sg (x.floor den))), .sl 1 (u32s (ms (x.floor den))), .v (.int .i64 (dn (x.floor den)))], .v .nilIface]) := by
 refine okC 43 Tryz.call63 Tryz.func63 Tryz.ntmps63 Tryz.results63 ?_
 have pa := zb6 s ws d x h
 have hl : (words x.n.natAbs).length ≤ _ := h.mlen
 have hl2 := h.mlen
 have hdn := zkf x
 have hdd : dn x = (x.d : Int) := rfl
 by_cases hc1 : x.d ≤ den
 ·have rs := zbx (sg x) (ms x) (dn x) (zg7 x) (by omega) (by omega) (by omega)
  rw [res_self] at rs
  rw [Dy.floor_fine hc1 hd]
  exact we zc0
 ·have key := znJ (x := x) (den := den) (by omega)
  have ri := zb9 x.n.natAbs (x.d - den) (by omega) (by omega)
  have ld := zcx (a := x.n.natAbs) (b := 2 ^ (x.d - den)) (k := 68719476736) (by omega)
  have e1 : dn x - (den : Int) = ((x.d - den : Nat) : Int) := by omega
  generalize x.n.natAbs / 2 ^ (x.d - den) = m at *
  generalize x.d - den = k at *
  generalize x.floor den = y at *
  cases hs : sg x
  ·rw [hs] at key pa
   rw [if_neg (by simp)] at key
   have rs := zbx false (words m) den (Wd.words _) (by omega) (by omega) (by omega)
   rw [key] at rs
   exact we e1
  ·rw [hs] at key pa
   rw [if_pos rfl] at key
   have ad := zoi m 1 (by omega) (by rw [zgI]; simp)
   have la := ze1 (a := m) (b := 1) (k := 68719476736) (by omega) (by rw [zgI]; simp)
   have rs := zbx true (words (m + 1)) den (Wd.words _) (by omega) (by omega) (by omega)
   rw [key] at rs
   rw [u32s_one] at ad
   exact we e1
theorem zpQ (s : Bool) (ws : List Nat) (d : Int) (den : Nat) (x : Dy) (k : Nat) (h : Arg s ws d x) (hk : Mg k x) (hk2 : k ≤ 1099511627775) (hd : den ≤ 65536) : CallOK Tryz.prog gl 82 [.agg [.v (.bool s), .sl 1 (u32s ws), .v (.int .i64 d)], .v (.int .i64 den)] (.tup [.agg [.v (.bool (sg (x.ceil den))), .sl 1 (u32s (ms (x.ceil den))), .v (.int .i64 (dn (x.ceil den)))], .v .nilIface]) := by
 refine okC 18 Tryz.call82 Tryz.func82 Tryz.ntmps82 Tryz.results82 ?_
 have ne := zfD s ws d x h
 have fl := zgH (sg x.neg) (ms x.neg) (dn x.neg) den x.neg h.neg_of hd
 have nf := zfD _ _ _ (x.neg.floor den) (Arg.of (Mg.floor hk.neg) (by omega))
 exact we zc0
theorem uint_ok (ws : List Nat) (hW : Wd ws) (hl : ws.length ≤ 2) : CallOK Tryz.prog gl 105 [.sl 1 (u32s (ws))] (.v (.int .u64 ((val ws : Nat)))) := by
 refine okC 21 Tryz.call105 Tryz.func105 Tryz.ntmps105 Tryz.results105 ?_
 rcases ws with _ | ⟨w, _ | ⟨v, _ | ⟨u, ws⟩⟩⟩
 ·
  repeat' (first | simp only [go_sem, seval, zer] | simp (disch := omega) only [wA] | (refine zbi 1 _ rfl ?_) | refine aI ?_ | refine dI ?_ | refine dG ?_ | ((first | refine cC ?_ ?_ | refine gS ?_ ?_ | refine dS ?_ ?_) <;> intro hc <;> simp only [hc] <;> try simp only [dcA] at hc <;> try omega) | refine aP ?_ | refine dP ?_)
  exact zal trivial rfl
 ·
  have hw : w < 4294967296 := hW w (by simp)
  have e := ziP (a := 0) (b := w) (by omega) hw
  rw [Nat.zero_mul, Nat.zero_add] at e
  have e : bOr .u64 0 (w : Int) = (w : Int) := e
  have ev : val [w] = w := by simp [val]
  rw [ev]
  repeat' (first | simp only [go_sem, seval, u32s, u32, e, Int.natCast_one, Int.cast_ofNat_Int] | simp (disch := omega) only [wA] | (refine zbi 2 _ rfl ?_) | refine aI ?_ | refine dI ?_ | refine dG ?_ | ((first | refine cC ?_ ?_ | refine gS ?_ ?_ | refine dS ?_ ?_) <;> intro hc <;> simp only [hc] <;> try simp only [dcA] at hc <;> try omega) | refine aP ?_ | refine dP ?_)
  exact zal trivial rfl
 ·
  have hw : w < 4294967296 := hW w (by simp)
  have hv : v < 4294967296 := hW v (by simp)
  have e := ziP (a := 0) (b := v) (by omega) hv
  rw [Nat.zero_mul, Nat.zero_add] at e
  have e : bOr .u64 0 (v : Int) = (v : Int) := e
  have e2 := ziP (a := v) (b := w) hv hw
  have e3 : (v : Int) * 4294967296 = ((v * 4294967296 : Nat) : Int) := by omega
  have ev : val [w, v] = v * 4294967296 + w := by simp only [val]; omega
  rw [ev]
  repeat' (first | simp only [go_sem, seval, u32s, u32, e, e2, e3, Int.natCast_one, Int.cast_ofNat_Int] | simp (disch := omega) only [wA] | (refine zbi 3 _ rfl ?_) | refine aI ?_ | refine dI ?_ | refine dG ?_ | ((first | refine cC ?_ ?_ | refine gS ?_ ?_ | refine dS ?_ ?_) <;> intro hc <;> simp only [hc] <;> try simp only [dcA] at hc <;> try omega) | refine aP ?_ | refine dP ?_)
  exact zal trivial rfl
 ·simp at hl
theorem Int_ok (s : Bool) (ws : List Nat) (d : Int) (x : Dy) (h : Arg s ws d x) : CallOK Tryz.prog gl 64 [.agg [.v (.bool s), .sl 1 (u32s ws), .v (.int .i64 d)]] (.tup [.v (.int .i64 (x.toInt)), .v (.bool (x.fits))]) := by
 refine okC 41 Tryz.call64 Tryz.func64 Tryz.ntmps64 Tryz.results64 ?_
 have pa := zb6 s ws d x h
 have hl2 := h.mlen
 have hdn := zkf x
 have hdd : dn x = (x.d : Int) := rfl
 by_cases h0 : x.d = 0
 ·have ed : dn x = 0 := by omega
  rw [ed] at pa
  by_cases h2 : (ms x).length ≤ 2
  ·have ui := uint_ok (ms x) (zg7 x) h2
   rw [zjV] at ui
   have hu : x.n.natAbs < 18446744073709551616 := by
    have h1 := zaV x.n.natAbs
    have h3 : 4294967296 ^ (words x.n.natAbs).length ≤ 4294967296 ^ 2 := Nat.pow_le_pow_right (by omega) h2
    omega
   have hlen : ((ms x).length : Int) ≤ 2 := by omega
   have hsg : sg x = decide (x.n < 0) := rfl
   by_cases hn : x.n < 0
   ·rw [decide_eq_true hn] at hsg
    rw [hsg] at pa
    have e1 : IntKind.u64.wrap (0 - (x.n.natAbs : Int)) = 18446744073709551616 - (x.n.natAbs : Int) := by simp only [IntKind.wrap, IntKind.bits, IntKind.signed]; simp; omega
    by_cases hf : -9223372036854775808 ≤ x.n
    ·have e2 : IntKind.i64.wrap (18446744073709551616 - (x.n.natAbs : Int)) = x.n := by simp only [IntKind.wrap, IntKind.bits, IntKind.signed]; simp; omega
     have ef : x.fits = true := by unfold Dy.fits; exact decide_eq_true ⟨h0, hf, by omega⟩
     rw [Dy.toInt, if_pos ef, ef]
     exact weu (zc2 e1 e2)
    ·have ef : x.fits = false := by unfold Dy.fits; exact decide_eq_false (by omega)
     rw [Dy.toInt, if_neg (by rw [ef]; simp), ef]
     exact weu e1
   ·rw [decide_eq_false hn] at hsg
    rw [hsg] at pa
    have en : (x.n.natAbs : Int) = x.n := by omega
    rw [en] at ui
    by_cases hf : x.n ≤ 9223372036854775807
    ·have e2 : IntKind.i64.wrap x.n = x.n := w64 (by omega)
     have ef : x.fits = true := by unfold Dy.fits; exact decide_eq_true ⟨h0, by omega, hf⟩
     rw [Dy.toInt, if_pos ef, ef]
     exact weu e2
    ·have ef : x.fits = false := by unfold Dy.fits; exact decide_eq_false (by omega)
     rw [Dy.toInt, if_neg (by rw [ef]; simp), ef]
     exact weu zc0
  ·have ef : x.fits = false := by
    unfold Dy.fits
    refine decide_eq_false fun ⟨_, h3, h4⟩ => ?_
    exact h2 (zaO (by omega))
   rw [Dy.toInt, if_neg (by rw [ef]; simp), ef]
   exact weu zc0
 ·have ef : x.fits = false := by unfold Dy.fits; exact decide_eq_false (by omega)
  rw [Dy.toInt, if_neg (by rw [ef]; simp), ef]
  exact weu zc0
set_option maxHeartbeats 4000000
set_option maxHeartbeats 4000000
set_option maxHeartbeats 4000000
set_option maxHeartbeats 4000000
def zf1 (w : Nat) : Nat := if w = 0 then 0 else Nat.log2 w + 1
theorem zem {w l : Nat} : zf1 w ≤ l ↔ w < 2 ^ l := by
 unfold zf1
 split
 ·rename_i h; subst h; simp [Nat.pow_pos]
 ·rename_i h; rw [Nat.succ_le_iff, Nat.log2_lt h]
theorem blen_div (w k : Nat) : zf1 (w / 2 ^ k) = zf1 w - k := by
 have h : ∀ l, zf1 (w / 2 ^ k) ≤ l ↔ zf1 w ≤ l + k := fun l => by
  rw [zem, zem, Nat.div_lt_iff_lt_mul (Nat.pow_pos (by omega)), Nat.pow_add]
 have h1 := h (zf1 (w / 2 ^ k))
 have h2 := h (zf1 w - k)
 omega
theorem zji {w k : Nat} (h : 2 ^ k ≤ w) : zf1 w = k + zf1 (w / 2 ^ k) := by
 rw [blen_div]
 have := mt (zem (w := w) (l := k)).1 (by omega)
 omega
theorem zpF {w : Nat} (h : w < 4294967296) : zf1 w ≤ 32 := zem.2 h
theorem len8 {l : List UInt8} (hl : l.map UInt8.toNat = (List.range 256).map zf1) {k : Nat} (h : k < 256) : AV.v (.int .u8 ((l.getD (Int.toNat (k : Int)) 0).toNat : Nat)) = .v (.int .u8 (zf1 k : Nat)) := by
 have hlen : l.length = 256 := by have := congrArg List.length hl; simpa using this
 have e := congrArg (fun m => m[k]?) hl
 simp only [List.getElem?_map, List.getElem?_range h, Option.map_some] at e
 rw [Int.toNat_natCast, List.getD_eq_getElem?_getD]
 rw [List.getElem?_eq_getElem (by omega)] at e ⊢
 injection e with e
 simp only [Option.getD_some]
 rw [e]
theorem zl1 {s : ByteArray} {k : Nat} (hs : s.size = 256) (h : k < 256) : 0 ≤ (k : Int) ∧ (k : Int) < (s.size : Int) := by omega
theorem zgG {C : Cx} {n : Nat} {r : List It} {s : AS} {Q : Lab → AS → Prop} {o : Oper} {p : Prop} {v v' : AV} {u : Upd} (hp : p) (hv : v = v') (k : ex C n r ((s.upd u).put o.dst v') Q) : after C n r s Q o (some ⟨p, v, u⟩) := by
 subst hv; exact ⟨hp, k⟩
theorem ziA {k : Nat} (h : k < 256) : IntKind.u8.wrap (k : Int) = k := by
 simp only [IntKind.wrap, IntKind.bits, IntKind.signed]; simp; omega
theorem zmW (w : Nat) (h : w < 4294967296) : CallOK Tryz.prog gl 122 [.v (.int .u32 (w))] (.v (.int .i64 ((zf1 w : Nat)))) := by
 refine okC 19 Tryz.call122 Tryz.func122 Tryz.ntmps122 Tryz.results122 ?_
 have d1 : (w : Int) / 65536 = ((w / 65536 : Nat) : Int) := rfl
 have d2 : (((w / 65536 : Nat) : Int)) / 256 = ((w / 65536 / 256 : Nat) : Int) := rfl
 have d3 : (w : Int) / 256 = ((w / 256 : Nat) : Int) := rfl
 by_cases h1 : 65536 ≤ w
 ·
  have b1 : zf1 w = 16 + zf1 (w / 65536) := zji (k := 16) h1
  by_cases h2 : 256 ≤ w / 65536
  ·
   have b2 : zf1 (w / 65536) = 8 + zf1 (w / 65536 / 256) := zji (k := 8) h2
   have h3 : w / 65536 / 256 < 256 := by omega
   have u := ziA h3
   have b3 := (zem (w := w / 65536 / 256) (l := 8)).2 h3
   rw [b1, b2]
   generalize w / 65536 / 256 = k at *
   clear b1 b2
   generalize w / 65536 = q at *
   refine wk (zc3 d1 d2 u) ?_
   refine zgG (zl1 (by kernel_rfl) h3) (len8 (by kernel_rfl) h3) ?_
   repeat' (first | simp only [go_sem, seval, d1, d2, u] | simp (disch := omega) only [wA] | refine aI ?_ | refine dI ?_ | refine dG ?_ | ((first | refine cC ?_ ?_ | refine gS ?_ ?_ | refine dS ?_ ?_) <;> intro hc <;> simp only [hc] <;> try simp only [dcA] at hc <;> try omega) | refine aP ?_ | refine dP ?_)
   exact zal trivial (by rw [Int.natCast_add, Int.natCast_add, ← Int.add_assoc]; rfl)
  ·
   have h3 : w / 65536 < 256 := by omega
   have u := ziA h3
   have b3 := (zem (w := w / 65536) (l := 8)).2 h3
   rw [b1]
   clear b1 d2
   generalize w / 65536 = k at *
   refine wk (zc2 d1 u) ?_
   refine zgG (zl1 (by kernel_rfl) h3) (len8 (by kernel_rfl) h3) ?_
   repeat' (first | simp only [go_sem, seval, d1, u] | simp (disch := omega) only [wA] | refine aI ?_ | refine dI ?_ | refine dG ?_ | ((first | refine cC ?_ ?_ | refine gS ?_ ?_ | refine dS ?_ ?_) <;> intro hc <;> simp only [hc] <;> try simp only [dcA] at hc <;> try omega) | refine aP ?_ | refine dP ?_)
   exact zal trivial (by rw [Int.natCast_add]; rfl)
 ·
  by_cases h2 : 256 ≤ w
  ·
   have b2 : zf1 w = 8 + zf1 (w / 256) := zji (k := 8) h2
   have h3 : w / 256 < 256 := by omega
   have u := ziA h3
   have b3 := (zem (w := w / 256) (l := 8)).2 h3
   rw [b2]
   clear b2 d1 d2
   generalize w / 256 = k at *
   refine wk (zc2 d3 u) ?_
   refine zgG (zl1 (by kernel_rfl) h3) (len8 (by kernel_rfl) h3) ?_
   repeat' (first | simp only [go_sem, seval, d3, u] | simp (disch := omega) only [wA] | refine aI ?_ | refine dI ?_ | refine dG ?_ | ((first | refine cC ?_ ?_ | refine gS ?_ ?_ | refine dS ?_ ?_) <;> intro hc <;> simp only [hc] <;> try simp only [dcA] at hc <;> try omega) | refine aP ?_ | refine dP ?_)
   exact zal trivial (by rw [Int.natCast_add]; rfl)
  ·
   have h3 : w < 256 := by omega
   have u := ziA h3
   have b3 := (zem (w := w) (l := 8)).2 h3
   clear d1 d2 d3
   refine wk u ?_
   refine zgG (zl1 (by kernel_rfl) h3) (len8 (by kernel_rfl) h3) ?_
   repeat' (first | simp only [go_sem, seval, u] | simp (disch := omega) only [wA] | refine aI ?_ | refine dI ?_ | refine dG ?_ | ((first | refine cC ?_ ?_ | refine gS ?_ ?_ | refine dS ?_ ?_) <;> intro hc <;> simp only [hc] <;> try simp only [dcA] at hc <;> try omega) | refine aP ?_ | refine dP ?_)
   exact zal trivial (by first | rfl | (rw [Int.zero_add]; rfl))
set_option maxHeartbeats 4000000
set_option maxHeartbeats 4000000
set_option maxHeartbeats 4000000
set_option maxHeartbeats 4000000
theorem zmU {a n : Nat} (hn : (words a).length = n + 1) : zf1 a = 32 * n + zf1 ((words a).getD n 0) := by
 have ha : a ≠ 0 := za4.1 (by omega)
 have h1 := zix ha
 rw [hn, Nat.add_sub_cancel, zes] at h1
 have h2 := zc9 (Wd.words a) n
 have h3 := zaV a
 rw [za7] at h2
 rw [hn] at h3
 rw [Nat.mod_eq_of_lt (Nat.div_lt_of_lt_mul (by rw [← Nat.pow_succ]; exact h3)), zes] at h2
 rw [h2]
 exact zji h1
theorem nat_bits (a : Nat) (ha : (words a).length ≤ 1099511627776) : CallOK Tryz.prog gl 108 [.sl 1 (u32s (words a))] (.v (.int .i64 ((zf1 a : Nat)))) := by
 refine okC 18 Tryz.call108 Tryz.func108 Tryz.ntmps108 Tryz.results108 ?_
 by_cases h0 : (words a).length = 0
 ·
  have : a = 0 := zdn.1 (List.length_eq_zero_iff.1 h0)
  subst this
  exact weu h0
 ·
  obtain ⟨n, hn⟩ : ∃ n, (words a).length = n + 1 := ⟨(words a).length - 1, by omega⟩
  have hb := zmU hn
  have hw := (Wd.words a).get n
  have ln := zmW _ hw
  have hbl := zpF hw
  have rt := zaK (ws := words a) (i := n) (by omega)
  generalize (words a).getD n 0 = w at *
  have e1 : ((n + 1 : Nat) : Int) - 1 = (n : Int) := by omega
  have e2 : ¬ ((n + 1 : Nat) : Int) = 0 := by omega
  have e3 : 32 * (n : Int) + ((zf1 w : Nat) : Int) = ((zf1 a : Nat) : Int) := by omega
  exact weu (zc5 hn e1 e2 e3 rt)
theorem zf5 (s : Bool) (ws : List Nat) (d : Int) (x : Dy) (h : Arg s ws d x) : CallOK Tryz.prog gl 67 [.agg [.v (.bool s), .sl 1 (u32s ws), .v (.int .i64 d)]] (.v (.int .i64 ((zf1 x.n.natAbs : Nat)))) := by
 refine okC 14 Tryz.call67 Tryz.func67 Tryz.ntmps67 Tryz.results67 ?_
 have pa := zb6 s ws d x h
 have hl : (words x.n.natAbs).length ≤ _ := h.mlen
 have bi := nat_bits x.n.natAbs (by omega)
 exact we zc0
end Go.Proofs.YtcpmeibfggoebaaGreatDoor
