/- What the functions that the statement reaches compute. -/
import Derived.Test.YtcpmeibfggoebaaGreatDoorX4
import Derived.Test.YtcpmeibfggoebaaGreatDoorV4
import Derived.Test.YtcpmeibfggoebaaGreatDoorX2
set_option linter.unusedSimpArgs false
set_option linter.unusedVariables false
set_option linter.deprecated false
namespace Go.Proofs.YtcpmeibfggoebaaGreatDoor
open Go Go.Ax
set_option maxRecDepth 100000
set_option maxHeartbeats 8000000
def outL (cells outs : List Int) : List Int := outs.map fun o => cells.getD o.toNat 0
theorem zol {a b : Int} (ha : i32 a) (hb : i32 b) : -4611686018427387904 ≤ a * b ∧ a * b ≤ 4611686018427387904 := by
 unfold i32 at *
 have h : (a * b).natAbs ≤ 2147483648 * 2147483648 := by rw [Int.natAbs_mul]; exact Nat.mul_le_mul (by omega) (by omega)
 omega
theorem zbD {n : Int} (h : i32 n) : -9223372036854775808 ≤ n ∧ n ≤ 9223372036854775807 := by unfold i32 at h; omega
theorem co_Run (ports : List (Int × Int × Int)) (init : List Int) (code : List Ins) (outs cells inp : List Int) (nP nC nI nO : Nat) (hP : ports.length = nP) (hC : init.length = nC) (hI : code.length = nI) (hO : outs.length = nO) (h : PgOK ports init code outs) (hc : cells.length = nC) (hcv : ∀ i, i < nC → i32 (cells.getD i 0)) (hn : inp.length = nP) (hnv : ∀ i, i < nP → (ports.getD i (0, 0, 0)).1 ≤ inp.getD i 0 ∧ inp.getD i 0 ≤ (ports.getD i (0, 0, 0)).2.1) (hv : ∀ k, k < nI → i32 (stp inp (zjs inp code cells k) (code.getD k Ins.zero))) (ci : zae zbn) : CallOK Tryz.prog gl 10 [.agg [.sl 3 (rws zaD ports), .sl 1 (rws zad init), .sl 7 (rws zbn code), .sl 1 (rws zad outs)], .sl 1 (rws zad cells), .sl 1 (rws zad inp)] (.tup [.agg [.sl 1 (rws zad (zjs inp code cells nI)), .sl 1 (rws zad (outL (zjs inp code cells nI) outs)), .v (.bool (false))], .v .nilIface]) := by
 refine okC 295 Tryz.call10 Tryz.func10 Tryz.ntmps10 Tryz.results10 ?_
 have c1 := zmh ports init code outs _ _ _ _ rfl rfl rfl rfl h zaR
 obtain ⟨b1, b2, b3, b4, q1, q2, q3, q4⟩ := h
 rw [hP] at b1 q1
 rw [hC] at b2 q4
 rw [hI] at b3
 rw [hO] at b4 q4
 rw [hP, hC, hI] at q3
 clear q2
 have hcl := hc
 clear hc
 refine wkr (zc6 hP hC hI hO hcl hn) ?_
 refine lL (α := Nat) (fun j => ⟨[(1, .sl 1 (rws zad cells)), (2, .sl 1 (rws zad inp)), (3, .p 0 4 0 0), (6, .p 1 3 0 0), (33, .sl 1 (rws zad cells)), (34, .v (.int .i64 nC)), (35, .v (.int .i64 j))], [(0, ⟨4, [[.sl 3 (rws zaD ports), .sl 1 (rws zad init), .sl 7 (rws zbn code), .sl 1 (rws zad outs)]]⟩), (1, ⟨3, [[.v (.slice none 0 0), .v (.slice none 0 0), .v (.bool (false))]]⟩)], 2⟩) (fun j => j ≤ nC) (fun j => nC - j) (0) ?_ ?_ ?_
 ·exact Nat.zero_le _
 ·exact zah
 rintro j hj
 by_cases hjn : j < nC
 ·have rp := ig (l := cells) (i := j) (by omega)
  have ok := hcv j hjn
  clear hcv hnv hv q1 q3 q4
  generalize cells.getD j 0 = p at *
  unfold i32 at ok
  have s1 := zbk p
  rw [decide_eq_true ok] at s1
  refine wkr (zc2 hcl rp) ?_
  refine zac (α := Nat) (j + 1) ?_ ?_ ?_
  ·show j + 1 ≤ nC; omega
  ·show nC - (j + 1) < nC - j; omega
  exact zah
 refine wkr (zc6 hP hC hI hO hcl hn) ?_
 refine lL (α := Nat) (fun j => ⟨[(1, .sl 1 (rws zad cells)), (2, .sl 1 (rws zad inp)), (3, .p 0 4 0 0), (6, .p 1 3 0 0), (53, .sl 1 (rws zad inp)), (54, .v (.int .i64 nP)), (55, .v (.int .i64 j))], [(0, ⟨4, [[.sl 3 (rws zaD ports), .sl 1 (rws zad init), .sl 7 (rws zbn code), .sl 1 (rws zad outs)]]⟩), (1, ⟨3, [[.v (.slice none 0 0), .v (.slice none 0 0), .v (.bool (false))]]⟩)], 2⟩) (fun j => j ≤ nP) (fun j => nP - j) (0) ?_ ?_ ?_
 ·exact Nat.zero_le _
 ·exact zah
 rintro j hj
 by_cases hjn : j < nP
 ·have rp := pg (l := ports) (i := j) (by omega)
  have rn := ig (l := inp) (i := j) (by omega)
  have ok := hnv j hjn
  clear hcv hnv hv q1 q3 q4
  generalize inp.getD j 0 = q at *
  generalize ports.getD j (0, 0, 0) = p at *
  obtain ⟨p1, p2, p3⟩ := p
  change (rws zaD ports).getD j [] = [.v (.int .i64 p1), .v (.int .i64 p2), .v (.int .i64 p3)] at rp
  have ok : p1 ≤ q ∧ q ≤ p2 := ok
  refine wkr (zc4 hP hn rp rn) ?_
  refine zac (α := Nat) (j + 1) ?_ ?_ ?_
  ·show j + 1 ≤ nP; omega
  ·show nP - (j + 1) < nP - j; omega
  exact zah
 have hnv2 : ∀ i, i < nP → i32 (inp.getD i 0) := fun i hi => by
  have := hnv i hi
  obtain ⟨⟨z1, z2⟩, z3, z4⟩ := q1 i hi
  unfold i32; omega
 clear hnv q1
 have hlo : (rws zad cells).length = nC := by rw [zab, hcl]
 repeat' (first | simp only [go_sem, seval, zab, hP, hC, hI, hO, hcl, hn] | simp (disch := omega) only [wA] | (refine zf2 za1 rfl rfl ?_) | (refine zas za1 rfl rfl rfl rfl ⟨rfl, by decide⟩ rfl ⟨trivial, by (try simp only [List.length_cons, List.length_nil, List.length_append, zaa, List.length_map, hlo]); omega, by (try simp only [List.length_cons, List.length_nil, List.length_append, zaa, List.length_map, hlo]); omega⟩ (fun _ => zbj) ?_) | (refine zar za1 rfl rfl rfl rfl rfl ⟨rfl, rfl, by decide, Nat.le_of_ble_eq_true rfl⟩ (fun h => by first | (cases h; done) | decide) rfl ⟨trivial, by (try simp only [List.length_cons, List.length_nil, List.length_append, zaa, List.length_map, hlo]); omega, by (try simp only [List.length_cons, List.length_nil, List.length_append, zaa, List.length_map, hlo]); omega, by (try simp only [List.length_cons, List.length_nil, List.length_append, zaa, List.length_map, hlo]); omega⟩ zbj zfC zfB ?_) | refine aI ?_ | refine dI ?_ | refine dG ?_ | ((first | refine cC ?_ ?_ | refine gS ?_ ?_ | refine dS ?_ ?_) <;> intro hc <;> simp only [hc] <;> try simp only [dcA] at hc <;> try omega) | refine aP ?_ | refine dP ?_)
 refine lL (α := Nat) (fun k => ⟨[(2, .sl 1 (rws zad inp)), (3, .p 0 4 0 0), (6, .p 1 3 0 0), (13, .p 3 3 0 0), (86, .sl 7 (rws zbn code)), (87, .v (.int .i64 nI)), (88, .v (.int .i64 k))], [(0, ⟨4, [[.sl 3 (rws zaD ports), .sl 1 (rws zad init), .sl 7 (rws zbn code), .sl 1 (rws zad outs)]]⟩), (1, ⟨3, [[.v (.slice none 0 0), .v (.slice none 0 0), .v (.bool (false))]]⟩), (2, ⟨1, rws zad (zjs inp code cells k)⟩), (3, ⟨3, [[.ps 2 1 0 nC, .v (.slice none 0 0), .v (.bool (false))]]⟩)], 4⟩) (fun k => k ≤ nI ∧ ∀ i, i < nC → i32 ((zjs inp code cells k).getD i 0)) (fun k => nI - k) (0) ?_ ?_ ?_
 ·exact ⟨Nat.zero_le _, hcv⟩
 ·exact zah
 rintro k ⟨hk, hcv2⟩
 have hrl := zlB inp code cells k
 rw [hcl] at hrl
 by_cases hkn : k < nI
 ·have rp := insG (l := code) (i := k) (by omega)
  have ok := q3 k hkn
  have hs := hv k hkn
  have est : zjs inp code cells (k + 1) = (zjs inp code cells k).set ((code.getD k Ins.zero).dst).toNat (stp inp (zjs inp code cells k) (code.getD k Ins.zero)) := rfl
  have nx : ∀ i, i < nC → i32 ((zjs inp code cells (k + 1)).getD i 0) := by
   have hd := ok.dst
   rw [est]
   exact zb0 (P := i32) (by omega) hcv2 hs
  clear hv q3 q4 hcv
  generalize zjs inp code cells k = C at *
  generalize code.getD k Ins.zero = x at *
  obtain ⟨op, dst, a, b, sa, sb, imm⟩ := x
  change (rws zbn code).getD k [] = [.v (.int .i64 op), .v (.int .i64 dst), .v (.int .i64 a), .v (.int .i64 b), .v (.int .i64 sa), .v (.int .i64 sb), .v (.int .i64 imm)] at rp
  obtain ⟨h1, h2, h3, h4, h5, h6⟩ := ok
  simp only at h1 h2 h3 h4 h5 h6 est
  obtain ⟨d, rfl⟩ : ∃ d : Nat, dst = (d : Int) := ⟨dst.toNat, by omega⟩
  rw [Int.toNat_natCast] at est
  have e9 : ∀ n : Int, (rws zad C).set d [.v (.int .i64 n)] = rws zad (C.set d n) := fun n => zba C d n
  have rd := ig (l := C) (i := d) (by omega)
  have hop : op = 0 ∨ op = 1 ∨ op = 2 ∨ op = 3 ∨ op = 4 ∨ op = 5 ∨ op = 6 ∨ op = 7 ∨ op = 8 ∨ op = 9 ∨ op = 10 := by omega
  rcases hop with rfl | rfl | rfl | rfl | rfl | rfl | rfl | rfl | rfl | rfl | rfl
  ·skip
   rw [if_neg (by decide)] at h3
   rw [if_pos rfl] at h3
   rw [if_neg (by decide)] at h4
   rw [if_neg (by decide)] at h5
   rw [if_neg (by decide)] at h6
   obtain ⟨ai, rfl⟩ : ∃ i : Nat, a = (i : Int) := ⟨a.toNat, by omega⟩
   have ra := ig (l := inp) (i := ai) (by omega)
   have iu := hnv2 ai (by omega)
   have ev : stp inp C ⟨0, (d : Int), (ai : Int), b, sa, sb, imm⟩ = scl (inp.getD ai 0) sa := by simp [stp]
   rw [ev] at hs est
   clear ev
   generalize inp.getD ai 0 = u at *
   have w1 := zbl u sa h3.2 (zbD iu)
   have k1 := zdV (x := u) (k := sa) h3.2.2 (zbD iu)
   generalize scl u sa = y1 at *
   unfold i32 at hs
   have s1 := zbk (y1)
   rw [decide_eq_true hs] at s1
   clear hcv2 hnv2
   refine wkr (zc7 hI hrl rp rd e9 ra hn) ?_
   refine zac (α := Nat) (k + 1) ⟨?_, nx⟩ ?_ ?_
   ·show k + 1 ≤ nI; omega
   ·show nI - (k + 1) < nI - k; omega
   rw [est]
   exact zah
  ·skip
   rw [if_neg (by decide)] at h4
   rw [if_neg (by decide)] at h5
   rw [if_pos (by decide)] at h6
   have ev : stp inp C ⟨1, (d : Int), a, b, sa, sb, imm⟩ = imm := by simp [stp]
   rw [ev] at hs est
   clear ev
   unfold i32 at hs
   have s1 := zbk (imm)
   rw [decide_eq_true hs] at s1
   clear hcv2 hnv2
   refine wkr (zc5 hI hrl rp rd e9) ?_
   refine zac (α := Nat) (k + 1) ⟨?_, nx⟩ ?_ ?_
   ·show k + 1 ≤ nI; omega
   ·show nI - (k + 1) < nI - k; omega
   rw [est]
   exact zah
  ·skip
   rw [if_neg (by decide)] at h3
   rw [if_neg (by decide)] at h3
   rw [if_neg (by decide)] at h4
   rw [if_neg (by decide)] at h5
   rw [if_neg (by decide)] at h6
   obtain ⟨ai, rfl⟩ : ∃ i : Nat, a = (i : Int) := ⟨a.toNat, by omega⟩
   have ra := ig (l := C) (i := ai) (by omega)
   have iu := hcv2 ai (by omega)
   have ev : stp inp C ⟨2, (d : Int), (ai : Int), b, sa, sb, imm⟩ = scl (C.getD ai 0) sa := by simp [stp]
   rw [ev] at hs est
   clear ev
   generalize C.getD ai 0 = u at *
   have w1 := zbl u sa h3.2 (zbD iu)
   have k1 := zdV (x := u) (k := sa) h3.2.2 (zbD iu)
   generalize scl u sa = y1 at *
   unfold i32 at hs
   have s1 := zbk (y1)
   rw [decide_eq_true hs] at s1
   clear hcv2 hnv2
   refine wkr (zc6 hI hrl rp rd e9 ra) ?_
   refine zac (α := Nat) (k + 1) ⟨?_, nx⟩ ?_ ?_
   ·show k + 1 ≤ nI; omega
   ·show nI - (k + 1) < nI - k; omega
   rw [est]
   exact zah
  ·skip
   rw [if_neg (by decide)] at h3
   rw [if_neg (by decide)] at h3
   rw [if_pos (by decide)] at h4
   rw [if_pos (by decide)] at h5
   rw [if_neg (by decide)] at h6
   obtain ⟨ai, rfl⟩ : ∃ i : Nat, a = (i : Int) := ⟨a.toNat, by omega⟩
   have ra := ig (l := C) (i := ai) (by omega)
   have iu := hcv2 ai (by omega)
   obtain ⟨bi, rfl⟩ : ∃ i : Nat, b = (i : Int) := ⟨b.toNat, by omega⟩
   have rb := ig (l := C) (i := bi) (by omega)
   have iv := hcv2 bi (by omega)
   have ev : stp inp C ⟨3, (d : Int), (ai : Int), (bi : Int), sa, sb, imm⟩ = scl (C.getD ai 0) sa + scl (C.getD bi 0) sb := by simp [stp]
   rw [ev] at hs est
   clear ev
   generalize C.getD ai 0 = u at *
   generalize C.getD bi 0 = v at *
   have w1 := zbl u sa h3.2 (zbD iu)
   have k1 := zdV (x := u) (k := sa) h3.2.2 (zbD iu)
   have w2 := zbl v sb h5 (zbD iv)
   have k2 := zdV (x := v) (k := sb) h5.2 (zbD iv)
   generalize scl u sa = y1 at *
   generalize scl v sb = y2 at *
   unfold i32 at hs
   have s1 := zbk (y1 + y2)
   rw [decide_eq_true hs] at s1
   clear hcv2 hnv2
   refine wkr (zc7 hI hrl rp rd e9 ra rb) ?_
   refine zac (α := Nat) (k + 1) ⟨?_, nx⟩ ?_ ?_
   ·show k + 1 ≤ nI; omega
   ·show nI - (k + 1) < nI - k; omega
   rw [est]
   exact zah
  ·skip
   rw [if_neg (by decide)] at h3
   rw [if_neg (by decide)] at h3
   rw [if_pos (by decide)] at h4
   rw [if_pos (by decide)] at h5
   rw [if_neg (by decide)] at h6
   obtain ⟨ai, rfl⟩ : ∃ i : Nat, a = (i : Int) := ⟨a.toNat, by omega⟩
   have ra := ig (l := C) (i := ai) (by omega)
   have iu := hcv2 ai (by omega)
   obtain ⟨bi, rfl⟩ : ∃ i : Nat, b = (i : Int) := ⟨b.toNat, by omega⟩
   have rb := ig (l := C) (i := bi) (by omega)
   have iv := hcv2 bi (by omega)
   have ev : stp inp C ⟨4, (d : Int), (ai : Int), (bi : Int), sa, sb, imm⟩ = scl (C.getD ai 0) sa - scl (C.getD bi 0) sb := by simp [stp]
   rw [ev] at hs est
   clear ev
   generalize C.getD ai 0 = u at *
   generalize C.getD bi 0 = v at *
   have w1 := zbl u sa h3.2 (zbD iu)
   have k1 := zdV (x := u) (k := sa) h3.2.2 (zbD iu)
   have w2 := zbl v sb h5 (zbD iv)
   have k2 := zdV (x := v) (k := sb) h5.2 (zbD iv)
   generalize scl u sa = y1 at *
   generalize scl v sb = y2 at *
   unfold i32 at hs
   have s1 := zbk (y1 - y2)
   rw [decide_eq_true hs] at s1
   clear hcv2 hnv2
   refine wkr (zc7 hI hrl rp rd e9 ra rb) ?_
   refine zac (α := Nat) (k + 1) ⟨?_, nx⟩ ?_ ?_
   ·show k + 1 ≤ nI; omega
   ·show nI - (k + 1) < nI - k; omega
   rw [est]
   exact zah
  ·skip
   rw [if_neg (by decide)] at h3
   rw [if_neg (by decide)] at h3
   rw [if_neg (by decide)] at h4
   rw [if_neg (by decide)] at h5
   rw [if_neg (by decide)] at h6
   obtain ⟨ai, rfl⟩ : ∃ i : Nat, a = (i : Int) := ⟨a.toNat, by omega⟩
   have ra := ig (l := C) (i := ai) (by omega)
   have iu := hcv2 ai (by omega)
   have ev : stp inp C ⟨5, (d : Int), (ai : Int), b, sa, sb, imm⟩ = -scl (C.getD ai 0) sa := by simp [stp]
   rw [ev] at hs est
   clear ev
   generalize C.getD ai 0 = u at *
   have w1 := zbl u sa h3.2 (zbD iu)
   have k1 := zdV (x := u) (k := sa) h3.2.2 (zbD iu)
   generalize scl u sa = y1 at *
   have e0 : -y1 = 0 - y1 := by omega
   rw [e0] at hs est
   unfold i32 at hs
   have s1 := zbk (0 - y1)
   rw [decide_eq_true hs] at s1
   clear hcv2 hnv2
   refine wkr (zc6 hI hrl rp rd e9 ra) ?_
   refine zac (α := Nat) (k + 1) ⟨?_, nx⟩ ?_ ?_
   ·show k + 1 ≤ nI; omega
   ·show nI - (k + 1) < nI - k; omega
   rw [est]
   exact zah
  ·skip
   rw [if_neg (by decide)] at h3
   rw [if_neg (by decide)] at h3
   rw [if_neg (by decide)] at h4
   rw [if_neg (by decide)] at h5
   rw [if_pos (by decide)] at h6
   obtain ⟨ai, rfl⟩ : ∃ i : Nat, a = (i : Int) := ⟨a.toNat, by omega⟩
   have ra := ig (l := C) (i := ai) (by omega)
   have iu := hcv2 ai (by omega)
   have ev : stp inp C ⟨6, (d : Int), (ai : Int), b, sa, sb, imm⟩ = scl ((C.getD ai 0) * imm) sa := by simp [stp]
   rw [ev] at hs est
   clear ev
   generalize C.getD ai 0 = u at *
   have m1 := zol iu (show i32 imm from h6)
   have w1 := zbl (u * imm) sa h3.2 (by omega)
   generalize hz : u * imm = z at *
   generalize scl z sa = y1 at *
   unfold i32 at hs
   have s1 := zbk (y1)
   rw [decide_eq_true hs] at s1
   clear hcv2 hnv2
   refine wkr (zc7 hI hrl rp rd e9 ra hz) ?_
   refine zac (α := Nat) (k + 1) ⟨?_, nx⟩ ?_ ?_
   ·show k + 1 ≤ nI; omega
   ·show nI - (k + 1) < nI - k; omega
   rw [est]
   exact zah
  ·skip
   rw [if_neg (by decide)] at h3
   rw [if_neg (by decide)] at h3
   rw [if_pos (by decide)] at h4
   rw [if_neg (by decide)] at h5
   rw [if_neg (by decide)] at h6
   obtain ⟨ai, rfl⟩ : ∃ i : Nat, a = (i : Int) := ⟨a.toNat, by omega⟩
   have ra := ig (l := C) (i := ai) (by omega)
   have iu := hcv2 ai (by omega)
   obtain ⟨bi, rfl⟩ : ∃ i : Nat, b = (i : Int) := ⟨b.toNat, by omega⟩
   have rb := ig (l := C) (i := bi) (by omega)
   have iv := hcv2 bi (by omega)
   have ev : stp inp C ⟨7, (d : Int), (ai : Int), (bi : Int), sa, sb, imm⟩ = scl ((C.getD ai 0) * (C.getD bi 0)) sa := by simp [stp]
   rw [ev] at hs est
   clear ev
   generalize C.getD ai 0 = u at *
   generalize C.getD bi 0 = v at *
   have m1 := zol iu iv
   have w1 := zbl (u * v) sa h3.2 (by omega)
   generalize hz : u * v = z at *
   generalize scl z sa = y1 at *
   unfold i32 at hs
   have s1 := zbk (y1)
   rw [decide_eq_true hs] at s1
   clear hcv2 hnv2
   refine wkr (zc8 hI hrl rp rd e9 ra rb hz) ?_
   refine zac (α := Nat) (k + 1) ⟨?_, nx⟩ ?_ ?_
   ·show k + 1 ≤ nI; omega
   ·show nI - (k + 1) < nI - k; omega
   rw [est]
   exact zah
  ·skip
   rw [if_neg (by decide)] at h3
   rw [if_neg (by decide)] at h3
   rw [if_pos (by decide)] at h4
   rw [if_pos (by decide)] at h5
   rw [if_neg (by decide)] at h6
   obtain ⟨ai, rfl⟩ : ∃ i : Nat, a = (i : Int) := ⟨a.toNat, by omega⟩
   have ra := ig (l := C) (i := ai) (by omega)
   have iu := hcv2 ai (by omega)
   obtain ⟨bi, rfl⟩ : ∃ i : Nat, b = (i : Int) := ⟨b.toNat, by omega⟩
   have rb := ig (l := C) (i := bi) (by omega)
   have iv := hcv2 bi (by omega)
   have ev : stp inp C ⟨8, (d : Int), (ai : Int), (bi : Int), sa, sb, imm⟩ = min (scl (C.getD ai 0) sa) (scl (C.getD bi 0) sb) := by simp [stp]
   rw [ev] at hs est
   clear ev
   generalize C.getD ai 0 = u at *
   generalize C.getD bi 0 = v at *
   have w1 := zbl u sa h3.2 (zbD iu)
   have k1 := zdV (x := u) (k := sa) h3.2.2 (zbD iu)
   have w2 := zbl v sb h5 (zbD iv)
   have k2 := zdV (x := v) (k := sb) h5.2 (zbD iv)
   generalize scl u sa = y1 at *
   generalize scl v sb = y2 at *
   unfold i32 at hs
   have s1 := zbk (min y1 y2)
   rw [decide_eq_true hs] at s1
   clear hcv2 hnv2
   refine wkr (zc7 hI hrl rp rd e9 ra rb) ?_
   refine zac (α := Nat) (k + 1) ⟨?_, nx⟩ ?_ ?_
   ·show k + 1 ≤ nI; omega
   ·show nI - (k + 1) < nI - k; omega
   rw [est]
   exact zah
  ·skip
   rw [if_neg (by decide)] at h3
   rw [if_neg (by decide)] at h3
   rw [if_pos (by decide)] at h4
   rw [if_pos (by decide)] at h5
   rw [if_neg (by decide)] at h6
   obtain ⟨ai, rfl⟩ : ∃ i : Nat, a = (i : Int) := ⟨a.toNat, by omega⟩
   have ra := ig (l := C) (i := ai) (by omega)
   have iu := hcv2 ai (by omega)
   obtain ⟨bi, rfl⟩ : ∃ i : Nat, b = (i : Int) := ⟨b.toNat, by omega⟩
   have rb := ig (l := C) (i := bi) (by omega)
   have iv := hcv2 bi (by omega)
   have ev : stp inp C ⟨9, (d : Int), (ai : Int), (bi : Int), sa, sb, imm⟩ = max (scl (C.getD ai 0) sa) (scl (C.getD bi 0) sb) := by simp [stp]
   rw [ev] at hs est
   clear ev
   generalize C.getD ai 0 = u at *
   generalize C.getD bi 0 = v at *
   have w1 := zbl u sa h3.2 (zbD iu)
   have k1 := zdV (x := u) (k := sa) h3.2.2 (zbD iu)
   have w2 := zbl v sb h5 (zbD iv)
   have k2 := zdV (x := v) (k := sb) h5.2 (zbD iv)
   generalize scl u sa = y1 at *
   generalize scl v sb = y2 at *
   unfold i32 at hs
   have s1 := zbk (max y1 y2)
   rw [decide_eq_true hs] at s1
   clear hcv2 hnv2
   refine wkr (zc7 hI hrl rp rd e9 ra rb) ?_
   refine zac (α := Nat) (k + 1) ⟨?_, nx⟩ ?_ ?_
   ·show k + 1 ≤ nI; omega
   ·show nI - (k + 1) < nI - k; omega
   rw [est]
   exact zah
  ·skip
   rw [if_neg (by decide)] at h3
   rw [if_neg (by decide)] at h3
   rw [if_neg (by decide)] at h4
   rw [if_neg (by decide)] at h5
   rw [if_neg (by decide)] at h6
   obtain ⟨ai, rfl⟩ : ∃ i : Nat, a = (i : Int) := ⟨a.toNat, by omega⟩
   have ra := ig (l := C) (i := ai) (by omega)
   have iu := hcv2 ai (by omega)
   have ev : stp inp C ⟨10, (d : Int), (ai : Int), b, sa, sb, imm⟩ = max (scl (C.getD ai 0) sa) (-scl (C.getD ai 0) sa) := by simp [stp]
   rw [ev] at hs est
   clear ev
   generalize C.getD ai 0 = u at *
   have w1 := zbl u sa h3.2 (zbD iu)
   have k1 := zdV (x := u) (k := sa) h3.2.2 (zbD iu)
   generalize scl u sa = y1 at *
   have e0 : -y1 = 0 - y1 := by omega
   rw [e0] at hs est
   unfold i32 at hs
   have s1 := zbk (max y1 (0 - y1))
   rw [decide_eq_true hs] at s1
   clear hcv2 hnv2
   refine wkr (zc6 hI hrl rp rd e9 ra) ?_
   refine zac (α := Nat) (k + 1) ⟨?_, nx⟩ ?_ ?_
   ·show k + 1 ≤ nI; omega
   ·show nI - (k + 1) < nI - k; omega
   rw [est]
   exact zah
 obtain rfl : k = nI := by omega
 generalize zjs inp code cells k = C at *
 clear hv q3 hcv hcv2 hnv2
 refine wkr (zc3 hI hO hrl) ?_
 refine lL (α := Nat) (fun k => ⟨[(3, .p 0 4 0 0), (6, .p 1 3 0 0), (13, .p 3 3 0 0), (277, .sl 1 (rws zad outs)), (278, .v (.int .i64 nO)), (279, .v (.int .i64 k))], [(0, ⟨4, [[.sl 3 (rws zaD ports), .sl 1 (rws zad init), .sl 7 (rws zbn code), .sl 1 (rws zad outs)]]⟩), (1, ⟨3, [[.v (.slice none 0 0), .v (.slice none 0 0), .v (.bool (false))]]⟩), (2, ⟨1, rws zad C⟩), (3, ⟨3, [[.ps 2 1 0 nC, .ps 4 1 0 k, .v (.bool (false))]]⟩), (4, ⟨1, rws zad ((outs.take k).map fun o => C.getD o.toNat 0)⟩)], 5⟩) (fun k => k ≤ nO) (fun k => nO - k) (0) ?_ ?_ ?_
 ·exact Nat.zero_le _
 ·exact zaI.trans (zaI.newnil 4 1 (Nat.le_refl _)) (Nat.le_of_ble_eq_true rfl) (zaI.trans (zaI.mle 3 ⟨3, [[.ps 2 1 0 nC, .ps 4 1 0 0, .v (.bool false)]]⟩ rfl (zkW (.cons (.refl _) (.cons (Le.ps0 4 1 0) (.cons (.refl _) .nil))))) (Nat.le_refl _) (by exact zah))
 rintro k hk
 by_cases hkn : k < nO
 ·have ro := ig (l := outs) (i := k) (by omega)
  obtain ⟨o1, o2⟩ := q4 k hkn
  have ms := mapTk (fun o : Int => C.getD o.toNat 0) 0 outs (k := k) (by omega)
  have hL : ((outs.take k).map fun o : Int => C.getD o.toNat 0).length = k := by rw [List.length_map, List.length_take]; omega
  clear q4
  generalize outs.getD k 0 = o at *
  obtain ⟨oi, rfl⟩ : ∃ i : Nat, o = (i : Int) := ⟨o.toNat, by omega⟩
  rw [Int.toNat_natCast] at ms
  have rc := ig (l := C) (i := oi) (by omega)
  generalize C.getD oi 0 = v at *
  generalize ((outs.take k).map fun o : Int => C.getD o.toNat 0) = L at *
  have hlo : (rws zad L).length = k := by rw [zab, hL]
  have e9 : (rws zad L).take k ++ [[AV.v (.int .i64 v)]] = rws zad (L ++ [v]) := zbV hL
  repeat' (first | simp only [go_sem, seval, zab, hO, hrl, ro, rc, hL, e9] | simp (disch := omega) only [wA] | refine dAp ?_ | refine aI ?_ | refine dI ?_ | refine dG ?_ | ((first | refine cC ?_ ?_ | refine gS ?_ ?_ | refine dS ?_ ?_) <;> intro hc <;> simp only [hc] <;> try simp only [dcA] at hc <;> try omega) | refine aP ?_ | refine dP ?_)
  refine zac (α := Nat) (k + 1) ?_ ?_ ?_
  ·show k + 1 ≤ nO; omega
  ·show nO - (k + 1) < nO - k; omega
  rw [ms]
  exact zaI.map [(0, 0), (1, 1), (2, 2), (3, 3), (4, 13)] rfl (by decide) (by decide) zml byGQ
 obtain rfl : k = nO := by omega
 rw [List.take_of_length_le (by omega)]
 have hoL : (outL C outs).length = k := by unfold outL; rw [List.length_map, hO]
 have eL : (outs.map fun o : Int => C.getD o.toNat 0) = outL C outs := rfl
 rw [eL]
 generalize outL C outs = L at *
 clear q4 eL
 repeat' (first | simp only [go_sem, seval, zab, hO] | simp (disch := omega) only [wA] | refine aI ?_ | refine dI ?_ | refine dG ?_ | ((first | refine cC ?_ ?_ | refine gS ?_ ?_ | refine dS ?_ ?_) <;> intro hc <;> simp only [hc] <;> try simp only [dcA] at hc <;> try omega) | refine aP ?_ | refine dP ?_)
 have z1 : (rws zad C).length ≤ nC := by rw [zab]; omega
 have z2 : (rws zad L).length ≤ k := by rw [zab]; omega
 refine zci trivial (.tup (.cons (.agg (.cons (.ps rfl rfl (by show 0 + nC ≤ (rws zad C).length; rw [zab]; omega)) (.cons (.ps rfl rfl (by show 0 + k ≤ (rws zad L).length; rw [zab]; omega)) (.cons .same .nil)))) (.cons (.one .same) .nil))) ?_
 exact Le.tup (.cons (Le.agg (.cons (Le.takeN z1) (.cons (Le.takeN z2) (.cons (.refl _) .nil)))) (.cons (.refl _) .nil))
set_option maxHeartbeats 8000000
theorem ct_power (x : Dy) (hM : Mg 20001 x) : CallX Tryz.prog gl 60 [.agg [.v (.bool (sg (x))), .sl 1 (u32s (ms (x))), .v (.int .i64 (dn (x)))]] (fun av => ∃ k : Int, av = .agg [.v (.bool (sg (pw k))), .sl 1 (u32s (ms (pw k))), .v (.int .i64 (dn (pw k)))] ∧ -62 ≤ k ∧ k ≤ 60000 ∧ x.v ≤ (pw k).v) := by
 refine okX 12 Tryz.call60 Tryz.func60 Tryz.ntmps60 Tryz.results60 ?_
 have u1 := zlh 62 (by omega)
 have u1 : CallOK Tryz.prog gl 96 [.v (.int .i64 62)] (.agg [.v (.bool (sg (pw (((0 : Nat) : Int) - 62)))), .sl 1 (u32s (ms (pw (((0 : Nat) : Int) - 62)))), .v (.int .i64 (dn (pw (((0 : Nat) : Int) - 62))))]) := u1
 have hx := mg_le_pw hM (by omega)
 refine wk zc0 ?_
 refine lL (α := Nat) (fun j => ⟨[(1, .p 0 3 0 0), (2, .p 1 3 0 0), (3, .p 2 3 0 0)], [(0, ⟨3, [[.v (.bool (sg x)), .sl 1 (u32s (ms x)), .v (.int .i64 (dn x))]]⟩), (1, ⟨3, [[.v (.bool (false)), .v (.slice none 0 0), .v (.int .i64 0)]]⟩), (2, ⟨3, [[.v (.bool (sg (pw ((j : Int) - 62)))), .sl 1 (u32s (ms (pw ((j : Int) - 62)))), .v (.int .i64 (dn (pw ((j : Int) - 62))))]]⟩)], 3⟩) (fun j => j ≤ 20063) (fun j => 20063 - j) (0) ?_ ?_ ?_
 ·exact Nat.zero_le _
 ·exact zah
 rintro j hj
 have gp : Mg 100001 (pw ((j : Int) - 62)) := zjN (by omega)
 have m1 := zb2 _ _ _ _ _ _ _ _ (gp.arg (by omega)) (hM.arg (by omega))
 have s1 := zaS _ _ _ 1 _ (gp.arg (by omega))
 rw [pw_succ (by omega)] at s1
 have hc1 := cmp_lt (pw ((j : Int) - 62)) x
 have hj2 : j < 20063 ∨ x.v ≤ (pw ((j : Int) - 62)).v := by
  by_cases h : j < 20063
  ·exact .inl h
  ·refine .inr (Rat.le_trans hx (ziL (by omega) (by omega) (by omega)))
 have ej : ((j : Int) - 62 + 1) = (((j + 1 : Nat) : Int) - 62) := by omega
 rw [ej] at s1
 by_cases hlt : (pw ((j : Int) - 62)).cmp x < 0
 ·have hj3 : j < 20063 := hj2.resolve_right (fun h => by have := hc1.1 hlt; exact absurd this (Rat.not_lt.2 h))
  clear hc1 hj2 gp hM hx
  generalize (pw ((j : Int) - 62)).cmp x = c at *
  generalize hp1 : pw (((j + 1 : Nat) : Int) - 62) = p1 at *
  generalize pw ((j : Int) - 62) = p0 at *
  refine wk zc0 ?_
  refine zac (α := Nat) (j + 1) ?_ ?_ ?_
  ·show j + 1 ≤ 20063; omega
  ·show 20063 - (j + 1) < 20063 - j; omega
  rw [hp1]
  exact zah
 ·have hle : x.v ≤ (pw ((j : Int) - 62)).v := Rat.not_lt.1 (fun h => hlt (hc1.2 h))
  clear hc1 hj2 gp hM hx
  generalize hp0 : pw ((j : Int) - 62) = p0 at *
  generalize p0.cmp x = c at *
  repeat' (first | simp only [go_sem, seval] | simp (disch := omega) only [wA] | (with_reducible first | refine cA ?_ | refine dA ?_) | refine aI ?_ | refine dI ?_ | refine dG ?_ | ((first | refine cC ?_ ?_ | refine gS ?_ ?_ | refine dS ?_ ?_) <;> intro hc <;> simp only [hc] <;> try simp only [dcA] at hc <;> try omega) | refine aP ?_ | refine dP ?_)
  all_goals exact ⟨_, ⟨(j : Int) - 62, rfl, by omega, by omega, by rw [hp0]; exact hle⟩, zdk, zbQ trivial (by rw [hp0]; exact .refl _)⟩
theorem zo8 (ins : List (Int × Int × Int)) (bs : List Blk) (outs : List Int) (R : List Iv) (fr : List Int) (oa : Option Addr) (ln cp : Nat) (O D : List Int) (N m oL : Nat) (hdg : DgOK ins bs outs) (h64 : N ≤ 64) (hB : bs.length = N) (hf : fr.length = N) (hR : R.length = N) (hV : ∀ i, i < N → (R.getD i Iv.zero).Mg 9000) (hF : ∀ i, i < N → 0 ≤ fr.getD i 0 ∧ fr.getD i 0 ≤ 30) (hm : D.length = m) (hmn : m ≤ N) (hoL : O.length = oL) (hoN : oL ≤ N) (hd : ∀ k, k < m → 0 ≤ D.getD k 0 ∧ (D.getD k 0).toNat < N) (ho : ∀ k, k < oL → 0 ≤ O.getD k 0 ∧ (O.getD k 0).toNat < N) (cb : zae zao) (cc : zae zaj) (cv : zae ivr) : CallX Tryz.prog gl 22 [AG ins bs outs, .agg [.sl 1 (rws zad fr), .sl 6 (rws ivr R), .v (.slice oa ln cp)], .sl 1 (rws zad O), .sl 1 (rws zad D)] (ErrOK ins bs fr R O N m oL) := by
 refine okX 85 Tryz.call22 Tryz.func22 Tryz.ntmps22 Tryz.results22 ?_
 have blk := fun i hi => hdg.blk i hi
 rw [hB] at blk
 have bnd := fun (er : List Dy) (hN : er.length = N) (hM : ∀ i, i < N → Mg 9000 (er.getD i Dy.zero)) (i : Nat) (hi : i < N) => cl_bound ins bs outs R fr oa ln cp er N i _ rfl (blk i hi) hB hi (by omega) hN hf hR hM hV hF hdg.ports
 have bmg := fun (er : List Dy) (hM : ∀ i, i < N → Mg 9000 (er.getD i Dy.zero)) (i : Nat) (hi : i < N) => bdB_mg (fr := fr) (R := R) hM hV (hF i hi).1 (blk i hi)
 have bnn := fun (er : List Dy) (hE : ∀ i, i < N → 0 ≤ (er.getD i Dy.zero).v) (i : Nat) (hi : i < N) => bdB_nn (fr := fr) (R := R) (f := fr.getD i 0) hE (blk i hi)
 clear hV hF blk hdg
 refine wkr hB ?_
 refine lL (α := Nat × List Dy) (fun y => ⟨[(2, .sl 1 (rws zad O)), (3, .sl 1 (rws zad D)), (4, .p 0 3 0 0), (5, .p 1 3 0 0), (10, .ps 2 3 0 N), (22, .v (.int .i64 y.1))], [(0, ⟨3, [[.sl 3 (rws zaD ins), .sl 6 (rws zao bs), .sl 1 (rws zad outs)]]⟩), (1, ⟨3, [[.sl 1 (rws zad fr), .sl 6 (rws ivr R), .v (.slice oa ln cp)]]⟩), (2, ⟨3, rws zaj y.2⟩)], 3⟩) (fun y => (y.1 ≤ 128 ∧ y.2.length = N) ∧ (∀ i, i < N → EOK (y.2.getD i Dy.zero)) ∧ (m = 0 → y.1 = 0 ∧ y.2 = List.replicate N Dy.zero)) (fun y => 128 - y.1) ((0, List.replicate N Dy.zero)) ?_ ?_ ?_
 ·refine ⟨⟨Nat.zero_le _, List.length_replicate⟩, fun i hi => ?_, fun _ => ⟨rfl, rfl⟩⟩
  show EOK ((List.replicate N Dy.zero).getD i Dy.zero)
  rw [show (List.replicate N Dy.zero).getD i Dy.zero = Dy.zero by simp [List.getD, hi]]
  exact EOK.zero
 ·exact zaI.trans (zaI.mle 2 ⟨3, rws zaj (List.replicate N Dy.zero)⟩ rfl (mle_d N)) (Nat.le_refl _) (by exact zah)
 rintro ⟨rd, e0⟩ ⟨⟨hrd, hl0⟩, hE0, hz0⟩
 have hrd : rd ≤ 128 := hrd
 have hl0 : e0.length = N := hl0
 have hE0 : ∀ i, i < N → EOK (e0.getD i Dy.zero) := hE0
 have hz0 : m = 0 → rd = 0 ∧ e0 = List.replicate N Dy.zero := hz0
 by_cases hr : rd < 128
 case neg =>
  clear bnd bmg bnn hE0
  repeat' (first | simp only [go_sem, seval, zab] | simp (disch := omega) only [wA] | refine aI ?_ | refine dI ?_ | refine dG ?_ | ((first | refine cC ?_ ?_ | refine gS ?_ ?_ | refine dS ?_ ?_) <;> intro hc <;> simp only [hc] <;> try simp only [dcA] at hc <;> try omega) | refine aP ?_ | refine dP ?_)
  all_goals exact ⟨.tup [.sl 3 (rws zaj []), .v (.bool false)], ⟨[], false, rfl, fun h => Bool.noConfusion h, fun h => by have := (hz0 h).1; omega⟩, zdk, zbQ trivial (Le.tup (.cons (Le.nil _) (.cons (.refl _) .nil)))⟩
 refine wkr hoL ?_
 refine lL (α := Nat) (fun j => ⟨[(2, .sl 1 (rws zad O)), (3, .sl 1 (rws zad D)), (4, .p 0 3 0 0), (5, .p 1 3 0 0), (10, .ps 2 3 0 N), (22, .v (.int .i64 rd)), (11, .v (.int .i64 rd)), (12, .v (.bool (false))), (25, .sl 1 (rws zad O)), (26, .v (.int .i64 oL)), (27, .v (.int .i64 j))], [(0, ⟨3, [[.sl 3 (rws zaD ins), .sl 6 (rws zao bs), .sl 1 (rws zad outs)]]⟩), (1, ⟨3, [[.sl 1 (rws zad fr), .sl 6 (rws ivr R), .v (.slice oa ln cp)]]⟩), (2, ⟨3, rws zaj (erO ins bs fr R O e0 j)⟩)], 3⟩) (fun j => j ≤ oL ∧ ∀ i, i < N → EOK ((erO ins bs fr R O e0 j).getD i Dy.zero)) (fun j => oL - j) (0) ?_ ?_ ?_
 ·exact ⟨Nat.zero_le _, hE0⟩
 ·exact zah
 rintro j ⟨hj, hE⟩
 have hlen := zoX ins bs fr R O e0 j
 rw [hl0] at hlen
 by_cases hjo : j < oL
 ·have ro := ig (l := O) (i := j) (by omega)
  obtain ⟨o1, o2⟩ := ho j hjo
  have e1 : erO ins bs fr R O e0 (j + 1) = (erO ins bs fr R O e0 j).set (O.getD j 0).toNat (erV ins bs fr R O e0 j) := rfl
  have ev : erV ins bs fr R O e0 j = upC (bdB ins fr R (erO ins bs fr R O e0 j) (fr.getD (O.getD j 0).toNat 0) (bs.getD (O.getD j 0).toNat Blk.zero)) := rfl
  have w1 := bnd _ hlen (fun i hi => (hE i hi).mg.mono (by omega)) _ o2
  have g1 := bmg _ (fun i hi => (hE i hi).mg.mono (by omega)) _ o2
  have n1 := bnn _ (fun i hi => (hE i hi).nn) _ o2
  have u1 := ct_up _ (g1.mono (k' := 30000) (by omega))
  have gv : Mg 300000 (erV ins bs fr R O e0 j) := by rw [ev]; exact ((g1.ceil (den := 62))).mono (by omega)
  have nv : 0 ≤ (erV ins bs fr R O e0 j).v := by rw [ev]; exact zpw (by omega) n1
  have dv : (erV ins bs fr R O e0 j).d ≤ 62 := by rw [ev]; exact zpx (by omega)
  have f1 := zo7 _ gv
  rw [← ev] at u1
  have hfar : m = 0 → farC (erV ins bs fr R O e0 j) = decide (0 < (erV ins bs fr R O (List.replicate N Dy.zero) j).cmp (Dy.int 1099511627776)) := fun h => by rw [(hz0 h).2]; rfl
  have nx := fun (h : farC (erV ins bs fr R O e0 j) = false) => zb0 (P := EOK) (n := N) (by rw [hlen]; exact o2) hE ⟨nv, zoS h, dv⟩
  rw [← e1] at nx
  clear bnd bmg bnn hE0 hE ho hd g1 n1 gv nv dv ev
  obtain ⟨p, hp⟩ : ∃ p : Nat, O.getD j 0 = (p : Int) := ⟨(O.getD j 0).toNat, by omega⟩
  rw [hp] at ro
  rw [hp, Int.toNat_natCast] at o2 e1 w1 u1
  generalize bdB ins fr R (erO ins bs fr R O e0 j) (fr.getD p 0) (bs.getD p Blk.zero) = z at *
  by_cases hff : farC (erV ins bs fr R O e0 j) = true
  ·rw [hff] at f1
   have hcon : m = 0 → ¬ (∀ k, k < oL → decide (0 < (erV ins bs fr R O (List.replicate N Dy.zero) k).cmp (Dy.int 1099511627776)) = false) := fun h hk => by
    have := hk j hjo
    rw [← hfar h, hff] at this; cases this
   clear nx hfar
   generalize erV ins bs fr R O e0 j = x at *
   generalize erO ins bs fr R O e0 j = V at *
   have rl : ((rws zaj V).getD p []).length = 3 := by rw [cg (by omega)]; rfl
   have r6 : List.drop 3 ((rws zaj V).getD p []) = [] := List.drop_eq_nil_of_le (by rw [rl]; exact Nat.le_refl _)
   have e9 : (rws zaj V).set p [.v (.bool (sg x)), .sl 1 (u32s (ms x)), .v (.int .i64 (dn x))] = rws zaj (V.set p x) := zba V p x
   have hl2 : (V.set p x).length = N := by rw [List.length_set]; exact hlen
   have rx : (rws zaj (V.set p x)).getD p [] = zaj x := by rw [cg (by omega), zaL Dy.zero x (by omega), if_pos rfl]
   repeat' (first | simp only [go_sem, seval, zab, hoL, hlen, ro, rl, r6, e9, hl2, rx] | simp (disch := omega) only [wA] | refine cW 2 w1 ?_ | refine dW 2 w1 ?_ | (with_reducible first | refine cA ?_ | refine dA ?_) | refine aI ?_ | refine dI ?_ | refine dG ?_ | ((first | refine cC ?_ ?_ | refine gS ?_ ?_ | refine dS ?_ ?_) <;> intro hc <;> simp only [hc] <;> try simp only [dcA] at hc <;> try omega) | refine aP ?_ | refine dP ?_)
   all_goals exact ⟨.tup [.sl 3 (rws zaj []), .v (.bool false)], ⟨[], false, rfl, fun h => Bool.noConfusion h, fun h hk => absurd hk (hcon h)⟩, zdk, zbQ trivial (Le.tup (.cons (Le.nil _) (.cons (.refl _) .nil)))⟩
  ·have hff : farC (erV ins bs fr R O e0 j) = false := by simpa using hff
   rw [hff] at f1
   have nx2 := nx hff
   clear nx hfar hff
   generalize erV ins bs fr R O e0 j = x at *
   generalize erO ins bs fr R O e0 j = V at *
   have rl : ((rws zaj V).getD p []).length = 3 := by rw [cg (by omega)]; rfl
   have r6 : List.drop 3 ((rws zaj V).getD p []) = [] := List.drop_eq_nil_of_le (by rw [rl]; exact Nat.le_refl _)
   have e9 : (rws zaj V).set p [.v (.bool (sg x)), .sl 1 (u32s (ms x)), .v (.int .i64 (dn x))] = rws zaj (erO ins bs fr R O e0 (j + 1)) := by rw [e1]; exact zba V p x
   have hl2 : (erO ins bs fr R O e0 (j + 1)).length = N := by rw [e1, List.length_set]; exact hlen
   have rx : (rws zaj (erO ins bs fr R O e0 (j + 1))).getD p [] = zaj x := by rw [cg (by omega), e1, zaL Dy.zero x (by omega), if_pos rfl]
   refine wkrq [] 2 w1 w1 (zc8 hoL hlen ro rl r6 e9 hl2 rx) ?_
   refine zac (α := Nat) (j + 1) ⟨?_, nx2⟩ ?_ ?_
   ·show j + 1 ≤ oL; omega
   ·show oL - (j + 1) < oL - j; omega
   exact zah
 obtain rfl : j = oL := by omega
 have hzA : m = 0 → erO ins bs fr R O e0 j = erO ins bs fr R O (List.replicate N Dy.zero) j := fun h => by rw [(hz0 h).2]
 clear ho hE0 hjo hj
 generalize erO ins bs fr R O e0 j = EA at *
 refine wkr hm ?_
 refine lL (α := Nat × List Dy × Bool) (fun y => ⟨[(2, .sl 1 (rws zad O)), (3, .sl 1 (rws zad D)), (4, .p 0 3 0 0), (5, .p 1 3 0 0), (10, .ps 2 3 0 N), (22, .v (.int .i64 rd)), (11, .v (.int .i64 rd)), (12, .v (.bool (y.2.2))), (46, .sl 1 (rws zad D)), (47, .v (.int .i64 m)), (48, .v (.int .i64 y.1))], [(0, ⟨3, [[.sl 3 (rws zaD ins), .sl 6 (rws zao bs), .sl 1 (rws zad outs)]]⟩), (1, ⟨3, [[.sl 1 (rws zad fr), .sl 6 (rws ivr R), .v (.slice oa ln cp)]]⟩), (2, ⟨3, rws zaj y.2.1⟩)], 3⟩) (fun y => (y.1 ≤ m ∧ y.2.1.length = N) ∧ (∀ i, i < N → EOK (y.2.1.getD i Dy.zero)) ∧ (y.1 = 0 → y.2.1 = EA ∧ y.2.2 = false)) (fun y => m - y.1) ((0, EA, false)) ?_ ?_ ?_
 ·exact ⟨⟨Nat.zero_le _, hlen⟩, hE, fun _ => ⟨rfl, rfl⟩⟩
 ·exact zah
 rintro ⟨k, V, ch⟩ ⟨⟨hk, hlV⟩, hEV, hz1⟩
 have hk : k ≤ m := hk
 have hlV : V.length = N := hlV
 have hEV : ∀ i, i < N → EOK (V.getD i Dy.zero) := hEV
 have hz1 : k = 0 → V = EA ∧ ch = false := hz1
 clear hE
 by_cases hkm : k < m
 ·have rD := ig (l := D) (i := k) (by omega)
  obtain ⟨d1, d2⟩ := hd k hkm
  obtain ⟨p, hp⟩ : ∃ p : Nat, D.getD k 0 = (p : Int) := ⟨(D.getD k 0).toNat, by omega⟩
  rw [hp] at rD
  rw [hp, Int.toNat_natCast] at d2
  have w1 := bnd _ hlV (fun i hi => (hEV i hi).mg.mono (by omega)) _ d2
  have g1 := bmg _ (fun i hi => (hEV i hi).mg.mono (by omega)) _ d2
  have n1 := bnn _ (fun i hi => (hEV i hi).nn) _ d2
  have u1 := ct_up _ (g1.mono (k' := 30000) (by omega))
  have gv : Mg 20001 (upC (bdB ins fr R V (fr.getD p 0) (bs.getD p Blk.zero))) := g1.ceil (den := 62)
  have nv : 0 ≤ (upC (bdB ins fr R V (fr.getD p 0) (bs.getD p Blk.zero))).v := zpw (by omega) n1
  have dv : (upC (bdB ins fr R V (fr.getD p 0) (bs.getD p Blk.zero))).d ≤ 62 := zpx (by omega)
  have ep := hEV p d2
  have re := cg (l := V) (i := p) (by omega)
  have x1 := zct _ _ _ _ _ _ _ _ (ep.mg.arg (by omega)) (gv.arg (by omega))
  have gx : Mg 20001 ((V.getD p Dy.zero).max (upC (bdB ins fr R V (fr.getD p 0) (bs.getD p Blk.zero)))) := (ep.mg.mono (by omega)).max gv
  have nnx : 0 ≤ ((V.getD p Dy.zero).max (upC (bdB ins fr R V (fr.getD p 0) (bs.getD p Blk.zero)))).v := zlW ep.nn
  have dx := max_d (n := 62) ep.d dv
  have c1 := zb2 _ _ _ _ _ _ _ _ (gx.arg (by omega)) (ep.mg.arg (by omega))
  have f1 := zo7 _ (gx.mono (k' := 300000) (by omega))
  have pwr := ct_power _ gx
  clear bnd bmg bnn hd g1 n1 gv nv dv
  generalize bdB ins fr R V (fr.getD p 0) (bs.getD p Blk.zero) = zb at *
  generalize hxx : (V.getD p Dy.zero).max (upC zb) = x at *
  have rl : ((rws zaj V).getD p []).length = 3 := by rw [cg (by omega)]; rfl
  have r6 : List.drop 3 ((rws zaj V).getD p []) = [] := List.drop_eq_nil_of_le (by rw [rl]; exact Nat.le_refl _)
  by_cases hc0 : x.cmp (V.getD p Dy.zero) = 0
  ·rw [hc0] at c1
   clear pwr f1
   refine wkrq [] 2 w1 w1 (zc6 hlV hm rD rl r6 re) ?_
   refine zac (α := Nat × List Dy × Bool) (k + 1, V, ch) ⟨⟨?_, hlV⟩, hEV, fun h => by cases h⟩ ?_ ?_
   ·show k + 1 ≤ m; omega
   ·show m - (k + 1) < m - k; omega
   exact zah
  ·have hm1 : m ≠ 0 := by omega
   by_cases h64r : 64 ≤ rd
   case pos =>
    clear f1
    refine wkrq [] 2 w1 w1 (zc6 hlV hm rD rl r6 re) ?_
    refine zhu pwr ?_
    rintro _ ⟨kk, rfl, k1, k2, k3⟩
    have f2 := zo7 (pw kk) ((zjN (k := kk) (by omega)).mono (k' := 300000) (by omega))
    have nn2 : 0 ≤ (pw kk).v := Rat.le_of_lt (pw_gt0 (by omega))
    have d2x := pw_d (k := kk) (by omega)
    clear pwr
    generalize pw kk = y at *
    by_cases hff : farC y = true
    ·rw [hff] at f2
     repeat' (first | simp only [go_sem, seval, zab, hlV, hm, rD, rl, r6, re] | simp (disch := omega) only [wA] | (with_reducible first | refine cA ?_ | refine dA ?_) | refine aI ?_ | refine dI ?_ | refine dG ?_ | ((first | refine cC ?_ ?_ | refine gS ?_ ?_ | refine dS ?_ ?_) <;> intro hc <;> simp only [hc] <;> try simp only [dcA] at hc <;> try omega) | refine aP ?_ | refine dP ?_)
     all_goals exact ⟨.tup [.sl 3 (rws zaj []), .v (.bool false)], ⟨[], false, rfl, fun h => Bool.noConfusion h, fun h => absurd h hm1⟩, zdk, zbQ trivial (Le.tup (.cons (Le.nil _) (.cons (.refl _) .nil)))⟩
    ·have hff : farC y = false := by simpa using hff
     rw [hff] at f2
     have nx2 := zb0 (P := EOK) (n := N) (by rw [hlV]; exact d2) hEV ⟨nn2, zoS hff, d2x⟩
     have e9 : (rws zaj V).set p [.v (.bool (sg y)), .sl 1 (u32s (ms y)), .v (.int .i64 (dn y))] = rws zaj (V.set p y) := zba V p y
     have hl2 : (V.set p y).length = N := by rw [List.length_set]; exact hlV
     refine wkr (zc8 hlV hm rD rl r6 re e9 hl2) ?_
     refine zac (α := Nat × List Dy × Bool) (k + 1, V.set p y, true) ⟨⟨?_, hl2⟩, nx2, fun h => by cases h⟩ ?_ ?_
     ·show k + 1 ≤ m; omega
     ·show m - (k + 1) < m - k; omega
     exact zah
   case neg =>
    by_cases hff : farC x = true
    ·rw [hff] at f1
     repeat' (first | simp only [go_sem, seval, zab, hlV, hm, rD, rl, r6, re] | simp (disch := omega) only [wA] | refine cW 2 w1 ?_ | refine dW 2 w1 ?_ | (with_reducible first | refine cA ?_ | refine dA ?_) | refine aI ?_ | refine dI ?_ | refine dG ?_ | ((first | refine cC ?_ ?_ | refine gS ?_ ?_ | refine dS ?_ ?_) <;> intro hc <;> simp only [hc] <;> try simp only [dcA] at hc <;> try omega) | refine aP ?_ | refine dP ?_)
     all_goals exact ⟨.tup [.sl 3 (rws zaj []), .v (.bool false)], ⟨[], false, rfl, fun h => Bool.noConfusion h, fun h => absurd h hm1⟩, zdk, zbQ trivial (Le.tup (.cons (Le.nil _) (.cons (.refl _) .nil)))⟩
    ·have hff : farC x = false := by simpa using hff
     rw [hff] at f1
     have nx2 := zb0 (P := EOK) (n := N) (by rw [hlV]; exact d2) hEV ⟨nnx, zoS hff, dx⟩
     have e9 : (rws zaj V).set p [.v (.bool (sg x)), .sl 1 (u32s (ms x)), .v (.int .i64 (dn x))] = rws zaj (V.set p x) := zba V p x
     have hl2 : (V.set p x).length = N := by rw [List.length_set]; exact hlV
     refine wkrq [] 2 w1 w1 (zc8 hlV hm rD rl r6 re e9 hl2) ?_
     refine zac (α := Nat × List Dy × Bool) (k + 1, V.set p x, true) ⟨⟨?_, hl2⟩, nx2, fun h => by cases h⟩ ?_ ?_
     ·show k + 1 ≤ m; omega
     ·show m - (k + 1) < m - k; omega
     exact zah
 obtain rfl : k = m := by omega
 clear bnd bmg bnn hd hE0
 cases ch
 ·have hm0 : k = 0 → (true = true ∧ V = erO ins bs fr R O (List.replicate N Dy.zero) j) := fun h => ⟨rfl, by rw [(hz1 h).1]; exact hzA h⟩
  repeat' (first | simp only [go_sem, seval, zab, hlV, hm] | simp (disch := omega) only [wA] | refine aI ?_ | refine dI ?_ | refine dG ?_ | ((first | refine cC ?_ ?_ | refine gS ?_ ?_ | refine dS ?_ ?_) <;> intro hc <;> simp only [hc] <;> try simp only [dcA] at hc <;> try omega) | refine aP ?_ | refine dP ?_)
  all_goals exact ⟨.tup [.sl 3 (rws zaj V), .v (.bool true)], ⟨V, true, rfl, fun _ => ⟨hlV, hEV⟩, fun h _ => hm0 h⟩, zdk, zci trivial (.tup (.cons (.one (.ps rfl rfl (by show 0 + N ≤ (rws zaj V).length; rw [zab]; omega))) (.cons (.one .same) .nil))) (by simp only [List.drop_zero, List.take_of_length_le (show (rws zaj V).length ≤ N by rw [zab]; omega)]; exact .refl _)⟩
 ·have hm1 : k ≠ 0 := fun h => by have := (hz1 h).2; cases this
  refine wkr (zc2 hlV hm) ?_
  refine zac (α := Nat × List Dy) (rd + 1, V) ⟨⟨?_, hlV⟩, hEV, fun h => absurd h hm1⟩ ?_ ?_
  ·show rd + 1 ≤ 128; omega
  ·show 128 - (rd + 1) < 128 - rd; omega
  exact zah
set_option maxHeartbeats 4000000
theorem ex_b0 (ins : List (Int × Int × Int)) (bs : List Blk) (outs inp : List Int) (vn ve un ue : Int) (vals : List Dy) (N : Nat) (hN : vals.length = N) (h0 : 0 < N) (hM : ∀ i, i < N → Mg 9000 (vals.getD i Dy.zero)) (cb : zae zao) (cc : zae zaj) (p nP : Nat) (hP : ins.length = nP) (hn : inp.length = nP) (hp : p < nP) (hI : ∀ i, i < nP → -2147483648 ≤ inp.getD i 0 ∧ inp.getD i 0 < 2147483648) (hF : 0 ≤ (ins.getD p (0, 0, 0)).2.2 ∧ (ins.getD p (0, 0, 0)).2.2 ≤ 30) : CallW Tryz.prog gl 31 [AG ins bs outs, .agg [.v (.int .i64 0), .sl 1 (rws zad [(p : Int)]), .v (.int .i64 vn), .v (.int .i64 ve), .v (.int .i64 un), .v (.int .i64 ue)], .ps 0 3 0 N, .sl 1 (rws zad inp)] ⟨3, rws zaj vals⟩ (.agg [.v (.bool (sg ((Dy.int (inp.getD p 0)).shift (-(ins.getD p (0, 0, 0)).2.2)))), .sl 1 (u32s (ms ((Dy.int (inp.getD p 0)).shift (-(ins.getD p (0, 0, 0)).2.2)))), .v (.int .i64 (dn ((Dy.int (inp.getD p 0)).shift (-(ins.getD p (0, 0, 0)).2.2))))]) ⟨3, rws zaj vals⟩ := by
 refine okW 102 Tryz.call31 Tryz.func31 Tryz.ntmps31 Tryz.results31 ?_
 have ri := ig (l := inp) (i := p) (by omega)
 have rp := pg (l := ins) (i := p) (by omega)
 have hi := hI p (by omega)
 have rp : (rws zaD ins).getD p [] = [.v (.int .i64 (ins.getD p (0, 0, 0)).1), .v (.int .i64 (ins.getD p (0, 0, 0)).2.1), .v (.int .i64 (ins.getD p (0, 0, 0)).2.2)] := rp
 generalize ins.getD p (0, 0, 0) = P at *
 generalize inp.getD p 0 = n at *
 have o1 := zeY n (by omega)
 have em : -P.2.2 = 0 - P.2.2 := by omega
 rw [em]
 have s1 := zaS _ _ _ (0 - P.2.2) _ (Arg.of (zcY (n := n) (by omega)) (by omega))
 clear em
 have hnp : inp.length = nP := hn
 generalize (Dy.int n).shift (0 - P.2.2) = z at *
 generalize Dy.int n = y at *
 obtain ⟨P1, P2, P3⟩ := P
 simp only at hF rp s1
 exact wflt [3, 2] (zc5 hN hn hP ri rp)
theorem ex_b1 (ins : List (Int × Int × Int)) (bs : List Blk) (outs inp : List Int) (vn ve un ue : Int) (vals : List Dy) (N : Nat) (hN : vals.length = N) (h0 : 0 < N) (hM : ∀ i, i < N → Mg 9000 (vals.getD i Dy.zero)) (cb : zae zao) (cc : zae zaj) (h : zbO vn ve) : CallW Tryz.prog gl 31 [AG ins bs outs, .agg [.v (.int .i64 1), .sl 1 (rws zad []), .v (.int .i64 vn), .v (.int .i64 ve), .v (.int .i64 un), .v (.int .i64 ue)], .ps 0 3 0 N, .sl 1 (rws zad inp)] ⟨3, rws zaj vals⟩ (.agg [.v (.bool (sg (scN vn ve))), .sl 1 (u32s (ms (scN vn ve))), .v (.int .i64 (dn (scN vn ve)))]) ⟨3, rws zaj vals⟩ := by
 refine okW 102 Tryz.call31 Tryz.func31 Tryz.ntmps31 Tryz.results31 ?_
 have c := zed vn ve h
 generalize scN vn ve = z at *
 clear hM h
 exact wfrt [3, 2] hN
theorem ex_b3 (ins : List (Int × Int × Int)) (bs : List Blk) (outs inp : List Int) (vn ve un ue : Int) (vals : List Dy) (N : Nat) (hN : vals.length = N) (h0 : 0 < N) (hM : ∀ i, i < N → Mg 9000 (vals.getD i Dy.zero)) (cb : zae zao) (cc : zae zaj) (p : Nat) (hp : p < N) (q : Nat) (hq : q < N) : CallW Tryz.prog gl 31 [AG ins bs outs, .agg [.v (.int .i64 3), .sl 1 (rws zad [(p : Int), (q : Int)]), .v (.int .i64 vn), .v (.int .i64 ve), .v (.int .i64 un), .v (.int .i64 ue)], .ps 0 3 0 N, .sl 1 (rws zad inp)] ⟨3, rws zaj vals⟩ (.agg [.v (.bool (sg ((vals.getD p Dy.zero).add (vals.getD q Dy.zero)))), .sl 1 (u32s (ms ((vals.getD p Dy.zero).add (vals.getD q Dy.zero)))), .v (.int .i64 (dn ((vals.getD p Dy.zero).add (vals.getD q Dy.zero))))]) ⟨3, rws zaj vals⟩ := by
 refine okW 102 Tryz.call31 Tryz.func31 Tryz.ntmps31 Tryz.results31 ?_
 have e0 := zdb 0 0 rfl [(p : Int), (q : Int)] 3 vn ve un ue vals N 2 p hN rfl (by decide) rfl hp cc
 have e1 := zdb 1 1 rfl [(p : Int), (q : Int)] 3 vn ve un ue vals N 2 q hN rfl (by decide) rfl hq cc
 have g1 := (hM p hp).arg (by omega)
 have g2 := (hM q hq).arg (by omega)
 have r := zbT _ _ _ _ _ _ _ _ g1 g2
 clear hM g1 g2
 generalize (vals.getD p Dy.zero).add (vals.getD q Dy.zero) = z at *
 generalize vals.getD p Dy.zero = x at *
 generalize vals.getD q Dy.zero = y at *
 exact wfrq [3, 2] 0 e0 e1 hN
theorem ex_b4 (ins : List (Int × Int × Int)) (bs : List Blk) (outs inp : List Int) (vn ve un ue : Int) (vals : List Dy) (N : Nat) (hN : vals.length = N) (h0 : 0 < N) (hM : ∀ i, i < N → Mg 9000 (vals.getD i Dy.zero)) (cb : zae zao) (cc : zae zaj) (p : Nat) (hp : p < N) (q : Nat) (hq : q < N) : CallW Tryz.prog gl 31 [AG ins bs outs, .agg [.v (.int .i64 4), .sl 1 (rws zad [(p : Int), (q : Int)]), .v (.int .i64 vn), .v (.int .i64 ve), .v (.int .i64 un), .v (.int .i64 ue)], .ps 0 3 0 N, .sl 1 (rws zad inp)] ⟨3, rws zaj vals⟩ (.agg [.v (.bool (sg ((vals.getD p Dy.zero).sub (vals.getD q Dy.zero)))), .sl 1 (u32s (ms ((vals.getD p Dy.zero).sub (vals.getD q Dy.zero)))), .v (.int .i64 (dn ((vals.getD p Dy.zero).sub (vals.getD q Dy.zero))))]) ⟨3, rws zaj vals⟩ := by
 refine okW 102 Tryz.call31 Tryz.func31 Tryz.ntmps31 Tryz.results31 ?_
 have e0 := zdb 0 0 rfl [(p : Int), (q : Int)] 4 vn ve un ue vals N 2 p hN rfl (by decide) rfl hp cc
 have e1 := zdb 1 1 rfl [(p : Int), (q : Int)] 4 vn ve un ue vals N 2 q hN rfl (by decide) rfl hq cc
 have g1 := (hM p hp).arg (by omega)
 have g2 := (hM q hq).arg (by omega)
 have r := Sub_ok _ _ _ _ _ _ _ _ g1 g2
 clear hM g1 g2
 generalize (vals.getD p Dy.zero).sub (vals.getD q Dy.zero) = z at *
 generalize vals.getD p Dy.zero = x at *
 generalize vals.getD q Dy.zero = y at *
 exact wfrq [3, 2] 0 e0 e1 hN
theorem ex_b7 (ins : List (Int × Int × Int)) (bs : List Blk) (outs inp : List Int) (vn ve un ue : Int) (vals : List Dy) (N : Nat) (hN : vals.length = N) (h0 : 0 < N) (hM : ∀ i, i < N → Mg 9000 (vals.getD i Dy.zero)) (cb : zae zao) (cc : zae zaj) (p : Nat) (hp : p < N) (q : Nat) (hq : q < N) : CallW Tryz.prog gl 31 [AG ins bs outs, .agg [.v (.int .i64 7), .sl 1 (rws zad [(p : Int), (q : Int)]), .v (.int .i64 vn), .v (.int .i64 ve), .v (.int .i64 un), .v (.int .i64 ue)], .ps 0 3 0 N, .sl 1 (rws zad inp)] ⟨3, rws zaj vals⟩ (.agg [.v (.bool (sg ((vals.getD p Dy.zero).mul (vals.getD q Dy.zero)))), .sl 1 (u32s (ms ((vals.getD p Dy.zero).mul (vals.getD q Dy.zero)))), .v (.int .i64 (dn ((vals.getD p Dy.zero).mul (vals.getD q Dy.zero))))]) ⟨3, rws zaj vals⟩ := by
 refine okW 102 Tryz.call31 Tryz.func31 Tryz.ntmps31 Tryz.results31 ?_
 have e0 := zdb 0 0 rfl [(p : Int), (q : Int)] 7 vn ve un ue vals N 2 p hN rfl (by decide) rfl hp cc
 have e1 := zdb 1 1 rfl [(p : Int), (q : Int)] 7 vn ve un ue vals N 2 q hN rfl (by decide) rfl hq cc
 have g1 := (hM p hp).arg (by omega)
 have g2 := (hM q hq).arg (by omega)
 have r := zdd _ _ _ _ _ _ _ _ g1 g2
 clear hM g1 g2
 generalize (vals.getD p Dy.zero).mul (vals.getD q Dy.zero) = z at *
 generalize vals.getD p Dy.zero = x at *
 generalize vals.getD q Dy.zero = y at *
 exact wfrq [3, 2] 0 e0 e1 hN
theorem ex_b8 (ins : List (Int × Int × Int)) (bs : List Blk) (outs inp : List Int) (vn ve un ue : Int) (vals : List Dy) (N : Nat) (hN : vals.length = N) (h0 : 0 < N) (hM : ∀ i, i < N → Mg 9000 (vals.getD i Dy.zero)) (cb : zae zao) (cc : zae zaj) (p : Nat) (hp : p < N) (q : Nat) (hq : q < N) : CallW Tryz.prog gl 31 [AG ins bs outs, .agg [.v (.int .i64 8), .sl 1 (rws zad [(p : Int), (q : Int)]), .v (.int .i64 vn), .v (.int .i64 ve), .v (.int .i64 un), .v (.int .i64 ue)], .ps 0 3 0 N, .sl 1 (rws zad inp)] ⟨3, rws zaj vals⟩ (.agg [.v (.bool (sg ((vals.getD p Dy.zero).min (vals.getD q Dy.zero)))), .sl 1 (u32s (ms ((vals.getD p Dy.zero).min (vals.getD q Dy.zero)))), .v (.int .i64 (dn ((vals.getD p Dy.zero).min (vals.getD q Dy.zero))))]) ⟨3, rws zaj vals⟩ := by
 refine okW 102 Tryz.call31 Tryz.func31 Tryz.ntmps31 Tryz.results31 ?_
 have e0 := zdb 0 0 rfl [(p : Int), (q : Int)] 8 vn ve un ue vals N 2 p hN rfl (by decide) rfl hp cc
 have e1 := zdb 1 1 rfl [(p : Int), (q : Int)] 8 vn ve un ue vals N 2 q hN rfl (by decide) rfl hq cc
 have g1 := (hM p hp).arg (by omega)
 have g2 := (hM q hq).arg (by omega)
 have r := zgj _ _ _ _ _ _ _ _ g1 g2
 clear hM g1 g2
 generalize (vals.getD p Dy.zero).min (vals.getD q Dy.zero) = z at *
 generalize vals.getD p Dy.zero = x at *
 generalize vals.getD q Dy.zero = y at *
 exact wfrq [3, 2] 0 e0 e1 hN
theorem ex_b9 (ins : List (Int × Int × Int)) (bs : List Blk) (outs inp : List Int) (vn ve un ue : Int) (vals : List Dy) (N : Nat) (hN : vals.length = N) (h0 : 0 < N) (hM : ∀ i, i < N → Mg 9000 (vals.getD i Dy.zero)) (cb : zae zao) (cc : zae zaj) (p : Nat) (hp : p < N) (q : Nat) (hq : q < N) : CallW Tryz.prog gl 31 [AG ins bs outs, .agg [.v (.int .i64 9), .sl 1 (rws zad [(p : Int), (q : Int)]), .v (.int .i64 vn), .v (.int .i64 ve), .v (.int .i64 un), .v (.int .i64 ue)], .ps 0 3 0 N, .sl 1 (rws zad inp)] ⟨3, rws zaj vals⟩ (.agg [.v (.bool (sg ((vals.getD p Dy.zero).max (vals.getD q Dy.zero)))), .sl 1 (u32s (ms ((vals.getD p Dy.zero).max (vals.getD q Dy.zero)))), .v (.int .i64 (dn ((vals.getD p Dy.zero).max (vals.getD q Dy.zero))))]) ⟨3, rws zaj vals⟩ := by
 refine okW 102 Tryz.call31 Tryz.func31 Tryz.ntmps31 Tryz.results31 ?_
 have e0 := zdb 0 0 rfl [(p : Int), (q : Int)] 9 vn ve un ue vals N 2 p hN rfl (by decide) rfl hp cc
 have e1 := zdb 1 1 rfl [(p : Int), (q : Int)] 9 vn ve un ue vals N 2 q hN rfl (by decide) rfl hq cc
 have g1 := (hM p hp).arg (by omega)
 have g2 := (hM q hq).arg (by omega)
 have r := zct _ _ _ _ _ _ _ _ g1 g2
 clear hM g1 g2
 generalize (vals.getD p Dy.zero).max (vals.getD q Dy.zero) = z at *
 generalize vals.getD p Dy.zero = x at *
 generalize vals.getD q Dy.zero = y at *
 exact wfrq [3, 2] 0 e0 e1 hN
theorem ex_b5 (ins : List (Int × Int × Int)) (bs : List Blk) (outs inp : List Int) (vn ve un ue : Int) (vals : List Dy) (N : Nat) (hN : vals.length = N) (h0 : 0 < N) (hM : ∀ i, i < N → Mg 9000 (vals.getD i Dy.zero)) (cb : zae zao) (cc : zae zaj) (p : Nat) (hp : p < N) : CallW Tryz.prog gl 31 [AG ins bs outs, .agg [.v (.int .i64 5), .sl 1 (rws zad [(p : Int)]), .v (.int .i64 vn), .v (.int .i64 ve), .v (.int .i64 un), .v (.int .i64 ue)], .ps 0 3 0 N, .sl 1 (rws zad inp)] ⟨3, rws zaj vals⟩ (.agg [.v (.bool (sg ((vals.getD p Dy.zero).neg))), .sl 1 (u32s (ms ((vals.getD p Dy.zero).neg))), .v (.int .i64 (dn ((vals.getD p Dy.zero).neg)))]) ⟨3, rws zaj vals⟩ := by
 refine okW 102 Tryz.call31 Tryz.func31 Tryz.ntmps31 Tryz.results31 ?_
 have e0 := zdb 0 0 rfl [(p : Int)] 5 vn ve un ue vals N 1 p hN rfl (by decide) rfl hp cc
 have g1 := (hM p hp).arg (by omega)
 have r := zfD _ _ _ _ g1
 clear hM g1
 generalize (vals.getD p Dy.zero).neg = z at *
 generalize vals.getD p Dy.zero = x at *
 exact wfrq [3, 2] 0 e0 e0 hN
theorem ex_b10 (ins : List (Int × Int × Int)) (bs : List Blk) (outs inp : List Int) (vn ve un ue : Int) (vals : List Dy) (N : Nat) (hN : vals.length = N) (h0 : 0 < N) (hM : ∀ i, i < N → Mg 9000 (vals.getD i Dy.zero)) (cb : zae zao) (cc : zae zaj) (p : Nat) (hp : p < N) : CallW Tryz.prog gl 31 [AG ins bs outs, .agg [.v (.int .i64 10), .sl 1 (rws zad [(p : Int)]), .v (.int .i64 vn), .v (.int .i64 ve), .v (.int .i64 un), .v (.int .i64 ue)], .ps 0 3 0 N, .sl 1 (rws zad inp)] ⟨3, rws zaj vals⟩ (.agg [.v (.bool (sg ((vals.getD p Dy.zero).abs))), .sl 1 (u32s (ms ((vals.getD p Dy.zero).abs))), .v (.int .i64 (dn ((vals.getD p Dy.zero).abs)))]) ⟨3, rws zaj vals⟩ := by
 refine okW 102 Tryz.call31 Tryz.func31 Tryz.ntmps31 Tryz.results31 ?_
 have e0 := zdb 0 0 rfl [(p : Int)] 10 vn ve un ue vals N 1 p hN rfl (by decide) rfl hp cc
 have g1 := (hM p hp).arg (by omega)
 have r := zit _ _ _ _ g1
 clear hM g1
 generalize (vals.getD p Dy.zero).abs = z at *
 generalize vals.getD p Dy.zero = x at *
 exact wfrq [3, 2] 0 e0 e0 hN
theorem ex_b6 (ins : List (Int × Int × Int)) (bs : List Blk) (outs inp : List Int) (vn ve un ue : Int) (vals : List Dy) (N : Nat) (hN : vals.length = N) (h0 : 0 < N) (hM : ∀ i, i < N → Mg 9000 (vals.getD i Dy.zero)) (cb : zae zao) (cc : zae zaj) (p : Nat) (hp : p < N) (h : zbO vn ve) : CallW Tryz.prog gl 31 [AG ins bs outs, .agg [.v (.int .i64 6), .sl 1 (rws zad [(p : Int)]), .v (.int .i64 vn), .v (.int .i64 ve), .v (.int .i64 un), .v (.int .i64 ue)], .ps 0 3 0 N, .sl 1 (rws zad inp)] ⟨3, rws zaj vals⟩ (.agg [.v (.bool (sg ((scN vn ve).mul (vals.getD p Dy.zero)))), .sl 1 (u32s (ms ((scN vn ve).mul (vals.getD p Dy.zero)))), .v (.int .i64 (dn ((scN vn ve).mul (vals.getD p Dy.zero))))]) ⟨3, rws zaj vals⟩ := by
 refine okW 102 Tryz.call31 Tryz.func31 Tryz.ntmps31 Tryz.results31 ?_
 have e0 := zdb 0 0 rfl [(p : Int)] 6 vn ve un ue vals N 1 p hN rfl (by decide) rfl hp cc
 have g1 := (hM p hp).arg (by omega)
 have c := zed vn ve h
 have g3 := (zaP h).arg (by omega)
 have r := zdd _ _ _ _ _ _ _ _ g3 g1
 clear hM g1 g3 h
 generalize (scN vn ve).mul (vals.getD p Dy.zero) = z at *
 generalize vals.getD p Dy.zero = x at *
 generalize scN vn ve = y at *
 exact wfrq [3, 2] 0 e0 e0 hN
theorem ex_b11 (ins : List (Int × Int × Int)) (bs : List Blk) (outs inp : List Int) (vn ve un ue : Int) (vals : List Dy) (N : Nat) (hN : vals.length = N) (h0 : 0 < N) (hM : ∀ i, i < N → Mg 9000 (vals.getD i Dy.zero)) (cb : zae zao) (cc : zae zaj) (p : Nat) (hp : p < N) (h : zbO vn ve) (h' : zbO un ue) : CallW Tryz.prog gl 31 [AG ins bs outs, .agg [.v (.int .i64 11), .sl 1 (rws zad [(p : Int)]), .v (.int .i64 vn), .v (.int .i64 ve), .v (.int .i64 un), .v (.int .i64 ue)], .ps 0 3 0 N, .sl 1 (rws zad inp)] ⟨3, rws zaj vals⟩ (.agg [.v (.bool (sg ((scN vn ve).max ((scN un ue).min (vals.getD p Dy.zero))))), .sl 1 (u32s (ms ((scN vn ve).max ((scN un ue).min (vals.getD p Dy.zero))))), .v (.int .i64 (dn ((scN vn ve).max ((scN un ue).min (vals.getD p Dy.zero)))))]) ⟨3, rws zaj vals⟩ := by
 refine okW 102 Tryz.call31 Tryz.func31 Tryz.ntmps31 Tryz.results31 ?_
 have e0 := zdb 0 0 rfl [(p : Int)] 11 vn ve un ue vals N 1 p hN rfl (by decide) rfl hp cc
 have g1 := (hM p hp).arg (by omega)
 have c1 := zed vn ve h
 have c2 := zed un ue h'
 have g3 := (zaP h).arg (by omega)
 have g4 := (zaP h').arg (by omega)
 have r1 := zgj _ _ _ _ _ _ _ _ g4 g1
 have r2 := zct _ _ _ _ _ _ _ _ g3 (g4.cmin g1)
 clear hM g1 g3 g4 h h'
 generalize (scN vn ve).max ((scN un ue).min (vals.getD p Dy.zero)) = z at *
 generalize (scN un ue).min (vals.getD p Dy.zero) = z' at *
 generalize vals.getD p Dy.zero = x at *
 generalize scN vn ve = y at *
 generalize scN un ue = y' at *
 exact wfrq [3, 2] 0 e0 e0 hN
set_option maxHeartbeats 4000000
theorem ordE_dg {ins : List (Int × Int × Int)} {bs : List Blk} {outs : List Int} (h : dgE ins bs outs = 0) : zn2 bs = 0 := by
 have := (zdB h).ord
 unfold zn2; rw [if_pos this]
theorem zlc (ins : List (Int × Int × Int)) (bs : List Blk) (outs : List Int) (z : Int) (hz : dgE ins bs outs = z) (h : ¬ z = 0) (cb : zae zao) : CallOK Tryz.prog gl 18 [AG ins bs outs] (.tup [.v (.slice none 0 0), .v (eV z)]) := by
 refine okC 14 Tryz.call18 Tryz.func18 Tryz.ntmps18 Tryz.results18 ?_
 have c1 := zfz ins bs outs
 rw [hz, zcD h] at c1
 rw [zcD h]
 exact we zc0
theorem zeC (ins : List (Int × Int × Int)) (bs : List Blk) (outs : List Int) (hz : dgE ins bs outs = 0) (cb : zae zao) : CallOK Tryz.prog gl 18 [AG ins bs outs] (.tup [.sl 1 (rws zad (zcf bs)), .v .nilIface]) := by
 refine okC 14 Tryz.call18 Tryz.func18 Tryz.ntmps18 Tryz.results18 ?_
 have c1 := zfz ins bs outs
 rw [hz, zbg] at c1
 have hord := zdB hz
 have c2 := zmc ins bs outs _ rfl hord.nB (fun i hi a ha => (hord.blk i hi).bef.2 a ha) (fun i hi => (hord.blk i hi).bef.1) zaf (fun x a ha => by simp only [zlM, List.mem_cons, List.not_mem_nil, or_false] at ha; subst ha; exact Cl.v _)
 rw [ordE_dg hz, zbg] at c2
 clear hord hz
 generalize zcf bs = ol at *
 exact we zc0
def dlK (bs : List Blk) (k : Nat) : List Int := ((List.range k).filter fun i => decide (zav bs i = 2)).map fun (i : Nat) => (i : Int)
theorem zo0 {bs : List Blk} {k : Nat} (h : zav bs k = 2) : dlK bs (k + 1) = dlK bs k ++ [(k : Int)] := by
 unfold dlK; rw [List.range_succ, List.filter_append, List.map_append]; simp [h]
theorem dlK_no {bs : List Blk} {k : Nat} (h : ¬ zav bs k = 2) : dlK bs (k + 1) = dlK bs k := by
 unfold dlK; rw [List.range_succ, List.filter_append, List.map_append]; simp [h]
theorem zma (bs : List Blk) (k : Nat) : (dlK bs k).length ≤ k := by
 unfold dlK; rw [List.length_map]
 exact Nat.le_trans (List.length_filter_le _ _) (by simp)
theorem dlK_all (bs : List Blk) : dlK bs bs.length = zaq bs := rfl
theorem zld (ins : List (Int × Int × Int)) (bs : List Blk) (outs : List Int) (n : Nat) (hn : bs.length = n) (h64 : n ≤ 64) (hz : dgE ins bs outs = 0) (cb : zae zao) : CallOK Tryz.prog gl 11 [AG ins bs outs] (.tup [.sl 1 (rws zad (dlK bs n)), .v .nilIface]) := by
 refine okC 30 Tryz.call11 Tryz.func11 Tryz.ntmps11 Tryz.results11 ?_
 have c1 := zfz ins bs outs
 rw [hz, zbg] at c1
 clear hz
 refine wkr hn ?_
 refine lL (α := Nat) (fun k => ⟨[(5, .ps 1 1 0 (dlK bs k).length), (14, .sl 6 (rws zao bs)), (15, .v (.int .i64 n)), (16, .v (.int .i64 k))], [(1, ⟨1, rws zad (dlK bs k)⟩)], 2⟩) (fun k => k ≤ n) (fun k => n - k) (0) ?_ ?_ ?_
 ·exact Nat.zero_le _
 ·exact zaI.trans (zaI.newnil 1 1 (Nat.le_refl _)) (Nat.le_of_ble_eq_true rfl) (by exact zah)
 rintro k hk
 by_cases hkn : k < n
 ·have rb := bg (l := bs) (i := k) (by omega)
  have dl := zma bs k
  have d1 := zo0 (bs := bs) (k := k)
  have d2 := dlK_no (bs := bs) (k := k)
  by_cases h2 : zav bs k = 2
  ·have d1 := d1 h2
   clear d2
   unfold zav at h2
   generalize bs.getD k Blk.zero = b at *
   have rb : (rws zao bs).getD k [] = [.v (.int .i64 b.k), .sl 1 (rws zad b.a), .v (.int .i64 b.vn), .v (.int .i64 b.ve), .v (.int .i64 b.un), .v (.int .i64 b.ue)] := rb
   rw [h2] at rb
   obtain ⟨D, hD⟩ : ∃ D, dlK bs k = D := ⟨_, rfl⟩
   obtain ⟨m, hm⟩ : ∃ m, D.length = m := ⟨_, rfl⟩
   rw [hD] at d1 dl ⊢
   rw [hm] at dl ⊢
   have hlo : (rws zad D).length = m := by rw [zab, hm]
   have e9 : (rws zad D).take m ++ [[AV.v (.int .i64 (k : Int))]] = rws zad (D ++ [(k : Int)]) := zbV hm
   repeat' (first | simp only [go_sem, seval, zab, hn, rb, e9] | simp (disch := omega) only [wA] | (refine zas za1 rfl rfl rfl rfl ⟨rfl, by decide⟩ rfl ⟨trivial, by (try simp only [List.length_cons, List.length_nil, List.length_append, zaa, List.length_map, hlo]); omega, by (try simp only [List.length_cons, List.length_nil, List.length_append, zaa, List.length_map, hlo]); omega⟩ (fun _ => zbj) ?_) | (refine zar za1 rfl rfl rfl rfl rfl ⟨rfl, rfl, by decide, Nat.le_of_ble_eq_true rfl⟩ (fun h => by first | (cases h; done) | decide) rfl ⟨trivial, by (try simp only [List.length_cons, List.length_nil, List.length_append, zaa, List.length_map, hlo]); omega, by (try simp only [List.length_cons, List.length_nil, List.length_append, zaa, List.length_map, hlo]); omega, by (try simp only [List.length_cons, List.length_nil, List.length_append, zaa, List.length_map, hlo]); omega⟩ zbj zfC zfB ?_) | refine aI ?_ | refine dI ?_ | refine dG ?_ | ((first | refine cC ?_ ?_ | refine gS ?_ ?_ | refine dS ?_ ?_) <;> intro hc <;> simp only [hc] <;> try simp only [dcA] at hc <;> try omega) | refine aP ?_ | refine dP ?_)
   refine zac (α := Nat) (k + 1) ?_ ?_ ?_
   ·show k + 1 ≤ n; omega
   ·show n - (k + 1) < n - k; omega
   rw [d1, List.length_append, hm]
   exact zah
  ·have d2 := d2 h2
   clear d1
   unfold zav at h2
   generalize bs.getD k Blk.zero = b at *
   have rb : (rws zao bs).getD k [] = [.v (.int .i64 b.k), .sl 1 (rws zad b.a), .v (.int .i64 b.vn), .v (.int .i64 b.ve), .v (.int .i64 b.un), .v (.int .i64 b.ue)] := rb
   generalize b.k = kk at *
   refine wkr (zc2 hn rb) ?_
   refine zac (α := Nat) (k + 1) ?_ ?_ ?_
   ·show k + 1 ≤ n; omega
   ·show n - (k + 1) < n - k; omega
   rw [d2]
   exact zah
 ·obtain rfl : k = n := by omega
  obtain ⟨D, hD⟩ : ∃ D, dlK bs k = D := ⟨_, rfl⟩
  obtain ⟨m, hm⟩ : ∃ m, D.length = m := ⟨_, rfl⟩
  have dl := zma bs k
  rw [hD] at dl ⊢
  rw [hm] at dl ⊢
  repeat' (first | simp only [go_sem, seval, zab, hn] | simp (disch := omega) only [wA] | refine aI ?_ | refine dI ?_ | refine dG ?_ | ((first | refine cC ?_ ?_ | refine gS ?_ ?_ | refine dS ?_ ?_) <;> intro hc <;> simp only [hc] <;> try simp only [dcA] at hc <;> try omega) | refine aP ?_ | refine dP ?_)
  refine zci trivial (.tup (.cons (.one (.ps rfl rfl (by show 0 + m ≤ (rws zad D).length; rw [zab]; omega))) (.cons (.one .same) .nil))) ?_
  rw [List.drop_zero, List.take_of_length_le (by show (rws zad D).length ≤ m; rw [zab]; omega)]
  exact .refl _
theorem zcp (ins : List (Int × Int × Int)) (bs : List Blk) (outs : List Int) (hz : dgE ins bs outs = 0) :
  CallOK Tryz.prog gl 11 [AG ins bs outs] (.tup [.sl 1 (rws zad (zaq bs)), .v .nilIface]) :=
 zld ins bs outs _ rfl (zdB hz).nB hz zaf
set_option maxHeartbeats 4000000
def zgK (bs : List Blk) (i : Int) : Dy := scN (bs.getD i.toNat Blk.zero).vn (bs.getD i.toNat Blk.zero).ve
theorem delB_mem {bs : List Blk} {v : Int} (h : v ∈ zaq bs) : 0 ≤ v ∧ v.toNat < bs.length ∧ zav bs v.toNat = 2 := by
 unfold zaq at h
 obtain ⟨i, hi, rfl⟩ := List.mem_map.1 h
 obtain ⟨h1, h2⟩ := List.mem_filter.1 hi
 have h1 := List.mem_range.1 h1
 have h2 := of_decide_eq_true h2
 exact ⟨by omega, by simpa using h1, by simpa [zav] using h2⟩
theorem zdj {bs : List Blk} {k : Nat} (h : k < (zaq bs).length) : 0 ≤ (zaq bs).getD k 0 ∧ ((zaq bs).getD k 0).toNat < bs.length ∧ zav bs ((zaq bs).getD k 0).toNat = 2 := by
 refine delB_mem ?_
 rw [zaB h]; exact List.getElem_mem _
theorem zgC (bs : List Blk) : (zaq bs).length ≤ bs.length := by rw [← dlK_all]; exact zma _ _
def staB (bs : List Blk) : List Dy := (zaq bs).map (zgK bs)
theorem zfo {α β : Type} (f : α → β) (d : α) (l : List α) {k : Nat} (h : k < l.length) : (l.take (k + 1)).map f = (l.take k).map f ++ [f (l.getD k d)] := by
 rw [List.take_succ_eq_append_getElem h, List.map_append, zaB h]; rfl
theorem zmN (ins : List (Int × Int × Int)) (bs : List Blk) (outs : List Int) (n : Nat) (hn : bs.length = n) (h64 : n ≤ 64) (hz : dgE ins bs outs = 0) (D : List Int) (hD : zaq bs = D) (m : Nat) (hm : D.length = m) (hmn : m ≤ n) (hd : ∀ k, k < m → 0 ≤ D.getD k 0 ∧ (D.getD k 0).toNat < n ∧ zbO (bs.getD (D.getD k 0).toNat Blk.zero).vn (bs.getD (D.getD k 0).toNat Blk.zero).ve) (cb : zae zao) (cc : zae zaj) : CallOK Tryz.prog gl 8 [AG ins bs outs] (.tup [.sl 3 (rws zaj (D.map (zgK bs))), .v .nilIface]) := by
 refine okC 35 Tryz.call8 Tryz.func8 Tryz.ntmps8 Tryz.results8 ?_
 have c1 := zcp ins bs outs hz
 rw [hD] at c1
 clear hz hD
 refine wkr hm ?_
 refine lL (α := Nat) (fun k => ⟨[(1, .p 0 3 0 0), (6, .ps 1 3 0 k), (17, .sl 1 (rws zad D)), (18, .v (.int .i64 m)), (19, .v (.int .i64 k))], [(0, ⟨3, [[.sl 3 (rws zaD ins), .sl 6 (rws zao bs), .sl 1 (rws zad outs)]]⟩), (1, ⟨3, rws zaj ((D.take k).map (zgK bs))⟩)], 2⟩) (fun k => k ≤ m) (fun k => m - k) (0) ?_ ?_ ?_
 ·exact Nat.zero_le _
 ·exact zaI.trans (zaI.newnil 1 3 (Nat.le_refl _)) (Nat.le_of_ble_eq_true rfl) (by exact zah)
 rintro k hk
 by_cases hkm : k < m
 ·obtain ⟨h1, h2, h3⟩ := hd k hkm
  have rd := ig (l := D) (i := k) (by omega)
  have ms := zfo (zgK bs) 0 D (k := k) (by omega)
  have hL : ((D.take k).map (zgK bs)).length = k := by rw [List.length_map, List.length_take]; omega
  clear hd
  generalize D.getD k 0 = i at *
  obtain ⟨q, rfl⟩ : ∃ q : Nat, i = (q : Int) := ⟨i.toNat, by omega⟩
  rw [Int.toNat_natCast] at h2 h3
  have rb := bg (l := bs) (i := q) (by omega)
  have hv : zgK bs (q : Int) = scN (bs.getD q Blk.zero).vn (bs.getD q Blk.zero).ve := by unfold zgK; rw [Int.toNat_natCast]
  rw [hv] at ms
  clear hv
  generalize bs.getD q Blk.zero = b at *
  have rb : (rws zao bs).getD q [] = [.v (.int .i64 b.k), .sl 1 (rws zad b.a), .v (.int .i64 b.vn), .v (.int .i64 b.ve), .v (.int .i64 b.un), .v (.int .i64 b.ue)] := rb
  have c2 := zed b.vn b.ve h3
  generalize scN b.vn b.ve = x at *
  generalize (D.take k).map (zgK bs) = L at *
  have hlo : (rws zaj L).length = k := by rw [zab, hL]
  have e9 : (rws zaj L).take k ++ [[.v (.bool (sg x)), .sl 1 (u32s (Ax.ms x)), .v (.int .i64 (dn x))]] = rws zaj (L ++ [x]) := zbV hL
  repeat' (first | simp only [go_sem, seval, zab, hn, hm, rd, rb, e9] | simp (disch := omega) only [wA] | (with_reducible first | refine cF c2 ?_ | refine dF c2 ?_) | (refine zas za1 rfl rfl rfl rfl ⟨rfl, by decide⟩ rfl ⟨trivial, by (try simp only [List.length_cons, List.length_nil, List.length_append, zaa, List.length_map, hlo]); omega, by (try simp only [List.length_cons, List.length_nil, List.length_append, zaa, List.length_map, hlo]); omega⟩ (fun _ => zbj) ?_) | (refine zar za1 rfl rfl rfl rfl rfl ⟨rfl, rfl, by decide, Nat.le_of_ble_eq_true rfl⟩ (fun h => by first | (cases h; done) | decide) rfl ⟨trivial, by (try simp only [List.length_cons, List.length_nil, List.length_append, zaa, List.length_map, hlo]); omega, by (try simp only [List.length_cons, List.length_nil, List.length_append, zaa, List.length_map, hlo]); omega, by (try simp only [List.length_cons, List.length_nil, List.length_append, zaa, List.length_map, hlo]); omega⟩ zbj zfC zfB ?_) | refine aI ?_ | refine dI ?_ | refine dG ?_ | ((first | refine cC ?_ ?_ | refine gS ?_ ?_ | refine dS ?_ ?_) <;> intro hc <;> simp only [hc] <;> try simp only [dcA] at hc <;> try omega) | refine aP ?_ | refine dP ?_)
  refine zac (α := Nat) (k + 1) ?_ ?_ ?_
  ·show k + 1 ≤ m; omega
  ·show m - (k + 1) < m - k; omega
  rw [ms]
  exact zah
 ·obtain rfl : k = m := by omega
  rw [List.take_of_length_le (by omega)]
  have hL : (D.map (zgK bs)).length = k := by rw [List.length_map, hm]
  generalize D.map (zgK bs) = L at *
  repeat' (first | simp only [go_sem, seval, zab, hm] | simp (disch := omega) only [wA] | refine aI ?_ | refine dI ?_ | refine dG ?_ | ((first | refine cC ?_ ?_ | refine gS ?_ ?_ | refine dS ?_ ?_) <;> intro hc <;> simp only [hc] <;> try simp only [dcA] at hc <;> try omega) | refine aP ?_ | refine dP ?_)
  refine zci trivial (.tup (.cons (.one (.ps rfl rfl (by show 0 + k ≤ (rws zaj L).length; rw [zab]; omega))) (.cons (.one .same) .nil))) ?_
  rw [List.drop_zero, List.take_of_length_le (by show (rws zaj L).length ≤ k; rw [zab]; omega)]
  exact .refl _
section
variable {ins : List (Int × Int × Int)} {bs : List Blk} {outs : List Int}
theorem del_ok (h : DgOK ins bs outs) : ∀ k, k < (zaq bs).length → 0 ≤ (zaq bs).getD k 0 ∧ ((zaq bs).getD k 0).toNat < bs.length ∧ zbO (bs.getD ((zaq bs).getD k 0).toNat Blk.zero).vn (bs.getD ((zaq bs).getD k 0).toNat Blk.zero).ve := fun k hk => by
 obtain ⟨h1, h2, h3⟩ := zdj hk
 exact ⟨h1, h2, (h.blk _ h2).val (.inr (.inl h3))⟩
end
theorem zl7 (ins : List (Int × Int × Int)) (bs : List Blk) (outs : List Int) (hz : dgE ins bs outs = 0) :
  CallOK Tryz.prog gl 8 [AG ins bs outs] (.tup [.sl 3 (rws zaj (staB bs)), .v .nilIface]) :=
 zmN ins bs outs _ rfl (zdB hz).nB hz _ rfl _ rfl (zgC bs) (del_ok (zdB hz)) zaf zan
set_option maxHeartbeats 4000000
theorem rn_b0 (ins : List (Int × Int × Int)) (bs : List Blk) (outs : List Int) (vn ve un ue : Int) (R : List Iv) (N : Nat) (hN : R.length = N) (h0 : 0 < N) (hM : ∀ i, i < N → (R.getD i Iv.zero).Mg 9000) (cb : zae zao) (cv : zae ivr) (p nP : Nat) (hP : ins.length = nP) (hp : p < nP) (hI : ∀ i, i < nP → zbu (ins.getD i (0, 0, 0))) : CallW Tryz.prog gl 53 [AG ins bs outs, .agg [.v (.int .i64 0), .sl 1 (rws zad [(p : Int)]), .v (.int .i64 vn), .v (.int .i64 ve), .v (.int .i64 un), .v (.int .i64 ue)], .ps 0 6 0 N] ⟨6, rws ivr R⟩ (.agg [.v (.bool (sg ((Iv.sp2 (Dy.int (ins.getD p (0, 0, 0)).1) (Dy.int (ins.getD p (0, 0, 0)).2.1)).mul (Iv.pt ((Dy.int 1).shift (-(ins.getD p (0, 0, 0)).2.2)))).lo)), .sl 1 (u32s (ms ((Iv.sp2 (Dy.int (ins.getD p (0, 0, 0)).1) (Dy.int (ins.getD p (0, 0, 0)).2.1)).mul (Iv.pt ((Dy.int 1).shift (-(ins.getD p (0, 0, 0)).2.2)))).lo)), .v (.int .i64 (dn ((Iv.sp2 (Dy.int (ins.getD p (0, 0, 0)).1) (Dy.int (ins.getD p (0, 0, 0)).2.1)).mul (Iv.pt ((Dy.int 1).shift (-(ins.getD p (0, 0, 0)).2.2)))).lo)), .v (.bool (sg ((Iv.sp2 (Dy.int (ins.getD p (0, 0, 0)).1) (Dy.int (ins.getD p (0, 0, 0)).2.1)).mul (Iv.pt ((Dy.int 1).shift (-(ins.getD p (0, 0, 0)).2.2)))).hi)), .sl 1 (u32s (ms ((Iv.sp2 (Dy.int (ins.getD p (0, 0, 0)).1) (Dy.int (ins.getD p (0, 0, 0)).2.1)).mul (Iv.pt ((Dy.int 1).shift (-(ins.getD p (0, 0, 0)).2.2)))).hi)), .v (.int .i64 (dn ((Iv.sp2 (Dy.int (ins.getD p (0, 0, 0)).1) (Dy.int (ins.getD p (0, 0, 0)).2.1)).mul (Iv.pt ((Dy.int 1).shift (-(ins.getD p (0, 0, 0)).2.2)))).hi))]) ⟨6, rws ivr R⟩ := by
 refine okW 107 Tryz.call53 Tryz.func53 Tryz.ntmps53 Tryz.results53 ?_
 have rp := pg (l := ins) (i := p) (by omega)
 have hF := hI p (by omega)
 unfold zbu at hF
 have rp : (rws zaD ins).getD p [] = [.v (.int .i64 (ins.getD p (0, 0, 0)).1), .v (.int .i64 (ins.getD p (0, 0, 0)).2.1), .v (.int .i64 (ins.getD p (0, 0, 0)).2.2)] := rp
 generalize ins.getD p (0, 0, 0) = P at *
 have em : -P.2.2 = 0 - P.2.2 := by omega
 rw [em]
 have m1 : Mg 1 (Dy.int 1) := Mg.int (by decide)
 have m2 : Mg 65537 ((Dy.int 1).shift (0 - P.2.2)) := (m1.shift _).mono (by unfold zbe; omega)
 have o1 := zeY 1 (by omega)
 have s1 := zaS _ _ _ (0 - P.2.2) _ (m1.arg (by omega))
 have i1 := zoF P.1 P.2.1 (by omega) (by omega)
 have mi : (Iv.sp2 (Dy.int P.1) (Dy.int P.2.1)).Mg 32 := .sp2 (zfm (by omega)) (zfm (by omega))
 have r := zgx _ _ _ _ _ _ _ _ _ (IArg.of mi (by omega)) _ _ _ _ (m2.arg (by omega)) 32 65537 mi m2 (by omega)
 clear em m1 m2 mi hI hM
 generalize (Iv.sp2 (Dy.int P.1) (Dy.int P.2.1)).mul (Iv.pt ((Dy.int 1).shift (0 - P.2.2))) = z at *
 generalize Iv.sp2 (Dy.int P.1) (Dy.int P.2.1) = z1 at *
 generalize (Dy.int 1).shift (0 - P.2.2) = z2 at *
 generalize Dy.int 1 = z3 at *
 obtain ⟨P1, P2, P3⟩ := P
 simp only at hF rp i1 s1
 exact wflt [3, 2] (zc3 hN hP rp)
theorem rn_b1 (ins : List (Int × Int × Int)) (bs : List Blk) (outs : List Int) (vn ve un ue : Int) (R : List Iv) (N : Nat) (hN : R.length = N) (h0 : 0 < N) (hM : ∀ i, i < N → (R.getD i Iv.zero).Mg 9000) (cb : zae zao) (cv : zae ivr) (h : zbO vn ve) : CallW Tryz.prog gl 53 [AG ins bs outs, .agg [.v (.int .i64 1), .sl 1 (rws zad []), .v (.int .i64 vn), .v (.int .i64 ve), .v (.int .i64 un), .v (.int .i64 ue)], .ps 0 6 0 N] ⟨6, rws ivr R⟩ (.agg [.v (.bool (sg (Iv.pt (scN vn ve)).lo)), .sl 1 (u32s (ms (Iv.pt (scN vn ve)).lo)), .v (.int .i64 (dn (Iv.pt (scN vn ve)).lo)), .v (.bool (sg (Iv.pt (scN vn ve)).hi)), .sl 1 (u32s (ms (Iv.pt (scN vn ve)).hi)), .v (.int .i64 (dn (Iv.pt (scN vn ve)).hi))]) ⟨6, rws ivr R⟩ := by
 refine okW 107 Tryz.call53 Tryz.func53 Tryz.ntmps53 Tryz.results53 ?_
 have c := zff vn ve h
 have r := zcl _ _ _ _ ((zaP h).arg (by omega))
 clear hM h
 generalize Iv.pt (scN vn ve) = z at *
 generalize scN vn ve = z1 at *
 exact wflt [3, 2] hN
theorem rn_b3 (ins : List (Int × Int × Int)) (bs : List Blk) (outs : List Int) (vn ve un ue : Int) (R : List Iv) (N : Nat) (hN : R.length = N) (h0 : 0 < N) (hM : ∀ i, i < N → (R.getD i Iv.zero).Mg 9000) (cb : zae zao) (cv : zae ivr) (p : Nat) (hp : p < N) (q : Nat) (hq : q < N) : CallW Tryz.prog gl 53 [AG ins bs outs, .agg [.v (.int .i64 3), .sl 1 (rws zad [(p : Int), (q : Int)]), .v (.int .i64 vn), .v (.int .i64 ve), .v (.int .i64 un), .v (.int .i64 ue)], .ps 0 6 0 N] ⟨6, rws ivr R⟩ (.agg [.v (.bool (sg ((R.getD p Iv.zero).add (R.getD q Iv.zero)).lo)), .sl 1 (u32s (ms ((R.getD p Iv.zero).add (R.getD q Iv.zero)).lo)), .v (.int .i64 (dn ((R.getD p Iv.zero).add (R.getD q Iv.zero)).lo)), .v (.bool (sg ((R.getD p Iv.zero).add (R.getD q Iv.zero)).hi)), .sl 1 (u32s (ms ((R.getD p Iv.zero).add (R.getD q Iv.zero)).hi)), .v (.int .i64 (dn ((R.getD p Iv.zero).add (R.getD q Iv.zero)).hi))]) ⟨6, rws ivr R⟩ := by
 refine okW 107 Tryz.call53 Tryz.func53 Tryz.ntmps53 Tryz.results53 ?_
 have e0 := zcW 0 0 rfl [(p : Int), (q : Int)] 3 vn ve un ue R N 2 p hN rfl (by decide) rfl hp cv
 have e1 := zcW 1 1 rfl [(p : Int), (q : Int)] 3 vn ve un ue R N 2 q hN rfl (by decide) rfl hq cv
 have g1 := IArg.of (hM p hp) (by omega)
 have g2 := IArg.of (hM q hq) (by omega)
 have r := zoH _ _ _ _ _ _ _ _ _ g1 _ _ _ _ _ _ _ _ _ g2
 clear hM g1 g2
 generalize (R.getD p Iv.zero).add (R.getD q Iv.zero) = z at *
 generalize R.getD p Iv.zero = x at *
 generalize R.getD q Iv.zero = y at *
 exact zjw [3, 2] 0 e0 e1 hN
theorem rn_b4 (ins : List (Int × Int × Int)) (bs : List Blk) (outs : List Int) (vn ve un ue : Int) (R : List Iv) (N : Nat) (hN : R.length = N) (h0 : 0 < N) (hM : ∀ i, i < N → (R.getD i Iv.zero).Mg 9000) (cb : zae zao) (cv : zae ivr) (p : Nat) (hp : p < N) (q : Nat) (hq : q < N) : CallW Tryz.prog gl 53 [AG ins bs outs, .agg [.v (.int .i64 4), .sl 1 (rws zad [(p : Int), (q : Int)]), .v (.int .i64 vn), .v (.int .i64 ve), .v (.int .i64 un), .v (.int .i64 ue)], .ps 0 6 0 N] ⟨6, rws ivr R⟩ (.agg [.v (.bool (sg ((R.getD p Iv.zero).sub (R.getD q Iv.zero)).lo)), .sl 1 (u32s (ms ((R.getD p Iv.zero).sub (R.getD q Iv.zero)).lo)), .v (.int .i64 (dn ((R.getD p Iv.zero).sub (R.getD q Iv.zero)).lo)), .v (.bool (sg ((R.getD p Iv.zero).sub (R.getD q Iv.zero)).hi)), .sl 1 (u32s (ms ((R.getD p Iv.zero).sub (R.getD q Iv.zero)).hi)), .v (.int .i64 (dn ((R.getD p Iv.zero).sub (R.getD q Iv.zero)).hi))]) ⟨6, rws ivr R⟩ := by
 refine okW 107 Tryz.call53 Tryz.func53 Tryz.ntmps53 Tryz.results53 ?_
 have e0 := zcW 0 0 rfl [(p : Int), (q : Int)] 4 vn ve un ue R N 2 p hN rfl (by decide) rfl hp cv
 have e1 := zcW 1 1 rfl [(p : Int), (q : Int)] 4 vn ve un ue R N 2 q hN rfl (by decide) rfl hq cv
 have g1 := IArg.of (hM p hp) (by omega)
 have g2 := IArg.of (hM q hq) (by omega)
 have r := iv_Sub _ _ _ _ _ _ _ _ _ g1 _ _ _ _ _ _ _ _ _ g2
 clear hM g1 g2
 generalize (R.getD p Iv.zero).sub (R.getD q Iv.zero) = z at *
 generalize R.getD p Iv.zero = x at *
 generalize R.getD q Iv.zero = y at *
 exact zjw [3, 2] 0 e0 e1 hN
theorem rn_b8 (ins : List (Int × Int × Int)) (bs : List Blk) (outs : List Int) (vn ve un ue : Int) (R : List Iv) (N : Nat) (hN : R.length = N) (h0 : 0 < N) (hM : ∀ i, i < N → (R.getD i Iv.zero).Mg 9000) (cb : zae zao) (cv : zae ivr) (p : Nat) (hp : p < N) (q : Nat) (hq : q < N) : CallW Tryz.prog gl 53 [AG ins bs outs, .agg [.v (.int .i64 8), .sl 1 (rws zad [(p : Int), (q : Int)]), .v (.int .i64 vn), .v (.int .i64 ve), .v (.int .i64 un), .v (.int .i64 ue)], .ps 0 6 0 N] ⟨6, rws ivr R⟩ (.agg [.v (.bool (sg ((R.getD p Iv.zero).min (R.getD q Iv.zero)).lo)), .sl 1 (u32s (ms ((R.getD p Iv.zero).min (R.getD q Iv.zero)).lo)), .v (.int .i64 (dn ((R.getD p Iv.zero).min (R.getD q Iv.zero)).lo)), .v (.bool (sg ((R.getD p Iv.zero).min (R.getD q Iv.zero)).hi)), .sl 1 (u32s (ms ((R.getD p Iv.zero).min (R.getD q Iv.zero)).hi)), .v (.int .i64 (dn ((R.getD p Iv.zero).min (R.getD q Iv.zero)).hi))]) ⟨6, rws ivr R⟩ := by
 refine okW 107 Tryz.call53 Tryz.func53 Tryz.ntmps53 Tryz.results53 ?_
 have e0 := zcW 0 0 rfl [(p : Int), (q : Int)] 8 vn ve un ue R N 2 p hN rfl (by decide) rfl hp cv
 have e1 := zcW 1 1 rfl [(p : Int), (q : Int)] 8 vn ve un ue R N 2 q hN rfl (by decide) rfl hq cv
 have g1 := IArg.of (hM p hp) (by omega)
 have g2 := IArg.of (hM q hq) (by omega)
 have r := zoD _ _ _ _ _ _ _ _ _ g1 _ _ _ _ _ _ _ _ _ g2
 clear hM g1 g2
 generalize (R.getD p Iv.zero).min (R.getD q Iv.zero) = z at *
 generalize R.getD p Iv.zero = x at *
 generalize R.getD q Iv.zero = y at *
 exact zjw [3, 2] 0 e0 e1 hN
theorem rn_b9 (ins : List (Int × Int × Int)) (bs : List Blk) (outs : List Int) (vn ve un ue : Int) (R : List Iv) (N : Nat) (hN : R.length = N) (h0 : 0 < N) (hM : ∀ i, i < N → (R.getD i Iv.zero).Mg 9000) (cb : zae zao) (cv : zae ivr) (p : Nat) (hp : p < N) (q : Nat) (hq : q < N) : CallW Tryz.prog gl 53 [AG ins bs outs, .agg [.v (.int .i64 9), .sl 1 (rws zad [(p : Int), (q : Int)]), .v (.int .i64 vn), .v (.int .i64 ve), .v (.int .i64 un), .v (.int .i64 ue)], .ps 0 6 0 N] ⟨6, rws ivr R⟩ (.agg [.v (.bool (sg ((R.getD p Iv.zero).max (R.getD q Iv.zero)).lo)), .sl 1 (u32s (ms ((R.getD p Iv.zero).max (R.getD q Iv.zero)).lo)), .v (.int .i64 (dn ((R.getD p Iv.zero).max (R.getD q Iv.zero)).lo)), .v (.bool (sg ((R.getD p Iv.zero).max (R.getD q Iv.zero)).hi)), .sl 1 (u32s (ms ((R.getD p Iv.zero).max (R.getD q Iv.zero)).hi)), .v (.int .i64 (dn ((R.getD p Iv.zero).max (R.getD q Iv.zero)).hi))]) ⟨6, rws ivr R⟩ := by
 refine okW 107 Tryz.call53 Tryz.func53 Tryz.ntmps53 Tryz.results53 ?_
 have e0 := zcW 0 0 rfl [(p : Int), (q : Int)] 9 vn ve un ue R N 2 p hN rfl (by decide) rfl hp cv
 have e1 := zcW 1 1 rfl [(p : Int), (q : Int)] 9 vn ve un ue R N 2 q hN rfl (by decide) rfl hq cv
 have g1 := IArg.of (hM p hp) (by omega)
 have g2 := IArg.of (hM q hq) (by omega)
 have r := zoE _ _ _ _ _ _ _ _ _ g1 _ _ _ _ _ _ _ _ _ g2
 clear hM g1 g2
 generalize (R.getD p Iv.zero).max (R.getD q Iv.zero) = z at *
 generalize R.getD p Iv.zero = x at *
 generalize R.getD q Iv.zero = y at *
 exact zjw [3, 2] 0 e0 e1 hN
theorem rn_b7 (ins : List (Int × Int × Int)) (bs : List Blk) (outs : List Int) (vn ve un ue : Int) (R : List Iv) (N : Nat) (hN : R.length = N) (h0 : 0 < N) (hM : ∀ i, i < N → (R.getD i Iv.zero).Mg 9000) (cb : zae zao) (cv : zae ivr) (p : Nat) (hp : p < N) (q : Nat) (hq : q < N) : CallW Tryz.prog gl 53 [AG ins bs outs, .agg [.v (.int .i64 7), .sl 1 (rws zad [(p : Int), (q : Int)]), .v (.int .i64 vn), .v (.int .i64 ve), .v (.int .i64 un), .v (.int .i64 ue)], .ps 0 6 0 N] ⟨6, rws ivr R⟩ (.agg [.v (.bool (sg ((R.getD p Iv.zero).mul (R.getD q Iv.zero)).lo)), .sl 1 (u32s (ms ((R.getD p Iv.zero).mul (R.getD q Iv.zero)).lo)), .v (.int .i64 (dn ((R.getD p Iv.zero).mul (R.getD q Iv.zero)).lo)), .v (.bool (sg ((R.getD p Iv.zero).mul (R.getD q Iv.zero)).hi)), .sl 1 (u32s (ms ((R.getD p Iv.zero).mul (R.getD q Iv.zero)).hi)), .v (.int .i64 (dn ((R.getD p Iv.zero).mul (R.getD q Iv.zero)).hi))]) ⟨6, rws ivr R⟩ := by
 refine okW 107 Tryz.call53 Tryz.func53 Tryz.ntmps53 Tryz.results53 ?_
 have e0 := zcW 0 0 rfl [(p : Int), (q : Int)] 7 vn ve un ue R N 2 p hN rfl (by decide) rfl hp cv
 have e1 := zcW 1 1 rfl [(p : Int), (q : Int)] 7 vn ve un ue R N 2 q hN rfl (by decide) rfl hq cv
 have g1 := IArg.of (hM p hp) (by omega)
 have g2 := IArg.of (hM q hq) (by omega)
 have r := zoC _ _ _ _ _ _ _ _ _ g1 _ _ _ _ _ _ _ _ _ g2 9000 9000 (hM p hp) (hM q hq) (by omega)
 clear hM g1 g2
 generalize (R.getD p Iv.zero).mul (R.getD q Iv.zero) = z at *
 generalize R.getD p Iv.zero = x at *
 generalize R.getD q Iv.zero = y at *
 exact zjw [3, 2] 0 e0 e1 hN
theorem rn_b5 (ins : List (Int × Int × Int)) (bs : List Blk) (outs : List Int) (vn ve un ue : Int) (R : List Iv) (N : Nat) (hN : R.length = N) (h0 : 0 < N) (hM : ∀ i, i < N → (R.getD i Iv.zero).Mg 9000) (cb : zae zao) (cv : zae ivr) (p : Nat) (hp : p < N) : CallW Tryz.prog gl 53 [AG ins bs outs, .agg [.v (.int .i64 5), .sl 1 (rws zad [(p : Int)]), .v (.int .i64 vn), .v (.int .i64 ve), .v (.int .i64 un), .v (.int .i64 ue)], .ps 0 6 0 N] ⟨6, rws ivr R⟩ (.agg [.v (.bool (sg ((R.getD p Iv.zero).neg).lo)), .sl 1 (u32s (ms ((R.getD p Iv.zero).neg).lo)), .v (.int .i64 (dn ((R.getD p Iv.zero).neg).lo)), .v (.bool (sg ((R.getD p Iv.zero).neg).hi)), .sl 1 (u32s (ms ((R.getD p Iv.zero).neg).hi)), .v (.int .i64 (dn ((R.getD p Iv.zero).neg).hi))]) ⟨6, rws ivr R⟩ := by
 refine okW 107 Tryz.call53 Tryz.func53 Tryz.ntmps53 Tryz.results53 ?_
 have e0 := zcW 0 0 rfl [(p : Int)] 5 vn ve un ue R N 1 p hN rfl (by decide) rfl hp cv
 have g1 := IArg.of (hM p hp) (by omega)
 have r := zoB _ _ _ _ _ _ _ _ _ g1
 clear hM g1
 generalize (R.getD p Iv.zero).neg = z at *
 generalize R.getD p Iv.zero = x at *
 exact zjw [3, 2] 0 e0 e0 hN
theorem rn_b10 (ins : List (Int × Int × Int)) (bs : List Blk) (outs : List Int) (vn ve un ue : Int) (R : List Iv) (N : Nat) (hN : R.length = N) (h0 : 0 < N) (hM : ∀ i, i < N → (R.getD i Iv.zero).Mg 9000) (cb : zae zao) (cv : zae ivr) (p : Nat) (hp : p < N) : CallW Tryz.prog gl 53 [AG ins bs outs, .agg [.v (.int .i64 10), .sl 1 (rws zad [(p : Int)]), .v (.int .i64 vn), .v (.int .i64 ve), .v (.int .i64 un), .v (.int .i64 ue)], .ps 0 6 0 N] ⟨6, rws ivr R⟩ (.agg [.v (.bool (sg ((R.getD p Iv.zero).abs).lo)), .sl 1 (u32s (ms ((R.getD p Iv.zero).abs).lo)), .v (.int .i64 (dn ((R.getD p Iv.zero).abs).lo)), .v (.bool (sg ((R.getD p Iv.zero).abs).hi)), .sl 1 (u32s (ms ((R.getD p Iv.zero).abs).hi)), .v (.int .i64 (dn ((R.getD p Iv.zero).abs).hi))]) ⟨6, rws ivr R⟩ := by
 refine okW 107 Tryz.call53 Tryz.func53 Tryz.ntmps53 Tryz.results53 ?_
 have e0 := zcW 0 0 rfl [(p : Int)] 10 vn ve un ue R N 1 p hN rfl (by decide) rfl hp cv
 have g1 := IArg.of (hM p hp) (by omega)
 have r := zoI _ _ _ _ _ _ _ _ _ g1
 clear hM g1
 generalize (R.getD p Iv.zero).abs = z at *
 generalize R.getD p Iv.zero = x at *
 exact zjw [3, 2] 0 e0 e0 hN
theorem rn_b6 (ins : List (Int × Int × Int)) (bs : List Blk) (outs : List Int) (vn ve un ue : Int) (R : List Iv) (N : Nat) (hN : R.length = N) (h0 : 0 < N) (hM : ∀ i, i < N → (R.getD i Iv.zero).Mg 9000) (cb : zae zao) (cv : zae ivr) (p : Nat) (hp : p < N) (h : zbO vn ve) : CallW Tryz.prog gl 53 [AG ins bs outs, .agg [.v (.int .i64 6), .sl 1 (rws zad [(p : Int)]), .v (.int .i64 vn), .v (.int .i64 ve), .v (.int .i64 un), .v (.int .i64 ue)], .ps 0 6 0 N] ⟨6, rws ivr R⟩ (.agg [.v (.bool (sg ((R.getD p Iv.zero).mul (Iv.pt (scN vn ve))).lo)), .sl 1 (u32s (ms ((R.getD p Iv.zero).mul (Iv.pt (scN vn ve))).lo)), .v (.int .i64 (dn ((R.getD p Iv.zero).mul (Iv.pt (scN vn ve))).lo)), .v (.bool (sg ((R.getD p Iv.zero).mul (Iv.pt (scN vn ve))).hi)), .sl 1 (u32s (ms ((R.getD p Iv.zero).mul (Iv.pt (scN vn ve))).hi)), .v (.int .i64 (dn ((R.getD p Iv.zero).mul (Iv.pt (scN vn ve))).hi))]) ⟨6, rws ivr R⟩ := by
 refine okW 107 Tryz.call53 Tryz.func53 Tryz.ntmps53 Tryz.results53 ?_
 have e0 := zcW 0 0 rfl [(p : Int)] 6 vn ve un ue R N 1 p hN rfl (by decide) rfl hp cv
 have g1 := IArg.of (hM p hp) (by omega)
 have c := zff vn ve h
 have r := zgx _ _ _ _ _ _ _ _ _ g1 _ _ _ _ ((zaP h).arg (by omega)) 9000 62 (hM p hp) (zaP h) (by omega)
 clear hM g1 h
 generalize (R.getD p Iv.zero).mul (Iv.pt (scN vn ve)) = z at *
 generalize R.getD p Iv.zero = x at *
 generalize scN vn ve = z1 at *
 exact zjw [3, 2] 0 e0 e0 hN
theorem rn_b11 (ins : List (Int × Int × Int)) (bs : List Blk) (outs : List Int) (vn ve un ue : Int) (R : List Iv) (N : Nat) (hN : R.length = N) (h0 : 0 < N) (hM : ∀ i, i < N → (R.getD i Iv.zero).Mg 9000) (cb : zae zao) (cv : zae ivr) (p : Nat) (hp : p < N) (h : zbO vn ve) (h' : zbO un ue) (hle : (scN vn ve).v ≤ (scN un ue).v) : CallW Tryz.prog gl 53 [AG ins bs outs, .agg [.v (.int .i64 11), .sl 1 (rws zad [(p : Int)]), .v (.int .i64 vn), .v (.int .i64 ve), .v (.int .i64 un), .v (.int .i64 ue)], .ps 0 6 0 N] ⟨6, rws ivr R⟩ (.agg [.v (.bool (sg (((R.getD p Iv.zero).max (Iv.pt (scN vn ve))).min (Iv.pt (scN un ue))).lo)), .sl 1 (u32s (ms (((R.getD p Iv.zero).max (Iv.pt (scN vn ve))).min (Iv.pt (scN un ue))).lo)), .v (.int .i64 (dn (((R.getD p Iv.zero).max (Iv.pt (scN vn ve))).min (Iv.pt (scN un ue))).lo)), .v (.bool (sg (((R.getD p Iv.zero).max (Iv.pt (scN vn ve))).min (Iv.pt (scN un ue))).hi)), .sl 1 (u32s (ms (((R.getD p Iv.zero).max (Iv.pt (scN vn ve))).min (Iv.pt (scN un ue))).hi)), .v (.int .i64 (dn (((R.getD p Iv.zero).max (Iv.pt (scN vn ve))).min (Iv.pt (scN un ue))).hi))]) ⟨6, rws ivr R⟩ := by
 refine okW 107 Tryz.call53 Tryz.func53 Tryz.ntmps53 Tryz.results53 ?_
 have e0 := zcW 0 0 rfl [(p : Int)] 11 vn ve un ue R N 1 p hN rfl (by decide) rfl hp cv
 have g1 := IArg.of (hM p hp) (by omega)
 have c1 := zff vn ve h
 have c2 := zff un ue h'
 have r := zoG _ _ _ _ _ _ _ _ _ g1 _ _ _ _ ((zaP h).arg (by omega)) _ _ _ _ ((zaP h').arg (by omega)) hle
 clear hM g1 h h' hle
 generalize ((R.getD p Iv.zero).max (Iv.pt (scN vn ve))).min (Iv.pt (scN un ue)) = z at *
 generalize R.getD p Iv.zero = x at *
 generalize scN vn ve = y at *
 generalize scN un ue = y' at *
 exact zjw [3, 2] 0 e0 e0 hN
set_option maxHeartbeats 4000000
theorem rn_block (ins : List (Int × Int × Int)) (bs : List Blk) (outs : List Int) (b : Blk) (R : List Iv) (N : Nat) (hN : R.length = N) (h0 : 0 < N) (hM : ∀ i, i < N → (R.getD i Iv.zero).Mg 9000) (hb : BlkOK ins.length N b) (hk : b.k ≠ 2) (hP : ∀ i, i < ins.length → zbu (ins.getD i (0, 0, 0))) :
  CallW Tryz.prog gl 53 [AG ins bs outs, .agg [.v (.int .i64 b.k), .sl 1 (rws zad b.a), .v (.int .i64 b.vn), .v (.int .i64 b.ve), .v (.int .i64 b.un), .v (.int .i64 b.ue)], .ps 0 6 0 N] ⟨6, rws ivr R⟩
   (.agg (ivr (rnB ins R b))) ⟨6, rws ivr R⟩ := by
 have hk1 := hb.kind
 have hval := hb.val
 have hupp := hb.upp
 have hcs : b.k = 0 ∨ b.k = 1 ∨ b.k = 3 ∨ b.k = 4 ∨ b.k = 5 ∨ b.k = 6 ∨ b.k = 7 ∨ b.k = 8 ∨ b.k = 9 ∨ b.k = 10 ∨ b.k = 11 := by omega
 rcases hcs with h | h | h | h | h | h | h | h | h | h | h
 ·have ha := hb.ai h
  have c := rn_b0 ins bs outs b.vn b.ve b.un b.ue R N hN h0 hM zaf zak (b.at 0) ins.length rfl (hb.inp h).1 hP
  have e : rnB ins R b = (Iv.sp2 (Dy.int (ins.getD (b.at 0) (0, 0, 0)).1) (Dy.int (ins.getD (b.at 0) (0, 0, 0)).2.1)).mul (Iv.pt ((Dy.int 1).shift (-(ins.getD (b.at 0) (0, 0, 0)).2.2))) := by unfold rnB; simp only []; rw [if_pos h]
  rw [e, h, ha]; exact c
 ·have ha := hb.a0 h
  have c := rn_b1 ins bs outs b.vn b.ve b.un b.ue R N hN h0 hM zaf zak (hval (by omega))
  have e : rnB ins R b = Iv.pt (scN b.vn b.ve) := by unfold rnB; simp only []; rw [if_neg (show ¬ b.k = 0 by omega), if_pos h]; rfl
  rw [e, h, ha]; exact c
 ·obtain ⟨ha, hp, hq⟩ := hb.a2 (by omega)
  have c := rn_b3 ins bs outs b.vn b.ve b.un b.ue R N hN h0 hM zaf zak (b.at 0) hp (b.at 1) hq
  have e : rnB ins R b = (R.getD (b.at 0) Iv.zero).add (R.getD (b.at 1) Iv.zero) := by unfold rnB; simp only []; rw [if_neg (show ¬ b.k = 0 by omega), if_neg (show ¬ b.k = 1 by omega), if_pos h]
  rw [e, h, ha]; exact c
 ·obtain ⟨ha, hp, hq⟩ := hb.a2 (by omega)
  have c := rn_b4 ins bs outs b.vn b.ve b.un b.ue R N hN h0 hM zaf zak (b.at 0) hp (b.at 1) hq
  have e : rnB ins R b = (R.getD (b.at 0) Iv.zero).sub (R.getD (b.at 1) Iv.zero) := by unfold rnB; simp only []; rw [if_neg (show ¬ b.k = 0 by omega), if_neg (show ¬ b.k = 1 by omega), if_neg (show ¬ b.k = 3 by omega), if_pos h]
  rw [e, h, ha]; exact c
 ·obtain ⟨ha, hp⟩ := hb.a1 (by omega)
  have c := rn_b5 ins bs outs b.vn b.ve b.un b.ue R N hN h0 hM zaf zak (b.at 0) hp
  have e : rnB ins R b = (R.getD (b.at 0) Iv.zero).neg := by unfold rnB; simp only []; rw [if_neg (show ¬ b.k = 0 by omega), if_neg (show ¬ b.k = 1 by omega), if_neg (show ¬ b.k = 3 by omega), if_neg (show ¬ b.k = 4 by omega), if_neg (show ¬ b.k = 7 by omega), if_pos h]
  rw [e, h, ha]; exact c
 ·obtain ⟨ha, hp⟩ := hb.a1 (by omega)
  have c := rn_b6 ins bs outs b.vn b.ve b.un b.ue R N hN h0 hM zaf zak (b.at 0) hp (hval (by omega))
  have e : rnB ins R b = (R.getD (b.at 0) Iv.zero).mul (Iv.pt (scN b.vn b.ve)) := by unfold rnB; simp only []; rw [if_neg (show ¬ b.k = 0 by omega), if_neg (show ¬ b.k = 1 by omega), if_neg (show ¬ b.k = 3 by omega), if_neg (show ¬ b.k = 4 by omega), if_neg (show ¬ b.k = 7 by omega), if_neg (show ¬ b.k = 5 by omega), if_neg (show ¬ b.k = 10 by omega), if_pos h]; rfl
  rw [e, h, ha]; exact c
 ·obtain ⟨ha, hp, hq⟩ := hb.a2 (by omega)
  have c := rn_b7 ins bs outs b.vn b.ve b.un b.ue R N hN h0 hM zaf zak (b.at 0) hp (b.at 1) hq
  have e : rnB ins R b = (R.getD (b.at 0) Iv.zero).mul (R.getD (b.at 1) Iv.zero) := by unfold rnB; simp only []; rw [if_neg (show ¬ b.k = 0 by omega), if_neg (show ¬ b.k = 1 by omega), if_neg (show ¬ b.k = 3 by omega), if_neg (show ¬ b.k = 4 by omega), if_pos h]
  rw [e, h, ha]; exact c
 ·obtain ⟨ha, hp, hq⟩ := hb.a2 (by omega)
  have c := rn_b8 ins bs outs b.vn b.ve b.un b.ue R N hN h0 hM zaf zak (b.at 0) hp (b.at 1) hq
  have e : rnB ins R b = (R.getD (b.at 0) Iv.zero).min (R.getD (b.at 1) Iv.zero) := by unfold rnB; simp only []; rw [if_neg (show ¬ b.k = 0 by omega), if_neg (show ¬ b.k = 1 by omega), if_neg (show ¬ b.k = 3 by omega), if_neg (show ¬ b.k = 4 by omega), if_neg (show ¬ b.k = 7 by omega), if_neg (show ¬ b.k = 5 by omega), if_neg (show ¬ b.k = 10 by omega), if_neg (show ¬ b.k = 6 by omega), if_pos h]
  rw [e, h, ha]; exact c
 ·obtain ⟨ha, hp, hq⟩ := hb.a2 (by omega)
  have c := rn_b9 ins bs outs b.vn b.ve b.un b.ue R N hN h0 hM zaf zak (b.at 0) hp (b.at 1) hq
  have e : rnB ins R b = (R.getD (b.at 0) Iv.zero).max (R.getD (b.at 1) Iv.zero) := by unfold rnB; simp only []; rw [if_neg (show ¬ b.k = 0 by omega), if_neg (show ¬ b.k = 1 by omega), if_neg (show ¬ b.k = 3 by omega), if_neg (show ¬ b.k = 4 by omega), if_neg (show ¬ b.k = 7 by omega), if_neg (show ¬ b.k = 5 by omega), if_neg (show ¬ b.k = 10 by omega), if_neg (show ¬ b.k = 6 by omega), if_neg (show ¬ b.k = 8 by omega), if_pos h]
  rw [e, h, ha]; exact c
 ·obtain ⟨ha, hp⟩ := hb.a1 (by omega)
  have c := rn_b10 ins bs outs b.vn b.ve b.un b.ue R N hN h0 hM zaf zak (b.at 0) hp
  have e : rnB ins R b = (R.getD (b.at 0) Iv.zero).abs := by unfold rnB; simp only []; rw [if_neg (show ¬ b.k = 0 by omega), if_neg (show ¬ b.k = 1 by omega), if_neg (show ¬ b.k = 3 by omega), if_neg (show ¬ b.k = 4 by omega), if_neg (show ¬ b.k = 7 by omega), if_neg (show ¬ b.k = 5 by omega), if_pos h]
  rw [e, h, ha]; exact c
 ·obtain ⟨ha, hp⟩ := hb.a1 (by omega)
  have c := rn_b11 ins bs outs b.vn b.ve b.un b.ue R N hN h0 hM zaf zak (b.at 0) hp (hval (by omega)) (hupp h) (hb.ord h)
  have e : rnB ins R b = ((R.getD (b.at 0) Iv.zero).max (Iv.pt (scN b.vn b.ve))).min (Iv.pt (scN b.un b.ue)) := by unfold rnB; simp only []; rw [if_neg (show ¬ b.k = 0 by omega), if_neg (show ¬ b.k = 1 by omega), if_neg (show ¬ b.k = 3 by omega), if_neg (show ¬ b.k = 4 by omega), if_neg (show ¬ b.k = 7 by omega), if_neg (show ¬ b.k = 5 by omega), if_neg (show ¬ b.k = 10 by omega), if_neg (show ¬ b.k = 6 by omega), if_neg (show ¬ b.k = 8 by omega), if_neg (show ¬ b.k = 9 by omega)]; rfl
  rw [e, h, ha]; exact c
set_option maxHeartbeats 4000000
theorem znG (ins : List (Int × Int × Int)) (bs : List Blk) (outs : List Int) (inv : List Iv) (n m oL : Nat) (hn : bs.length = n) (h64 : n ≤ 64) (hz : dgE ins bs outs = 0) (D O : List Int) (hD : zaq bs = D) (hm : D.length = m) (hmn : m ≤ n) (hO : zcf bs = O) (hoL : O.length = oL) (hoN : oL ≤ n) (hI : inv.length = m) (hM : ∀ k, k < m → (inv.getD k Iv.zero).Mg 20000) (hd : ∀ k, k < m → 0 ≤ D.getD k 0 ∧ (D.getD k 0).toNat < n) (ho : ∀ k, k < oL → 0 ≤ O.getD k 0 ∧ (O.getD k 0).toNat < n ∧ (bs.getD (O.getD k 0).toNat Blk.zero).k ≠ 2) (hB : ∀ i, i < n → BlkOK ins.length n (bs.getD i Blk.zero)) (hP : ∀ i, i < ins.length → zbu (ins.getD i (0, 0, 0))) (RR : List Iv) (z : Int) (h1 : ∀ q, q < m → lgI (inv.getD q Iv.zero) = true → RR = [] ∧ z = 4) (h2 : (∀ q, q < m → lgI (inv.getD q Iv.zero) = false) → ∀ q, q < oL → lgI (rnV ins bs (rnD n D inv m) O q) = true → RR = [] ∧ z = 4) (h3 : (∀ q, q < m → lgI (inv.getD q Iv.zero) = false) → (∀ q, q < oL → lgI (rnV ins bs (rnD n D inv m) O q) = false) → RR = rnO ins bs (rnD n D inv m) O oL ∧ z = 0) (cb : zae zao) (cv : zae ivr) : CallOK Tryz.prog gl 20 [AG ins bs outs, .sl 6 (rws ivr inv)] (.tup [.sl 6 (rws ivr RR), .v (eV z)]) := by
 refine okC 104 Tryz.call20 Tryz.func20 Tryz.ntmps20 Tryz.results20 ?_
 have c1 := zcp ins bs outs hz
 have c2 := zeC ins bs outs hz zaf
 rw [hD] at c1
 rw [hO] at c2
 clear hz hD hO
 refine wkr (zc2 hm hI) ?_
 refine lL (α := Nat) (fun j => ⟨[(1, .sl 6 (rws ivr inv)), (2, .p 0 3 0 0), (6, .sl 1 (rws zad D)), (30, .sl 6 (rws ivr inv)), (31, .v (.int .i64 m)), (32, .v (.int .i64 j))], [(0, ⟨3, [[.sl 3 (rws zaD ins), .sl 6 (rws zao bs), .sl 1 (rws zad outs)]]⟩)], 1⟩) (fun j => j ≤ m) (fun j => m - j) (0) ?_ ?_ ?_
 ·exact Nat.zero_le _
 ·exact zah
 rintro j hj
 by_cases hjm : j < m
 ·have rv := vg (l := inv) (i := j) (by omega)
  have hMj := hM j hjm
  clear h1 h2 h3 hM
  generalize inv.getD j Iv.zero = a at *
  have v1 := zgw _ _ _ _ _ _ _ _ _ (IArg.of hMj)
  rw [decide_eq_true (ok_of a)] at v1
  refine wkr (zc2 hI rv) ?_
  refine zac (α := Nat) (j + 1) ?_ ?_ ?_
  ·show j + 1 ≤ m; omega
  ·show m - (j + 1) < m - j; omega
  exact zah
 obtain rfl : j = m := by omega
 clear hjm hj
 refine wkr (zc3 hm hI hn) ?_
 refine lL (α := Nat) (fun k => ⟨[(1, .sl 6 (rws ivr inv)), (2, .p 0 3 0 0), (6, .sl 1 (rws zad D)), (10, .sl 1 (rws zad O)), (11, .ps 1 6 0 n), (53, .sl 1 (rws zad D)), (54, .v (.int .i64 j)), (55, .v (.int .i64 k))], [(0, ⟨3, [[.sl 3 (rws zaD ins), .sl 6 (rws zao bs), .sl 1 (rws zad outs)]]⟩), (1, ⟨6, rws ivr (rnD n D inv k)⟩)], 2⟩) (fun k => (k ≤ j ∧ ∀ q, q < k → lgI (inv.getD q Iv.zero) = false) ∧ ∀ i, i < n → ((rnD n D inv k).getD i Iv.zero).Mg 9000) (fun k => j - k) (0) ?_ ?_ ?_
 ·refine ⟨⟨Nat.zero_le _, fun q hq => absurd hq (Nat.not_lt_zero q)⟩, fun i hi => ?_⟩
  show ((List.replicate n Iv.zero).getD i Iv.zero).Mg 9000
  rw [show (List.replicate n Iv.zero).getD i Iv.zero = Iv.zero by simp [List.getD, hi]]
  exact Iv.Mg.zero _
 ·exact zaI.trans (zaI.mle 1 ⟨6, rws ivr (List.replicate n Iv.zero)⟩ rfl (mle_i n)) (Nat.le_refl _) (by exact zah)
 rintro k ⟨⟨hk, hg⟩, hR⟩
 by_cases hkm : k < j
 ·have rv := vg (l := inv) (i := k) (by omega)
  have rd := ig (l := D) (i := k) (by omega)
  have hMk := hM k hkm
  obtain ⟨d1, d2⟩ := hd k hkm
  have l1 := znF _ (hMk.mono (by omega))
  by_cases hl : lgI (inv.getD k Iv.zero) = true
  ·obtain ⟨rfl, rfl⟩ := h1 k hkm hl
   rw [hl] at l1
   clear h1 h2 h3 hM hg hR
   rw [zcD (by decide)]
   generalize inv.getD k Iv.zero = a at *
   generalize D.getD k 0 = i at *
   repeat' (first | simp only [go_sem, seval, zab, hm, hI, rv, rd] | simp (disch := omega) only [wA] | (with_reducible first | refine cA ?_ | refine dA ?_) | refine aI ?_ | refine dI ?_ | refine dG ?_ | ((first | refine cC ?_ ?_ | refine gS ?_ ?_ | refine dS ?_ ?_) <;> intro hc <;> simp only [hc] <;> try simp only [dcA] at hc <;> try omega) | refine aP ?_ | refine dP ?_)
   all_goals exact zbQ trivial (Le.tup (.cons (Le.nil _) (.cons (.refl _) .nil)))
  ·have hl : lgI (inv.getD k Iv.zero) = false := by simpa using hl
   have nx : ∀ q, q < k + 1 → lgI (inv.getD q Iv.zero) = false := fun q hq => by
    by_cases e : q = k
    ·rw [e]; exact hl
    ·exact hg q (by omega)
   have e1 : rnD n D inv (k + 1) = (rnD n D inv k).set (D.getD k 0).toNat ((inv.getD k Iv.zero).hull (inv.getD k Iv.zero)) := rfl
   have hlen := zeN n D inv k
   have hMh : ((inv.getD k Iv.zero).hull (inv.getD k Iv.zero)).Mg 9000 := by
    have := (zeH hl).1
    exact (this.hull this).mono (by omega)
   have nR := zb0 (P := fun a => Iv.Mg 9000 a) (n := n) (by rw [hlen]; exact d2) hR hMh
   rw [← e1] at nR
   rw [hl] at l1
   clear h1 h2 h3 hM hg hR
   have hu := zk4 _ _ _ _ _ _ _ _ _ (IArg.of hMk) _ _ _ _ _ _ _ _ _ (IArg.of hMk)
   generalize (inv.getD k Iv.zero).hull (inv.getD k Iv.zero) = x at *
   generalize inv.getD k Iv.zero = a at *
   generalize D.getD k 0 = i at *
   obtain ⟨p, rfl⟩ : ∃ p : Nat, i = (p : Int) := ⟨i.toNat, by omega⟩
   rw [Int.toNat_natCast] at d2 e1
   generalize rnD n D inv k = R at *
   have e9 : (rws ivr R).set p [.v (.bool (sg x.lo)), .sl 1 (u32s (ms x.lo)), .v (.int .i64 (dn x.lo)), .v (.bool (sg x.hi)), .sl 1 (u32s (ms x.hi)), .v (.int .i64 (dn x.hi))] = rws ivr (rnD n D inv (k + 1)) := by rw [e1]; exact zba R p x
   have rl : ((rws ivr R).getD p []).length = 6 := by rw [vg (by omega)]; rfl
   have r6 : List.drop 6 ((rws ivr R).getD p []) = [] := List.drop_eq_nil_of_le (by rw [rl]; exact Nat.le_refl _)
   refine wkr (zc8 hm hI rv rd hlen e9 rl r6) ?_
   refine zac (α := Nat) (k + 1) ⟨⟨?_, nx⟩, nR⟩ ?_ ?_
   ·show k + 1 ≤ j; omega
   ·show j - (k + 1) < j - k; omega
   exact zah
 obtain rfl : k = j := by omega
 have h2 := h2 hg
 have h3 := h3 hg
 clear h1 hM hd hkm hk hg c1 c2
 have hlen := zeN n D inv k
 generalize rnD n D inv k = R0 at *
 refine wkr (zc2 hm hoL) ?_
 refine lL (α := Nat) (fun j => ⟨[(2, .p 0 3 0 0), (11, .ps 1 6 0 n), (79, .sl 1 (rws zad O)), (80, .v (.int .i64 oL)), (81, .v (.int .i64 j))], [(0, ⟨3, [[.sl 3 (rws zaD ins), .sl 6 (rws zao bs), .sl 1 (rws zad outs)]]⟩), (1, ⟨6, rws ivr (rnO ins bs R0 O j)⟩)], 2⟩) (fun j => (j ≤ oL ∧ ∀ q, q < j → lgI (rnV ins bs R0 O q) = false) ∧ ∀ i, i < n → ((rnO ins bs R0 O j).getD i Iv.zero).Mg 9000) (fun j => oL - j) (0) ?_ ?_ ?_
 ·exact ⟨⟨Nat.zero_le _, fun q hq => absurd hq (Nat.not_lt_zero q)⟩, hR⟩
 ·exact zah
 rintro j ⟨⟨hj, hg⟩, hR2⟩
 by_cases hjo : j < oL
 ·have ro := ig (l := O) (i := j) (by omega)
  obtain ⟨o1, o2, o3⟩ := ho j hjo
  have hl1 := zfL ins bs R0 O j
  rw [hlen] at hl1
  have e1 : rnO ins bs R0 O (j + 1) = (rnO ins bs R0 O j).set (O.getD j 0).toNat (rnV ins bs R0 O j) := rfl
  have e0 : rnV ins bs R0 O j = rnB ins (rnO ins bs R0 O j) (bs.getD (O.getD j 0).toNat Blk.zero) := rfl
  have rb := bg (l := bs) (i := (O.getD j 0).toNat) (by omega)
  have w1 := rn_block ins bs outs (bs.getD (O.getD j 0).toNat Blk.zero) (rnO ins bs R0 O j) n hl1 (by omega) hR2 (hB _ o2) o3 hP
  have mB := rnB_mg (bs.getD (O.getD j 0).toNat Blk.zero) hR2 (hB _ o2) o3 hP
  rw [← e0] at w1 mB
  have l1 := znF _ (mB.mono (by omega))
  by_cases hl : lgI (rnV ins bs R0 O j) = true
  ·obtain ⟨rfl, rfl⟩ := h2 j hjo hl
   rw [hl] at l1
   clear h2 h3 hg hR hR2 ho hB hP
   rw [zcD (by decide)]
   clear e0 mB hl
   generalize rnV ins bs R0 O j = x at *
   generalize O.getD j 0 = i at *
   obtain ⟨p, rfl⟩ : ∃ p : Nat, i = (p : Int) := ⟨i.toNat, by omega⟩
   rw [Int.toNat_natCast] at *
   generalize bs.getD p Blk.zero = b at *
   have rb : (rws zao bs).getD p [] = [.v (.int .i64 b.k), .sl 1 (rws zad b.a), .v (.int .i64 b.vn), .v (.int .i64 b.ve), .v (.int .i64 b.un), .v (.int .i64 b.ue)] := rb
   clear e1
   generalize rnO ins bs R0 O j = R at *
   have rl : ((rws ivr R).getD p []).length = 6 := by rw [vg (by omega)]; rfl
   have r6 : List.drop 6 ((rws ivr R).getD p []) = [] := List.drop_eq_nil_of_le (by rw [rl]; exact Nat.le_refl _)
   have e9 : (rws ivr R).set p [.v (.bool (sg x.lo)), .sl 1 (u32s (ms x.lo)), .v (.int .i64 (dn x.lo)), .v (.bool (sg x.hi)), .sl 1 (u32s (ms x.hi)), .v (.int .i64 (dn x.hi))] = rws ivr (R.set p x) := zba R p x
   have hl2 : (R.set p x).length = n := by rw [List.length_set]; exact hl1
   have rx : (rws ivr (R.set p x)).getD p [] = ivr x := by rw [vg (by omega), zaL Iv.zero x (by omega), if_pos rfl]
   repeat' (first | simp only [go_sem, seval, zab, hn, hoL, ro, rb, hl1, rl, r6, e9, rx, hl2] | simp (disch := omega) only [wA] | refine cW 1 w1 ?_ | refine dW 1 w1 ?_ | (with_reducible first | refine cA ?_ | refine dA ?_) | refine aI ?_ | refine dI ?_ | refine dG ?_ | ((first | refine cC ?_ ?_ | refine gS ?_ ?_ | refine dS ?_ ?_) <;> intro hc <;> simp only [hc] <;> try simp only [dcA] at hc <;> try omega) | refine aP ?_ | refine dP ?_)
   all_goals exact zbQ trivial (Le.tup (.cons (Le.nil _) (.cons (.refl _) .nil)))
  ·have hl : lgI (rnV ins bs R0 O j) = false := by simpa using hl
   have nx : ∀ q, q < j + 1 → lgI (rnV ins bs R0 O q) = false := fun q hq => by
    by_cases e : q = j
    ·rw [e]; exact hl
    ·exact hg q (by omega)
   have nR := zb0 (P := fun a => Iv.Mg 9000 a) (n := n) (by rw [hl1]; exact o2) hR2 ((zeH hl).1.mono (by omega))
   rw [← e1] at nR
   rw [hl] at l1
   clear h2 h3 hg hR hR2 ho hB hP
   clear e0 mB hl
   generalize rnV ins bs R0 O j = x at *
   generalize O.getD j 0 = i at *
   obtain ⟨p, rfl⟩ : ∃ p : Nat, i = (p : Int) := ⟨i.toNat, by omega⟩
   rw [Int.toNat_natCast] at *
   generalize bs.getD p Blk.zero = b at *
   have rb : (rws zao bs).getD p [] = [.v (.int .i64 b.k), .sl 1 (rws zad b.a), .v (.int .i64 b.vn), .v (.int .i64 b.ve), .v (.int .i64 b.un), .v (.int .i64 b.ue)] := rb
   generalize rnO ins bs R0 O j = R at *
   have rl : ((rws ivr R).getD p []).length = 6 := by rw [vg (by omega)]; rfl
   have r6 : List.drop 6 ((rws ivr R).getD p []) = [] := List.drop_eq_nil_of_le (by rw [rl]; exact Nat.le_refl _)
   have e9 : (rws ivr R).set p [.v (.bool (sg x.lo)), .sl 1 (u32s (ms x.lo)), .v (.int .i64 (dn x.lo)), .v (.bool (sg x.hi)), .sl 1 (u32s (ms x.hi)), .v (.int .i64 (dn x.hi))] = rws ivr (rnO ins bs R0 O (j + 1)) := by rw [e1]; exact zba R p x
   have hl2 : (rnO ins bs R0 O (j + 1)).length = n := by rw [e1, List.length_set]; exact hl1
   have rx : (rws ivr (rnO ins bs R0 O (j + 1))).getD p [] = ivr x := by rw [vg (by omega), e1, zaL Iv.zero x (by omega), if_pos rfl]
   refine wkrq [] 1 w1 w1 (zc10 hn hoL ro rb hl1 rl r6 e9 rx hl2) ?_
   refine zac (α := Nat) (j + 1) ⟨⟨?_, nx⟩, nR⟩ ?_ ?_
   ·show j + 1 ≤ oL; omega
   ·show oL - (j + 1) < oL - j; omega
   exact zah
 ·obtain rfl : j = oL := by omega
  obtain ⟨rfl, rfl⟩ := h3 hg
  have hl1 := zfL ins bs R0 O j
  rw [hlen] at hl1
  clear h2 hg hR hR2 ho hB hP
  rw [zbg]
  generalize rnO ins bs R0 O j = R at *
  repeat' (first | simp only [go_sem, seval, zab, hoL] | simp (disch := omega) only [wA] | refine aI ?_ | refine dI ?_ | refine dG ?_ | ((first | refine cC ?_ ?_ | refine gS ?_ ?_ | refine dS ?_ ?_) <;> intro hc <;> simp only [hc] <;> try simp only [dcA] at hc <;> try omega) | refine aP ?_ | refine dP ?_)
  refine zci trivial (.tup (.cons (.one (.ps rfl rfl (by show 0 + n ≤ (rws ivr R).length; rw [zab]; omega))) (.cons (.one .same) .nil))) ?_
  rw [List.drop_zero, List.take_of_length_le (by show (rws ivr R).length ≤ n; rw [zab]; omega)]
  exact .refl _
end Go.Proofs.YtcpmeibfggoebaaGreatDoor
