/- The types of this translation, as the executor sees them; checked by the kernel. -/
import Derived.Test.YtkdpaoicekgalaaDoorProg
import Derived.Test.YtkdpaoicekgalaaDoorU2
import Derived.Test.YtkdpaoicekgalaaDoorU3
set_option linter.unusedSimpArgs false
set_option linter.unusedVariables false
set_option linter.deprecated false
namespace Go.Proofs.YtkdpaoicekgalaaDoor
open Go Go.Ax
set_option maxRecDepth 100000

/-- The package variables that are read. -/
def gl : GL := [(0, dbT.map fun (k : Nat) => Value.int .u8 k), (2, p10T.map fun (k : Int) => Value.int .u64 k)]

def tin : Nat → Option TyI
  | 2 => some ⟨1, 8, [.int .i64], .int .i64⟩
  | 3 => some ⟨1, 8, [.int .i64], .int .i64⟩
  | 4 => some ⟨1, 1, [.bool], .bool⟩
  | 5 => some ⟨1, 1, [.int .u8], .int .u8⟩
  | 6 => some ⟨1, 1, [.int .u8], .int .u8⟩
  | 7 => some ⟨4, 24, [.int .i64, .int .i64, .bool, .int .u8], .st [(0, 2), (1, 3), (2, 4), (3, 6)]⟩
  | 8 => some ⟨4, 24, [.int .i64, .int .i64, .bool, .int .u8], .st [(0, 2), (1, 3), (2, 4), (3, 6)]⟩
  | 9 => some ⟨1, 16, [.str], .str⟩
  | 10 => some ⟨1, 16, [.str], .str⟩
  | 11 => some ⟨1, 16, [.str], .str⟩
  | 12 => some ⟨1, 8, [.int .u64], .int .u64⟩
  | 13 => some ⟨2, 24, [.str, .int .u64], .st [(0, 9), (1, 12)]⟩
  | 14 => some ⟨2, 24, [.str, .int .u64], .st [(0, 9), (1, 12)]⟩
  | 15 => some ⟨1, 8, [.ptr], .ptr 176⟩
  | 16 => some ⟨1, 8, [.ptr], .ptr 179⟩
  | 17 => some ⟨1, 8, [.ptr], .ptr 186⟩
  | 18 => some ⟨1, 8, [.ptr], .st [(0, 17)]⟩
  | 19 => some ⟨1, 8, [.ptr], .st [(0, 17)]⟩
  | 20 => some ⟨1, 16, [.iface], .iface⟩
  | 21 => some ⟨1, 4, [.int .i32], .int .i32⟩
  | 22 => some ⟨1, 24, [.slc], .slc 103⟩
  | 23 => some ⟨3, 40, [.bool, .slc, .int .i64], .st [(0, 4), (1, 22), (2, 3)]⟩
  | 24 => some ⟨3, 40, [.bool, .slc, .int .i64], .st [(0, 4), (1, 22), (2, 3)]⟩
  | 25 => some ⟨6, 80, [.bool, .slc, .int .i64, .bool, .slc, .int .i64], .st [(0, 24), (3, 24)]⟩
  | 26 => some ⟨6, 80, [.bool, .slc, .int .i64, .bool, .slc, .int .i64], .st [(0, 24), (3, 24)]⟩
  | 30 => some ⟨1, 16, [.iface], .iface⟩
  | 31 => some ⟨1, 16, [.iface], .iface⟩
  | 38 => some ⟨1, 8, [.int .i64], .int .i64⟩
  | 40 => some ⟨1, 24, [.slc], .slc 24⟩
  | 43 => some ⟨1, 24, [.slc], .slc 61⟩
  | 44 => some ⟨1, 2, [.int .u16], .int .u16⟩
  | 54 => some ⟨1, 24, [.slc], .slc 3⟩
  | 60 => some ⟨2, 16, [.int .i64, .int .i64], .st [(0, 3), (1, 3)]⟩
  | 61 => some ⟨2, 16, [.int .i64, .int .i64], .st [(0, 3), (1, 3)]⟩
  | 63 => some ⟨1, 24, [.slc], .slc 21⟩
  | 64 => some ⟨1, 24, [.slc], .slc 99⟩
  | 65 => some ⟨4, 56, [.int .i32, .int .i32, .slc, .slc], .st [(0, 21), (1, 21), (2, 63), (3, 64)]⟩
  | 66 => some ⟨4, 56, [.int .i32, .int .i32, .slc, .slc], .st [(0, 21), (1, 21), (2, 63), (3, 64)]⟩
  | 71 => some ⟨1, 24, [.slc], .slc 26⟩
  | 80 => some ⟨1, 24, [.slc], .slc 103⟩
  | 94 => some ⟨1, 8, [.int .u64], .int .u64⟩
  | 98 => some ⟨1, 24, [.slc], .slc 54⟩
  | 99 => some ⟨1, 1, [.int .i8], .int .i8⟩
  | 103 => some ⟨1, 4, [.int .u32], .int .u32⟩
  | 109 => some ⟨1, 8, [.int .u64], .int .u64⟩
  | 110 => some ⟨1, 24, [.slc], .slc 112⟩
  | 111 => some ⟨3, 24, [.int .i64, .int .i64, .int .i64], .st [(0, 3), (1, 3), (2, 3)]⟩
  | 112 => some ⟨3, 24, [.int .i64, .int .i64, .int .i64], .st [(0, 3), (1, 3), (2, 3)]⟩
  | 113 => some ⟨1, 8, [.ptr], .ptr 122⟩
  | 119 => some ⟨6, 80, [.bool, .slc, .int .i64, .bool, .slc, .int .i64], .st [(0, 24), (3, 24)]⟩
  | 120 => some ⟨6, 80, [.bool, .slc, .int .i64, .bool, .slc, .int .i64], .st [(0, 24), (3, 24)]⟩
  | 121 => some ⟨15, 168, [.bool, .slc, .int .i64, .bool, .slc, .int .i64, .bool, .slc, .int .i64, .bool, .slc, .int .i64, .bool, .bool, .bool], .st [(0, 120), (6, 120), (12, 4), (13, 4), (14, 4)]⟩
  | 122 => some ⟨15, 168, [.bool, .slc, .int .i64, .bool, .slc, .int .i64, .bool, .slc, .int .i64, .bool, .slc, .int .i64, .bool, .bool, .bool], .st [(0, 120), (6, 120), (12, 4), (13, 4), (14, 4)]⟩
  | 127 => some ⟨1, 24, [.slc], .slc 9⟩
  | 130 => some ⟨1, 8, [.ptr], .ptr 133⟩
  | 131 => some ⟨1, 24, [.slc], .slc 5⟩
  | 132 => some ⟨2, 32, [.ptr, .slc], .st [(0, 130), (1, 131)]⟩
  | 133 => some ⟨2, 32, [.ptr, .slc], .st [(0, 130), (1, 131)]⟩
  | 137 => some ⟨32, 32, [.int .u8, .int .u8, .int .u8, .int .u8, .int .u8, .int .u8, .int .u8, .int .u8, .int .u8, .int .u8, .int .u8, .int .u8, .int .u8, .int .u8, .int .u8, .int .u8, .int .u8, .int .u8, .int .u8, .int .u8, .int .u8, .int .u8, .int .u8, .int .u8, .int .u8, .int .u8, .int .u8, .int .u8, .int .u8, .int .u8, .int .u8, .int .u8], .arr 32 5⟩
  | 144 => some ⟨1, 8, [.ptr], .ptr 5⟩
  | 157 => some ⟨24, 24, [.int .u8, .int .u8, .int .u8, .int .u8, .int .u8, .int .u8, .int .u8, .int .u8, .int .u8, .int .u8, .int .u8, .int .u8, .int .u8, .int .u8, .int .u8, .int .u8, .int .u8, .int .u8, .int .u8, .int .u8, .int .u8, .int .u8, .int .u8, .int .u8], .arr 24 5⟩
  | 169 => some ⟨20, 160, [.int .u64, .int .u64, .int .u64, .int .u64, .int .u64, .int .u64, .int .u64, .int .u64, .int .u64, .int .u64, .int .u64, .int .u64, .int .u64, .int .u64, .int .u64, .int .u64, .int .u64, .int .u64, .int .u64, .int .u64], .arr 20 94⟩
  | 170 => some ⟨65, 65, [.int .u8, .int .u8, .int .u8, .int .u8, .int .u8, .int .u8, .int .u8, .int .u8, .int .u8, .int .u8, .int .u8, .int .u8, .int .u8, .int .u8, .int .u8, .int .u8, .int .u8, .int .u8, .int .u8, .int .u8, .int .u8, .int .u8, .int .u8, .int .u8, .int .u8, .int .u8, .int .u8, .int .u8, .int .u8, .int .u8, .int .u8, .int .u8, .int .u8, .int .u8, .int .u8, .int .u8, .int .u8, .int .u8, .int .u8, .int .u8, .int .u8, .int .u8, .int .u8, .int .u8, .int .u8, .int .u8, .int .u8, .int .u8, .int .u8, .int .u8, .int .u8, .int .u8, .int .u8, .int .u8, .int .u8, .int .u8, .int .u8, .int .u8, .int .u8, .int .u8, .int .u8, .int .u8, .int .u8, .int .u8, .int .u8], .arr 65 5⟩
  | 173 => some ⟨64, 64, [.int .u8, .int .u8, .int .u8, .int .u8, .int .u8, .int .u8, .int .u8, .int .u8, .int .u8, .int .u8, .int .u8, .int .u8, .int .u8, .int .u8, .int .u8, .int .u8, .int .u8, .int .u8, .int .u8, .int .u8, .int .u8, .int .u8, .int .u8, .int .u8, .int .u8, .int .u8, .int .u8, .int .u8, .int .u8, .int .u8, .int .u8, .int .u8, .int .u8, .int .u8, .int .u8, .int .u8, .int .u8, .int .u8, .int .u8, .int .u8, .int .u8, .int .u8, .int .u8, .int .u8, .int .u8, .int .u8, .int .u8, .int .u8, .int .u8, .int .u8, .int .u8, .int .u8, .int .u8, .int .u8, .int .u8, .int .u8, .int .u8, .int .u8, .int .u8, .int .u8, .int .u8, .int .u8, .int .u8, .int .u8], .arr 64 5⟩
  | 174 => some ⟨1, 8, [.ptr], .ptr 188⟩
  | 175 => some ⟨4, 40, [.ptr, .ptr, .ptr, .str], .st [(0, 17), (1, 17), (2, 17), (3, 9)]⟩
  | 176 => some ⟨4, 40, [.ptr, .ptr, .ptr, .str], .st [(0, 17), (1, 17), (2, 17), (3, 9)]⟩
  | 177 => some ⟨0, 0, [], .arr 0 16⟩
  | 178 => some ⟨0, 0, [], .st [(0, 177)]⟩
  | 179 => some ⟨0, 0, [], .st [(0, 177)]⟩
  | 180 => some ⟨1, 1, [.int .u8], .int .u8⟩
  | 181 => some ⟨1, 1, [.int .u8], .int .u8⟩
  | 183 => some ⟨1, 4, [.int .i32], .int .i32⟩
  | 184 => some ⟨1, 4, [.int .i32], .int .i32⟩
  | 185 => some ⟨11, 48, [.int .u64, .int .u64, .int .u32, .int .u8, .int .u8, .int .u8, .int .u8, .func, .ptr, .int .i32, .int .i32], .st [(0, 12), (1, 12), (2, 103), (3, 180), (4, 5), (5, 5), (6, 181), (7, 182), (8, 144), (9, 183), (10, 184)]⟩
  | 186 => some ⟨11, 48, [.int .u64, .int .u64, .int .u32, .int .u8, .int .u8, .int .u8, .int .u8, .func, .ptr, .int .i32, .int .i32], .st [(0, 12), (1, 12), (2, 103), (3, 180), (4, 5), (5, 5), (6, 181), (7, 182), (8, 144), (9, 183), (10, 184)]⟩
  | 187 => some ⟨1, 16, [.str], .st [(0, 9)]⟩
  | 188 => some ⟨1, 16, [.str], .st [(0, 9)]⟩
  | _ => none

def ti (t : Nat) : Option TyI := if t < 189 then tin t else none

theorem ti_check : typesCheck Tryd.prog 189 tin = true := by kernel_rfl
theorem ti_ok : TypesOK Tryd.prog ti := typesCheck_spec ti_check
theorem mixed : Tryd.prog.follows .mixedOrders = true := by kernel_rfl
theorem ti_seen : ti 3 = ti 3 := by simp only [ti, tin]
end Go.Proofs.YtkdpaoicekgalaaDoor
