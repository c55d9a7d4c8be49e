/- The types of this translation, as the executor sees them; checked by the kernel. -/
import Derived.Test.YtkdpaoicekgalaaGreatDoorProg
import Derived.Test.YtkdpaoicekgalaaGreatDoorU2
import Derived.Test.YtkdpaoicekgalaaGreatDoorU3
set_option linter.unusedSimpArgs false
set_option linter.unusedVariables false
set_option linter.deprecated false
namespace Go.Proofs.YtkdpaoicekgalaaGreatDoor
open Go Go.Ax
set_option maxRecDepth 100000

/-- The package variables that are read. -/
def gl : GL := [(0, dbT.map fun (k : Nat) => Value.int .u8 k), (2, p10T.map fun (k : Int) => Value.int .u64 k)]

def tin : Nat → Option TyI
  | 2 => some ⟨1, 8, [.int .i64], .int .i64⟩
  | 3 => some ⟨1, 8, [.int .i64], .int .i64⟩
  | 4 => some ⟨1, 1, [.bool], .bool⟩
  | 5 => some ⟨1, 1, [.int .u8], .int .u8⟩
  | 6 => some ⟨1, 1, [.int .u8], .int .u8⟩
  | 7 => some ⟨4, 24, [.int .i64, .int .i64, .bool, .int .u8], .st [(0, 2), (1, 3), (2, 4), (3, 6)]⟩
  | 8 => some ⟨4, 24, [.int .i64, .int .i64, .bool, .int .u8], .st [(0, 2), (1, 3), (2, 4), (3, 6)]⟩
  | 9 => some ⟨1, 16, [.str], .str⟩
  | 10 => some ⟨1, 16, [.str], .str⟩
  | 11 => some ⟨1, 16, [.str], .str⟩
  | 12 => some ⟨1, 8, [.int .u64], .int .u64⟩
  | 13 => some ⟨2, 24, [.str, .int .u64], .st [(0, 9), (1, 12)]⟩
  | 14 => some ⟨2, 24, [.str, .int .u64], .st [(0, 9), (1, 12)]⟩
  | 15 => some ⟨1, 8, [.ptr], .ptr 190⟩
  | 16 => some ⟨1, 8, [.ptr], .ptr 193⟩
  | 17 => some ⟨1, 8, [.ptr], .ptr 200⟩
  | 18 => some ⟨1, 8, [.ptr], .st [(0, 17)]⟩
  | 19 => some ⟨1, 8, [.ptr], .st [(0, 17)]⟩
  | 20 => some ⟨1, 16, [.iface], .iface⟩
  | 21 => some ⟨1, 4, [.int .i32], .int .i32⟩
  | 22 => some ⟨1, 24, [.slc], .slc 100⟩
  | 23 => some ⟨3, 40, [.bool, .slc, .int .i64], .st [(0, 4), (1, 22), (2, 3)]⟩
  | 24 => some ⟨3, 40, [.bool, .slc, .int .i64], .st [(0, 4), (1, 22), (2, 3)]⟩
  | 25 => some ⟨2, 16, [.int .i64, .int .i64], .arr 2 3⟩
  | 28 => some ⟨6, 80, [.bool, .slc, .int .i64, .bool, .slc, .int .i64], .st [(0, 24), (3, 24)]⟩
  | 29 => some ⟨6, 80, [.bool, .slc, .int .i64, .bool, .slc, .int .i64], .st [(0, 24), (3, 24)]⟩
  | 30 => some ⟨1, 16, [.iface], .iface⟩
  | 31 => some ⟨1, 16, [.iface], .iface⟩
  | 43 => some ⟨2, 2, [.int .u8, .int .u8], .arr 2 5⟩
  | 55 => some ⟨4, 4, [.int .u8, .int .u8, .int .u8, .int .u8], .arr 4 5⟩
  | 67 => some ⟨1, 24, [.slc], .slc 84⟩
  | 73 => some ⟨6, 80, [.bool, .slc, .int .i64, .bool, .slc, .int .i64], .arr 2 24⟩
  | 80 => some ⟨1, 8, [.int .i64], .int .i64⟩
  | 83 => some ⟨2, 16, [.int .i64, .int .i64], .st [(0, 3), (1, 3)]⟩
  | 84 => some ⟨2, 16, [.int .i64, .int .i64], .st [(0, 3), (1, 3)]⟩
  | 85 => some ⟨1, 24, [.slc], .slc 24⟩
  | 88 => some ⟨1, 24, [.slc], .slc 29⟩
  | 91 => some ⟨1, 24, [.slc], .slc 100⟩
  | 100 => some ⟨1, 4, [.int .u32], .int .u32⟩
  | 109 => some ⟨1, 24, [.slc], .slc 111⟩
  | 110 => some ⟨9, 120, [.bool, .slc, .int .i64, .bool, .slc, .int .i64, .bool, .slc, .int .i64], .st [(0, 24), (3, 24), (6, 24)]⟩
  | 111 => some ⟨9, 120, [.bool, .slc, .int .i64, .bool, .slc, .int .i64, .bool, .slc, .int .i64], .st [(0, 24), (3, 24), (6, 24)]⟩
  | 115 => some ⟨1, 8, [.int .u64], .int .u64⟩
  | 118 => some ⟨1, 8, [.int .u64], .int .u64⟩
  | 132 => some ⟨1, 24, [.slc], .slc 134⟩
  | 133 => some ⟨3, 24, [.int .i64, .int .i64, .int .i64], .st [(0, 3), (1, 3), (2, 3)]⟩
  | 134 => some ⟨3, 24, [.int .i64, .int .i64, .int .i64], .st [(0, 3), (1, 3), (2, 3)]⟩
  | 135 => some ⟨1, 8, [.ptr], .ptr 154⟩
  | 141 => some ⟨1, 24, [.slc], .slc 9⟩
  | 144 => some ⟨1, 8, [.ptr], .ptr 147⟩
  | 145 => some ⟨1, 24, [.slc], .slc 5⟩
  | 146 => some ⟨2, 32, [.ptr, .slc], .st [(0, 144), (1, 145)]⟩
  | 147 => some ⟨2, 32, [.ptr, .slc], .st [(0, 144), (1, 145)]⟩
  | 151 => some ⟨6, 80, [.bool, .slc, .int .i64, .bool, .slc, .int .i64], .st [(0, 24), (3, 24)]⟩
  | 152 => some ⟨6, 80, [.bool, .slc, .int .i64, .bool, .slc, .int .i64], .st [(0, 24), (3, 24)]⟩
  | 153 => some ⟨15, 168, [.bool, .slc, .int .i64, .bool, .slc, .int .i64, .bool, .slc, .int .i64, .bool, .slc, .int .i64, .bool, .bool, .bool], .st [(0, 152), (6, 152), (12, 4), (13, 4), (14, 4)]⟩
  | 154 => some ⟨15, 168, [.bool, .slc, .int .i64, .bool, .slc, .int .i64, .bool, .slc, .int .i64, .bool, .slc, .int .i64, .bool, .bool, .bool], .st [(0, 152), (6, 152), (12, 4), (13, 4), (14, 4)]⟩
  | 159 => some ⟨32, 32, [.int .u8, .int .u8, .int .u8, .int .u8, .int .u8, .int .u8, .int .u8, .int .u8, .int .u8, .int .u8, .int .u8, .int .u8, .int .u8, .int .u8, .int .u8, .int .u8, .int .u8, .int .u8, .int .u8, .int .u8, .int .u8, .int .u8, .int .u8, .int .u8, .int .u8, .int .u8, .int .u8, .int .u8, .int .u8, .int .u8, .int .u8, .int .u8], .arr 32 5⟩
  | 164 => some ⟨1, 8, [.ptr], .ptr 5⟩
  | 172 => some ⟨24, 24, [.int .u8, .int .u8, .int .u8, .int .u8, .int .u8, .int .u8, .int .u8, .int .u8, .int .u8, .int .u8, .int .u8, .int .u8, .int .u8, .int .u8, .int .u8, .int .u8, .int .u8, .int .u8, .int .u8, .int .u8, .int .u8, .int .u8, .int .u8, .int .u8], .arr 24 5⟩
  | 182 => some ⟨20, 160, [.int .u64, .int .u64, .int .u64, .int .u64, .int .u64, .int .u64, .int .u64, .int .u64, .int .u64, .int .u64, .int .u64, .int .u64, .int .u64, .int .u64, .int .u64, .int .u64, .int .u64, .int .u64, .int .u64, .int .u64], .arr 20 115⟩
  | 183 => some ⟨65, 65, [.int .u8, .int .u8, .int .u8, .int .u8, .int .u8, .int .u8, .int .u8, .int .u8, .int .u8, .int .u8, .int .u8, .int .u8, .int .u8, .int .u8, .int .u8, .int .u8, .int .u8, .int .u8, .int .u8, .int .u8, .int .u8, .int .u8, .int .u8, .int .u8, .int .u8, .int .u8, .int .u8, .int .u8, .int .u8, .int .u8, .int .u8, .int .u8, .int .u8, .int .u8, .int .u8, .int .u8, .int .u8, .int .u8, .int .u8, .int .u8, .int .u8, .int .u8, .int .u8, .int .u8, .int .u8, .int .u8, .int .u8, .int .u8, .int .u8, .int .u8, .int .u8, .int .u8, .int .u8, .int .u8, .int .u8, .int .u8, .int .u8, .int .u8, .int .u8, .int .u8, .int .u8, .int .u8, .int .u8, .int .u8, .int .u8], .arr 65 5⟩
  | 187 => some ⟨64, 64, [.int .u8, .int .u8, .int .u8, .int .u8, .int .u8, .int .u8, .int .u8, .int .u8, .int .u8, .int .u8, .int .u8, .int .u8, .int .u8, .int .u8, .int .u8, .int .u8, .int .u8, .int .u8, .int .u8, .int .u8, .int .u8, .int .u8, .int .u8, .int .u8, .int .u8, .int .u8, .int .u8, .int .u8, .int .u8, .int .u8, .int .u8, .int .u8, .int .u8, .int .u8, .int .u8, .int .u8, .int .u8, .int .u8, .int .u8, .int .u8, .int .u8, .int .u8, .int .u8, .int .u8, .int .u8, .int .u8, .int .u8, .int .u8, .int .u8, .int .u8, .int .u8, .int .u8, .int .u8, .int .u8, .int .u8, .int .u8, .int .u8, .int .u8, .int .u8, .int .u8, .int .u8, .int .u8, .int .u8, .int .u8], .arr 64 5⟩
  | 188 => some ⟨1, 8, [.ptr], .ptr 202⟩
  | 189 => some ⟨4, 40, [.ptr, .ptr, .ptr, .str], .st [(0, 17), (1, 17), (2, 17), (3, 9)]⟩
  | 190 => some ⟨4, 40, [.ptr, .ptr, .ptr, .str], .st [(0, 17), (1, 17), (2, 17), (3, 9)]⟩
  | 191 => some ⟨0, 0, [], .arr 0 16⟩
  | 192 => some ⟨0, 0, [], .st [(0, 191)]⟩
  | 193 => some ⟨0, 0, [], .st [(0, 191)]⟩
  | 194 => some ⟨1, 1, [.int .u8], .int .u8⟩
  | 195 => some ⟨1, 1, [.int .u8], .int .u8⟩
  | 197 => some ⟨1, 4, [.int .i32], .int .i32⟩
  | 198 => some ⟨1, 4, [.int .i32], .int .i32⟩
  | 199 => some ⟨11, 48, [.int .u64, .int .u64, .int .u32, .int .u8, .int .u8, .int .u8, .int .u8, .func, .ptr, .int .i32, .int .i32], .st [(0, 12), (1, 12), (2, 100), (3, 194), (4, 5), (5, 5), (6, 195), (7, 196), (8, 164), (9, 197), (10, 198)]⟩
  | 200 => some ⟨11, 48, [.int .u64, .int .u64, .int .u32, .int .u8, .int .u8, .int .u8, .int .u8, .func, .ptr, .int .i32, .int .i32], .st [(0, 12), (1, 12), (2, 100), (3, 194), (4, 5), (5, 5), (6, 195), (7, 196), (8, 164), (9, 197), (10, 198)]⟩
  | 201 => some ⟨1, 16, [.str], .st [(0, 9)]⟩
  | 202 => some ⟨1, 16, [.str], .st [(0, 9)]⟩
  | _ => none

def ti (t : Nat) : Option TyI := if t < 203 then tin t else none

theorem ti_check : typesCheck Tryz.prog 203 tin = true := by kernel_rfl
theorem ti_ok : TypesOK Tryz.prog ti := typesCheck_spec ti_check
theorem mixed : Tryz.prog.follows .mixedOrders = true := by kernel_rfl
end Go.Proofs.YtkdpaoicekgalaaGreatDoor
