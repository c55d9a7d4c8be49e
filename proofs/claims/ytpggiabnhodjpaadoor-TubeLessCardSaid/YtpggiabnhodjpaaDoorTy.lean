/- The types of this translation, as the executor sees them; checked by the kernel. -/
import Derived.Test.YtpggiabnhodjpaaDoorProg
import Derived.Test.YtpggiabnhodjpaaDoorU2
import Derived.Test.YtpggiabnhodjpaaDoorU3
set_option linter.unusedSimpArgs false
set_option linter.unusedVariables false
set_option linter.deprecated false
namespace Go.Proofs.YtpggiabnhodjpaaDoor
open Go Go.Ax
set_option maxRecDepth 100000

/-- The package variables that are read. -/
def gl : GL := [(0, dbT.map fun (k : Nat) => Value.int .u8 k)]

def tin : Nat → Option TyI
  | 2 => some ⟨1, 8, [.int .i64], .int .i64⟩
  | 3 => some ⟨1, 8, [.int .i64], .int .i64⟩
  | 4 => some ⟨1, 1, [.bool], .bool⟩
  | 5 => some ⟨1, 1, [.int .u8], .int .u8⟩
  | 6 => some ⟨1, 1, [.int .u8], .int .u8⟩
  | 7 => some ⟨4, 24, [.int .i64, .int .i64, .bool, .int .u8], .st [(0, 2), (1, 3), (2, 4), (3, 6)]⟩
  | 8 => some ⟨4, 24, [.int .i64, .int .i64, .bool, .int .u8], .st [(0, 2), (1, 3), (2, 4), (3, 6)]⟩
  | 9 => some ⟨1, 16, [.str], .str⟩
  | 10 => some ⟨1, 16, [.str], .str⟩
  | 11 => some ⟨1, 16, [.str], .str⟩
  | 12 => some ⟨1, 8, [.int .u64], .int .u64⟩
  | 13 => some ⟨2, 24, [.str, .int .u64], .st [(0, 9), (1, 12)]⟩
  | 14 => some ⟨2, 24, [.str, .int .u64], .st [(0, 9), (1, 12)]⟩
  | 15 => some ⟨1, 8, [.ptr], .ptr 131⟩
  | 16 => some ⟨1, 8, [.ptr], .ptr 134⟩
  | 17 => some ⟨1, 8, [.ptr], .ptr 142⟩
  | 18 => some ⟨1, 8, [.ptr], .st [(0, 17)]⟩
  | 19 => some ⟨1, 8, [.ptr], .st [(0, 17)]⟩
  | 20 => some ⟨1, 16, [.iface], .iface⟩
  | 21 => some ⟨1, 4, [.int .i32], .int .i32⟩
  | 22 => some ⟨1, 24, [.slc], .slc 23⟩
  | 23 => some ⟨1, 24, [.slc], .slc 35⟩
  | 24 => some ⟨3, 72, [.slc, .slc, .slc], .st [(0, 22), (1, 22), (2, 23)]⟩
  | 25 => some ⟨3, 72, [.slc, .slc, .slc], .st [(0, 22), (1, 22), (2, 23)]⟩
  | 26 => some ⟨3, 56, [.int .i64, .slc, .slc], .st [(0, 3), (1, 23), (2, 23)]⟩
  | 27 => some ⟨3, 56, [.int .i64, .slc, .slc], .st [(0, 3), (1, 23), (2, 23)]⟩
  | 28 => some ⟨1, 24, [.slc], .slc 38⟩
  | 33 => some ⟨1, 24, [.slc], .slc 69⟩
  | 34 => some ⟨3, 40, [.bool, .slc, .int .i64], .st [(0, 4), (1, 33), (2, 3)]⟩
  | 35 => some ⟨3, 40, [.bool, .slc, .int .i64], .st [(0, 4), (1, 33), (2, 3)]⟩
  | 38 => some ⟨1, 1, [.int .i8], .int .i8⟩
  | 40 => some ⟨1, 16, [.iface], .iface⟩
  | 41 => some ⟨1, 16, [.iface], .iface⟩
  | 57 => some ⟨1, 8, [.int .i64], .int .i64⟩
  | 68 => some ⟨1, 8, [.int .u64], .int .u64⟩
  | 69 => some ⟨1, 4, [.int .u32], .int .u32⟩
  | 70 => some ⟨1, 8, [.int .u64], .int .u64⟩
  | 95 => some ⟨1, 24, [.slc], .slc 69⟩
  | 122 => some ⟨1, 24, [.slc], .slc 22⟩
  | 127 => some ⟨32, 32, [.int .u8, .int .u8, .int .u8, .int .u8, .int .u8, .int .u8, .int .u8, .int .u8, .int .u8, .int .u8, .int .u8, .int .u8, .int .u8, .int .u8, .int .u8, .int .u8, .int .u8, .int .u8, .int .u8, .int .u8, .int .u8, .int .u8, .int .u8, .int .u8, .int .u8, .int .u8, .int .u8, .int .u8, .int .u8, .int .u8, .int .u8, .int .u8], .arr 32 5⟩
  | 128 => some ⟨1, 8, [.ptr], .ptr 144⟩
  | 130 => some ⟨4, 40, [.ptr, .ptr, .ptr, .str], .st [(0, 17), (1, 17), (2, 17), (3, 9)]⟩
  | 131 => some ⟨4, 40, [.ptr, .ptr, .ptr, .str], .st [(0, 17), (1, 17), (2, 17), (3, 9)]⟩
  | 132 => some ⟨0, 0, [], .arr 0 16⟩
  | 133 => some ⟨0, 0, [], .st [(0, 132)]⟩
  | 134 => some ⟨0, 0, [], .st [(0, 132)]⟩
  | 135 => some ⟨1, 1, [.int .u8], .int .u8⟩
  | 136 => some ⟨1, 1, [.int .u8], .int .u8⟩
  | 138 => some ⟨1, 8, [.ptr], .ptr 5⟩
  | 139 => some ⟨1, 4, [.int .i32], .int .i32⟩
  | 140 => some ⟨1, 4, [.int .i32], .int .i32⟩
  | 141 => some ⟨11, 48, [.int .u64, .int .u64, .int .u32, .int .u8, .int .u8, .int .u8, .int .u8, .func, .ptr, .int .i32, .int .i32], .st [(0, 12), (1, 12), (2, 69), (3, 135), (4, 5), (5, 5), (6, 136), (7, 137), (8, 138), (9, 139), (10, 140)]⟩
  | 142 => some ⟨11, 48, [.int .u64, .int .u64, .int .u32, .int .u8, .int .u8, .int .u8, .int .u8, .func, .ptr, .int .i32, .int .i32], .st [(0, 12), (1, 12), (2, 69), (3, 135), (4, 5), (5, 5), (6, 136), (7, 137), (8, 138), (9, 139), (10, 140)]⟩
  | 143 => some ⟨1, 16, [.str], .st [(0, 9)]⟩
  | 144 => some ⟨1, 16, [.str], .st [(0, 9)]⟩
  | _ => none

def ti (t : Nat) : Option TyI := if t < 146 then tin t else none

theorem ti_check : typesCheck Tryd.prog 146 tin = true := by kernel_rfl
theorem ti_ok : TypesOK Tryd.prog ti := typesCheck_spec ti_check
theorem mixed : Tryd.prog.follows .mixedOrders = true := by kernel_rfl
end Go.Proofs.YtpggiabnhodjpaaDoor
