/- The types of this translation, as the executor sees them; checked by the kernel. -/
import Derived.Test.YtpggiabnhodjpaaGreatDoorProg
import Derived.Test.YtpggiabnhodjpaaGreatDoorU2
import Derived.Test.YtpggiabnhodjpaaGreatDoorU3
set_option linter.unusedSimpArgs false
set_option linter.unusedVariables false
set_option linter.deprecated false
namespace Go.Proofs.YtpggiabnhodjpaaGreatDoor
open Go Go.Ax
set_option maxRecDepth 100000
def gl : GL := [(0, dbT.map fun (k : Nat) => Value.int .u8 k)]
def tin : Nat → Option TyI
  | 2 => some ⟨1, 8, [.int .i64], .int .i64⟩
  | 3 => some ⟨1, 8, [.int .i64], .int .i64⟩
  | 4 => some ⟨1, 1, [.bool], .bool⟩
  | 5 => some ⟨1, 1, [.int .u8], .int .u8⟩
  | 6 => some ⟨1, 1, [.int .u8], .int .u8⟩
  | 7 => some ⟨4, 24, [.int .i64, .int .i64, .bool, .int .u8], .st [(0, 2), (1, 3), (2, 4), (3, 6)]⟩
  | 8 => some ⟨4, 24, [.int .i64, .int .i64, .bool, .int .u8], .st [(0, 2), (1, 3), (2, 4), (3, 6)]⟩
  | 9 => some ⟨1, 16, [.str], .str⟩
  | 10 => some ⟨1, 16, [.str], .str⟩
  | 11 => some ⟨1, 16, [.str], .str⟩
  | 12 => some ⟨1, 8, [.int .u64], .int .u64⟩
  | 13 => some ⟨2, 24, [.str, .int .u64], .st [(0, 9), (1, 12)]⟩
  | 14 => some ⟨2, 24, [.str, .int .u64], .st [(0, 9), (1, 12)]⟩
  | 15 => some ⟨1, 8, [.ptr], .ptr 229⟩
  | 16 => some ⟨1, 8, [.ptr], .ptr 232⟩
  | 17 => some ⟨1, 8, [.ptr], .ptr 240⟩
  | 18 => some ⟨1, 8, [.ptr], .st [(0, 17)]⟩
  | 19 => some ⟨1, 8, [.ptr], .st [(0, 17)]⟩
  | 20 => some ⟨1, 16, [.iface], .iface⟩
  | 21 => some ⟨1, 4, [.int .i32], .int .i32⟩
  | 22 => some ⟨1, 24, [.slc], .slc 23⟩
  | 23 => some ⟨1, 24, [.slc], .slc 46⟩
  | 24 => some ⟨3, 72, [.slc, .slc, .slc], .st [(0, 22), (1, 22), (2, 23)]⟩
  | 25 => some ⟨3, 72, [.slc, .slc, .slc], .st [(0, 22), (1, 22), (2, 23)]⟩
  | 29 => some ⟨3, 56, [.int .i64, .slc, .slc], .st [(0, 3), (1, 23), (2, 23)]⟩
  | 30 => some ⟨3, 56, [.int .i64, .slc, .slc], .st [(0, 3), (1, 23), (2, 23)]⟩
  | 31 => some ⟨1, 16, [.iface], .iface⟩
  | 32 => some ⟨1, 16, [.iface], .iface⟩
  | 44 => some ⟨1, 24, [.slc], .slc 133⟩
  | 45 => some ⟨3, 40, [.bool, .slc, .int .i64], .st [(0, 4), (1, 44), (2, 3)]⟩
  | 46 => some ⟨3, 40, [.bool, .slc, .int .i64], .st [(0, 4), (1, 44), (2, 3)]⟩
  | 65 => some ⟨1, 24, [.slc], .slc 68⟩
  | 66 => some ⟨1, 1, [.int .i8], .int .i8⟩
  | 68 => some ⟨1, 24, [.slc], .slc 66⟩
  | 72 => some ⟨4, 32, [.int .i64, .int .i64, .int .i64, .int .i64], .st [(0, 3), (1, 3), (2, 3), (3, 3)]⟩
  | 73 => some ⟨4, 32, [.int .i64, .int .i64, .int .i64, .int .i64], .st [(0, 3), (1, 3), (2, 3), (3, 3)]⟩
  | 74 => some ⟨6, 48, [.int .i64, .int .i64, .int .i64, .int .i64, .int .i64, .int .i64], .st [(0, 3), (1, 3), (2, 73)]⟩
  | 75 => some ⟨6, 48, [.int .i64, .int .i64, .int .i64, .int .i64, .int .i64, .int .i64], .st [(0, 3), (1, 3), (2, 73)]⟩
  | 76 => some ⟨3, 24, [.int .i64, .int .i64, .int .i64], .arr 3 3⟩
  | 77 => some ⟨1, 24, [.slc], .slc 165⟩
  | 78 => some ⟨5, 72, [.int .i64, .int .i64, .int .i64, .slc, .slc], .st [(0, 3), (1, 3), (2, 3), (3, 77), (4, 77)]⟩
  | 79 => some ⟨5, 72, [.int .i64, .int .i64, .int .i64, .slc, .slc], .st [(0, 3), (1, 3), (2, 3), (3, 77), (4, 77)]⟩
  | 83 => some ⟨1, 8, [.int .i64], .st [(0, 3)]⟩
  | 84 => some ⟨1, 8, [.int .i64], .st [(0, 3)]⟩
  | 85 => some ⟨1, 8, [.int .i64], .st [(0, 84)]⟩
  | 86 => some ⟨1, 8, [.int .i64], .st [(0, 84)]⟩
  | 89 => some ⟨5, 40, [.int .i64, .int .i64, .int .i64, .int .i64, .int .i64], .st [(0, 3), (1, 3), (2, 3), (3, 3), (4, 3)]⟩
  | 90 => some ⟨5, 40, [.int .i64, .int .i64, .int .i64, .int .i64, .int .i64], .st [(0, 3), (1, 3), (2, 3), (3, 3), (4, 3)]⟩
  | 96 => some ⟨5, 40, [.int .i64, .int .i64, .int .i64, .int .i64, .int .i64], .st [(0, 3), (1, 3), (2, 3), (3, 3), (4, 3)]⟩
  | 97 => some ⟨5, 40, [.int .i64, .int .i64, .int .i64, .int .i64, .int .i64], .st [(0, 3), (1, 3), (2, 3), (3, 3), (4, 3)]⟩
  | 98 => some ⟨2, 2, [.int .u8, .int .u8], .arr 2 5⟩
  | 99 => some ⟨4, 64, [.int .i64, .int .i64, .slc, .slc], .st [(0, 3), (1, 3), (2, 68), (3, 68)]⟩
  | 100 => some ⟨4, 64, [.int .i64, .int .i64, .slc, .slc], .st [(0, 3), (1, 3), (2, 68), (3, 68)]⟩
  | 103 => some ⟨2, 16, [.int .i64, .int .i64], .st [(0, 3), (1, 3)]⟩
  | 104 => some ⟨2, 16, [.int .i64, .int .i64], .st [(0, 3), (1, 3)]⟩
  | 105 => some ⟨4, 32, [.int .i64, .int .i64, .int .i64, .int .i64], .st [(0, 104), (2, 3), (3, 3)]⟩
  | 106 => some ⟨4, 32, [.int .i64, .int .i64, .int .i64, .int .i64], .st [(0, 104), (2, 3), (3, 3)]⟩
  | 117 => some ⟨1, 8, [.int .i64], .int .i64⟩
  | 131 => some ⟨1, 8, [.int .u64], .int .u64⟩
  | 133 => some ⟨1, 4, [.int .u32], .int .u32⟩
  | 134 => some ⟨1, 8, [.int .u64], .int .u64⟩
  | 165 => some ⟨1, 2, [.int .i16], .int .i16⟩
  | 174 => some ⟨1, 24, [.slc], .slc 133⟩
  | 216 => some ⟨1, 24, [.slc], .slc 22⟩
  | 218 => some ⟨3, 24, [.int .i64, .int .i64, .int .i64], .st [(0, 3), (1, 3), (2, 3)]⟩
  | 219 => some ⟨12, 96, [.int .i64, .int .i64, .int .i64, .int .i64, .int .i64, .int .i64, .int .i64, .int .i64, .int .i64, .int .i64, .int .i64, .int .i64], .arr 4 218⟩
  | 225 => some ⟨32, 32, [.int .u8, .int .u8, .int .u8, .int .u8, .int .u8, .int .u8, .int .u8, .int .u8, .int .u8, .int .u8, .int .u8, .int .u8, .int .u8, .int .u8, .int .u8, .int .u8, .int .u8, .int .u8, .int .u8, .int .u8, .int .u8, .int .u8, .int .u8, .int .u8, .int .u8, .int .u8, .int .u8, .int .u8, .int .u8, .int .u8, .int .u8, .int .u8], .arr 32 5⟩
  | 226 => some ⟨1, 8, [.ptr], .ptr 242⟩
  | 228 => some ⟨4, 40, [.ptr, .ptr, .ptr, .str], .st [(0, 17), (1, 17), (2, 17), (3, 9)]⟩
  | 229 => some ⟨4, 40, [.ptr, .ptr, .ptr, .str], .st [(0, 17), (1, 17), (2, 17), (3, 9)]⟩
  | 230 => some ⟨0, 0, [], .arr 0 16⟩
  | 231 => some ⟨0, 0, [], .st [(0, 230)]⟩
  | 232 => some ⟨0, 0, [], .st [(0, 230)]⟩
  | 233 => some ⟨1, 1, [.int .u8], .int .u8⟩
  | 234 => some ⟨1, 1, [.int .u8], .int .u8⟩
  | 236 => some ⟨1, 8, [.ptr], .ptr 5⟩
  | 237 => some ⟨1, 4, [.int .i32], .int .i32⟩
  | 238 => some ⟨1, 4, [.int .i32], .int .i32⟩
  | 239 => some ⟨11, 48, [.int .u64, .int .u64, .int .u32, .int .u8, .int .u8, .int .u8, .int .u8, .func, .ptr, .int .i32, .int .i32], .st [(0, 12), (1, 12), (2, 133), (3, 233), (4, 5), (5, 5), (6, 234), (7, 235), (8, 236), (9, 237), (10, 238)]⟩
  | 240 => some ⟨11, 48, [.int .u64, .int .u64, .int .u32, .int .u8, .int .u8, .int .u8, .int .u8, .func, .ptr, .int .i32, .int .i32], .st [(0, 12), (1, 12), (2, 133), (3, 233), (4, 5), (5, 5), (6, 234), (7, 235), (8, 236), (9, 237), (10, 238)]⟩
  | 241 => some ⟨1, 16, [.str], .st [(0, 9)]⟩
  | 242 => some ⟨1, 16, [.str], .st [(0, 9)]⟩
  | _ => none
def ti (t : Nat) : Option TyI := if t < 244 then tin t else none
theorem ti_check : typesCheck Tryz.prog 244 tin = true := by kernel_rfl
theorem ti_ok : TypesOK Tryz.prog ti := typesCheck_spec ti_check
theorem mixed : Tryz.prog.follows .mixedOrders = true := by kernel_rfl
end Go.Proofs.YtpggiabnhodjpaaGreatDoor
