/- The types of this translation, as the executor sees them; checked by the kernel. -/
import Derived.Test.YtdjgckcninibhaaGreatDoorProg
import Derived.Test.YtdjgckcninibhaaGreatDoorU2
import Derived.Test.YtdjgckcninibhaaGreatDoorU3
set_option linter.unusedSimpArgs false
set_option linter.unusedVariables false
set_option linter.deprecated false
namespace Go.Proofs.YtdjgckcninibhaaGreatDoor
open Go Go.Ax
set_option maxRecDepth 100000

/-- The package variables that are read. -/
def gl : GL := [(0, dbT.map fun (k : Nat) => Value.int .u8 k), (3, p10T.map fun (k : Int) => Value.int .u64 k)]

def tin : Nat → Option TyI
  | 2 => some ⟨1, 8, [.int .i64], .int .i64⟩
  | 3 => some ⟨1, 8, [.int .i64], .int .i64⟩
  | 4 => some ⟨1, 1, [.bool], .bool⟩
  | 5 => some ⟨1, 1, [.int .u8], .int .u8⟩
  | 6 => some ⟨1, 1, [.int .u8], .int .u8⟩
  | 7 => some ⟨4, 24, [.int .i64, .int .i64, .bool, .int .u8], .st [(0, 2), (1, 3), (2, 4), (3, 6)]⟩
  | 8 => some ⟨4, 24, [.int .i64, .int .i64, .bool, .int .u8], .st [(0, 2), (1, 3), (2, 4), (3, 6)]⟩
  | 9 => some ⟨1, 16, [.str], .str⟩
  | 10 => some ⟨1, 16, [.str], .str⟩
  | 11 => some ⟨1, 16, [.str], .str⟩
  | 12 => some ⟨1, 8, [.int .u64], .int .u64⟩
  | 13 => some ⟨2, 24, [.str, .int .u64], .st [(0, 9), (1, 12)]⟩
  | 14 => some ⟨2, 24, [.str, .int .u64], .st [(0, 9), (1, 12)]⟩
  | 15 => some ⟨1, 8, [.ptr], .ptr 291⟩
  | 16 => some ⟨1, 8, [.ptr], .ptr 294⟩
  | 17 => some ⟨1, 8, [.ptr], .ptr 301⟩
  | 18 => some ⟨1, 8, [.ptr], .st [(0, 17)]⟩
  | 19 => some ⟨1, 8, [.ptr], .st [(0, 17)]⟩
  | 20 => some ⟨1, 16, [.iface], .iface⟩
  | 21 => some ⟨1, 4, [.int .i32], .int .i32⟩
  | 22 => some ⟨5, 40, [.int .i64, .int .i64, .int .i64, .int .i64, .int .i64], .st [(0, 3), (1, 3), (2, 3), (3, 3), (4, 3)]⟩
  | 23 => some ⟨5, 40, [.int .i64, .int .i64, .int .i64, .int .i64, .int .i64], .st [(0, 3), (1, 3), (2, 3), (3, 3), (4, 3)]⟩
  | 24 => some ⟨2, 2, [.int .u8, .int .u8], .arr 2 5⟩
  | 25 => some ⟨1, 24, [.slc], .slc 109⟩
  | 26 => some ⟨4, 64, [.int .i64, .int .i64, .slc, .slc], .st [(0, 3), (1, 3), (2, 25), (3, 25)]⟩
  | 27 => some ⟨4, 64, [.int .i64, .int .i64, .slc, .slc], .st [(0, 3), (1, 3), (2, 25), (3, 25)]⟩
  | 30 => some ⟨1, 24, [.slc], .slc 31⟩
  | 31 => some ⟨1, 24, [.slc], .slc 45⟩
  | 32 => some ⟨3, 72, [.slc, .slc, .slc], .st [(0, 30), (1, 30), (2, 31)]⟩
  | 33 => some ⟨3, 72, [.slc, .slc, .slc], .st [(0, 30), (1, 30), (2, 31)]⟩
  | 34 => some ⟨1, 16, [.iface], .iface⟩
  | 35 => some ⟨1, 16, [.iface], .iface⟩
  | 38 => some ⟨3, 56, [.int .i64, .slc, .slc], .st [(0, 3), (1, 31), (2, 31)]⟩
  | 39 => some ⟨3, 56, [.int .i64, .slc, .slc], .st [(0, 3), (1, 31), (2, 31)]⟩
  | 43 => some ⟨1, 24, [.slc], .slc 163⟩
  | 44 => some ⟨3, 40, [.bool, .slc, .int .i64], .st [(0, 4), (1, 43), (2, 3)]⟩
  | 45 => some ⟨3, 40, [.bool, .slc, .int .i64], .st [(0, 4), (1, 43), (2, 3)]⟩
  | 50 => some ⟨2, 16, [.int .i64, .int .i64], .st [(0, 3), (1, 3)]⟩
  | 51 => some ⟨2, 16, [.int .i64, .int .i64], .st [(0, 3), (1, 3)]⟩
  | 52 => some ⟨4, 32, [.int .i64, .int .i64, .int .i64, .int .i64], .st [(0, 51), (2, 3), (3, 3)]⟩
  | 53 => some ⟨4, 32, [.int .i64, .int .i64, .int .i64, .int .i64], .st [(0, 51), (2, 3), (3, 3)]⟩
  | 61 => some ⟨4, 32, [.int .i64, .int .i64, .int .i64, .int .i64], .st [(0, 3), (1, 3), (2, 3), (3, 3)]⟩
  | 62 => some ⟨4, 32, [.int .i64, .int .i64, .int .i64, .int .i64], .st [(0, 3), (1, 3), (2, 3), (3, 3)]⟩
  | 63 => some ⟨6, 48, [.int .i64, .int .i64, .int .i64, .int .i64, .int .i64, .int .i64], .st [(0, 3), (1, 3), (2, 62)]⟩
  | 64 => some ⟨6, 48, [.int .i64, .int .i64, .int .i64, .int .i64, .int .i64, .int .i64], .st [(0, 3), (1, 3), (2, 62)]⟩
  | 65 => some ⟨3, 24, [.int .i64, .int .i64, .int .i64], .arr 3 3⟩
  | 66 => some ⟨1, 24, [.slc], .slc 186⟩
  | 67 => some ⟨5, 72, [.int .i64, .int .i64, .int .i64, .slc, .slc], .st [(0, 3), (1, 3), (2, 3), (3, 66), (4, 66)]⟩
  | 68 => some ⟨5, 72, [.int .i64, .int .i64, .int .i64, .slc, .slc], .st [(0, 3), (1, 3), (2, 3), (3, 66), (4, 66)]⟩
  | 71 => some ⟨1, 8, [.int .i64], .st [(0, 3)]⟩
  | 72 => some ⟨1, 8, [.int .i64], .st [(0, 3)]⟩
  | 73 => some ⟨1, 8, [.int .i64], .st [(0, 72)]⟩
  | 74 => some ⟨1, 8, [.int .i64], .st [(0, 72)]⟩
  | 76 => some ⟨5, 40, [.int .i64, .int .i64, .int .i64, .int .i64, .int .i64], .st [(0, 3), (1, 3), (2, 3), (3, 3), (4, 3)]⟩
  | 77 => some ⟨5, 40, [.int .i64, .int .i64, .int .i64, .int .i64, .int .i64], .st [(0, 3), (1, 3), (2, 3), (3, 3), (4, 3)]⟩
  | 108 => some ⟨1, 24, [.slc], .slc 25⟩
  | 109 => some ⟨1, 1, [.int .i8], .int .i8⟩
  | 113 => some ⟨6, 80, [.bool, .slc, .int .i64, .bool, .slc, .int .i64], .st [(0, 45), (3, 45)]⟩
  | 114 => some ⟨6, 80, [.bool, .slc, .int .i64, .bool, .slc, .int .i64], .st [(0, 45), (3, 45)]⟩
  | 149 => some ⟨1, 24, [.slc], .slc 3⟩
  | 155 => some ⟨1, 8, [.int .i64], .int .i64⟩
  | 161 => some ⟨1, 8, [.int .u64], .int .u64⟩
  | 163 => some ⟨1, 4, [.int .u32], .int .u32⟩
  | 164 => some ⟨1, 8, [.int .u64], .int .u64⟩
  | 186 => some ⟨1, 2, [.int .i16], .int .i16⟩
  | 195 => some ⟨1, 24, [.slc], .slc 114⟩
  | 206 => some ⟨1, 24, [.slc], .slc 9⟩
  | 209 => some ⟨1, 24, [.slc], .slc 149⟩
  | 212 => some ⟨1, 24, [.slc], .slc 163⟩
  | 241 => some ⟨1, 24, [.slc], .slc 30⟩
  | 242 => some ⟨1, 8, [.ptr], .ptr 245⟩
  | 243 => some ⟨1, 24, [.slc], .slc 5⟩
  | 244 => some ⟨2, 32, [.ptr, .slc], .st [(0, 242), (1, 243)]⟩
  | 245 => some ⟨2, 32, [.ptr, .slc], .st [(0, 242), (1, 243)]⟩
  | 252 => some ⟨3, 24, [.int .i64, .int .i64, .int .i64], .st [(0, 3), (1, 3), (2, 3)]⟩
  | 253 => some ⟨12, 96, [.int .i64, .int .i64, .int .i64, .int .i64, .int .i64, .int .i64, .int .i64, .int .i64, .int .i64, .int .i64, .int .i64, .int .i64], .arr 4 252⟩
  | 263 => some ⟨1, 8, [.ptr], .ptr 5⟩
  | 274 => some ⟨32, 32, [.int .u8, .int .u8, .int .u8, .int .u8, .int .u8, .int .u8, .int .u8, .int .u8, .int .u8, .int .u8, .int .u8, .int .u8, .int .u8, .int .u8, .int .u8, .int .u8, .int .u8, .int .u8, .int .u8, .int .u8, .int .u8, .int .u8, .int .u8, .int .u8, .int .u8, .int .u8, .int .u8, .int .u8, .int .u8, .int .u8, .int .u8, .int .u8], .arr 32 5⟩
  | 278 => some ⟨24, 24, [.int .u8, .int .u8, .int .u8, .int .u8, .int .u8, .int .u8, .int .u8, .int .u8, .int .u8, .int .u8, .int .u8, .int .u8, .int .u8, .int .u8, .int .u8, .int .u8, .int .u8, .int .u8, .int .u8, .int .u8, .int .u8, .int .u8, .int .u8, .int .u8], .arr 24 5⟩
  | 284 => some ⟨20, 160, [.int .u64, .int .u64, .int .u64, .int .u64, .int .u64, .int .u64, .int .u64, .int .u64, .int .u64, .int .u64, .int .u64, .int .u64, .int .u64, .int .u64, .int .u64, .int .u64, .int .u64, .int .u64, .int .u64, .int .u64], .arr 20 161⟩
  | 285 => some ⟨65, 65, [.int .u8, .int .u8, .int .u8, .int .u8, .int .u8, .int .u8, .int .u8, .int .u8, .int .u8, .int .u8, .int .u8, .int .u8, .int .u8, .int .u8, .int .u8, .int .u8, .int .u8, .int .u8, .int .u8, .int .u8, .int .u8, .int .u8, .int .u8, .int .u8, .int .u8, .int .u8, .int .u8, .int .u8, .int .u8, .int .u8, .int .u8, .int .u8, .int .u8, .int .u8, .int .u8, .int .u8, .int .u8, .int .u8, .int .u8, .int .u8, .int .u8, .int .u8, .int .u8, .int .u8, .int .u8, .int .u8, .int .u8, .int .u8, .int .u8, .int .u8, .int .u8, .int .u8, .int .u8, .int .u8, .int .u8, .int .u8, .int .u8, .int .u8, .int .u8, .int .u8, .int .u8, .int .u8, .int .u8, .int .u8, .int .u8], .arr 65 5⟩
  | 288 => some ⟨64, 64, [.int .u8, .int .u8, .int .u8, .int .u8, .int .u8, .int .u8, .int .u8, .int .u8, .int .u8, .int .u8, .int .u8, .int .u8, .int .u8, .int .u8, .int .u8, .int .u8, .int .u8, .int .u8, .int .u8, .int .u8, .int .u8, .int .u8, .int .u8, .int .u8, .int .u8, .int .u8, .int .u8, .int .u8, .int .u8, .int .u8, .int .u8, .int .u8, .int .u8, .int .u8, .int .u8, .int .u8, .int .u8, .int .u8, .int .u8, .int .u8, .int .u8, .int .u8, .int .u8, .int .u8, .int .u8, .int .u8, .int .u8, .int .u8, .int .u8, .int .u8, .int .u8, .int .u8, .int .u8, .int .u8, .int .u8, .int .u8, .int .u8, .int .u8, .int .u8, .int .u8, .int .u8, .int .u8, .int .u8, .int .u8], .arr 64 5⟩
  | 289 => some ⟨1, 8, [.ptr], .ptr 303⟩
  | 290 => some ⟨4, 40, [.ptr, .ptr, .ptr, .str], .st [(0, 17), (1, 17), (2, 17), (3, 9)]⟩
  | 291 => some ⟨4, 40, [.ptr, .ptr, .ptr, .str], .st [(0, 17), (1, 17), (2, 17), (3, 9)]⟩
  | 292 => some ⟨0, 0, [], .arr 0 16⟩
  | 293 => some ⟨0, 0, [], .st [(0, 292)]⟩
  | 294 => some ⟨0, 0, [], .st [(0, 292)]⟩
  | 295 => some ⟨1, 1, [.int .u8], .int .u8⟩
  | 296 => some ⟨1, 1, [.int .u8], .int .u8⟩
  | 298 => some ⟨1, 4, [.int .i32], .int .i32⟩
  | 299 => some ⟨1, 4, [.int .i32], .int .i32⟩
  | 300 => some ⟨11, 48, [.int .u64, .int .u64, .int .u32, .int .u8, .int .u8, .int .u8, .int .u8, .func, .ptr, .int .i32, .int .i32], .st [(0, 12), (1, 12), (2, 163), (3, 295), (4, 5), (5, 5), (6, 296), (7, 297), (8, 263), (9, 298), (10, 299)]⟩
  | 301 => some ⟨11, 48, [.int .u64, .int .u64, .int .u32, .int .u8, .int .u8, .int .u8, .int .u8, .func, .ptr, .int .i32, .int .i32], .st [(0, 12), (1, 12), (2, 163), (3, 295), (4, 5), (5, 5), (6, 296), (7, 297), (8, 263), (9, 298), (10, 299)]⟩
  | 302 => some ⟨1, 16, [.str], .st [(0, 9)]⟩
  | 303 => some ⟨1, 16, [.str], .st [(0, 9)]⟩
  | _ => none

def ti (t : Nat) : Option TyI := if t < 304 then tin t else none

theorem ti_check : typesCheck Tryz.prog 304 tin = true := by kernel_rfl
theorem ti_ok : TypesOK Tryz.prog ti := typesCheck_spec ti_check
theorem mixed : Tryz.prog.follows .mixedOrders = true := by kernel_rfl
end Go.Proofs.YtdjgckcninibhaaGreatDoor
