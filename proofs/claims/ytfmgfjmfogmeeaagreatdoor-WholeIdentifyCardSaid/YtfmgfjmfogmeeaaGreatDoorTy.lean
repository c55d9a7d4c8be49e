/- The types of this translation, as the executor sees them; checked by the kernel. -/
import Derived.Test.YtfmgfjmfogmeeaaGreatDoorProg
import Derived.Test.YtfmgfjmfogmeeaaGreatDoorU2
import Derived.Test.YtfmgfjmfogmeeaaGreatDoorU3
set_option linter.unusedSimpArgs false
set_option linter.unusedVariables false
set_option linter.deprecated false
namespace Go.Proofs.YtfmgfjmfogmeeaaGreatDoor
open Go Go.Ax
set_option maxRecDepth 100000
def gl : GL := [(4, dbT.map fun (k : Nat) => Value.int .u8 k)]
def tin : Nat → Option TyI
  | 2 => some ⟨1, 8, [.int .i64], .int .i64⟩
  | 3 => some ⟨1, 8, [.int .i64], .int .i64⟩
  | 4 => some ⟨1, 1, [.bool], .bool⟩
  | 5 => some ⟨1, 1, [.int .u8], .int .u8⟩
  | 6 => some ⟨1, 1, [.int .u8], .int .u8⟩
  | 7 => some ⟨4, 24, [.int .i64, .int .i64, .bool, .int .u8], .st [(0, 2), (1, 3), (2, 4), (3, 6)]⟩
  | 8 => some ⟨4, 24, [.int .i64, .int .i64, .bool, .int .u8], .st [(0, 2), (1, 3), (2, 4), (3, 6)]⟩
  | 9 => some ⟨1, 16, [.str], .str⟩
  | 10 => some ⟨1, 16, [.str], .str⟩
  | 11 => some ⟨1, 16, [.str], .str⟩
  | 12 => some ⟨1, 8, [.int .u64], .int .u64⟩
  | 13 => some ⟨2, 24, [.str, .int .u64], .st [(0, 9), (1, 12)]⟩
  | 14 => some ⟨2, 24, [.str, .int .u64], .st [(0, 9), (1, 12)]⟩
  | 15 => some ⟨1, 8, [.ptr], .ptr 260⟩
  | 16 => some ⟨1, 8, [.ptr], .ptr 263⟩
  | 17 => some ⟨1, 8, [.ptr], .ptr 270⟩
  | 18 => some ⟨1, 8, [.ptr], .st [(0, 17)]⟩
  | 19 => some ⟨1, 8, [.ptr], .st [(0, 17)]⟩
  | 20 => some ⟨1, 16, [.iface], .iface⟩
  | 21 => some ⟨1, 4, [.int .i32], .int .i32⟩
  | 22 => some ⟨1, 24, [.slc], .slc 92⟩
  | 23 => some ⟨3, 40, [.bool, .slc, .int .i64], .st [(0, 4), (1, 22), (2, 3)]⟩
  | 24 => some ⟨3, 40, [.bool, .slc, .int .i64], .st [(0, 4), (1, 22), (2, 3)]⟩
  | 28 => some ⟨1, 16, [.iface], .iface⟩
  | 29 => some ⟨1, 16, [.iface], .iface⟩
  | 39 => some ⟨1, 24, [.slc], .slc 3⟩
  | 40 => some ⟨2, 48, [.slc, .slc], .st [(0, 39), (1, 39)]⟩
  | 41 => some ⟨2, 48, [.slc, .slc], .st [(0, 39), (1, 39)]⟩
  | 42 => some ⟨9, 136, [.int .i64, .int .i64, .slc, .slc, .slc, .slc, .int .i64, .int .i64, .int .i64], .st [(0, 3), (1, 3), (2, 41), (4, 41), (6, 3), (7, 3), (8, 3)]⟩
  | 43 => some ⟨9, 136, [.int .i64, .int .i64, .slc, .slc, .slc, .slc, .int .i64, .int .i64, .int .i64], .st [(0, 3), (1, 3), (2, 41), (4, 41), (6, 3), (7, 3), (8, 3)]⟩
  | 44 => some ⟨1, 24, [.slc], .slc 47⟩
  | 46 => some ⟨2, 16, [.int .i64, .int .i64], .st [(0, 3), (1, 3)]⟩
  | 47 => some ⟨2, 16, [.int .i64, .int .i64], .st [(0, 3), (1, 3)]⟩
  | 48 => some ⟨2, 16, [.int .i64, .int .i64], .st [(0, 47)]⟩
  | 49 => some ⟨2, 16, [.int .i64, .int .i64], .st [(0, 47)]⟩
  | 52 => some ⟨1, 24, [.slc], .slc 61⟩
  | 57 => some ⟨3, 24, [.int .i64, .int .i64, .int .i64], .st [(0, 47), (2, 3)]⟩
  | 58 => some ⟨3, 24, [.int .i64, .int .i64, .int .i64], .st [(0, 47), (2, 3)]⟩
  | 60 => some ⟨2, 16, [.int .i64, .int .i64], .st [(0, 3), (1, 3)]⟩
  | 61 => some ⟨2, 16, [.int .i64, .int .i64], .st [(0, 3), (1, 3)]⟩
  | 62 => some ⟨6, 80, [.bool, .slc, .int .i64, .bool, .slc, .int .i64], .st [(0, 24), (3, 24)]⟩
  | 63 => some ⟨6, 80, [.bool, .slc, .int .i64, .bool, .slc, .int .i64], .st [(0, 24), (3, 24)]⟩
  | 67 => some ⟨1, 8, [.int .i64], .int .i64⟩
  | 73 => some ⟨1, 24, [.slc], .slc 24⟩
  | 77 => some ⟨1, 24, [.slc], .slc 92⟩
  | 92 => some ⟨1, 4, [.int .u32], .int .u32⟩
  | 96 => some ⟨5, 40, [.int .i64, .int .i64, .int .i64, .int .i64, .bool], .st [(0, 3), (1, 3), (2, 3), (3, 3), (4, 4)]⟩
  | 97 => some ⟨5, 40, [.int .i64, .int .i64, .int .i64, .int .i64, .bool], .st [(0, 3), (1, 3), (2, 3), (3, 3), (4, 4)]⟩
  | 100 => some ⟨6, 48, [.int .i64, .int .i64, .int .i64, .int .i64, .int .i64, .int .i64], .st [(0, 3), (1, 3), (2, 3), (3, 3), (4, 3), (5, 3)]⟩
  | 101 => some ⟨6, 48, [.int .i64, .int .i64, .int .i64, .int .i64, .int .i64, .int .i64], .st [(0, 3), (1, 3), (2, 3), (3, 3), (4, 3), (5, 3)]⟩
  | 102 => some ⟨3, 24, [.int .i64, .int .i64, .int .i64], .arr 3 3⟩
  | 103 => some ⟨6, 6, [.bool, .bool, .bool, .bool, .bool, .bool], .arr 6 4⟩
  | 104 => some ⟨10, 40, [.int .i64, .int .i64, .int .i64, .int .i64, .bool, .bool, .bool, .bool, .bool, .bool], .st [(0, 102), (3, 3), (4, 103)]⟩
  | 105 => some ⟨10, 40, [.int .i64, .int .i64, .int .i64, .int .i64, .bool, .bool, .bool, .bool, .bool, .bool], .st [(0, 102), (3, 3), (4, 103)]⟩
  | 108 => some ⟨5, 40, [.int .i64, .int .i64, .int .i64, .int .i64, .int .i64], .st [(0, 3), (1, 3), (2, 3), (3, 3), (4, 3)]⟩
  | 109 => some ⟨5, 40, [.int .i64, .int .i64, .int .i64, .int .i64, .int .i64], .st [(0, 3), (1, 3), (2, 3), (3, 3), (4, 3)]⟩
  | 110 => some ⟨1, 24, [.slc], .slc 109⟩
  | 124 => some ⟨1, 8, [.int .u64], .int .u64⟩
  | 133 => some ⟨1, 24, [.slc], .slc 9⟩
  | 136 => some ⟨1, 8, [.ptr], .ptr 139⟩
  | 137 => some ⟨1, 24, [.slc], .slc 5⟩
  | 138 => some ⟨2, 32, [.ptr, .slc], .st [(0, 136), (1, 137)]⟩
  | 139 => some ⟨2, 32, [.ptr, .slc], .st [(0, 136), (1, 137)]⟩
  | 145 => some ⟨1, 8, [.int .u64], .int .u64⟩
  | 156 => some ⟨1, 24, [.slc], .slc 158⟩
  | 157 => some ⟨3, 24, [.int .i64, .int .i64, .int .i64], .st [(0, 3), (1, 3), (2, 3)]⟩
  | 158 => some ⟨3, 24, [.int .i64, .int .i64, .int .i64], .st [(0, 3), (1, 3), (2, 3)]⟩
  | 159 => some ⟨1, 8, [.ptr], .ptr 199⟩
  | 175 => some ⟨1, 8, [.ptr], .ptr 5⟩
  | 184 => some ⟨1, 8, [.ptr], .ptr 180⟩
  | 185 => some ⟨1, 8, [.int .i64], .int .i64⟩
  | 188 => some ⟨1, 8, [.ptr], .ptr 229⟩
  | 196 => some ⟨6, 80, [.bool, .slc, .int .i64, .bool, .slc, .int .i64], .st [(0, 24), (3, 24)]⟩
  | 197 => some ⟨6, 80, [.bool, .slc, .int .i64, .bool, .slc, .int .i64], .st [(0, 24), (3, 24)]⟩
  | 198 => some ⟨15, 168, [.bool, .slc, .int .i64, .bool, .slc, .int .i64, .bool, .slc, .int .i64, .bool, .slc, .int .i64, .bool, .bool, .bool], .st [(0, 197), (6, 197), (12, 4), (13, 4), (14, 4)]⟩
  | 199 => some ⟨15, 168, [.bool, .slc, .int .i64, .bool, .slc, .int .i64, .bool, .slc, .int .i64, .bool, .slc, .int .i64, .bool, .bool, .bool], .st [(0, 197), (6, 197), (12, 4), (13, 4), (14, 4)]⟩
  | 215 => some ⟨24, 24, [.int .u8, .int .u8, .int .u8, .int .u8, .int .u8, .int .u8, .int .u8, .int .u8, .int .u8, .int .u8, .int .u8, .int .u8, .int .u8, .int .u8, .int .u8, .int .u8, .int .u8, .int .u8, .int .u8, .int .u8, .int .u8, .int .u8, .int .u8, .int .u8], .arr 24 5⟩
  | 228 => some ⟨3, 48, [.str, .str, .iface], .st [(0, 9), (1, 9), (2, 29)]⟩
  | 229 => some ⟨3, 48, [.str, .str, .iface], .st [(0, 9), (1, 9), (2, 29)]⟩
  | 231 => some ⟨32, 32, [.int .u8, .int .u8, .int .u8, .int .u8, .int .u8, .int .u8, .int .u8, .int .u8, .int .u8, .int .u8, .int .u8, .int .u8, .int .u8, .int .u8, .int .u8, .int .u8, .int .u8, .int .u8, .int .u8, .int .u8, .int .u8, .int .u8, .int .u8, .int .u8, .int .u8, .int .u8, .int .u8, .int .u8, .int .u8, .int .u8, .int .u8, .int .u8], .arr 32 5⟩
  | 235 => some ⟨1, 24, [.slc], .slc 4⟩
  | 241 => some ⟨20, 160, [.int .u64, .int .u64, .int .u64, .int .u64, .int .u64, .int .u64, .int .u64, .int .u64, .int .u64, .int .u64, .int .u64, .int .u64, .int .u64, .int .u64, .int .u64, .int .u64, .int .u64, .int .u64, .int .u64, .int .u64], .arr 20 124⟩
  | 242 => some ⟨65, 65, [.int .u8, .int .u8, .int .u8, .int .u8, .int .u8, .int .u8, .int .u8, .int .u8, .int .u8, .int .u8, .int .u8, .int .u8, .int .u8, .int .u8, .int .u8, .int .u8, .int .u8, .int .u8, .int .u8, .int .u8, .int .u8, .int .u8, .int .u8, .int .u8, .int .u8, .int .u8, .int .u8, .int .u8, .int .u8, .int .u8, .int .u8, .int .u8, .int .u8, .int .u8, .int .u8, .int .u8, .int .u8, .int .u8, .int .u8, .int .u8, .int .u8, .int .u8, .int .u8, .int .u8, .int .u8, .int .u8, .int .u8, .int .u8, .int .u8, .int .u8, .int .u8, .int .u8, .int .u8, .int .u8, .int .u8, .int .u8, .int .u8, .int .u8, .int .u8, .int .u8, .int .u8, .int .u8, .int .u8, .int .u8, .int .u8], .arr 65 5⟩
  | 247 => some ⟨1, 8, [.ptr], .ptr 249⟩
  | 248 => some ⟨1, 16, [.str], .st [(0, 9)]⟩
  | 249 => some ⟨1, 16, [.str], .st [(0, 9)]⟩
  | 254 => some ⟨2, 2, [.int .u8, .int .u8], .st [(0, 5), (1, 5)]⟩
  | 255 => some ⟨2, 2, [.int .u8, .int .u8], .st [(0, 5), (1, 5)]⟩
  | 256 => some ⟨32, 32, [.int .u8, .int .u8, .int .u8, .int .u8, .int .u8, .int .u8, .int .u8, .int .u8, .int .u8, .int .u8, .int .u8, .int .u8, .int .u8, .int .u8, .int .u8, .int .u8, .int .u8, .int .u8, .int .u8, .int .u8, .int .u8, .int .u8, .int .u8, .int .u8, .int .u8, .int .u8, .int .u8, .int .u8, .int .u8, .int .u8, .int .u8, .int .u8], .arr 16 255⟩
  | 258 => some ⟨64, 64, [.int .u8, .int .u8, .int .u8, .int .u8, .int .u8, .int .u8, .int .u8, .int .u8, .int .u8, .int .u8, .int .u8, .int .u8, .int .u8, .int .u8, .int .u8, .int .u8, .int .u8, .int .u8, .int .u8, .int .u8, .int .u8, .int .u8, .int .u8, .int .u8, .int .u8, .int .u8, .int .u8, .int .u8, .int .u8, .int .u8, .int .u8, .int .u8, .int .u8, .int .u8, .int .u8, .int .u8, .int .u8, .int .u8, .int .u8, .int .u8, .int .u8, .int .u8, .int .u8, .int .u8, .int .u8, .int .u8, .int .u8, .int .u8, .int .u8, .int .u8, .int .u8, .int .u8, .int .u8, .int .u8, .int .u8, .int .u8, .int .u8, .int .u8, .int .u8, .int .u8, .int .u8, .int .u8, .int .u8, .int .u8], .arr 64 5⟩
  | 259 => some ⟨4, 40, [.ptr, .ptr, .ptr, .str], .st [(0, 17), (1, 17), (2, 17), (3, 9)]⟩
  | 260 => some ⟨4, 40, [.ptr, .ptr, .ptr, .str], .st [(0, 17), (1, 17), (2, 17), (3, 9)]⟩
  | 261 => some ⟨0, 0, [], .arr 0 16⟩
  | 262 => some ⟨0, 0, [], .st [(0, 261)]⟩
  | 263 => some ⟨0, 0, [], .st [(0, 261)]⟩
  | 264 => some ⟨1, 1, [.int .u8], .int .u8⟩
  | 265 => some ⟨1, 1, [.int .u8], .int .u8⟩
  | 267 => some ⟨1, 4, [.int .i32], .int .i32⟩
  | 268 => some ⟨1, 4, [.int .i32], .int .i32⟩
  | 269 => some ⟨11, 48, [.int .u64, .int .u64, .int .u32, .int .u8, .int .u8, .int .u8, .int .u8, .func, .ptr, .int .i32, .int .i32], .st [(0, 12), (1, 12), (2, 92), (3, 264), (4, 5), (5, 5), (6, 265), (7, 266), (8, 175), (9, 267), (10, 268)]⟩
  | 270 => some ⟨11, 48, [.int .u64, .int .u64, .int .u32, .int .u8, .int .u8, .int .u8, .int .u8, .func, .ptr, .int .i32, .int .i32], .st [(0, 12), (1, 12), (2, 92), (3, 264), (4, 5), (5, 5), (6, 265), (7, 266), (8, 175), (9, 267), (10, 268)]⟩
  | _ => none
def ti (t : Nat) : Option TyI := if t < 271 then tin t else none
theorem ti_check : typesCheck Tryz.prog 271 tin = true := by kernel_rfl
theorem ti_ok : TypesOK Tryz.prog ti := typesCheck_spec ti_check
theorem mixed : Tryz.prog.follows .mixedOrders = true := by kernel_rfl
end Go.Proofs.YtfmgfjmfogmeeaaGreatDoor
