/- The types of this translation, as the executor sees them; checked by the kernel. -/
import Derived.Test.YtdjgckcninibhaaDoorProg
import Derived.Test.YtdjgckcninibhaaDoorU2
import Derived.Test.YtdjgckcninibhaaDoorU3
set_option linter.unusedSimpArgs false
set_option linter.unusedVariables false
set_option linter.deprecated false
namespace Go.Proofs.YtdjgckcninibhaaDoor
open Go Go.Ax
set_option maxRecDepth 100000

/-- The package variables that are read. -/
def gl : GL := [(1, dbT.map fun (k : Nat) => Value.int .u8 k), (3, p10T.map fun (k : Int) => Value.int .u64 k)]

def tin : Nat → Option TyI
  | 2 => some ⟨1, 8, [.int .i64], .int .i64⟩
  | 3 => some ⟨1, 8, [.int .i64], .int .i64⟩
  | 4 => some ⟨1, 1, [.bool], .bool⟩
  | 5 => some ⟨1, 1, [.int .u8], .int .u8⟩
  | 6 => some ⟨1, 1, [.int .u8], .int .u8⟩
  | 7 => some ⟨4, 24, [.int .i64, .int .i64, .bool, .int .u8], .st [(0, 2), (1, 3), (2, 4), (3, 6)]⟩
  | 8 => some ⟨4, 24, [.int .i64, .int .i64, .bool, .int .u8], .st [(0, 2), (1, 3), (2, 4), (3, 6)]⟩
  | 9 => some ⟨1, 16, [.str], .str⟩
  | 10 => some ⟨1, 16, [.str], .str⟩
  | 11 => some ⟨1, 16, [.str], .str⟩
  | 12 => some ⟨1, 8, [.int .u64], .int .u64⟩
  | 13 => some ⟨2, 24, [.str, .int .u64], .st [(0, 9), (1, 12)]⟩
  | 14 => some ⟨2, 24, [.str, .int .u64], .st [(0, 9), (1, 12)]⟩
  | 15 => some ⟨1, 8, [.ptr], .ptr 187⟩
  | 16 => some ⟨1, 8, [.ptr], .ptr 190⟩
  | 17 => some ⟨1, 8, [.ptr], .ptr 197⟩
  | 18 => some ⟨1, 8, [.ptr], .st [(0, 17)]⟩
  | 19 => some ⟨1, 8, [.ptr], .st [(0, 17)]⟩
  | 20 => some ⟨1, 16, [.iface], .iface⟩
  | 21 => some ⟨1, 4, [.int .i32], .int .i32⟩
  | 22 => some ⟨1, 24, [.slc], .slc 23⟩
  | 23 => some ⟨1, 24, [.slc], .slc 35⟩
  | 24 => some ⟨3, 72, [.slc, .slc, .slc], .st [(0, 22), (1, 22), (2, 23)]⟩
  | 25 => some ⟨3, 72, [.slc, .slc, .slc], .st [(0, 22), (1, 22), (2, 23)]⟩
  | 26 => some ⟨3, 56, [.int .i64, .slc, .slc], .st [(0, 3), (1, 23), (2, 23)]⟩
  | 27 => some ⟨3, 56, [.int .i64, .slc, .slc], .st [(0, 3), (1, 23), (2, 23)]⟩
  | 28 => some ⟨1, 24, [.slc], .slc 38⟩
  | 33 => some ⟨1, 24, [.slc], .slc 91⟩
  | 34 => some ⟨3, 40, [.bool, .slc, .int .i64], .st [(0, 4), (1, 33), (2, 3)]⟩
  | 35 => some ⟨3, 40, [.bool, .slc, .int .i64], .st [(0, 4), (1, 33), (2, 3)]⟩
  | 38 => some ⟨1, 1, [.int .i8], .int .i8⟩
  | 40 => some ⟨1, 16, [.iface], .iface⟩
  | 41 => some ⟨1, 16, [.iface], .iface⟩
  | 57 => some ⟨1, 8, [.int .i64], .int .i64⟩
  | 90 => some ⟨1, 8, [.int .u64], .int .u64⟩
  | 91 => some ⟨1, 4, [.int .u32], .int .u32⟩
  | 92 => some ⟨1, 8, [.int .u64], .int .u64⟩
  | 103 => some ⟨1, 24, [.slc], .slc 91⟩
  | 119 => some ⟨1, 24, [.slc], .slc 3⟩
  | 127 => some ⟨1, 24, [.slc], .slc 9⟩
  | 150 => some ⟨1, 24, [.slc], .slc 119⟩
  | 151 => some ⟨1, 24, [.slc], .slc 22⟩
  | 152 => some ⟨1, 8, [.ptr], .ptr 155⟩
  | 153 => some ⟨1, 24, [.slc], .slc 5⟩
  | 154 => some ⟨2, 32, [.ptr, .slc], .st [(0, 152), (1, 153)]⟩
  | 155 => some ⟨2, 32, [.ptr, .slc], .st [(0, 152), (1, 153)]⟩
  | 161 => some ⟨1, 8, [.ptr], .ptr 5⟩
  | 166 => some ⟨32, 32, [.int .u8, .int .u8, .int .u8, .int .u8, .int .u8, .int .u8, .int .u8, .int .u8, .int .u8, .int .u8, .int .u8, .int .u8, .int .u8, .int .u8, .int .u8, .int .u8, .int .u8, .int .u8, .int .u8, .int .u8, .int .u8, .int .u8, .int .u8, .int .u8, .int .u8, .int .u8, .int .u8, .int .u8, .int .u8, .int .u8, .int .u8, .int .u8], .arr 32 5⟩
  | 173 => some ⟨24, 24, [.int .u8, .int .u8, .int .u8, .int .u8, .int .u8, .int .u8, .int .u8, .int .u8, .int .u8, .int .u8, .int .u8, .int .u8, .int .u8, .int .u8, .int .u8, .int .u8, .int .u8, .int .u8, .int .u8, .int .u8, .int .u8, .int .u8, .int .u8, .int .u8], .arr 24 5⟩
  | 180 => some ⟨20, 160, [.int .u64, .int .u64, .int .u64, .int .u64, .int .u64, .int .u64, .int .u64, .int .u64, .int .u64, .int .u64, .int .u64, .int .u64, .int .u64, .int .u64, .int .u64, .int .u64, .int .u64, .int .u64, .int .u64, .int .u64], .arr 20 90⟩
  | 181 => some ⟨65, 65, [.int .u8, .int .u8, .int .u8, .int .u8, .int .u8, .int .u8, .int .u8, .int .u8, .int .u8, .int .u8, .int .u8, .int .u8, .int .u8, .int .u8, .int .u8, .int .u8, .int .u8, .int .u8, .int .u8, .int .u8, .int .u8, .int .u8, .int .u8, .int .u8, .int .u8, .int .u8, .int .u8, .int .u8, .int .u8, .int .u8, .int .u8, .int .u8, .int .u8, .int .u8, .int .u8, .int .u8, .int .u8, .int .u8, .int .u8, .int .u8, .int .u8, .int .u8, .int .u8, .int .u8, .int .u8, .int .u8, .int .u8, .int .u8, .int .u8, .int .u8, .int .u8, .int .u8, .int .u8, .int .u8, .int .u8, .int .u8, .int .u8, .int .u8, .int .u8, .int .u8, .int .u8, .int .u8, .int .u8, .int .u8, .int .u8], .arr 65 5⟩
  | 184 => some ⟨64, 64, [.int .u8, .int .u8, .int .u8, .int .u8, .int .u8, .int .u8, .int .u8, .int .u8, .int .u8, .int .u8, .int .u8, .int .u8, .int .u8, .int .u8, .int .u8, .int .u8, .int .u8, .int .u8, .int .u8, .int .u8, .int .u8, .int .u8, .int .u8, .int .u8, .int .u8, .int .u8, .int .u8, .int .u8, .int .u8, .int .u8, .int .u8, .int .u8, .int .u8, .int .u8, .int .u8, .int .u8, .int .u8, .int .u8, .int .u8, .int .u8, .int .u8, .int .u8, .int .u8, .int .u8, .int .u8, .int .u8, .int .u8, .int .u8, .int .u8, .int .u8, .int .u8, .int .u8, .int .u8, .int .u8, .int .u8, .int .u8, .int .u8, .int .u8, .int .u8, .int .u8, .int .u8, .int .u8, .int .u8, .int .u8], .arr 64 5⟩
  | 185 => some ⟨1, 8, [.ptr], .ptr 199⟩
  | 186 => some ⟨4, 40, [.ptr, .ptr, .ptr, .str], .st [(0, 17), (1, 17), (2, 17), (3, 9)]⟩
  | 187 => some ⟨4, 40, [.ptr, .ptr, .ptr, .str], .st [(0, 17), (1, 17), (2, 17), (3, 9)]⟩
  | 188 => some ⟨0, 0, [], .arr 0 16⟩
  | 189 => some ⟨0, 0, [], .st [(0, 188)]⟩
  | 190 => some ⟨0, 0, [], .st [(0, 188)]⟩
  | 191 => some ⟨1, 1, [.int .u8], .int .u8⟩
  | 192 => some ⟨1, 1, [.int .u8], .int .u8⟩
  | 194 => some ⟨1, 4, [.int .i32], .int .i32⟩
  | 195 => some ⟨1, 4, [.int .i32], .int .i32⟩
  | 196 => some ⟨11, 48, [.int .u64, .int .u64, .int .u32, .int .u8, .int .u8, .int .u8, .int .u8, .func, .ptr, .int .i32, .int .i32], .st [(0, 12), (1, 12), (2, 91), (3, 191), (4, 5), (5, 5), (6, 192), (7, 193), (8, 161), (9, 194), (10, 195)]⟩
  | 197 => some ⟨11, 48, [.int .u64, .int .u64, .int .u32, .int .u8, .int .u8, .int .u8, .int .u8, .func, .ptr, .int .i32, .int .i32], .st [(0, 12), (1, 12), (2, 91), (3, 191), (4, 5), (5, 5), (6, 192), (7, 193), (8, 161), (9, 194), (10, 195)]⟩
  | 198 => some ⟨1, 16, [.str], .st [(0, 9)]⟩
  | 199 => some ⟨1, 16, [.str], .st [(0, 9)]⟩
  | _ => none

def ti (t : Nat) : Option TyI := if t < 200 then tin t else none

theorem ti_check : typesCheck Tryd.prog 200 tin = true := by kernel_rfl
theorem ti_ok : TypesOK Tryd.prog ti := typesCheck_spec ti_check
theorem mixed : Tryd.prog.follows .mixedOrders = true := by kernel_rfl
end Go.Proofs.YtdjgckcninibhaaDoor
