/- The types of this translation, as the executor sees them; checked by the kernel. -/
import Derived.Test.YtekmhhmemkjcbaaProg
import Derived.Test.YtekmhhmemkjcbaaAxF
set_option linter.unusedSimpArgs false
set_option linter.unusedVariables false
set_option linter.deprecated false
namespace Go.Proofs.Ytekmhhmemkjcbaa
open Go Go.Ax
set_option maxRecDepth 100000

/-- The package variables that are read. -/
def gl : GL := []

def tin : Nat → Option TyI
  | 2 => some ⟨1, 8, [.int .i64], .int .i64⟩
  | 3 => some ⟨1, 8, [.int .i64], .int .i64⟩
  | 4 => some ⟨1, 1, [.bool], .bool⟩
  | 5 => some ⟨1, 1, [.int .u8], .int .u8⟩
  | 6 => some ⟨1, 1, [.int .u8], .int .u8⟩
  | 7 => some ⟨4, 24, [.int .i64, .int .i64, .bool, .int .u8], .st [(0, 2), (1, 3), (2, 4), (3, 6)]⟩
  | 8 => some ⟨4, 24, [.int .i64, .int .i64, .bool, .int .u8], .st [(0, 2), (1, 3), (2, 4), (3, 6)]⟩
  | 9 => some ⟨1, 16, [.str], .str⟩
  | 10 => some ⟨1, 16, [.str], .str⟩
  | 11 => some ⟨1, 16, [.str], .str⟩
  | 12 => some ⟨1, 8, [.int .u64], .int .u64⟩
  | 13 => some ⟨2, 24, [.str, .int .u64], .st [(0, 9), (1, 12)]⟩
  | 14 => some ⟨2, 24, [.str, .int .u64], .st [(0, 9), (1, 12)]⟩
  | 15 => some ⟨1, 8, [.ptr], .ptr 139⟩
  | 16 => some ⟨1, 8, [.ptr], .ptr 142⟩
  | 17 => some ⟨1, 8, [.ptr], .ptr 152⟩
  | 18 => some ⟨1, 8, [.ptr], .st [(0, 17)]⟩
  | 19 => some ⟨1, 8, [.ptr], .st [(0, 17)]⟩
  | 20 => some ⟨1, 16, [.iface], .iface⟩
  | 21 => some ⟨1, 4, [.int .i32], .int .i32⟩
  | 22 => some ⟨4, 32, [.int .i64, .int .i64, .int .i64, .int .i64], .st [(0, 3), (1, 3), (2, 3), (3, 3)]⟩
  | 23 => some ⟨4, 32, [.int .i64, .int .i64, .int .i64, .int .i64], .st [(0, 3), (1, 3), (2, 3), (3, 3)]⟩
  | 24 => some ⟨6, 48, [.int .i64, .int .i64, .int .i64, .int .i64, .int .i64, .int .i64], .st [(0, 3), (1, 3), (2, 23)]⟩
  | 25 => some ⟨6, 48, [.int .i64, .int .i64, .int .i64, .int .i64, .int .i64, .int .i64], .st [(0, 3), (1, 3), (2, 23)]⟩
  | 26 => some ⟨1, 8, [.int .i64], .st [(0, 3)]⟩
  | 27 => some ⟨1, 8, [.int .i64], .st [(0, 3)]⟩
  | 28 => some ⟨1, 8, [.int .i64], .st [(0, 27)]⟩
  | 29 => some ⟨1, 8, [.int .i64], .st [(0, 27)]⟩
  | 30 => some ⟨5, 40, [.int .i64, .int .i64, .int .i64, .int .i64, .int .i64], .st [(0, 3), (1, 3), (2, 3), (3, 3), (4, 3)]⟩
  | 31 => some ⟨5, 40, [.int .i64, .int .i64, .int .i64, .int .i64, .int .i64], .st [(0, 3), (1, 3), (2, 3), (3, 3), (4, 3)]⟩
  | 33 => some ⟨1, 16, [.iface], .iface⟩
  | 34 => some ⟨1, 16, [.iface], .iface⟩
  | 47 => some ⟨1, 24, [.slc], .slc 31⟩
  | 51 => some ⟨10, 80, [.int .i64, .int .i64, .int .i64, .int .i64, .int .i64, .int .i64, .int .i64, .int .i64, .int .i64, .int .i64], .arr 2 31⟩
  | 53 => some ⟨5, 40, [.int .i64, .int .i64, .int .i64, .int .i64, .int .i64], .st [(0, 3), (1, 3), (2, 3), (3, 3), (4, 3)]⟩
  | 54 => some ⟨5, 40, [.int .i64, .int .i64, .int .i64, .int .i64, .int .i64], .st [(0, 3), (1, 3), (2, 3), (3, 3), (4, 3)]⟩
  | 55 => some ⟨2, 16, [.int .i64, .int .i64], .arr 2 3⟩
  | 56 => some ⟨1, 24, [.slc], .slc 62⟩
  | 58 => some ⟨2, 16, [.int .i64, .int .i64], .st [(0, 3), (1, 3)]⟩
  | 59 => some ⟨2, 16, [.int .i64, .int .i64], .st [(0, 3), (1, 3)]⟩
  | 60 => some ⟨4, 32, [.int .i64, .int .i64, .int .i64, .int .i64], .st [(0, 59), (2, 3), (3, 3)]⟩
  | 61 => some ⟨4, 32, [.int .i64, .int .i64, .int .i64, .int .i64], .st [(0, 59), (2, 3), (3, 3)]⟩
  | 62 => some ⟨4, 32, [.int .i64, .int .i64, .int .i64, .int .i64], .arr 2 59⟩
  | 66 => some ⟨11, 88, [.int .i64, .int .i64, .int .i64, .int .i64, .int .i64, .int .i64, .int .i64, .int .i64, .int .i64, .int .i64, .int .i64], .st [(0, 23), (4, 23), (8, 3), (9, 3), (10, 3)]⟩
  | 67 => some ⟨11, 88, [.int .i64, .int .i64, .int .i64, .int .i64, .int .i64, .int .i64, .int .i64, .int .i64, .int .i64, .int .i64, .int .i64], .st [(0, 23), (4, 23), (8, 3), (9, 3), (10, 3)]⟩
  | 68 => some ⟨2, 16, [.int .i64, .int .i64], .st [(0, 27), (1, 27)]⟩
  | 69 => some ⟨2, 16, [.int .i64, .int .i64], .st [(0, 27), (1, 27)]⟩
  | 70 => some ⟨2, 16, [.int .i64, .int .i64], .st [(0, 3), (1, 3)]⟩
  | 71 => some ⟨2, 16, [.int .i64, .int .i64], .st [(0, 3), (1, 3)]⟩
  | 72 => some ⟨7, 56, [.int .i64, .int .i64, .int .i64, .int .i64, .int .i64, .int .i64, .bool], .st [(0, 71), (2, 71), (4, 3), (5, 3), (6, 4)]⟩
  | 73 => some ⟨7, 56, [.int .i64, .int .i64, .int .i64, .int .i64, .int .i64, .int .i64, .bool], .st [(0, 71), (2, 71), (4, 3), (5, 3), (6, 4)]⟩
  | 81 => some ⟨1, 24, [.slc], .slc 73⟩
  | 83 => some ⟨14, 112, [.int .i64, .int .i64, .int .i64, .int .i64, .int .i64, .int .i64, .bool, .int .i64, .int .i64, .int .i64, .int .i64, .int .i64, .int .i64, .bool], .arr 2 73⟩
  | 103 => some ⟨1, 8, [.int .i64], .int .i64⟩
  | 112 => some ⟨8, 64, [.int .i64, .int .i64, .int .i64, .int .i64, .int .i64, .int .i64, .int .i64, .int .i64], .st [(0, 23), (4, 27), (5, 27), (6, 3), (7, 3)]⟩
  | 113 => some ⟨8, 64, [.int .i64, .int .i64, .int .i64, .int .i64, .int .i64, .int .i64, .int .i64, .int .i64], .st [(0, 23), (4, 27), (5, 27), (6, 3), (7, 3)]⟩
  | 116 => some ⟨1, 8, [.int .u64], .int .u64⟩
  | 121 => some ⟨1, 24, [.slc], .slc 23⟩
  | 126 => some ⟨3, 24, [.int .i64, .int .i64, .int .i64], .st [(0, 3), (1, 3), (2, 3)]⟩
  | 127 => some ⟨12, 96, [.int .i64, .int .i64, .int .i64, .int .i64, .int .i64, .int .i64, .int .i64, .int .i64, .int .i64, .int .i64, .int .i64, .int .i64], .arr 4 126⟩
  | 135 => some ⟨1, 24, [.slc], .slc 3⟩
  | 138 => some ⟨4, 40, [.ptr, .ptr, .ptr, .str], .st [(0, 17), (1, 17), (2, 17), (3, 9)]⟩
  | 139 => some ⟨4, 40, [.ptr, .ptr, .ptr, .str], .st [(0, 17), (1, 17), (2, 17), (3, 9)]⟩
  | 140 => some ⟨0, 0, [], .arr 0 16⟩
  | 141 => some ⟨0, 0, [], .st [(0, 140)]⟩
  | 142 => some ⟨0, 0, [], .st [(0, 140)]⟩
  | 144 => some ⟨1, 4, [.int .u32], .int .u32⟩
  | 145 => some ⟨1, 1, [.int .u8], .int .u8⟩
  | 146 => some ⟨1, 1, [.int .u8], .int .u8⟩
  | 148 => some ⟨1, 8, [.ptr], .ptr 5⟩
  | 149 => some ⟨1, 4, [.int .i32], .int .i32⟩
  | 150 => some ⟨1, 4, [.int .i32], .int .i32⟩
  | 151 => some ⟨11, 48, [.int .u64, .int .u64, .int .u32, .int .u8, .int .u8, .int .u8, .int .u8, .func, .ptr, .int .i32, .int .i32], .st [(0, 12), (1, 12), (2, 144), (3, 145), (4, 5), (5, 5), (6, 146), (7, 147), (8, 148), (9, 149), (10, 150)]⟩
  | 152 => some ⟨11, 48, [.int .u64, .int .u64, .int .u32, .int .u8, .int .u8, .int .u8, .int .u8, .func, .ptr, .int .i32, .int .i32], .st [(0, 12), (1, 12), (2, 144), (3, 145), (4, 5), (5, 5), (6, 146), (7, 147), (8, 148), (9, 149), (10, 150)]⟩
  | _ => none

def ti (t : Nat) : Option TyI := if t < 154 then tin t else none

theorem ti_check : typesCheck Try.prog 154 tin = true := by kernel_rfl
theorem ti_ok : TypesOK Try.prog ti := typesCheck_spec ti_check
theorem mixed : Try.prog.follows .mixedOrders = true := by kernel_rfl
theorem ti_seen : ti 3 = ti 3 := by simp only [ti, tin]
end Go.Proofs.Ytekmhhmemkjcbaa
