/- The types of this translation, as the executor sees them; checked by the kernel. -/
import Derived.Test.YtfoadddlmehpnaaDoorProg
import Derived.Test.YtfoadddlmehpnaaDoorU3
import Derived.Test.YtfoadddlmehpnaaDoorU3
set_option linter.unusedSimpArgs false
set_option linter.unusedVariables false
set_option linter.deprecated false
namespace Go.Proofs.YtfoadddlmehpnaaDoor
open Go Go.Ax
set_option maxRecDepth 100000

/-- The package variables that are read. -/
def gl : GL := [(0, dbT.map fun (k : Nat) => Value.int .u8 k)]

def tin : Nat → Option TyI
  | 2 => some ⟨1, 8, [.int .i64], .int .i64⟩
  | 3 => some ⟨1, 8, [.int .i64], .int .i64⟩
  | 4 => some ⟨1, 1, [.bool], .bool⟩
  | 5 => some ⟨1, 1, [.int .u8], .int .u8⟩
  | 6 => some ⟨1, 1, [.int .u8], .int .u8⟩
  | 7 => some ⟨4, 24, [.int .i64, .int .i64, .bool, .int .u8], .st [(0, 2), (1, 3), (2, 4), (3, 6)]⟩
  | 8 => some ⟨4, 24, [.int .i64, .int .i64, .bool, .int .u8], .st [(0, 2), (1, 3), (2, 4), (3, 6)]⟩
  | 9 => some ⟨1, 16, [.str], .str⟩
  | 10 => some ⟨1, 16, [.str], .str⟩
  | 11 => some ⟨1, 16, [.str], .str⟩
  | 12 => some ⟨1, 8, [.int .u64], .int .u64⟩
  | 13 => some ⟨2, 24, [.str, .int .u64], .st [(0, 9), (1, 12)]⟩
  | 14 => some ⟨2, 24, [.str, .int .u64], .st [(0, 9), (1, 12)]⟩
  | 15 => some ⟨1, 8, [.ptr], .ptr 166⟩
  | 16 => some ⟨1, 8, [.ptr], .ptr 169⟩
  | 17 => some ⟨1, 8, [.ptr], .ptr 177⟩
  | 18 => some ⟨1, 8, [.ptr], .st [(0, 17)]⟩
  | 19 => some ⟨1, 8, [.ptr], .st [(0, 17)]⟩
  | 20 => some ⟨1, 16, [.iface], .iface⟩
  | 21 => some ⟨1, 4, [.int .i32], .int .i32⟩
  | 22 => some ⟨5, 40, [.int .i64, .int .i64, .int .i64, .int .i64, .int .i64], .st [(0, 3), (1, 3), (2, 3), (3, 3), (4, 3)]⟩
  | 23 => some ⟨5, 40, [.int .i64, .int .i64, .int .i64, .int .i64, .int .i64], .st [(0, 3), (1, 3), (2, 3), (3, 3), (4, 3)]⟩
  | 24 => some ⟨2, 16, [.int .i64, .int .i64], .st [(0, 3), (1, 3)]⟩
  | 25 => some ⟨2, 16, [.int .i64, .int .i64], .st [(0, 3), (1, 3)]⟩
  | 26 => some ⟨4, 32, [.int .i64, .int .i64, .int .i64, .int .i64], .st [(0, 25), (2, 3), (3, 3)]⟩
  | 27 => some ⟨4, 32, [.int .i64, .int .i64, .int .i64, .int .i64], .st [(0, 25), (2, 3), (3, 3)]⟩
  | 28 => some ⟨3, 24, [.int .i64, .int .i64, .int .i64], .arr 3 3⟩
  | 30 => some ⟨1, 16, [.iface], .iface⟩
  | 31 => some ⟨1, 16, [.iface], .iface⟩
  | 34 => some ⟨1, 24, [.slc], .slc 35⟩
  | 35 => some ⟨1, 24, [.slc], .slc 53⟩
  | 36 => some ⟨3, 72, [.slc, .slc, .slc], .st [(0, 34), (1, 34), (2, 35)]⟩
  | 37 => some ⟨3, 72, [.slc, .slc, .slc], .st [(0, 34), (1, 34), (2, 35)]⟩
  | 51 => some ⟨1, 24, [.slc], .slc 127⟩
  | 52 => some ⟨3, 40, [.bool, .slc, .int .i64], .st [(0, 4), (1, 51), (2, 3)]⟩
  | 53 => some ⟨3, 40, [.bool, .slc, .int .i64], .st [(0, 4), (1, 51), (2, 3)]⟩
  | 59 => some ⟨4, 32, [.int .i64, .int .i64, .int .i64, .int .i64], .st [(0, 3), (1, 3), (2, 3), (3, 3)]⟩
  | 60 => some ⟨4, 32, [.int .i64, .int .i64, .int .i64, .int .i64], .st [(0, 3), (1, 3), (2, 3), (3, 3)]⟩
  | 61 => some ⟨6, 48, [.int .i64, .int .i64, .int .i64, .int .i64, .int .i64, .int .i64], .st [(0, 3), (1, 3), (2, 60)]⟩
  | 62 => some ⟨6, 48, [.int .i64, .int .i64, .int .i64, .int .i64, .int .i64, .int .i64], .st [(0, 3), (1, 3), (2, 60)]⟩
  | 71 => some ⟨1, 8, [.int .i64], .int .i64⟩
  | 83 => some ⟨11, 88, [.int .i64, .int .i64, .int .i64, .int .i64, .int .i64, .int .i64, .int .i64, .int .i64, .int .i64, .int .i64, .int .i64], .st [(0, 60), (4, 60), (8, 3), (9, 3), (10, 3)]⟩
  | 84 => some ⟨11, 88, [.int .i64, .int .i64, .int .i64, .int .i64, .int .i64, .int .i64, .int .i64, .int .i64, .int .i64, .int .i64, .int .i64], .st [(0, 60), (4, 60), (8, 3), (9, 3), (10, 3)]⟩
  | 85 => some ⟨1, 8, [.int .i64], .st [(0, 3)]⟩
  | 86 => some ⟨1, 8, [.int .i64], .st [(0, 3)]⟩
  | 87 => some ⟨2, 16, [.int .i64, .int .i64], .st [(0, 86), (1, 86)]⟩
  | 88 => some ⟨2, 16, [.int .i64, .int .i64], .st [(0, 86), (1, 86)]⟩
  | 89 => some ⟨2, 16, [.int .i64, .int .i64], .st [(0, 3), (1, 3)]⟩
  | 90 => some ⟨2, 16, [.int .i64, .int .i64], .st [(0, 3), (1, 3)]⟩
  | 93 => some ⟨7, 56, [.int .i64, .int .i64, .int .i64, .int .i64, .int .i64, .int .i64, .bool], .st [(0, 90), (2, 90), (4, 3), (5, 3), (6, 4)]⟩
  | 94 => some ⟨7, 56, [.int .i64, .int .i64, .int .i64, .int .i64, .int .i64, .int .i64, .bool], .st [(0, 90), (2, 90), (4, 3), (5, 3), (6, 4)]⟩
  | 95 => some ⟨1, 8, [.int .u64], .int .u64⟩
  | 96 => some ⟨1, 24, [.slc], .slc 127⟩
  | 102 => some ⟨1, 8, [.int .u64], .int .u64⟩
  | 109 => some ⟨5, 40, [.int .i64, .int .i64, .int .i64, .int .i64, .int .i64], .st [(0, 3), (1, 3), (2, 3), (3, 3), (4, 3)]⟩
  | 110 => some ⟨5, 40, [.int .i64, .int .i64, .int .i64, .int .i64, .int .i64], .st [(0, 3), (1, 3), (2, 3), (3, 3), (4, 3)]⟩
  | 113 => some ⟨1, 8, [.int .i64], .st [(0, 86)]⟩
  | 114 => some ⟨1, 8, [.int .i64], .st [(0, 86)]⟩
  | 127 => some ⟨1, 4, [.int .u32], .int .u32⟩
  | 133 => some ⟨8, 64, [.int .i64, .int .i64, .int .i64, .int .i64, .int .i64, .int .i64, .int .i64, .int .i64], .st [(0, 60), (4, 86), (5, 86), (6, 3), (7, 3)]⟩
  | 134 => some ⟨8, 64, [.int .i64, .int .i64, .int .i64, .int .i64, .int .i64, .int .i64, .int .i64, .int .i64], .st [(0, 60), (4, 86), (5, 86), (6, 3), (7, 3)]⟩
  | 157 => some ⟨1, 24, [.slc], .slc 60⟩
  | 160 => some ⟨3, 24, [.int .i64, .int .i64, .int .i64], .st [(0, 3), (1, 3), (2, 3)]⟩
  | 161 => some ⟨12, 96, [.int .i64, .int .i64, .int .i64, .int .i64, .int .i64, .int .i64, .int .i64, .int .i64, .int .i64, .int .i64, .int .i64, .int .i64], .arr 4 160⟩
  | 162 => some ⟨1, 24, [.slc], .slc 3⟩
  | 163 => some ⟨32, 32, [.int .u8, .int .u8, .int .u8, .int .u8, .int .u8, .int .u8, .int .u8, .int .u8, .int .u8, .int .u8, .int .u8, .int .u8, .int .u8, .int .u8, .int .u8, .int .u8, .int .u8, .int .u8, .int .u8, .int .u8, .int .u8, .int .u8, .int .u8, .int .u8, .int .u8, .int .u8, .int .u8, .int .u8, .int .u8, .int .u8, .int .u8, .int .u8], .arr 32 5⟩
  | 165 => some ⟨4, 40, [.ptr, .ptr, .ptr, .str], .st [(0, 17), (1, 17), (2, 17), (3, 9)]⟩
  | 166 => some ⟨4, 40, [.ptr, .ptr, .ptr, .str], .st [(0, 17), (1, 17), (2, 17), (3, 9)]⟩
  | 167 => some ⟨0, 0, [], .arr 0 16⟩
  | 168 => some ⟨0, 0, [], .st [(0, 167)]⟩
  | 169 => some ⟨0, 0, [], .st [(0, 167)]⟩
  | 170 => some ⟨1, 1, [.int .u8], .int .u8⟩
  | 171 => some ⟨1, 1, [.int .u8], .int .u8⟩
  | 173 => some ⟨1, 8, [.ptr], .ptr 5⟩
  | 174 => some ⟨1, 4, [.int .i32], .int .i32⟩
  | 175 => some ⟨1, 4, [.int .i32], .int .i32⟩
  | 176 => some ⟨11, 48, [.int .u64, .int .u64, .int .u32, .int .u8, .int .u8, .int .u8, .int .u8, .func, .ptr, .int .i32, .int .i32], .st [(0, 12), (1, 12), (2, 127), (3, 170), (4, 5), (5, 5), (6, 171), (7, 172), (8, 173), (9, 174), (10, 175)]⟩
  | 177 => some ⟨11, 48, [.int .u64, .int .u64, .int .u32, .int .u8, .int .u8, .int .u8, .int .u8, .func, .ptr, .int .i32, .int .i32], .st [(0, 12), (1, 12), (2, 127), (3, 170), (4, 5), (5, 5), (6, 171), (7, 172), (8, 173), (9, 174), (10, 175)]⟩
  | _ => none

def ti (t : Nat) : Option TyI := if t < 179 then tin t else none

theorem ti_check : typesCheck Tryd.prog 179 tin = true := by kernel_rfl
theorem ti_ok : TypesOK Tryd.prog ti := typesCheck_spec ti_check
theorem mixed : Tryd.prog.follows .mixedOrders = true := by kernel_rfl
theorem ti_seen : ti 3 = ti 3 := by simp only [ti, tin]
end Go.Proofs.YtfoadddlmehpnaaDoor
