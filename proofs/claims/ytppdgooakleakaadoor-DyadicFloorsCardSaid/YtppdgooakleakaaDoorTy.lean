/- The types of this translation, as the executor sees them; checked by the kernel. -/
import Derived.Test.YtppdgooakleakaaDoorProg
import Derived.Test.YtppdgooakleakaaDoorU2
import Derived.Test.YtppdgooakleakaaDoorU3
set_option linter.unusedSimpArgs false
set_option linter.unusedVariables false
set_option linter.deprecated false
namespace Go.Proofs.YtppdgooakleakaaDoor
open Go Go.Ax
set_option maxRecDepth 100000

/-- The package variables that are read. -/
def gl : GL := [(0, dbT.map fun (k : Nat) => Value.int .u8 k), (2, p10T.map fun (k : Int) => Value.int .u64 k)]

def tin : Nat → Option TyI
  | 2 => some ⟨1, 8, [.int .i64], .int .i64⟩
  | 3 => some ⟨1, 8, [.int .i64], .int .i64⟩
  | 4 => some ⟨1, 1, [.bool], .bool⟩
  | 5 => some ⟨1, 1, [.int .u8], .int .u8⟩
  | 6 => some ⟨1, 1, [.int .u8], .int .u8⟩
  | 7 => some ⟨4, 24, [.int .i64, .int .i64, .bool, .int .u8], .st [(0, 2), (1, 3), (2, 4), (3, 6)]⟩
  | 8 => some ⟨4, 24, [.int .i64, .int .i64, .bool, .int .u8], .st [(0, 2), (1, 3), (2, 4), (3, 6)]⟩
  | 9 => some ⟨1, 16, [.str], .str⟩
  | 10 => some ⟨1, 16, [.str], .str⟩
  | 11 => some ⟨1, 16, [.str], .str⟩
  | 12 => some ⟨1, 8, [.int .u64], .int .u64⟩
  | 13 => some ⟨2, 24, [.str, .int .u64], .st [(0, 9), (1, 12)]⟩
  | 14 => some ⟨2, 24, [.str, .int .u64], .st [(0, 9), (1, 12)]⟩
  | 15 => some ⟨1, 8, [.ptr], .ptr 128⟩
  | 16 => some ⟨1, 8, [.ptr], .ptr 131⟩
  | 17 => some ⟨1, 8, [.ptr], .ptr 138⟩
  | 18 => some ⟨1, 8, [.ptr], .st [(0, 17)]⟩
  | 19 => some ⟨1, 8, [.ptr], .st [(0, 17)]⟩
  | 20 => some ⟨1, 16, [.iface], .iface⟩
  | 21 => some ⟨1, 4, [.int .i32], .int .i32⟩
  | 23 => some ⟨1, 24, [.slc], .slc 57⟩
  | 24 => some ⟨3, 40, [.bool, .slc, .int .i64], .st [(0, 4), (1, 23), (2, 3)]⟩
  | 25 => some ⟨3, 40, [.bool, .slc, .int .i64], .st [(0, 4), (1, 23), (2, 3)]⟩
  | 26 => some ⟨1, 16, [.iface], .iface⟩
  | 27 => some ⟨1, 16, [.iface], .iface⟩
  | 39 => some ⟨1, 8, [.int .i64], .int .i64⟩
  | 57 => some ⟨1, 4, [.int .u32], .int .u32⟩
  | 62 => some ⟨1, 24, [.slc], .slc 57⟩
  | 66 => some ⟨1, 8, [.int .u64], .int .u64⟩
  | 67 => some ⟨1, 8, [.int .u64], .int .u64⟩
  | 69 => some ⟨1, 24, [.slc], .slc 25⟩
  | 93 => some ⟨1, 24, [.slc], .slc 9⟩
  | 94 => some ⟨1, 8, [.ptr], .ptr 97⟩
  | 95 => some ⟨1, 24, [.slc], .slc 5⟩
  | 96 => some ⟨2, 32, [.ptr, .slc], .st [(0, 94), (1, 95)]⟩
  | 97 => some ⟨2, 32, [.ptr, .slc], .st [(0, 94), (1, 95)]⟩
  | 105 => some ⟨1, 8, [.ptr], .ptr 5⟩
  | 107 => some ⟨32, 32, [.int .u8, .int .u8, .int .u8, .int .u8, .int .u8, .int .u8, .int .u8, .int .u8, .int .u8, .int .u8, .int .u8, .int .u8, .int .u8, .int .u8, .int .u8, .int .u8, .int .u8, .int .u8, .int .u8, .int .u8, .int .u8, .int .u8, .int .u8, .int .u8, .int .u8, .int .u8, .int .u8, .int .u8, .int .u8, .int .u8, .int .u8, .int .u8], .arr 32 5⟩
  | 113 => some ⟨24, 24, [.int .u8, .int .u8, .int .u8, .int .u8, .int .u8, .int .u8, .int .u8, .int .u8, .int .u8, .int .u8, .int .u8, .int .u8, .int .u8, .int .u8, .int .u8, .int .u8, .int .u8, .int .u8, .int .u8, .int .u8, .int .u8, .int .u8, .int .u8, .int .u8], .arr 24 5⟩
  | 121 => some ⟨20, 160, [.int .u64, .int .u64, .int .u64, .int .u64, .int .u64, .int .u64, .int .u64, .int .u64, .int .u64, .int .u64, .int .u64, .int .u64, .int .u64, .int .u64, .int .u64, .int .u64, .int .u64, .int .u64, .int .u64, .int .u64], .arr 20 66⟩
  | 122 => some ⟨65, 65, [.int .u8, .int .u8, .int .u8, .int .u8, .int .u8, .int .u8, .int .u8, .int .u8, .int .u8, .int .u8, .int .u8, .int .u8, .int .u8, .int .u8, .int .u8, .int .u8, .int .u8, .int .u8, .int .u8, .int .u8, .int .u8, .int .u8, .int .u8, .int .u8, .int .u8, .int .u8, .int .u8, .int .u8, .int .u8, .int .u8, .int .u8, .int .u8, .int .u8, .int .u8, .int .u8, .int .u8, .int .u8, .int .u8, .int .u8, .int .u8, .int .u8, .int .u8, .int .u8, .int .u8, .int .u8, .int .u8, .int .u8, .int .u8, .int .u8, .int .u8, .int .u8, .int .u8, .int .u8, .int .u8, .int .u8, .int .u8, .int .u8, .int .u8, .int .u8, .int .u8, .int .u8, .int .u8, .int .u8, .int .u8, .int .u8], .arr 65 5⟩
  | 125 => some ⟨64, 64, [.int .u8, .int .u8, .int .u8, .int .u8, .int .u8, .int .u8, .int .u8, .int .u8, .int .u8, .int .u8, .int .u8, .int .u8, .int .u8, .int .u8, .int .u8, .int .u8, .int .u8, .int .u8, .int .u8, .int .u8, .int .u8, .int .u8, .int .u8, .int .u8, .int .u8, .int .u8, .int .u8, .int .u8, .int .u8, .int .u8, .int .u8, .int .u8, .int .u8, .int .u8, .int .u8, .int .u8, .int .u8, .int .u8, .int .u8, .int .u8, .int .u8, .int .u8, .int .u8, .int .u8, .int .u8, .int .u8, .int .u8, .int .u8, .int .u8, .int .u8, .int .u8, .int .u8, .int .u8, .int .u8, .int .u8, .int .u8, .int .u8, .int .u8, .int .u8, .int .u8, .int .u8, .int .u8, .int .u8, .int .u8], .arr 64 5⟩
  | 126 => some ⟨1, 8, [.ptr], .ptr 140⟩
  | 127 => some ⟨4, 40, [.ptr, .ptr, .ptr, .str], .st [(0, 17), (1, 17), (2, 17), (3, 9)]⟩
  | 128 => some ⟨4, 40, [.ptr, .ptr, .ptr, .str], .st [(0, 17), (1, 17), (2, 17), (3, 9)]⟩
  | 129 => some ⟨0, 0, [], .arr 0 16⟩
  | 130 => some ⟨0, 0, [], .st [(0, 129)]⟩
  | 131 => some ⟨0, 0, [], .st [(0, 129)]⟩
  | 132 => some ⟨1, 1, [.int .u8], .int .u8⟩
  | 133 => some ⟨1, 1, [.int .u8], .int .u8⟩
  | 135 => some ⟨1, 4, [.int .i32], .int .i32⟩
  | 136 => some ⟨1, 4, [.int .i32], .int .i32⟩
  | 137 => some ⟨11, 48, [.int .u64, .int .u64, .int .u32, .int .u8, .int .u8, .int .u8, .int .u8, .func, .ptr, .int .i32, .int .i32], .st [(0, 12), (1, 12), (2, 57), (3, 132), (4, 5), (5, 5), (6, 133), (7, 134), (8, 105), (9, 135), (10, 136)]⟩
  | 138 => some ⟨11, 48, [.int .u64, .int .u64, .int .u32, .int .u8, .int .u8, .int .u8, .int .u8, .func, .ptr, .int .i32, .int .i32], .st [(0, 12), (1, 12), (2, 57), (3, 132), (4, 5), (5, 5), (6, 133), (7, 134), (8, 105), (9, 135), (10, 136)]⟩
  | 139 => some ⟨1, 16, [.str], .st [(0, 9)]⟩
  | 140 => some ⟨1, 16, [.str], .st [(0, 9)]⟩
  | _ => none

def ti (t : Nat) : Option TyI := if t < 141 then tin t else none

theorem ti_check : typesCheck Tryd.prog 141 tin = true := by kernel_rfl
theorem ti_ok : TypesOK Tryd.prog ti := typesCheck_spec ti_check
theorem mixed : Tryd.prog.follows .mixedOrders = true := by kernel_rfl
theorem ti_seen : ti 3 = ti 3 := by simp only [ti, tin]
end Go.Proofs.YtppdgooakleakaaDoor
