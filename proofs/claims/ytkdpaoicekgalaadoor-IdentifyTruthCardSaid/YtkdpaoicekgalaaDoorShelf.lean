/- Contracts of Go's library (the shelf's) at this translation: numerals, repeated strings, builders. -/
import Derived.Test.YtkdpaoicekgalaaDoorTy
import Derived.Shelf.Strconv.Itoa3
import Derived.Shelf.Strings.Repeat
import Derived.Shelf.Strings.BuilderK
set_option linter.unusedSimpArgs false
set_option linter.unusedVariables false
set_option linter.deprecated false
namespace Go.Proofs.YtkdpaoicekgalaaDoor
open Go Go.Ax Go.Shelf Go.RowKit
def laysM171_ren : Go.Shelf.Ren := ⟨fun | 171 => 87 | 243 => 99 | 246 => 110 | 283 => 122 | 284 => 123 | 285 => 124 | 286 => 125 | 129 => 132 | 317 => 131 | 318 => 133 | 319 => 134 | 320 => 135 | 337 => 90 | 338 => 136 | n => n, fun | 3 => 3 | 9 => 9 | 2 => 2 | 4 => 4 | 171 => 157 | 0 => 0 | 53 => 94 | 37 => 131 | 5 => 5 | 173 => 160 | 212 => 169 | 51 => 103 | 20 => 20 | 213 => 170 | 46 => 109 | 232 => 137 | 233 => 173 | n => n, fun | 17 => 2 | 18 => 0 | 19 => 4 | n => n⟩

theorem laysM171 : Go.Proofs.LaysM.n171 Tryd.prog laysM171_ren := {
  mixed := by kernel_rfl
  f129 := Tryd.func132.trans (congrArg some (by kernel_rfl))
  f171 := Tryd.func87.trans (congrArg some (by kernel_rfl))
  f243 := Tryd.func99.trans (congrArg some (by kernel_rfl))
  f246 := Tryd.func110.trans (congrArg some (by kernel_rfl))
  f283 := Tryd.func122.trans (congrArg some (by kernel_rfl))
  f284 := Tryd.func123.trans (congrArg some (by kernel_rfl))
  f285 := Tryd.func124.trans (congrArg some (by kernel_rfl))
  f286 := Tryd.func125.trans (congrArg some (by kernel_rfl))
  f317 := Tryd.func131.trans (congrArg some (by kernel_rfl))
  f318 := Tryd.func133.trans (congrArg some (by kernel_rfl))
  f319 := Tryd.func134.trans (congrArg some (by kernel_rfl))
  f320 := Tryd.func135.trans (congrArg some (by kernel_rfl))
  f337 := Tryd.func90.trans (congrArg some (by kernel_rfl))
  f338 := Tryd.func136.trans (congrArg some (by kernel_rfl))
  t0 := Tryd.underlying0
  a0 := Tryd.isAgg0
  z0 := Tryd.sizeOf0
  v0 := Tryd.zeroValue0
  t2 := Tryd.underlying2
  a2 := Tryd.isAgg2
  z2 := Tryd.sizeOf2
  v2 := Tryd.zeroValue2
  t3 := Tryd.underlying3
  a3 := Tryd.isAgg3
  z3 := Tryd.sizeOf3
  v3 := Tryd.zeroValue3
  t4 := Tryd.underlying4
  a4 := Tryd.isAgg4
  z4 := Tryd.sizeOf4
  v4 := Tryd.zeroValue4
  t5 := Tryd.underlying5
  a5 := Tryd.isAgg5
  z5 := Tryd.sizeOf5
  v5 := Tryd.zeroValue5
  t9 := Tryd.underlying9
  a9 := Tryd.isAgg9
  z9 := Tryd.sizeOf9
  v9 := Tryd.zeroValue9
  t20 := Tryd.underlying20
  a20 := Tryd.isAgg20
  z20 := Tryd.sizeOf20
  v20 := Tryd.zeroValue20
  t37 := Tryd.underlying131
  a37 := Tryd.isAgg131
  z37 := Tryd.sizeOf131
  v37 := Tryd.zeroValue131
  t46 := Tryd.underlying109
  a46 := Tryd.isAgg109
  z46 := Tryd.sizeOf109
  v46 := Tryd.zeroValue109
  t51 := Tryd.underlying103
  a51 := Tryd.isAgg103
  z51 := Tryd.sizeOf103
  v51 := Tryd.zeroValue103
  t53 := Tryd.underlying94
  a53 := Tryd.isAgg94
  z53 := Tryd.sizeOf94
  v53 := Tryd.zeroValue94
  t171 := Tryd.underlying157
  a171 := Tryd.isAgg157
  z171 := Tryd.sizeOf157
  v171 := Tryd.zeroValue157
  t173 := Tryd.underlying160
  a173 := Tryd.isAgg160
  z173 := Tryd.sizeOf160
  v173 := Tryd.zeroValue160
  t212 := Tryd.underlying169
  a212 := Tryd.isAgg169
  z212 := Tryd.sizeOf169
  v212 := Tryd.zeroValue169
  t213 := Tryd.underlying170
  a213 := Tryd.isAgg170
  z213 := Tryd.sizeOf170
  t232 := Tryd.underlying137
  a232 := Tryd.isAgg137
  z232 := Tryd.sizeOf137
  v232 := Tryd.zeroValue137
  t233 := Tryd.underlying173
  a233 := Tryd.isAgg173
  z233 := Tryd.sizeOf173
  v233 := Tryd.zeroValue173
  g17 := by kernel_rfl
  g18 := by kernel_rfl
  g19 := by kernel_rfl
  i0 := by kernel_rfl
  i2 := by kernel_rfl
  i3 := by kernel_rfl
  i4 := by kernel_rfl
  i5 := by kernel_rfl
  i9 := by kernel_rfl
  i20 := by kernel_rfl
  i37 := by kernel_rfl
  i46 := by kernel_rfl
  i51 := by kernel_rfl
  i53 := by kernel_rfl
  i171 := by kernel_rfl
  i173 := by kernel_rfl
  i212 := by kernel_rfl
  i232 := by kernel_rfl
  i233 := by kernel_rfl
  m17 := by kernel_rfl
  m18 := by kernel_rfl
  m19 := by kernel_rfl }

def lays105_ren : Go.Shelf.Ren := ⟨fun | 105 => 97 | 212 => 106 | 99 => 107 | 165 => 108 | 166 => 96 | 170 => 109 | 169 => 98 | 263 => 118 | 264 => 119 | 206 => 120 | 240 => 105 | 241 => 121 | 276 => 117 | 277 => 130 | n => n, fun | 9 => 9 | 3 => 3 | 4 => 4 | 20 => 20 | 0 => 0 | 46 => 109 | 109 => 140 | 5 => 5 | 72 => 133 | 76 => 134 | 51 => 103 | 146 => 106 | 53 => 94 | 148 => 155 | 70 => 130 | 37 => 131 | 75 => 31 | 127 => 144 | 164 => 152 | 80 => 116 | n => n, fun | n => n⟩

theorem lays105 : Go.Proofs.Lays.n105 Tryd.prog lays105_ren := {
  mixed := by kernel_rfl
  f99 := Tryd.func107.trans (congrArg some (by kernel_rfl))
  f105 := Tryd.func97.trans (congrArg some (by kernel_rfl))
  f165 := Tryd.func108.trans (congrArg some (by kernel_rfl))
  f166 := Tryd.func96.trans (congrArg some (by kernel_rfl))
  f169 := Tryd.func98.trans (congrArg some (by kernel_rfl))
  f170 := Tryd.func109.trans (congrArg some (by kernel_rfl))
  f206 := Tryd.func120.trans (congrArg some (by kernel_rfl))
  f212 := Tryd.func106.trans (congrArg some (by kernel_rfl))
  f240 := Tryd.func105.trans (congrArg some (by kernel_rfl))
  f241 := Tryd.func121.trans (congrArg some (by kernel_rfl))
  f263 := Tryd.func118.trans (congrArg some (by kernel_rfl))
  f264 := Tryd.func119.trans (congrArg some (by kernel_rfl))
  f276 := Tryd.func117.trans (congrArg some (by kernel_rfl))
  f277 := Tryd.func130.trans (congrArg some (by kernel_rfl))
  t0 := Tryd.underlying0
  a0 := Tryd.isAgg0
  z0 := Tryd.sizeOf0
  v0 := Tryd.zeroValue0
  t3 := Tryd.underlying3
  a3 := Tryd.isAgg3
  z3 := Tryd.sizeOf3
  v3 := Tryd.zeroValue3
  t4 := Tryd.underlying4
  a4 := Tryd.isAgg4
  z4 := Tryd.sizeOf4
  v4 := Tryd.zeroValue4
  t5 := Tryd.underlying5
  a5 := Tryd.isAgg5
  z5 := Tryd.sizeOf5
  v5 := Tryd.zeroValue5
  t9 := Tryd.underlying9
  a9 := Tryd.isAgg9
  z9 := Tryd.sizeOf9
  v9 := Tryd.zeroValue9
  t20 := Tryd.underlying20
  a20 := Tryd.isAgg20
  z20 := Tryd.sizeOf20
  v20 := Tryd.zeroValue20
  t37 := Tryd.underlying131
  a37 := Tryd.isAgg131
  z37 := Tryd.sizeOf131
  v37 := Tryd.zeroValue131
  t46 := Tryd.underlying109
  a46 := Tryd.isAgg109
  z46 := Tryd.sizeOf109
  v46 := Tryd.zeroValue109
  t51 := Tryd.underlying103
  a51 := Tryd.isAgg103
  z51 := Tryd.sizeOf103
  v51 := Tryd.zeroValue103
  t53 := Tryd.underlying94
  a53 := Tryd.isAgg94
  z53 := Tryd.sizeOf94
  v53 := Tryd.zeroValue94
  t70 := Tryd.underlying130
  a70 := Tryd.isAgg130
  z70 := Tryd.sizeOf130
  v70 := Tryd.zeroValue130
  t72 := Tryd.underlying133
  a72 := Tryd.isAgg133
  z72 := Tryd.sizeOf133
  v72 := Tryd.zeroValue133
  t75 := Tryd.underlying31
  a75 := Tryd.isAgg31
  z75 := Tryd.sizeOf31
  v75 := Tryd.zeroValue31
  t76 := Tryd.underlying134
  a76 := Tryd.isAgg134
  z76 := Tryd.sizeOf134
  v76 := Tryd.zeroValue134
  t109 := Tryd.underlying140
  a109 := Tryd.isAgg140
  z109 := Tryd.sizeOf140
  v109 := Tryd.zeroValue140
  t127 := Tryd.underlying144
  a127 := Tryd.isAgg144
  z127 := Tryd.sizeOf144
  v127 := Tryd.zeroValue144
  t146 := Tryd.underlying106
  a146 := Tryd.isAgg106
  z146 := Tryd.sizeOf106
  v146 := Tryd.zeroValue106
  t148 := Tryd.underlying155
  a148 := Tryd.isAgg155
  z148 := Tryd.sizeOf155
  v148 := Tryd.zeroValue155
  t164 := Tryd.underlying152
  a164 := Tryd.isAgg152
  z164 := Tryd.sizeOf152
  v164 := Tryd.zeroValue152 }

theorem Builder_Extra_105 : Builder.Extra Tryd.prog lays105_ren := {
  sizeBuilder := by kernel_rfl
  liesBuilder := by kernel_rfl
  t5 := Tryd.underlying5
  a5 := Tryd.isAgg5
  z5 := Tryd.sizeOf5
  v5 := Tryd.zeroValue5
  infoByte := by kernel_rfl
  cellsByte := by kernel_rfl
  sizeByte := by kernel_rfl
  neB5 := by decide }

theorem itoa_calls (n : Int) (h0 : -9223372036854775808 ≤ n) (h1 : n ≤ 9223372036854775807) (w : World) (htab : Lib.TabIs Tryd.prog w "internal/strconv.uint64pow10" .u64 Lib.pow10Tab) :
    Calls Tryd.prog 87 #[.int .i64 n] w fun e w' => e = .returned (.string ⟨(Lib.itoa n).toArray⟩) ∧ ∃ k os, w' = Sort.grow (w.drewN k) os := Any.strconv_Itoa laysM171 n h0 h1 w htab
theorem repeat_calls (s : ByteArray) (c : Nat) (w : World) (hc : c ≤ 9223372036854775807) (hlen : s.size * c ≤ 140737488355328) :
    Calls Tryd.prog 97 #[.string s, .int .i64 c] w fun e w' => e = .returned (.string ⟨(Lib.repeatL s.data.toList c).toArray⟩) ∧ Below w.heap.size w w' := Any.strings_Repeat lays105 Builder_Extra_105 s c w hc hlen
theorem write_calls (B b : Nat) (bs : List Value) (s : ByteArray) (w : World) (h : Lib.IsBuilderF 133 5 B b bs w) (hlen : bs.length + s.size ≤ 140737488355328) (hBw : B ≤ w.heap.size) :
    Calls Tryd.prog 96 #[.pointer (some ⟨b, 0, none⟩), .string s] w fun e w' => e = .returned (.tuple #[.int .i64 s.size, .nilIface]) ∧ (Lib.BuilderAtF 133 5 B b (.pointer (some ⟨b, 0, none⟩)) (bs ++ Lib.strCells s) w' ∧ Below B w w' ∧ Lib.OthersKept 5 (some b) w w') := Any.Builder_WriteString_k { lays105 with } { Builder_Extra_105 with } B b bs s w h hlen hBw
theorem string_calls (B b : Nat) (l : List UInt8) (w : World) (h : Lib.IsBuilderF 133 5 B b (Lib.byteCells l) w) (hBw : B ≤ w.heap.size) :
    Calls Tryd.prog 98 #[.pointer (some ⟨b, 0, none⟩)] w fun e w' => e = .returned (.string ⟨l.toArray⟩) ∧ (Lib.IsBuilderF 133 5 B b (Lib.byteCells l) w' ∧ Below B w w' ∧ Lib.OthersKept 5 (some b) w w') := Any.Builder_String_any_k { lays105 with } { Builder_Extra_105 with } B b l w h hBw
end Go.Proofs.YtkdpaoicekgalaaDoor
