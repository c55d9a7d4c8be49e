/- Contracts of Go's library (the shelf's) at this translation: numerals, repeated strings, builders. -/
import Derived.Test.YtdjgckcninibhaaDoorTy
import Derived.Shelf.Strconv.Itoa3
import Derived.Shelf.Strings.Repeat
import Derived.Shelf.Strings.BuilderK
set_option linter.unusedSimpArgs false
set_option linter.unusedVariables false
set_option linter.deprecated false
namespace Go.Proofs.YtdjgckcninibhaaDoor
open Go Go.Ax Go.Shelf Go.RowKit
def laysM171_ren : Go.Shelf.Ren := ⟨fun | 171 => 114 | 243 => 137 | 246 => 145 | 283 => 151 | 284 => 152 | 285 => 153 | 286 => 154 | 129 => 156 | 317 => 155 | 318 => 157 | 319 => 158 | 320 => 159 | 337 => 139 | 338 => 160 | n => n, fun | 3 => 3 | 9 => 9 | 2 => 2 | 4 => 4 | 171 => 173 | 0 => 0 | 53 => 90 | 37 => 153 | 5 => 5 | 173 => 176 | 212 => 180 | 51 => 91 | 20 => 20 | 213 => 181 | 46 => 92 | 232 => 166 | 233 => 184 | n => n, fun | 17 => 3 | 18 => 1 | 19 => 4 | n => n⟩

theorem laysM171 : Go.Proofs.LaysM.n171 Tryd.prog laysM171_ren := {
  mixed := by kernel_rfl
  f129 := Tryd.func156.trans (congrArg some (by kernel_rfl))
  f171 := Tryd.func114.trans (congrArg some (by kernel_rfl))
  f243 := Tryd.func137.trans (congrArg some (by kernel_rfl))
  f246 := Tryd.func145.trans (congrArg some (by kernel_rfl))
  f283 := Tryd.func151.trans (congrArg some (by kernel_rfl))
  f284 := Tryd.func152.trans (congrArg some (by kernel_rfl))
  f285 := Tryd.func153.trans (congrArg some (by kernel_rfl))
  f286 := Tryd.func154.trans (congrArg some (by kernel_rfl))
  f317 := Tryd.func155.trans (congrArg some (by kernel_rfl))
  f318 := Tryd.func157.trans (congrArg some (by kernel_rfl))
  f319 := Tryd.func158.trans (congrArg some (by kernel_rfl))
  f320 := Tryd.func159.trans (congrArg some (by kernel_rfl))
  f337 := Tryd.func139.trans (congrArg some (by kernel_rfl))
  f338 := Tryd.func160.trans (congrArg some (by kernel_rfl))
  t0 := Tryd.underlying0
  a0 := Tryd.isAgg0
  z0 := Tryd.sizeOf0
  v0 := Tryd.zeroValue0
  t2 := Tryd.underlying2
  a2 := Tryd.isAgg2
  z2 := Tryd.sizeOf2
  v2 := Tryd.zeroValue2
  t3 := Tryd.underlying3
  a3 := Tryd.isAgg3
  z3 := Tryd.sizeOf3
  v3 := Tryd.zeroValue3
  t4 := Tryd.underlying4
  a4 := Tryd.isAgg4
  z4 := Tryd.sizeOf4
  v4 := Tryd.zeroValue4
  t5 := Tryd.underlying5
  a5 := Tryd.isAgg5
  z5 := Tryd.sizeOf5
  v5 := Tryd.zeroValue5
  t9 := Tryd.underlying9
  a9 := Tryd.isAgg9
  z9 := Tryd.sizeOf9
  v9 := Tryd.zeroValue9
  t20 := Tryd.underlying20
  a20 := Tryd.isAgg20
  z20 := Tryd.sizeOf20
  v20 := Tryd.zeroValue20
  t37 := Tryd.underlying153
  a37 := Tryd.isAgg153
  z37 := Tryd.sizeOf153
  v37 := Tryd.zeroValue153
  t46 := Tryd.underlying92
  a46 := Tryd.isAgg92
  z46 := Tryd.sizeOf92
  v46 := Tryd.zeroValue92
  t51 := Tryd.underlying91
  a51 := Tryd.isAgg91
  z51 := Tryd.sizeOf91
  v51 := Tryd.zeroValue91
  t53 := Tryd.underlying90
  a53 := Tryd.isAgg90
  z53 := Tryd.sizeOf90
  v53 := Tryd.zeroValue90
  t171 := Tryd.underlying173
  a171 := Tryd.isAgg173
  z171 := Tryd.sizeOf173
  v171 := Tryd.zeroValue173
  t173 := Tryd.underlying176
  a173 := Tryd.isAgg176
  z173 := Tryd.sizeOf176
  v173 := Tryd.zeroValue176
  t212 := Tryd.underlying180
  a212 := Tryd.isAgg180
  z212 := Tryd.sizeOf180
  v212 := Tryd.zeroValue180
  t213 := Tryd.underlying181
  a213 := Tryd.isAgg181
  z213 := Tryd.sizeOf181
  t232 := Tryd.underlying166
  a232 := Tryd.isAgg166
  z232 := Tryd.sizeOf166
  v232 := Tryd.zeroValue166
  t233 := Tryd.underlying184
  a233 := Tryd.isAgg184
  z233 := Tryd.sizeOf184
  v233 := Tryd.zeroValue184
  g17 := by kernel_rfl
  g18 := by kernel_rfl
  g19 := by kernel_rfl
  i0 := by kernel_rfl
  i2 := by kernel_rfl
  i3 := by kernel_rfl
  i4 := by kernel_rfl
  i5 := by kernel_rfl
  i9 := by kernel_rfl
  i20 := by kernel_rfl
  i37 := by kernel_rfl
  i46 := by kernel_rfl
  i51 := by kernel_rfl
  i53 := by kernel_rfl
  i171 := by kernel_rfl
  i173 := by kernel_rfl
  i212 := by kernel_rfl
  i232 := by kernel_rfl
  i233 := by kernel_rfl
  m17 := by kernel_rfl
  m18 := by kernel_rfl
  m19 := by kernel_rfl }

def lays105_ren : Go.Shelf.Ren := ⟨fun | 105 => 136 | 212 => 142 | 99 => 143 | 165 => 132 | 166 => 133 | 170 => 144 | 169 => 134 | 263 => 148 | 264 => 149 | 206 => 150 | 240 => 140 | 241 => 141 | 276 => 146 | 277 => 147 | n => n, fun | 9 => 9 | 3 => 3 | 4 => 4 | 20 => 20 | 0 => 0 | 46 => 92 | 109 => 162 | 5 => 5 | 72 => 155 | 76 => 157 | 51 => 91 | 146 => 145 | 53 => 90 | 148 => 171 | 70 => 152 | 37 => 153 | 75 => 41 | 127 => 161 | 164 => 167 | 80 => 138 | n => n, fun | n => n⟩

theorem lays105 : Go.Proofs.Lays.n105 Tryd.prog lays105_ren := {
  mixed := by kernel_rfl
  f99 := Tryd.func143.trans (congrArg some (by kernel_rfl))
  f105 := Tryd.func136.trans (congrArg some (by kernel_rfl))
  f165 := Tryd.func132.trans (congrArg some (by kernel_rfl))
  f166 := Tryd.func133.trans (congrArg some (by kernel_rfl))
  f169 := Tryd.func134.trans (congrArg some (by kernel_rfl))
  f170 := Tryd.func144.trans (congrArg some (by kernel_rfl))
  f206 := Tryd.func150.trans (congrArg some (by kernel_rfl))
  f212 := Tryd.func142.trans (congrArg some (by kernel_rfl))
  f240 := Tryd.func140.trans (congrArg some (by kernel_rfl))
  f241 := Tryd.func141.trans (congrArg some (by kernel_rfl))
  f263 := Tryd.func148.trans (congrArg some (by kernel_rfl))
  f264 := Tryd.func149.trans (congrArg some (by kernel_rfl))
  f276 := Tryd.func146.trans (congrArg some (by kernel_rfl))
  f277 := Tryd.func147.trans (congrArg some (by kernel_rfl))
  t0 := Tryd.underlying0
  a0 := Tryd.isAgg0
  z0 := Tryd.sizeOf0
  v0 := Tryd.zeroValue0
  t3 := Tryd.underlying3
  a3 := Tryd.isAgg3
  z3 := Tryd.sizeOf3
  v3 := Tryd.zeroValue3
  t4 := Tryd.underlying4
  a4 := Tryd.isAgg4
  z4 := Tryd.sizeOf4
  v4 := Tryd.zeroValue4
  t5 := Tryd.underlying5
  a5 := Tryd.isAgg5
  z5 := Tryd.sizeOf5
  v5 := Tryd.zeroValue5
  t9 := Tryd.underlying9
  a9 := Tryd.isAgg9
  z9 := Tryd.sizeOf9
  v9 := Tryd.zeroValue9
  t20 := Tryd.underlying20
  a20 := Tryd.isAgg20
  z20 := Tryd.sizeOf20
  v20 := Tryd.zeroValue20
  t37 := Tryd.underlying153
  a37 := Tryd.isAgg153
  z37 := Tryd.sizeOf153
  v37 := Tryd.zeroValue153
  t46 := Tryd.underlying92
  a46 := Tryd.isAgg92
  z46 := Tryd.sizeOf92
  v46 := Tryd.zeroValue92
  t51 := Tryd.underlying91
  a51 := Tryd.isAgg91
  z51 := Tryd.sizeOf91
  v51 := Tryd.zeroValue91
  t53 := Tryd.underlying90
  a53 := Tryd.isAgg90
  z53 := Tryd.sizeOf90
  v53 := Tryd.zeroValue90
  t70 := Tryd.underlying152
  a70 := Tryd.isAgg152
  z70 := Tryd.sizeOf152
  v70 := Tryd.zeroValue152
  t72 := Tryd.underlying155
  a72 := Tryd.isAgg155
  z72 := Tryd.sizeOf155
  v72 := Tryd.zeroValue155
  t75 := Tryd.underlying41
  a75 := Tryd.isAgg41
  z75 := Tryd.sizeOf41
  v75 := Tryd.zeroValue41
  t76 := Tryd.underlying157
  a76 := Tryd.isAgg157
  z76 := Tryd.sizeOf157
  v76 := Tryd.zeroValue157
  t109 := Tryd.underlying162
  a109 := Tryd.isAgg162
  z109 := Tryd.sizeOf162
  v109 := Tryd.zeroValue162
  t127 := Tryd.underlying161
  a127 := Tryd.isAgg161
  z127 := Tryd.sizeOf161
  v127 := Tryd.zeroValue161
  t146 := Tryd.underlying145
  a146 := Tryd.isAgg145
  z146 := Tryd.sizeOf145
  v146 := Tryd.zeroValue145
  t148 := Tryd.underlying171
  a148 := Tryd.isAgg171
  z148 := Tryd.sizeOf171
  v148 := Tryd.zeroValue171
  t164 := Tryd.underlying167
  a164 := Tryd.isAgg167
  z164 := Tryd.sizeOf167
  v164 := Tryd.zeroValue167 }

theorem Builder_Extra_105 : Builder.Extra Tryd.prog lays105_ren := {
  sizeBuilder := by kernel_rfl
  liesBuilder := by kernel_rfl
  t5 := Tryd.underlying5
  a5 := Tryd.isAgg5
  z5 := Tryd.sizeOf5
  v5 := Tryd.zeroValue5
  infoByte := by kernel_rfl
  cellsByte := by kernel_rfl
  sizeByte := by kernel_rfl
  neB5 := by decide }

theorem itoa_calls (n : Int) (h0 : -9223372036854775808 ≤ n) (h1 : n ≤ 9223372036854775807) (w : World) (htab : Lib.TabIs Tryd.prog w "internal/strconv.uint64pow10" .u64 Lib.pow10Tab) :
    Calls Tryd.prog 114 #[.int .i64 n] w fun e w' => e = .returned (.string ⟨(Lib.itoa n).toArray⟩) ∧ ∃ k os, w' = Sort.grow (w.drewN k) os := Any.strconv_Itoa laysM171 n h0 h1 w htab
theorem repeat_calls (s : ByteArray) (c : Nat) (w : World) (hc : c ≤ 9223372036854775807) (hlen : s.size * c ≤ 140737488355328) :
    Calls Tryd.prog 136 #[.string s, .int .i64 c] w fun e w' => e = .returned (.string ⟨(Lib.repeatL s.data.toList c).toArray⟩) ∧ Below w.heap.size w w' := Any.strings_Repeat lays105 Builder_Extra_105 s c w hc hlen
theorem write_calls (B b : Nat) (bs : List Value) (s : ByteArray) (w : World) (h : Lib.IsBuilderF 155 5 B b bs w) (hlen : bs.length + s.size ≤ 140737488355328) (hBw : B ≤ w.heap.size) :
    Calls Tryd.prog 133 #[.pointer (some ⟨b, 0, none⟩), .string s] w fun e w' => e = .returned (.tuple #[.int .i64 s.size, .nilIface]) ∧ (Lib.BuilderAtF 155 5 B b (.pointer (some ⟨b, 0, none⟩)) (bs ++ Lib.strCells s) w' ∧ Below B w w' ∧ Lib.OthersKept 5 (some b) w w') := Any.Builder_WriteString_k { lays105 with } { Builder_Extra_105 with } B b bs s w h hlen hBw
theorem string_calls (B b : Nat) (l : List UInt8) (w : World) (h : Lib.IsBuilderF 155 5 B b (Lib.byteCells l) w) (hBw : B ≤ w.heap.size) :
    Calls Tryd.prog 134 #[.pointer (some ⟨b, 0, none⟩)] w fun e w' => e = .returned (.string ⟨l.toArray⟩) ∧ (Lib.IsBuilderF 155 5 B b (Lib.byteCells l) w' ∧ Below B w w' ∧ Lib.OthersKept 5 (some b) w w') := Any.Builder_String_any_k { lays105 with } { Builder_Extra_105 with } B b l w h hBw
end Go.Proofs.YtdjgckcninibhaaDoor
