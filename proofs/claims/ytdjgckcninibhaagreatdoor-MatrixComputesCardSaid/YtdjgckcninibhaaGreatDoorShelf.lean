/- Contracts of Go's library (the shelf's) at this translation: numerals, repeated strings, builders. -/
import Derived.Test.YtdjgckcninibhaaGreatDoorTy
import Derived.Shelf.Strconv.Itoa3
import Derived.Shelf.Strings.Repeat
import Derived.Shelf.Strings.BuilderK
set_option linter.unusedSimpArgs false
set_option linter.unusedVariables false
set_option linter.deprecated false
namespace Go.Proofs.YtdjgckcninibhaaGreatDoor
open Go Go.Ax Go.Shelf Go.RowKit
def laysM171_ren : Go.Shelf.Ren := ⟨fun | 171 => 225 | 243 => 250 | 246 => 261 | 283 => 267 | 284 => 268 | 285 => 269 | 286 => 270 | 129 => 272 | 317 => 271 | 318 => 273 | 319 => 274 | 320 => 275 | 337 => 253 | 338 => 276 | n => n, fun | 3 => 3 | 9 => 9 | 2 => 2 | 4 => 4 | 171 => 278 | 0 => 0 | 53 => 161 | 37 => 243 | 5 => 5 | 173 => 281 | 212 => 284 | 51 => 163 | 20 => 20 | 213 => 285 | 46 => 164 | 232 => 274 | 233 => 288 | n => n, fun | 17 => 3 | 18 => 0 | 19 => 4 | n => n⟩

theorem laysM171 : Go.Proofs.LaysM.n171 Tryz.prog laysM171_ren := {
  mixed := by kernel_rfl
  f129 := Tryz.func272.trans (congrArg some (by kernel_rfl))
  f171 := Tryz.func225.trans (congrArg some (by kernel_rfl))
  f243 := Tryz.func250.trans (congrArg some (by kernel_rfl))
  f246 := Tryz.func261.trans (congrArg some (by kernel_rfl))
  f283 := Tryz.func267.trans (congrArg some (by kernel_rfl))
  f284 := Tryz.func268.trans (congrArg some (by kernel_rfl))
  f285 := Tryz.func269.trans (congrArg some (by kernel_rfl))
  f286 := Tryz.func270.trans (congrArg some (by kernel_rfl))
  f317 := Tryz.func271.trans (congrArg some (by kernel_rfl))
  f318 := Tryz.func273.trans (congrArg some (by kernel_rfl))
  f319 := Tryz.func274.trans (congrArg some (by kernel_rfl))
  f320 := Tryz.func275.trans (congrArg some (by kernel_rfl))
  f337 := Tryz.func253.trans (congrArg some (by kernel_rfl))
  f338 := Tryz.func276.trans (congrArg some (by kernel_rfl))
  t0 := Tryz.underlying0
  a0 := Tryz.isAgg0
  z0 := Tryz.sizeOf0
  v0 := Tryz.zeroValue0
  t2 := Tryz.underlying2
  a2 := Tryz.isAgg2
  z2 := Tryz.sizeOf2
  v2 := Tryz.zeroValue2
  t3 := Tryz.underlying3
  a3 := Tryz.isAgg3
  z3 := Tryz.sizeOf3
  v3 := Tryz.zeroValue3
  t4 := Tryz.underlying4
  a4 := Tryz.isAgg4
  z4 := Tryz.sizeOf4
  v4 := Tryz.zeroValue4
  t5 := Tryz.underlying5
  a5 := Tryz.isAgg5
  z5 := Tryz.sizeOf5
  v5 := Tryz.zeroValue5
  t9 := Tryz.underlying9
  a9 := Tryz.isAgg9
  z9 := Tryz.sizeOf9
  v9 := Tryz.zeroValue9
  t20 := Tryz.underlying20
  a20 := Tryz.isAgg20
  z20 := Tryz.sizeOf20
  v20 := Tryz.zeroValue20
  t37 := Tryz.underlying243
  a37 := Tryz.isAgg243
  z37 := Tryz.sizeOf243
  v37 := Tryz.zeroValue243
  t46 := Tryz.underlying164
  a46 := Tryz.isAgg164
  z46 := Tryz.sizeOf164
  v46 := Tryz.zeroValue164
  t51 := Tryz.underlying163
  a51 := Tryz.isAgg163
  z51 := Tryz.sizeOf163
  v51 := Tryz.zeroValue163
  t53 := Tryz.underlying161
  a53 := Tryz.isAgg161
  z53 := Tryz.sizeOf161
  v53 := Tryz.zeroValue161
  t171 := Tryz.underlying278
  a171 := Tryz.isAgg278
  z171 := Tryz.sizeOf278
  v171 := Tryz.zeroValue278
  t173 := Tryz.underlying281
  a173 := Tryz.isAgg281
  z173 := Tryz.sizeOf281
  v173 := Tryz.zeroValue281
  t212 := Tryz.underlying284
  a212 := Tryz.isAgg284
  z212 := Tryz.sizeOf284
  v212 := Tryz.zeroValue284
  t213 := Tryz.underlying285
  a213 := Tryz.isAgg285
  z213 := Tryz.sizeOf285
  t232 := Tryz.underlying274
  a232 := Tryz.isAgg274
  z232 := Tryz.sizeOf274
  v232 := Tryz.zeroValue274
  t233 := Tryz.underlying288
  a233 := Tryz.isAgg288
  z233 := Tryz.sizeOf288
  v233 := Tryz.zeroValue288
  g17 := by kernel_rfl
  g18 := by kernel_rfl
  g19 := by kernel_rfl
  i0 := by kernel_rfl
  i2 := by kernel_rfl
  i3 := by kernel_rfl
  i4 := by kernel_rfl
  i5 := by kernel_rfl
  i9 := by kernel_rfl
  i20 := by kernel_rfl
  i37 := by kernel_rfl
  i46 := by kernel_rfl
  i51 := by kernel_rfl
  i53 := by kernel_rfl
  i171 := by kernel_rfl
  i173 := by kernel_rfl
  i212 := by kernel_rfl
  i232 := by kernel_rfl
  i233 := by kernel_rfl
  m17 := by kernel_rfl
  m18 := by kernel_rfl
  m19 := by kernel_rfl }

def lays105_ren : Go.Shelf.Ren := ⟨fun | 105 => 249 | 212 => 258 | 99 => 259 | 165 => 230 | 166 => 231 | 170 => 260 | 169 => 232 | 263 => 264 | 264 => 265 | 206 => 266 | 240 => 251 | 241 => 252 | 276 => 262 | 277 => 263 | n => n, fun | 9 => 9 | 3 => 3 | 4 => 4 | 20 => 20 | 0 => 0 | 46 => 164 | 109 => 267 | 5 => 5 | 72 => 245 | 76 => 169 | 51 => 163 | 146 => 254 | 53 => 161 | 148 => 276 | 70 => 242 | 37 => 243 | 75 => 35 | 127 => 263 | 164 => 271 | 80 => 238 | n => n, fun | n => n⟩

theorem lays105 : Go.Proofs.Lays.n105 Tryz.prog lays105_ren := {
  mixed := by kernel_rfl
  f99 := Tryz.func259.trans (congrArg some (by kernel_rfl))
  f105 := Tryz.func249.trans (congrArg some (by kernel_rfl))
  f165 := Tryz.func230.trans (congrArg some (by kernel_rfl))
  f166 := Tryz.func231.trans (congrArg some (by kernel_rfl))
  f169 := Tryz.func232.trans (congrArg some (by kernel_rfl))
  f170 := Tryz.func260.trans (congrArg some (by kernel_rfl))
  f206 := Tryz.func266.trans (congrArg some (by kernel_rfl))
  f212 := Tryz.func258.trans (congrArg some (by kernel_rfl))
  f240 := Tryz.func251.trans (congrArg some (by kernel_rfl))
  f241 := Tryz.func252.trans (congrArg some (by kernel_rfl))
  f263 := Tryz.func264.trans (congrArg some (by kernel_rfl))
  f264 := Tryz.func265.trans (congrArg some (by kernel_rfl))
  f276 := Tryz.func262.trans (congrArg some (by kernel_rfl))
  f277 := Tryz.func263.trans (congrArg some (by kernel_rfl))
  t0 := Tryz.underlying0
  a0 := Tryz.isAgg0
  z0 := Tryz.sizeOf0
  v0 := Tryz.zeroValue0
  t3 := Tryz.underlying3
  a3 := Tryz.isAgg3
  z3 := Tryz.sizeOf3
  v3 := Tryz.zeroValue3
  t4 := Tryz.underlying4
  a4 := Tryz.isAgg4
  z4 := Tryz.sizeOf4
  v4 := Tryz.zeroValue4
  t5 := Tryz.underlying5
  a5 := Tryz.isAgg5
  z5 := Tryz.sizeOf5
  v5 := Tryz.zeroValue5
  t9 := Tryz.underlying9
  a9 := Tryz.isAgg9
  z9 := Tryz.sizeOf9
  v9 := Tryz.zeroValue9
  t20 := Tryz.underlying20
  a20 := Tryz.isAgg20
  z20 := Tryz.sizeOf20
  v20 := Tryz.zeroValue20
  t37 := Tryz.underlying243
  a37 := Tryz.isAgg243
  z37 := Tryz.sizeOf243
  v37 := Tryz.zeroValue243
  t46 := Tryz.underlying164
  a46 := Tryz.isAgg164
  z46 := Tryz.sizeOf164
  v46 := Tryz.zeroValue164
  t51 := Tryz.underlying163
  a51 := Tryz.isAgg163
  z51 := Tryz.sizeOf163
  v51 := Tryz.zeroValue163
  t53 := Tryz.underlying161
  a53 := Tryz.isAgg161
  z53 := Tryz.sizeOf161
  v53 := Tryz.zeroValue161
  t70 := Tryz.underlying242
  a70 := Tryz.isAgg242
  z70 := Tryz.sizeOf242
  v70 := Tryz.zeroValue242
  t72 := Tryz.underlying245
  a72 := Tryz.isAgg245
  z72 := Tryz.sizeOf245
  v72 := Tryz.zeroValue245
  t75 := Tryz.underlying35
  a75 := Tryz.isAgg35
  z75 := Tryz.sizeOf35
  v75 := Tryz.zeroValue35
  t76 := Tryz.underlying169
  a76 := Tryz.isAgg169
  z76 := Tryz.sizeOf169
  v76 := Tryz.zeroValue169
  t109 := Tryz.underlying267
  a109 := Tryz.isAgg267
  z109 := Tryz.sizeOf267
  v109 := Tryz.zeroValue267
  t127 := Tryz.underlying263
  a127 := Tryz.isAgg263
  z127 := Tryz.sizeOf263
  v127 := Tryz.zeroValue263
  t146 := Tryz.underlying254
  a146 := Tryz.isAgg254
  z146 := Tryz.sizeOf254
  v146 := Tryz.zeroValue254
  t148 := Tryz.underlying276
  a148 := Tryz.isAgg276
  z148 := Tryz.sizeOf276
  v148 := Tryz.zeroValue276
  t164 := Tryz.underlying271
  a164 := Tryz.isAgg271
  z164 := Tryz.sizeOf271
  v164 := Tryz.zeroValue271 }

theorem Builder_Extra_105 : Builder.Extra Tryz.prog lays105_ren := {
  sizeBuilder := by kernel_rfl
  liesBuilder := by kernel_rfl
  t5 := Tryz.underlying5
  a5 := Tryz.isAgg5
  z5 := Tryz.sizeOf5
  v5 := Tryz.zeroValue5
  infoByte := by kernel_rfl
  cellsByte := by kernel_rfl
  sizeByte := by kernel_rfl
  neB5 := by decide }

theorem itoa_calls (n : Int) (h0 : -9223372036854775808 ≤ n) (h1 : n ≤ 9223372036854775807) (w : World) (htab : Lib.TabIs Tryz.prog w "internal/strconv.uint64pow10" .u64 Lib.pow10Tab) :
    Calls Tryz.prog 225 #[.int .i64 n] w fun e w' => e = .returned (.string ⟨(Lib.itoa n).toArray⟩) ∧ ∃ k os, w' = Sort.grow (w.drewN k) os := Any.strconv_Itoa laysM171 n h0 h1 w htab
theorem repeat_calls (s : ByteArray) (c : Nat) (w : World) (hc : c ≤ 9223372036854775807) (hlen : s.size * c ≤ 140737488355328) :
    Calls Tryz.prog 249 #[.string s, .int .i64 c] w fun e w' => e = .returned (.string ⟨(Lib.repeatL s.data.toList c).toArray⟩) ∧ Below w.heap.size w w' := Any.strings_Repeat lays105 Builder_Extra_105 s c w hc hlen
theorem write_calls (B b : Nat) (bs : List Value) (s : ByteArray) (w : World) (h : Lib.IsBuilderF 245 5 B b bs w) (hlen : bs.length + s.size ≤ 140737488355328) (hBw : B ≤ w.heap.size) :
    Calls Tryz.prog 231 #[.pointer (some ⟨b, 0, none⟩), .string s] w fun e w' => e = .returned (.tuple #[.int .i64 s.size, .nilIface]) ∧ (Lib.BuilderAtF 245 5 B b (.pointer (some ⟨b, 0, none⟩)) (bs ++ Lib.strCells s) w' ∧ Below B w w' ∧ Lib.OthersKept 5 (some b) w w') := Any.Builder_WriteString_k { lays105 with } { Builder_Extra_105 with } B b bs s w h hlen hBw
theorem string_calls (B b : Nat) (l : List UInt8) (w : World) (h : Lib.IsBuilderF 245 5 B b (Lib.byteCells l) w) (hBw : B ≤ w.heap.size) :
    Calls Tryz.prog 232 #[.pointer (some ⟨b, 0, none⟩)] w fun e w' => e = .returned (.string ⟨l.toArray⟩) ∧ (Lib.IsBuilderF 245 5 B b (Lib.byteCells l) w' ∧ Below B w w' ∧ Lib.OthersKept 5 (some b) w w') := Any.Builder_String_any_k { lays105 with } { Builder_Extra_105 with } B b l w h hBw
end Go.Proofs.YtdjgckcninibhaaGreatDoor
