/- part -/
import Derived.Shelf.Strings.OnBuilder
import Derived.Shelf.Strings.Trim
import Derived.Shelf.Small.Utf8
import Derived.Shelf.Strings.BuilderRune
import Derived.Shelf.Strconv.Itoa4
import Derived.Shelf.Strconv.AtoiAll
import Derived.Shelf.Strings.Shaped
import Derived.Shelf.Strings.Runes
import Derived.Shelf.Strings.AsciiSet
import Derived.Shelf.Strings.Repeat
import Derived.Shelf.Unicode.DecodeAny
import Derived.Test.YtmleeodfmmpdgaaGreatDoorProg
namespace Go.Proofs
open Go.Shelf
open _root_.Go.Proofs.Tryz
def Tryz.lays169_ren : Go.Shelf.Ren := ⟨fun | 169 => 36 | n => n, fun | 70 => 79 | 9 => 9 | 0 => 0 | 72 => 82 | 37 => 80 | 127 => 146 | 3 => 3 | 5 => 5 | n => n, fun | n => n⟩
theorem Tryz.lays169 : Go.Proofs.Lays.n169 prog Tryz.lays169_ren := {
  mixed := by kernel_rfl
  f169 := func36.trans (congrArg some (by kernel_rfl))
  t0 := underlying0
  a0 := Tryz.isAgg0
  z0 := Tryz.sizeOf0
  v0 := Tryz.zeroValue0
  t3 := underlying3
  a3 := Tryz.isAgg3
  z3 := Tryz.sizeOf3
  v3 := Tryz.zeroValue3
  t9 := underlying9
  a9 := Tryz.isAgg9
  z9 := Tryz.sizeOf9
  v9 := Tryz.zeroValue9
  t37 := underlying80
  a37 := Tryz.isAgg80
  z37 := Tryz.sizeOf80
  v37 := Tryz.zeroValue80
  t70 := underlying79
  a70 := Tryz.isAgg79
  z70 := Tryz.sizeOf79
  v70 := Tryz.zeroValue79
  t72 := underlying82
  a72 := Tryz.isAgg82
  z72 := Tryz.sizeOf82
  v72 := Tryz.zeroValue82
  t127 := underlying146
  a127 := Tryz.isAgg146
  z127 := Tryz.sizeOf146
  v127 := Tryz.zeroValue146 }
theorem Tryz.Builder_Extra_169 : Builder.Extra prog Tryz.lays169_ren := {
  sizeBuilder := by kernel_rfl
  liesBuilder := by kernel_rfl
  t5 := underlying5
  a5 := Tryz.isAgg5
  z5 := Tryz.sizeOf5
  v5 := Tryz.zeroValue5
  infoByte := by kernel_rfl
  cellsByte := by kernel_rfl
  sizeByte := by kernel_rfl
  neB5 := by decide }
def Tryz.lays156_ren : Go.Shelf.Ren := ⟨fun | 156 => 83 | 165 => 137 | 166 => 79 | 169 => 36 | 240 => 134 | 241 => 192 | 276 => 187 | 277 => 243 | n => n, fun | 31 => 44 | 9 => 9 | 3 => 3 | 4 => 4 | 0 => 0 | 20 => 20 | 72 => 82 | 76 => 140 | 70 => 79 | 37 => 80 | 75 => 139 | 127 => 146 | 164 => 224 | 5 => 5 | 80 => 56 | n => n, fun | n => n⟩
theorem Tryz.lays156 : Go.Proofs.Lays.n156 prog Tryz.lays156_ren := {
  mixed := by kernel_rfl
  f156 := func83.trans (congrArg some (by kernel_rfl))
  f165 := func137.trans (congrArg some (by kernel_rfl))
  f166 := func79.trans (congrArg some (by kernel_rfl))
  f169 := func36.trans (congrArg some (by kernel_rfl))
  f240 := func134.trans (congrArg some (by kernel_rfl))
  f241 := func192.trans (congrArg some (by kernel_rfl))
  f276 := func187.trans (congrArg some (by kernel_rfl))
  f277 := func243.trans (congrArg some (by kernel_rfl))
  t0 := underlying0
  a0 := Tryz.isAgg0
  z0 := Tryz.sizeOf0
  v0 := Tryz.zeroValue0
  t3 := underlying3
  a3 := Tryz.isAgg3
  z3 := Tryz.sizeOf3
  v3 := Tryz.zeroValue3
  t4 := underlying4
  a4 := Tryz.isAgg4
  z4 := Tryz.sizeOf4
  v4 := Tryz.zeroValue4
  t9 := underlying9
  a9 := Tryz.isAgg9
  z9 := Tryz.sizeOf9
  v9 := Tryz.zeroValue9
  t20 := underlying20
  a20 := Tryz.isAgg20
  z20 := Tryz.sizeOf20
  v20 := Tryz.zeroValue20
  t31 := underlying44
  a31 := Tryz.isAgg44
  z31 := Tryz.sizeOf44
  v31 := Tryz.zeroValue44
  t37 := underlying80
  a37 := Tryz.isAgg80
  z37 := Tryz.sizeOf80
  v37 := Tryz.zeroValue80
  t70 := underlying79
  a70 := Tryz.isAgg79
  z70 := Tryz.sizeOf79
  v70 := Tryz.zeroValue79
  t72 := underlying82
  a72 := Tryz.isAgg82
  z72 := Tryz.sizeOf82
  v72 := Tryz.zeroValue82
  t75 := underlying139
  a75 := Tryz.isAgg139
  z75 := Tryz.sizeOf139
  v75 := Tryz.zeroValue139
  t76 := underlying140
  a76 := Tryz.isAgg140
  z76 := Tryz.sizeOf140
  v76 := Tryz.zeroValue140
  t127 := underlying146
  a127 := Tryz.isAgg146
  z127 := Tryz.sizeOf146
  v127 := Tryz.zeroValue146
  t164 := underlying224
  a164 := Tryz.isAgg224
  z164 := Tryz.sizeOf224
  v164 := Tryz.zeroValue224 }
theorem Tryz.Builder_Extra_156 : Builder.Extra prog Tryz.lays156_ren := {
  sizeBuilder := by kernel_rfl
  liesBuilder := by kernel_rfl
  t5 := underlying5
  a5 := Tryz.isAgg5
  z5 := Tryz.sizeOf5
  v5 := Tryz.zeroValue5
  infoByte := by kernel_rfl
  cellsByte := by kernel_rfl
  sizeByte := by kernel_rfl
  neB5 := by decide }
open Go.RowKit in
theorem Tryz.strings_Join (bk o c : Nat) (xs : List ByteArray) (sep : ByteArray) (w : World) (S9 : ∀ (j : Nat) x, xs[j]? = some x → w.cell? ⟨bk, o + j, none⟩ = some (.string x)) (Dm : bk < w.heap.size) (hN : xs.length ≤ 140737488355328) (eN : xs.length ≤ c) (Ah : (Lib.join (xs.map (·.data.toList)) sep.data.toList).length ≤ 140737488355328) :
    Calls prog 83 #[.slice (some ⟨bk, o, none⟩) xs.length c, .string sep] w fun e w' => e = .returned (.string ⟨(Lib.join (xs.map (·.data.toList)) sep.data.toList).toArray⟩) ∧ Below w.heap.size w w' := Any.strings_Join Tryz.lays156 Tryz.Builder_Extra_156 bk o c xs sep w S9 Dm hN eN Ah
def Tryz.lays137_ren : Go.Shelf.Ren := ⟨fun | 137 => 216 | 217 => 263 | 266 => 299 | n => n, fun | 9 => 9 | 5 => 5 | 3 => 3 | n => n, fun | n => n⟩
theorem Tryz.lays137 : Go.Proofs.Lays.n137 prog Tryz.lays137_ren := {
  mixed := by kernel_rfl
  f137 := func216.trans (congrArg some (by kernel_rfl))
  f217 := func263.trans (congrArg some (by kernel_rfl))
  f266 := func299.trans (congrArg some (by kernel_rfl))
  t3 := underlying3
  a3 := Tryz.isAgg3
  z3 := Tryz.sizeOf3
  v3 := Tryz.zeroValue3
  t5 := underlying5
  a5 := Tryz.isAgg5
  z5 := Tryz.sizeOf5
  v5 := Tryz.zeroValue5
  t9 := underlying9
  a9 := Tryz.isAgg9
  z9 := Tryz.sizeOf9
  v9 := Tryz.zeroValue9 }
open Go.RowKit in
theorem Tryz.strings_IndexByte (s : ByteArray) (c : Int) (w : World) :
    Calls prog 216 #[.string s, .int .u8 c] w fun e w' => e = .returned (.int .i64 (Lib.indexByte s.data.toList c.toNat.toUInt8)) ∧ w' = w := Any.strings_IndexByte Tryz.lays137 s c w
open Go.RowKit in
theorem Tryz.Builder_String_any_k (B b : Nat) (l : List UInt8) (w : World) (h : Lib.IsBuilderF 82 5 B b (Lib.byteCells l) w) (Ir : B ≤ w.heap.size) :
    Calls prog 36 #[.pointer (some ⟨b, 0, none⟩)] w fun e w' => e = .returned (.string ⟨l.toArray⟩) ∧ (Lib.IsBuilderF 82 5 B b (Lib.byteCells l) w' ∧ Below B w w' ∧ Lib.OthersKept 5 (some b) w w') := Any.Builder_String_any_k Tryz.lays169 Tryz.Builder_Extra_169 B b l w h Ir
def Tryz.laysM171_ren : Go.Shelf.Ren := ⟨fun | 171 => 34 | 243 => 84 | 246 => 138 | 283 => 193 | 284 => 194 | 285 => 195 | 286 => 196 | 129 => 245 | 317 => 244 | 318 => 246 | 319 => 247 | 320 => 248 | 337 => 291 | 338 => 292 | n => n, fun | 3 => 3 | 9 => 9 | 2 => 2 | 4 => 4 | 171 => 228 | 0 => 0 | 53 => 229 | 37 => 80 | 5 => 5 | 173 => 232 | 212 => 256 | 51 => 257 | 20 => 20 | 213 => 258 | 46 => 259 | 232 => 316 | 233 => 317 | n => n, fun | 17 => 0 | 18 => 6 | 19 => 7 | n => n⟩
theorem Tryz.laysM171 : Go.Proofs.LaysM.n171 prog Tryz.laysM171_ren := {
  mixed := by kernel_rfl
  f129 := func245.trans (congrArg some (by kernel_rfl))
  f171 := func34.trans (congrArg some (by kernel_rfl))
  f243 := func84.trans (congrArg some (by kernel_rfl))
  f246 := func138.trans (congrArg some (by kernel_rfl))
  f283 := func193.trans (congrArg some (by kernel_rfl))
  f284 := func194.trans (congrArg some (by kernel_rfl))
  f285 := func195.trans (congrArg some (by kernel_rfl))
  f286 := func196.trans (congrArg some (by kernel_rfl))
  f317 := func244.trans (congrArg some (by kernel_rfl))
  f318 := func246.trans (congrArg some (by kernel_rfl))
  f319 := func247.trans (congrArg some (by kernel_rfl))
  f320 := func248.trans (congrArg some (by kernel_rfl))
  f337 := func291.trans (congrArg some (by kernel_rfl))
  f338 := func292.trans (congrArg some (by kernel_rfl))
  t0 := underlying0
  a0 := Tryz.isAgg0
  z0 := Tryz.sizeOf0
  v0 := Tryz.zeroValue0
  t2 := underlying2
  a2 := Tryz.isAgg2
  z2 := Tryz.sizeOf2
  v2 := Tryz.zeroValue2
  t3 := underlying3
  a3 := Tryz.isAgg3
  z3 := Tryz.sizeOf3
  v3 := Tryz.zeroValue3
  t4 := underlying4
  a4 := Tryz.isAgg4
  z4 := Tryz.sizeOf4
  v4 := Tryz.zeroValue4
  t5 := underlying5
  a5 := Tryz.isAgg5
  z5 := Tryz.sizeOf5
  v5 := Tryz.zeroValue5
  t9 := underlying9
  a9 := Tryz.isAgg9
  z9 := Tryz.sizeOf9
  v9 := Tryz.zeroValue9
  t20 := underlying20
  a20 := Tryz.isAgg20
  z20 := Tryz.sizeOf20
  v20 := Tryz.zeroValue20
  t37 := underlying80
  a37 := Tryz.isAgg80
  z37 := Tryz.sizeOf80
  v37 := Tryz.zeroValue80
  t46 := underlying259
  a46 := Tryz.isAgg259
  z46 := Tryz.sizeOf259
  v46 := Tryz.zeroValue259
  t51 := underlying257
  a51 := Tryz.isAgg257
  z51 := Tryz.sizeOf257
  v51 := Tryz.zeroValue257
  t53 := underlying229
  a53 := Tryz.isAgg229
  z53 := Tryz.sizeOf229
  v53 := Tryz.zeroValue229
  t171 := underlying228
  a171 := Tryz.isAgg228
  z171 := Tryz.sizeOf228
  v171 := Tryz.zeroValue228
  t173 := underlying232
  a173 := Tryz.isAgg232
  z173 := Tryz.sizeOf232
  v173 := Tryz.zeroValue232
  t212 := underlying256
  a212 := Tryz.isAgg256
  z212 := Tryz.sizeOf256
  v212 := Tryz.zeroValue256
  t213 := underlying258
  a213 := Tryz.isAgg258
  z213 := Tryz.sizeOf258
  t232 := underlying316
  a232 := Tryz.isAgg316
  z232 := Tryz.sizeOf316
  v232 := Tryz.zeroValue316
  t233 := underlying317
  a233 := Tryz.isAgg317
  z233 := Tryz.sizeOf317
  v233 := Tryz.zeroValue317
  g17 := by kernel_rfl
  g18 := by kernel_rfl
  g19 := by kernel_rfl
  i0 := by kernel_rfl
  i2 := by kernel_rfl
  i3 := by kernel_rfl
  i4 := by kernel_rfl
  i5 := by kernel_rfl
  i9 := by kernel_rfl
  i20 := by kernel_rfl
  i37 := by kernel_rfl
  i46 := by kernel_rfl
  i51 := by kernel_rfl
  i53 := by kernel_rfl
  i171 := by kernel_rfl
  i173 := by kernel_rfl
  i212 := by kernel_rfl
  i232 := by kernel_rfl
  i233 := by kernel_rfl
  m17 := by kernel_rfl
  m18 := by kernel_rfl
  m19 := by kernel_rfl }
open Go.RowKit Go.Sort Go.Lib in
theorem Tryz.strconv_Itoa (n : Int) (h0 : -9223372036854775808 ≤ n) (h1 : n ≤ 9223372036854775807) (w : World) (eO : Lib.TabIs prog w "internal/strconv.uint64pow10" .u64 Lib.pow10Tab) :
    Calls prog 34 #[.int .i64 n] w fun e w' => e = .returned (.string ⟨(Lib.itoa n).toArray⟩) ∧ ∃ k os, w' = grow (w.drewN k) os := Any.strconv_Itoa Tryz.laysM171 n h0 h1 w eO
end Go.Proofs
