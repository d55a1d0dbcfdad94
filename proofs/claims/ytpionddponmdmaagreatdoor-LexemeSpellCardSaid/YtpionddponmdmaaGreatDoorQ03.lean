/-
  DERIVED: THE SHELF's CONTRACTS AT THIS DUMP, IN PLAIN WORDS (tools/lay-plain.mjs out of 'TryzShelf.lean', which tools/lay-shelf.mjs wrote): THE SAME DECLARATIONS UNDER THE SAME NAMES: 'import', 'namespace', 'open', 'def', 'theorem' AND NOTHING ELSE: no command of the shelf's: FOR A HAND-IN. Each laying: the table of numbers ('.._ren') and one theorem, a field a fact of the dump's own or the kernel's comparison; each contract: ONE APPLICATION.
-/
import Derived.Shelf.Strings.Builder1
import Derived.Shelf.Strings.Builder2
import Derived.Shelf.Strings.OnBuilder
import Derived.Shelf.Strings.Trim
import Derived.Shelf.Small.Utf8
import Derived.Shelf.Small.Strs
import Derived.Shelf.Strings.BuilderF
import Derived.Shelf.Strings.BuilderK
import Derived.Shelf.Strings.BuilderRune
import Derived.Shelf.Strconv.Atoi
import Derived.Shelf.Strconv.Itoa0
import Derived.Shelf.Strconv.Itoa1
import Derived.Shelf.LaysM
import Derived.Shelf.Strconv.Itoa2
import Derived.Shelf.Strconv.Itoa3
import Derived.Shelf.Strconv.Itoa4
import Derived.Shelf.Strconv.AtoiErrFast
import Derived.Shelf.Strconv.ParseIntEmpty
import Derived.Shelf.Strconv.AtoiFail
import Derived.Shelf.Strconv.Clone
import Derived.Shelf.Strconv.SyntaxError
import Derived.Shelf.LaysC
import Derived.Shelf.Strconv.ToError
import Derived.Shelf.Strconv.Lower
import Derived.Shelf.Strconv.ParseUint10
import Derived.Shelf.Strconv.ParseUint10Empty
import Derived.Shelf.Strconv.ParseUint10Any
import Derived.Shelf.Strconv.ParseInt10
import Derived.Shelf.Strconv.AtoiLong
import Derived.Shelf.Strconv.AtoiInnerAll
import Derived.Shelf.Strconv.RangeError
import Derived.Shelf.Strconv.ToErrorRange
import Derived.Shelf.Strconv.AtoiAll
import Derived.Shelf.Strings.Search1
import Derived.Shelf.Strings.Search2
import Derived.Shelf.Strings.Cut
import Derived.Shelf.Strings.Shaped
import Derived.Shelf.Strings.Prefix
import Derived.Shelf.Unicode.Decode
import Derived.Shelf.Strings.Runes
import Derived.Shelf.Strings.AsciiSet
import Derived.Shelf.Bits.Mul64
import Derived.Shelf.Unicode.DecodeSlow
import Derived.Shelf.Unicode.DecodeAny
import Derived.Test.YtpionddponmdmaaGreatDoorProg
namespace Go.Proofs
open Go.Shelf
def Tryz.lays169_ren : Go.Shelf.Ren := ⟨fun | 169 => 32 | n => n, fun | 70 => 58 | 9 => 9 | 0 => 0 | 72 => 61 | 37 => 59 | 127 => 77 | 3 => 3 | 5 => 5 | n => n, fun | n => n⟩
theorem Tryz.lays169 : Go.Proofs.Lays.n169 Tryz.prog Tryz.lays169_ren := {
  mixed := by kernel_rfl
  f169 := Tryz.func32.trans (congrArg some (by kernel_rfl))
  t0 := Tryz.underlying0
  a0 := Tryz.isAgg0
  z0 := Tryz.sizeOf0
  v0 := Tryz.zeroValue0
  t3 := Tryz.underlying3
  a3 := Tryz.isAgg3
  z3 := Tryz.sizeOf3
  v3 := Tryz.zeroValue3
  t9 := Tryz.underlying9
  a9 := Tryz.isAgg9
  z9 := Tryz.sizeOf9
  v9 := Tryz.zeroValue9
  t37 := Tryz.underlying59
  a37 := Tryz.isAgg59
  z37 := Tryz.sizeOf59
  v37 := Tryz.zeroValue59
  t70 := Tryz.underlying58
  a70 := Tryz.isAgg58
  z70 := Tryz.sizeOf58
  v70 := Tryz.zeroValue58
  t72 := Tryz.underlying61
  a72 := Tryz.isAgg61
  z72 := Tryz.sizeOf61
  v72 := Tryz.zeroValue61
  t127 := Tryz.underlying77
  a127 := Tryz.isAgg77
  z127 := Tryz.sizeOf77
  v127 := Tryz.zeroValue77 }
theorem Tryz.Builder_Extra_169 : Builder.Extra Tryz.prog Tryz.lays169_ren := {
  sizeBuilder := by kernel_rfl
  liesBuilder := by kernel_rfl
  t5 := Tryz.underlying5
  a5 := Tryz.isAgg5
  z5 := Tryz.sizeOf5
  v5 := Tryz.zeroValue5
  infoByte := by kernel_rfl
  cellsByte := by kernel_rfl
  sizeByte := by kernel_rfl
  neB5 := by decide }
def Tryz.lays137_ren : Go.Shelf.Ren := ⟨fun | 137 => 27 | 217 => 46 | 266 => 70 | n => n, fun | 9 => 9 | 5 => 5 | 3 => 3 | n => n, fun | n => n⟩
theorem Tryz.lays137 : Go.Proofs.Lays.n137 Tryz.prog Tryz.lays137_ren := {
  mixed := by kernel_rfl
  f137 := Tryz.func27.trans (congrArg some (by kernel_rfl))
  f217 := Tryz.func46.trans (congrArg some (by kernel_rfl))
  f266 := Tryz.func70.trans (congrArg some (by kernel_rfl))
  t3 := Tryz.underlying3
  a3 := Tryz.isAgg3
  z3 := Tryz.sizeOf3
  v3 := Tryz.zeroValue3
  t5 := Tryz.underlying5
  a5 := Tryz.isAgg5
  z5 := Tryz.sizeOf5
  v5 := Tryz.zeroValue5
  t9 := Tryz.underlying9
  a9 := Tryz.isAgg9
  z9 := Tryz.sizeOf9
  v9 := Tryz.zeroValue9 }
open Go.RowKit in
/-- strings.IndexByte: "IndexByte returns the index of the first instance of c in s, or -1 if c is not present in s.": IT RETURNS 'Lib.indexByte s c'; the world is as it was. (LAID: no walk: one application.) -/
theorem Tryz.strings_IndexByte (s : ByteArray) (c : Int) (w : World) :
    Calls Tryz.prog 27 #[.string s, .int .u8 c] w fun e w' => e = .returned (.int .i64 (Lib.indexByte s.data.toList c.toNat.toUInt8)) ∧ w' = w := Any.strings_IndexByte Tryz.lays137 s c w
open Go.RowKit in
/-- (*strings.Builder).String: "String returns the accumulated string.": WHATEVER THE BUILDER HOLDS; THE FORM '_k': OVER 'Lib.IsBuilderF' (a builder that 'String()' may have read), AND WITH THE FRAME THAT REACHES ABOVE THE BUILDER: 'Lib.OthersKept': every block that is not b and is no row of uint8's stands as it stood: the iterator of a range among them. (LAID: no walk: one application.) -/
theorem Tryz.Builder_String_any_k (B b : Nat) (l : List UInt8) (w : World) (h : Lib.IsBuilderF 61 5 B b (Lib.byteCells l) w) (hBw : B ≤ w.heap.size) :
    Calls Tryz.prog 32 #[.pointer (some ⟨b, 0, none⟩)] w fun e w' => e = .returned (.string ⟨l.toArray⟩) ∧ (Lib.IsBuilderF 61 5 B b (Lib.byteCells l) w' ∧ Below B w w' ∧ Lib.OthersKept 5 (some b) w w') := Any.Builder_String_any_k Tryz.lays169 Tryz.Builder_Extra_169 B b l w h hBw
def Tryz.laysM171_ren : Go.Shelf.Ren := ⟨fun | 171 => 49 | 243 => 72 | 246 => 86 | 283 => 99 | 284 => 100 | 285 => 101 | 286 => 102 | 129 => 114 | 317 => 113 | 318 => 115 | 319 => 116 | 320 => 117 | 337 => 121 | 338 => 122 | n => n, fun | 3 => 3 | 9 => 9 | 2 => 2 | 4 => 4 | 171 => 132 | 0 => 0 | 53 => 109 | 37 => 59 | 5 => 5 | 173 => 135 | 212 => 149 | 51 => 137 | 20 => 20 | 213 => 150 | 46 => 96 | 232 => 155 | 233 => 156 | n => n, fun | 17 => 5 | 18 => 6 | 19 => 7 | n => n⟩
theorem Tryz.laysM171 : Go.Proofs.LaysM.n171 Tryz.prog Tryz.laysM171_ren := {
  mixed := by kernel_rfl
  f129 := Tryz.func114.trans (congrArg some (by kernel_rfl))
  f171 := Tryz.func49.trans (congrArg some (by kernel_rfl))
  f243 := Tryz.func72.trans (congrArg some (by kernel_rfl))
  f246 := Tryz.func86.trans (congrArg some (by kernel_rfl))
  f283 := Tryz.func99.trans (congrArg some (by kernel_rfl))
  f284 := Tryz.func100.trans (congrArg some (by kernel_rfl))
  f285 := Tryz.func101.trans (congrArg some (by kernel_rfl))
  f286 := Tryz.func102.trans (congrArg some (by kernel_rfl))
  f317 := Tryz.func113.trans (congrArg some (by kernel_rfl))
  f318 := Tryz.func115.trans (congrArg some (by kernel_rfl))
  f319 := Tryz.func116.trans (congrArg some (by kernel_rfl))
  f320 := Tryz.func117.trans (congrArg some (by kernel_rfl))
  f337 := Tryz.func121.trans (congrArg some (by kernel_rfl))
  f338 := Tryz.func122.trans (congrArg some (by kernel_rfl))
  t0 := Tryz.underlying0
  a0 := Tryz.isAgg0
  z0 := Tryz.sizeOf0
  v0 := Tryz.zeroValue0
  t2 := Tryz.underlying2
  a2 := Tryz.isAgg2
  z2 := Tryz.sizeOf2
  v2 := Tryz.zeroValue2
  t3 := Tryz.underlying3
  a3 := Tryz.isAgg3
  z3 := Tryz.sizeOf3
  v3 := Tryz.zeroValue3
  t4 := Tryz.underlying4
  a4 := Tryz.isAgg4
  z4 := Tryz.sizeOf4
  v4 := Tryz.zeroValue4
  t5 := Tryz.underlying5
  a5 := Tryz.isAgg5
  z5 := Tryz.sizeOf5
  v5 := Tryz.zeroValue5
  t9 := Tryz.underlying9
  a9 := Tryz.isAgg9
  z9 := Tryz.sizeOf9
  v9 := Tryz.zeroValue9
  t20 := Tryz.underlying20
  a20 := Tryz.isAgg20
  z20 := Tryz.sizeOf20
  v20 := Tryz.zeroValue20
  t37 := Tryz.underlying59
  a37 := Tryz.isAgg59
  z37 := Tryz.sizeOf59
  v37 := Tryz.zeroValue59
  t46 := Tryz.underlying96
  a46 := Tryz.isAgg96
  z46 := Tryz.sizeOf96
  v46 := Tryz.zeroValue96
  t51 := Tryz.underlying137
  a51 := Tryz.isAgg137
  z51 := Tryz.sizeOf137
  v51 := Tryz.zeroValue137
  t53 := Tryz.underlying109
  a53 := Tryz.isAgg109
  z53 := Tryz.sizeOf109
  v53 := Tryz.zeroValue109
  t171 := Tryz.underlying132
  a171 := Tryz.isAgg132
  z171 := Tryz.sizeOf132
  v171 := Tryz.zeroValue132
  t173 := Tryz.underlying135
  a173 := Tryz.isAgg135
  z173 := Tryz.sizeOf135
  v173 := Tryz.zeroValue135
  t212 := Tryz.underlying149
  a212 := Tryz.isAgg149
  z212 := Tryz.sizeOf149
  v212 := Tryz.zeroValue149
  t213 := Tryz.underlying150
  a213 := Tryz.isAgg150
  z213 := Tryz.sizeOf150
  t232 := Tryz.underlying155
  a232 := Tryz.isAgg155
  z232 := Tryz.sizeOf155
  v232 := Tryz.zeroValue155
  t233 := Tryz.underlying156
  a233 := Tryz.isAgg156
  z233 := Tryz.sizeOf156
  v233 := Tryz.zeroValue156
  g17 := by kernel_rfl
  g18 := by kernel_rfl
  g19 := by kernel_rfl
  i0 := by kernel_rfl
  i2 := by kernel_rfl
  i3 := by kernel_rfl
  i4 := by kernel_rfl
  i5 := by kernel_rfl
  i9 := by kernel_rfl
  i20 := by kernel_rfl
  i37 := by kernel_rfl
  i46 := by kernel_rfl
  i51 := by kernel_rfl
  i53 := by kernel_rfl
  i171 := by kernel_rfl
  i173 := by kernel_rfl
  i212 := by kernel_rfl
  i232 := by kernel_rfl
  i233 := by kernel_rfl
  m17 := by kernel_rfl
  m18 := by kernel_rfl
  m19 := by kernel_rfl }
open Go.RowKit Go.Sort Go.Lib in
/-- strconv.Itoa: "Itoa is equivalent to FormatInt(int64(i), 10).": i's DECIMAL NUMERAL ('Lib.itoa': a '-' where i is negative, then the digits), FOR EVERY int. The world behind the call: the world before it, new blocks behind the heap (the library's 'var a [24]byte'), draws. (LAID: no walk: one application.) -/
theorem Tryz.strconv_Itoa (n : Int) (h0 : -9223372036854775808 ≤ n) (h1 : n ≤ 9223372036854775807) (w : World) (htab : Lib.TabIs Tryz.prog w "internal/strconv.uint64pow10" .u64 Lib.pow10Tab) :
    Calls Tryz.prog 49 #[.int .i64 n] w fun e w' => e = .returned (.string ⟨(Lib.itoa n).toArray⟩) ∧ ∃ k os, w' = grow (w.drewN k) os := Any.strconv_Itoa Tryz.laysM171 n h0 h1 w htab
def Tryz.lays171_ren : Go.Shelf.Ren := ⟨fun | 171 => 49 | 243 => 72 | 246 => 86 | 283 => 99 | 284 => 100 | 285 => 101 | 286 => 102 | 129 => 114 | 317 => 113 | 318 => 115 | 319 => 116 | 320 => 117 | 337 => 121 | 338 => 122 | n => n, fun | 3 => 3 | 9 => 9 | 2 => 2 | 4 => 4 | 171 => 132 | 0 => 0 | 53 => 109 | 37 => 59 | 5 => 5 | 173 => 135 | 212 => 149 | 51 => 137 | 20 => 20 | 213 => 150 | 46 => 96 | 232 => 155 | 233 => 156 | n => n, fun | 17 => 5 | 18 => 6 | 19 => 7 | n => n⟩
theorem Tryz.lays171 : Go.Proofs.Lays.n171 Tryz.prog Tryz.lays171_ren := {
  mixed := by kernel_rfl
  f129 := Tryz.func114.trans (congrArg some (by kernel_rfl))
  f171 := Tryz.func49.trans (congrArg some (by kernel_rfl))
  f243 := Tryz.func72.trans (congrArg some (by kernel_rfl))
  f246 := Tryz.func86.trans (congrArg some (by kernel_rfl))
  f283 := Tryz.func99.trans (congrArg some (by kernel_rfl))
  f284 := Tryz.func100.trans (congrArg some (by kernel_rfl))
  f285 := Tryz.func101.trans (congrArg some (by kernel_rfl))
  f286 := Tryz.func102.trans (congrArg some (by kernel_rfl))
  f317 := Tryz.func113.trans (congrArg some (by kernel_rfl))
  f318 := Tryz.func115.trans (congrArg some (by kernel_rfl))
  f319 := Tryz.func116.trans (congrArg some (by kernel_rfl))
  f320 := Tryz.func117.trans (congrArg some (by kernel_rfl))
  f337 := Tryz.func121.trans (congrArg some (by kernel_rfl))
  f338 := Tryz.func122.trans (congrArg some (by kernel_rfl))
  t0 := Tryz.underlying0
  a0 := Tryz.isAgg0
  z0 := Tryz.sizeOf0
  v0 := Tryz.zeroValue0
  t2 := Tryz.underlying2
  a2 := Tryz.isAgg2
  z2 := Tryz.sizeOf2
  v2 := Tryz.zeroValue2
  t3 := Tryz.underlying3
  a3 := Tryz.isAgg3
  z3 := Tryz.sizeOf3
  v3 := Tryz.zeroValue3
  t4 := Tryz.underlying4
  a4 := Tryz.isAgg4
  z4 := Tryz.sizeOf4
  v4 := Tryz.zeroValue4
  t5 := Tryz.underlying5
  a5 := Tryz.isAgg5
  z5 := Tryz.sizeOf5
  v5 := Tryz.zeroValue5
  t9 := Tryz.underlying9
  a9 := Tryz.isAgg9
  z9 := Tryz.sizeOf9
  v9 := Tryz.zeroValue9
  t20 := Tryz.underlying20
  a20 := Tryz.isAgg20
  z20 := Tryz.sizeOf20
  v20 := Tryz.zeroValue20
  t37 := Tryz.underlying59
  a37 := Tryz.isAgg59
  z37 := Tryz.sizeOf59
  v37 := Tryz.zeroValue59
  t46 := Tryz.underlying96
  a46 := Tryz.isAgg96
  z46 := Tryz.sizeOf96
  v46 := Tryz.zeroValue96
  t51 := Tryz.underlying137
  a51 := Tryz.isAgg137
  z51 := Tryz.sizeOf137
  v51 := Tryz.zeroValue137
  t53 := Tryz.underlying109
  a53 := Tryz.isAgg109
  z53 := Tryz.sizeOf109
  v53 := Tryz.zeroValue109
  t171 := Tryz.underlying132
  a171 := Tryz.isAgg132
  z171 := Tryz.sizeOf132
  v171 := Tryz.zeroValue132
  t173 := Tryz.underlying135
  a173 := Tryz.isAgg135
  z173 := Tryz.sizeOf135
  v173 := Tryz.zeroValue135
  t212 := Tryz.underlying149
  a212 := Tryz.isAgg149
  z212 := Tryz.sizeOf149
  v212 := Tryz.zeroValue149
  t213 := Tryz.underlying150
  a213 := Tryz.isAgg150
  z213 := Tryz.sizeOf150
  t232 := Tryz.underlying155
  a232 := Tryz.isAgg155
  z232 := Tryz.sizeOf155
  v232 := Tryz.zeroValue155
  t233 := Tryz.underlying156
  a233 := Tryz.isAgg156
  z233 := Tryz.sizeOf156
  v233 := Tryz.zeroValue156
  g17 := by kernel_rfl
  g18 := by kernel_rfl
  g19 := by kernel_rfl }
open Go.RowKit Go.Sort Go.Lib in
/-- THE ROAD WITHOUT THE TABLE: 0 <= i < 100: NO PREMISE ON THE WORLD, AND THE WORLD IS AS IT WAS: a row that keeps its argument in that range need list no table ('laid = []'). (LAID: no walk: one application.) -/
theorem Tryz.strconv_Itoa_small (i : Nat) (hi : i < 100) (w : World) :
    Calls Tryz.prog 49 #[.int .i64 i] w fun e w' => e = .returned (.string ⟨(Lib.decDigits i).toArray⟩) ∧ w' = w := Any.strconv_Itoa_small Tryz.lays171 i hi w
end Go.Proofs
