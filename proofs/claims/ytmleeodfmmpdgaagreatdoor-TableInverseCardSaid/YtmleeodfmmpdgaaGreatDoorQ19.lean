/- part -/
import Derived.Shelf.Strings.OnBuilder
import Derived.Shelf.Strings.Trim
import Derived.Shelf.Small.Utf8
import Derived.Shelf.Strings.BuilderRune
import Derived.Shelf.Strconv.Itoa4
import Derived.Shelf.Strconv.AtoiAll
import Derived.Shelf.Strings.Shaped
import Derived.Shelf.Strings.Runes
import Derived.Shelf.Strings.AsciiSet
import Derived.Shelf.Strings.Repeat
import Derived.Shelf.Unicode.DecodeAny
import Derived.Test.YtmleeodfmmpdgaaGreatDoorProg
namespace Go.Proofs
open Go.Shelf
open _root_.Go.Proofs.Tryz
def Tryz.lays172_ren : Go.Shelf.Ren := ⟨fun | 172 => 178 | 244 => 229 | 245 => 230 | 247 => 278 | 279 => 279 | 280 => 280 | 281 => 281 | 282 => 282 | 287 => 311 | 316 => 312 | 171 => 34 | 205 => 313 | 321 => 324 | 322 => 325 | 243 => 84 | 246 => 138 | 283 => 193 | 284 => 194 | 285 => 195 | 286 => 196 | 129 => 245 | 317 => 244 | 318 => 246 | 319 => 247 | 320 => 248 | 337 => 291 | 338 => 292 | n => n, fun | 9 => 9 | 3 => 3 | 75 => 139 | 76 => 140 | 4 => 4 | 5 => 5 | 167 => 282 | 37 => 80 | 0 => 0 | 85 => 283 | 2 => 2 | 168 => 285 | 53 => 229 | 175 => 307 | 46 => 259 | 210 => 311 | 127 => 146 | 145 => 325 | 143 => 323 | 21 => 21 | 171 => 228 | 173 => 232 | 212 => 256 | 51 => 257 | 20 => 20 | 213 => 258 | 232 => 316 | 233 => 317 | 80 => 56 | n => n, fun | 15 => 4 | 16 => 5 | 17 => 0 | 18 => 6 | 19 => 7 | n => n⟩
theorem Tryz.lays172 : Go.Proofs.Lays.n172 prog Tryz.lays172_ren := {
  mixed := by kernel_rfl
  f129 := func245.trans (congrArg some (by kernel_rfl))
  f171 := func34.trans (congrArg some (by kernel_rfl))
  f172 := func178.trans (congrArg some (by kernel_rfl))
  f205 := func313.trans (congrArg some (by kernel_rfl))
  f243 := func84.trans (congrArg some (by kernel_rfl))
  f244 := func229.trans (congrArg some (by kernel_rfl))
  f245 := func230.trans (congrArg some (by kernel_rfl))
  f246 := func138.trans (congrArg some (by kernel_rfl))
  f247 := func278.trans (congrArg some (by kernel_rfl))
  f279 := func279.trans (congrArg some (by kernel_rfl))
  f280 := func280.trans (congrArg some (by kernel_rfl))
  f281 := func281.trans (congrArg some (by kernel_rfl))
  f282 := func282.trans (congrArg some (by kernel_rfl))
  f283 := func193.trans (congrArg some (by kernel_rfl))
  f284 := func194.trans (congrArg some (by kernel_rfl))
  f285 := func195.trans (congrArg some (by kernel_rfl))
  f286 := func196.trans (congrArg some (by kernel_rfl))
  f287 := func311.trans (congrArg some (by kernel_rfl))
  f316 := func312.trans (congrArg some (by kernel_rfl))
  f317 := func244.trans (congrArg some (by kernel_rfl))
  f318 := func246.trans (congrArg some (by kernel_rfl))
  f319 := func247.trans (congrArg some (by kernel_rfl))
  f320 := func248.trans (congrArg some (by kernel_rfl))
  f321 := func324.trans (congrArg some (by kernel_rfl))
  f322 := func325.trans (congrArg some (by kernel_rfl))
  f337 := func291.trans (congrArg some (by kernel_rfl))
  f338 := func292.trans (congrArg some (by kernel_rfl))
  t0 := underlying0
  a0 := Tryz.isAgg0
  z0 := Tryz.sizeOf0
  v0 := Tryz.zeroValue0
  t2 := underlying2
  a2 := Tryz.isAgg2
  z2 := Tryz.sizeOf2
  v2 := Tryz.zeroValue2
  t3 := underlying3
  a3 := Tryz.isAgg3
  z3 := Tryz.sizeOf3
  v3 := Tryz.zeroValue3
  t4 := underlying4
  a4 := Tryz.isAgg4
  z4 := Tryz.sizeOf4
  v4 := Tryz.zeroValue4
  t5 := underlying5
  a5 := Tryz.isAgg5
  z5 := Tryz.sizeOf5
  v5 := Tryz.zeroValue5
  t9 := underlying9
  a9 := Tryz.isAgg9
  z9 := Tryz.sizeOf9
  v9 := Tryz.zeroValue9
  t20 := underlying20
  a20 := Tryz.isAgg20
  z20 := Tryz.sizeOf20
  v20 := Tryz.zeroValue20
  t21 := underlying21
  a21 := Tryz.isAgg21
  z21 := Tryz.sizeOf21
  v21 := Tryz.zeroValue21
  t37 := underlying80
  a37 := Tryz.isAgg80
  z37 := Tryz.sizeOf80
  v37 := Tryz.zeroValue80
  t46 := underlying259
  a46 := Tryz.isAgg259
  z46 := Tryz.sizeOf259
  v46 := Tryz.zeroValue259
  t51 := underlying257
  a51 := Tryz.isAgg257
  z51 := Tryz.sizeOf257
  v51 := Tryz.zeroValue257
  t53 := underlying229
  a53 := Tryz.isAgg229
  z53 := Tryz.sizeOf229
  v53 := Tryz.zeroValue229
  t75 := underlying139
  a75 := Tryz.isAgg139
  z75 := Tryz.sizeOf139
  v75 := Tryz.zeroValue139
  t76 := underlying140
  a76 := Tryz.isAgg140
  z76 := Tryz.sizeOf140
  v76 := Tryz.zeroValue140
  t85 := underlying283
  a85 := Tryz.isAgg283
  z85 := Tryz.sizeOf283
  v85 := Tryz.zeroValue283
  t127 := underlying146
  a127 := Tryz.isAgg146
  z127 := Tryz.sizeOf146
  v127 := Tryz.zeroValue146
  t143 := underlying323
  a143 := Tryz.isAgg323
  z143 := Tryz.sizeOf323
  v143 := Tryz.zeroValue323
  t145 := underlying325
  a145 := Tryz.isAgg325
  z145 := Tryz.sizeOf325
  v145 := Tryz.zeroValue325
  t167 := underlying282
  a167 := Tryz.isAgg282
  z167 := Tryz.sizeOf282
  v167 := Tryz.zeroValue282
  t168 := underlying285
  a168 := Tryz.isAgg285
  z168 := Tryz.sizeOf285
  v168 := Tryz.zeroValue285
  t171 := underlying228
  a171 := Tryz.isAgg228
  z171 := Tryz.sizeOf228
  v171 := Tryz.zeroValue228
  t173 := underlying232
  a173 := Tryz.isAgg232
  z173 := Tryz.sizeOf232
  v173 := Tryz.zeroValue232
  t175 := underlying307
  a175 := Tryz.isAgg307
  z175 := Tryz.sizeOf307
  v175 := Tryz.zeroValue307
  t210 := underlying311
  a210 := Tryz.isAgg311
  z210 := Tryz.sizeOf311
  v210 := Tryz.zeroValue311
  t212 := underlying256
  a212 := Tryz.isAgg256
  z212 := Tryz.sizeOf256
  v212 := Tryz.zeroValue256
  t213 := underlying258
  a213 := Tryz.isAgg258
  z213 := Tryz.sizeOf258
  t232 := underlying316
  a232 := Tryz.isAgg316
  z232 := Tryz.sizeOf316
  v232 := Tryz.zeroValue316
  t233 := underlying317
  a233 := Tryz.isAgg317
  z233 := Tryz.sizeOf317
  v233 := Tryz.zeroValue317
  g15 := by kernel_rfl
  g16 := by kernel_rfl
  g17 := by kernel_rfl
  g18 := by kernel_rfl
  g19 := by kernel_rfl }
open Go.RowKit in
theorem Tryz.strconv_Atoi (s : ByteArray) (n : Int) (hl : s.size ≤ 18) (h : Lib.atoi s.data.toList = some n) (w : World) :
    Calls prog 178 #[.string s] w fun e w' => e = .returned (.tuple #[.int .i64 n, .nilIface]) ∧ ∃ t, w' = Lib.bytesWorld w 5 t := Any.strconv_Atoi Tryz.lays172 s n hl h w
end Go.Proofs
