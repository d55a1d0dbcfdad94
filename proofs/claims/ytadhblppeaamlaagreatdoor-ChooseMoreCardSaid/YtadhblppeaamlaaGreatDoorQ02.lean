/-
  DERIVED: THE SHELF's CONTRACTS AT THIS DUMP, IN PLAIN WORDS (tools/lay-plain.mjs out of 'TryzShelf.lean', which tools/lay-shelf.mjs wrote): THE SAME DECLARATIONS UNDER THE SAME NAMES: 'import', 'namespace', 'open', 'def', 'theorem' AND NOTHING ELSE: no command of the shelf's: FOR A HAND-IN. Each laying: the table of numbers ('.._ren') and one theorem, a field a fact of the dump's own or the kernel's comparison; each contract: ONE APPLICATION.
-/
import Derived.Test.YtadhblppeaamlaaGreatDoorProg
import Derived.Shelf.Strings.SlTrimAscii
import Derived.Shelf.Strings.Repeat
import Derived.Shelf.Strconv.Atoi
import Derived.Shelf.Strings.Search2
import Derived.Shelf.Strings.Prefix
import Derived.Shelf.Small.Strs
namespace Go.Proofs
open Go.Shelf
def Tryz.lays162_ren : Go.Shelf.Ren := ⟨fun | 162 => 103 | 232 => 113 | 227 => 114 | 234 => 116 | 236 => 118 | 228 => 125 | 271 => 128 | 151 => 127 | 120 => 135 | 197 => 126 | 152 => 134 | 260 => 133 | 137 => 141 | 119 => 142 | 224 => 123 | 225 => 122 | 217 => 121 | 266 => 131 | n => n, fun | 9 => 9 | 4 => 4 | 3 => 3 | 5 => 5 | 117 => 137 | 116 => 136 | 0 => 0 | 124 => 140 | 21 => 21 | 105 => 149 | 46 => 147 | 119 => 163 | 139 => 166 | 138 => 165 | n => n, fun | 3 => 1 | 4 => 2 | n => n⟩
theorem Tryz.lays162 : Go.Proofs.Lays.n162 Tryz.prog Tryz.lays162_ren := {
  mixed := by kernel_rfl
  f119 := Tryz.func142.trans (congrArg some (by kernel_rfl))
  f120 := Tryz.func135.trans (congrArg some (by kernel_rfl))
  f137 := Tryz.func141.trans (congrArg some (by kernel_rfl))
  f151 := Tryz.func127.trans (congrArg some (by kernel_rfl))
  f152 := Tryz.func134.trans (congrArg some (by kernel_rfl))
  f162 := Tryz.func103.trans (congrArg some (by kernel_rfl))
  f197 := Tryz.func126.trans (congrArg some (by kernel_rfl))
  f217 := Tryz.func121.trans (congrArg some (by kernel_rfl))
  f224 := Tryz.func123.trans (congrArg some (by kernel_rfl))
  f225 := Tryz.func122.trans (congrArg some (by kernel_rfl))
  f227 := Tryz.func114.trans (congrArg some (by kernel_rfl))
  f228 := Tryz.func125.trans (congrArg some (by kernel_rfl))
  f232 := Tryz.func113.trans (congrArg some (by kernel_rfl))
  f234 := Tryz.func116.trans (congrArg some (by kernel_rfl))
  f236 := Tryz.func118.trans (congrArg some (by kernel_rfl))
  f260 := Tryz.func133.trans (congrArg some (by kernel_rfl))
  f266 := Tryz.func131.trans (congrArg some (by kernel_rfl))
  f271 := Tryz.func128.trans (congrArg some (by kernel_rfl))
  t0 := Tryz.underlying0
  a0 := Tryz.isAgg0
  z0 := Tryz.sizeOf0
  v0 := Tryz.zeroValue0
  t3 := Tryz.underlying3
  a3 := Tryz.isAgg3
  z3 := Tryz.sizeOf3
  v3 := Tryz.zeroValue3
  t4 := Tryz.underlying4
  a4 := Tryz.isAgg4
  z4 := Tryz.sizeOf4
  v4 := Tryz.zeroValue4
  t5 := Tryz.underlying5
  a5 := Tryz.isAgg5
  z5 := Tryz.sizeOf5
  v5 := Tryz.zeroValue5
  t9 := Tryz.underlying9
  a9 := Tryz.isAgg9
  z9 := Tryz.sizeOf9
  v9 := Tryz.zeroValue9
  t21 := Tryz.underlying21
  a21 := Tryz.isAgg21
  z21 := Tryz.sizeOf21
  v21 := Tryz.zeroValue21
  t46 := Tryz.underlying147
  a46 := Tryz.isAgg147
  z46 := Tryz.sizeOf147
  v46 := Tryz.zeroValue147
  t105 := Tryz.underlying149
  a105 := Tryz.isAgg149
  z105 := Tryz.sizeOf149
  v105 := Tryz.zeroValue149
  t116 := Tryz.underlying136
  a116 := Tryz.isAgg136
  z116 := Tryz.sizeOf136
  t117 := Tryz.underlying137
  a117 := Tryz.isAgg137
  z117 := Tryz.sizeOf137
  v117 := Tryz.zeroValue137
  t119 := Tryz.underlying163
  a119 := Tryz.isAgg163
  z119 := Tryz.sizeOf163
  t124 := Tryz.underlying140
  a124 := Tryz.isAgg140
  z124 := Tryz.sizeOf140
  v124 := Tryz.zeroValue140
  t138 := Tryz.underlying165
  a138 := Tryz.isAgg165
  z138 := Tryz.sizeOf165
  v138 := Tryz.zeroValue165
  t139 := Tryz.underlying166
  a139 := Tryz.isAgg166
  z139 := Tryz.sizeOf166
  v139 := Tryz.zeroValue166
  g3 := by kernel_rfl
  g4 := by kernel_rfl }
open Go.RowKit in
/-- strings.TrimRight: "TrimRight returns a slice of the string s, with all trailing Unicode code points contained in cutset removed.": AT A cutset OF ONE ASCII BYTE. The world is as it was. (LAID: no walk: one application.) -/
theorem Tryz.strings_TrimRight_one (s : ByteArray) (c : UInt8) (hc : c.toNat < 128) (w : World) (hs : s.size ≤ 9223372036854775807) :
    Calls Tryz.prog 103 #[.string s, .string ⟨#[c]⟩] w fun e w' => e = .returned (.string ⟨(Lib.trimRightB s.data.toList c).toArray⟩) ∧ w' = w := Any.strings_TrimRight_one Tryz.lays162 s c hc w hs
def Tryz.lays160_ren : Go.Shelf.Ren := ⟨fun | 160 => 101 | 232 => 113 | 231 => 112 | 227 => 114 | 234 => 116 | 233 => 115 | 236 => 118 | 235 => 117 | 228 => 125 | 271 => 128 | 151 => 127 | 197 => 126 | 120 => 135 | 152 => 134 | 260 => 133 | 137 => 141 | 119 => 142 | 224 => 123 | 225 => 122 | 217 => 121 | 266 => 131 | n => n, fun | 9 => 9 | 4 => 4 | 3 => 3 | 5 => 5 | 117 => 137 | 116 => 136 | 0 => 0 | 124 => 140 | 21 => 21 | 105 => 149 | 46 => 147 | 119 => 163 | 139 => 166 | 138 => 165 | n => n, fun | 3 => 1 | 4 => 2 | n => n⟩
theorem Tryz.lays160 : Go.Proofs.Lays.n160 Tryz.prog Tryz.lays160_ren := {
  mixed := by kernel_rfl
  f119 := Tryz.func142.trans (congrArg some (by kernel_rfl))
  f120 := Tryz.func135.trans (congrArg some (by kernel_rfl))
  f137 := Tryz.func141.trans (congrArg some (by kernel_rfl))
  f151 := Tryz.func127.trans (congrArg some (by kernel_rfl))
  f152 := Tryz.func134.trans (congrArg some (by kernel_rfl))
  f160 := Tryz.func101.trans (congrArg some (by kernel_rfl))
  f197 := Tryz.func126.trans (congrArg some (by kernel_rfl))
  f217 := Tryz.func121.trans (congrArg some (by kernel_rfl))
  f224 := Tryz.func123.trans (congrArg some (by kernel_rfl))
  f225 := Tryz.func122.trans (congrArg some (by kernel_rfl))
  f227 := Tryz.func114.trans (congrArg some (by kernel_rfl))
  f228 := Tryz.func125.trans (congrArg some (by kernel_rfl))
  f231 := Tryz.func112.trans (congrArg some (by kernel_rfl))
  f232 := Tryz.func113.trans (congrArg some (by kernel_rfl))
  f233 := Tryz.func115.trans (congrArg some (by kernel_rfl))
  f234 := Tryz.func116.trans (congrArg some (by kernel_rfl))
  f235 := Tryz.func117.trans (congrArg some (by kernel_rfl))
  f236 := Tryz.func118.trans (congrArg some (by kernel_rfl))
  f260 := Tryz.func133.trans (congrArg some (by kernel_rfl))
  f266 := Tryz.func131.trans (congrArg some (by kernel_rfl))
  f271 := Tryz.func128.trans (congrArg some (by kernel_rfl))
  t0 := Tryz.underlying0
  a0 := Tryz.isAgg0
  z0 := Tryz.sizeOf0
  v0 := Tryz.zeroValue0
  t3 := Tryz.underlying3
  a3 := Tryz.isAgg3
  z3 := Tryz.sizeOf3
  v3 := Tryz.zeroValue3
  t4 := Tryz.underlying4
  a4 := Tryz.isAgg4
  z4 := Tryz.sizeOf4
  v4 := Tryz.zeroValue4
  t5 := Tryz.underlying5
  a5 := Tryz.isAgg5
  z5 := Tryz.sizeOf5
  v5 := Tryz.zeroValue5
  t9 := Tryz.underlying9
  a9 := Tryz.isAgg9
  z9 := Tryz.sizeOf9
  v9 := Tryz.zeroValue9
  t21 := Tryz.underlying21
  a21 := Tryz.isAgg21
  z21 := Tryz.sizeOf21
  v21 := Tryz.zeroValue21
  t46 := Tryz.underlying147
  a46 := Tryz.isAgg147
  z46 := Tryz.sizeOf147
  v46 := Tryz.zeroValue147
  t105 := Tryz.underlying149
  a105 := Tryz.isAgg149
  z105 := Tryz.sizeOf149
  v105 := Tryz.zeroValue149
  t116 := Tryz.underlying136
  a116 := Tryz.isAgg136
  z116 := Tryz.sizeOf136
  t117 := Tryz.underlying137
  a117 := Tryz.isAgg137
  z117 := Tryz.sizeOf137
  v117 := Tryz.zeroValue137
  t119 := Tryz.underlying163
  a119 := Tryz.isAgg163
  z119 := Tryz.sizeOf163
  t124 := Tryz.underlying140
  a124 := Tryz.isAgg140
  z124 := Tryz.sizeOf140
  v124 := Tryz.zeroValue140
  t138 := Tryz.underlying165
  a138 := Tryz.isAgg165
  z138 := Tryz.sizeOf165
  v138 := Tryz.zeroValue165
  t139 := Tryz.underlying166
  a139 := Tryz.isAgg166
  z139 := Tryz.sizeOf166
  v139 := Tryz.zeroValue166
  g3 := by kernel_rfl
  g4 := by kernel_rfl }
open Go.RowKit in
/-- strings.Trim: "Trim returns a slice of the string s with all leading and trailing Unicode code points contained in cutset removed.": AT A cutset OF ONE ASCII BYTE. THE WORLD BEHIND IT: as it was, or (where s is not empty) with ONE DRAW MORE off the tape: the statement 'return trimLeftByte(trimRightByte(s, c), c)' draws its order of evaluation. (LAID: no walk: one application.) -/
theorem Tryz.strings_Trim_one (s : ByteArray) (c : UInt8) (hc : c.toNat < 128) (w : World) (hs : s.size ≤ 9223372036854775807) :
    Calls Tryz.prog 101 #[.string s, .string ⟨#[c]⟩] w fun e w' => e = .returned (.string ⟨(Lib.trimB s.data.toList c).toArray⟩) ∧ (w' = w ∨ w' = w.drew) := Any.strings_Trim_one Tryz.lays160 s c hc w hs
def Tryz.lays172_ren : Go.Shelf.Ren := ⟨fun | 172 => 119 | 244 => 129 | 245 => 130 | 247 => 136 | 279 => 137 | 280 => 138 | 281 => 139 | 282 => 140 | 287 => 143 | 316 => 144 | 171 => 146 | 205 => 145 | 321 => 147 | 322 => 148 | 243 => 149 | 246 => 150 | 283 => 151 | 284 => 152 | 285 => 153 | 286 => 154 | 129 => 156 | 317 => 155 | 318 => 157 | 319 => 158 | 320 => 159 | 337 => 160 | 338 => 161 | n => n, fun | 9 => 9 | 3 => 3 | 75 => 142 | 76 => 143 | 4 => 4 | 5 => 5 | 167 => 157 | 37 => 106 | 0 => 0 | 85 => 158 | 2 => 2 | 168 => 160 | 53 => 168 | 175 => 169 | 46 => 147 | 210 => 172 | 127 => 175 | 145 => 178 | 143 => 176 | 21 => 21 | 171 => 180 | 173 => 183 | 212 => 186 | 51 => 153 | 20 => 20 | 213 => 187 | 232 => 190 | 233 => 191 | 80 => 192 | n => n, fun | 15 => 3 | 16 => 4 | 17 => 5 | 18 => 6 | 19 => 7 | n => n⟩
theorem Tryz.lays172 : Go.Proofs.Lays.n172 Tryz.prog Tryz.lays172_ren := {
  mixed := by kernel_rfl
  f129 := Tryz.func156.trans (congrArg some (by kernel_rfl))
  f171 := Tryz.func146.trans (congrArg some (by kernel_rfl))
  f172 := Tryz.func119.trans (congrArg some (by kernel_rfl))
  f205 := Tryz.func145.trans (congrArg some (by kernel_rfl))
  f243 := Tryz.func149.trans (congrArg some (by kernel_rfl))
  f244 := Tryz.func129.trans (congrArg some (by kernel_rfl))
  f245 := Tryz.func130.trans (congrArg some (by kernel_rfl))
  f246 := Tryz.func150.trans (congrArg some (by kernel_rfl))
  f247 := Tryz.func136.trans (congrArg some (by kernel_rfl))
  f279 := Tryz.func137.trans (congrArg some (by kernel_rfl))
  f280 := Tryz.func138.trans (congrArg some (by kernel_rfl))
  f281 := Tryz.func139.trans (congrArg some (by kernel_rfl))
  f282 := Tryz.func140.trans (congrArg some (by kernel_rfl))
  f283 := Tryz.func151.trans (congrArg some (by kernel_rfl))
  f284 := Tryz.func152.trans (congrArg some (by kernel_rfl))
  f285 := Tryz.func153.trans (congrArg some (by kernel_rfl))
  f286 := Tryz.func154.trans (congrArg some (by kernel_rfl))
  f287 := Tryz.func143.trans (congrArg some (by kernel_rfl))
  f316 := Tryz.func144.trans (congrArg some (by kernel_rfl))
  f317 := Tryz.func155.trans (congrArg some (by kernel_rfl))
  f318 := Tryz.func157.trans (congrArg some (by kernel_rfl))
  f319 := Tryz.func158.trans (congrArg some (by kernel_rfl))
  f320 := Tryz.func159.trans (congrArg some (by kernel_rfl))
  f321 := Tryz.func147.trans (congrArg some (by kernel_rfl))
  f322 := Tryz.func148.trans (congrArg some (by kernel_rfl))
  f337 := Tryz.func160.trans (congrArg some (by kernel_rfl))
  f338 := Tryz.func161.trans (congrArg some (by kernel_rfl))
  t0 := Tryz.underlying0
  a0 := Tryz.isAgg0
  z0 := Tryz.sizeOf0
  v0 := Tryz.zeroValue0
  t2 := Tryz.underlying2
  a2 := Tryz.isAgg2
  z2 := Tryz.sizeOf2
  v2 := Tryz.zeroValue2
  t3 := Tryz.underlying3
  a3 := Tryz.isAgg3
  z3 := Tryz.sizeOf3
  v3 := Tryz.zeroValue3
  t4 := Tryz.underlying4
  a4 := Tryz.isAgg4
  z4 := Tryz.sizeOf4
  v4 := Tryz.zeroValue4
  t5 := Tryz.underlying5
  a5 := Tryz.isAgg5
  z5 := Tryz.sizeOf5
  v5 := Tryz.zeroValue5
  t9 := Tryz.underlying9
  a9 := Tryz.isAgg9
  z9 := Tryz.sizeOf9
  v9 := Tryz.zeroValue9
  t20 := Tryz.underlying20
  a20 := Tryz.isAgg20
  z20 := Tryz.sizeOf20
  v20 := Tryz.zeroValue20
  t21 := Tryz.underlying21
  a21 := Tryz.isAgg21
  z21 := Tryz.sizeOf21
  v21 := Tryz.zeroValue21
  t37 := Tryz.underlying106
  a37 := Tryz.isAgg106
  z37 := Tryz.sizeOf106
  v37 := Tryz.zeroValue106
  t46 := Tryz.underlying147
  a46 := Tryz.isAgg147
  z46 := Tryz.sizeOf147
  v46 := Tryz.zeroValue147
  t51 := Tryz.underlying153
  a51 := Tryz.isAgg153
  z51 := Tryz.sizeOf153
  v51 := Tryz.zeroValue153
  t53 := Tryz.underlying168
  a53 := Tryz.isAgg168
  z53 := Tryz.sizeOf168
  v53 := Tryz.zeroValue168
  t75 := Tryz.underlying142
  a75 := Tryz.isAgg142
  z75 := Tryz.sizeOf142
  v75 := Tryz.zeroValue142
  t76 := Tryz.underlying143
  a76 := Tryz.isAgg143
  z76 := Tryz.sizeOf143
  v76 := Tryz.zeroValue143
  t85 := Tryz.underlying158
  a85 := Tryz.isAgg158
  z85 := Tryz.sizeOf158
  v85 := Tryz.zeroValue158
  t127 := Tryz.underlying175
  a127 := Tryz.isAgg175
  z127 := Tryz.sizeOf175
  v127 := Tryz.zeroValue175
  t143 := Tryz.underlying176
  a143 := Tryz.isAgg176
  z143 := Tryz.sizeOf176
  v143 := Tryz.zeroValue176
  t145 := Tryz.underlying178
  a145 := Tryz.isAgg178
  z145 := Tryz.sizeOf178
  v145 := Tryz.zeroValue178
  t167 := Tryz.underlying157
  a167 := Tryz.isAgg157
  z167 := Tryz.sizeOf157
  v167 := Tryz.zeroValue157
  t168 := Tryz.underlying160
  a168 := Tryz.isAgg160
  z168 := Tryz.sizeOf160
  v168 := Tryz.zeroValue160
  t171 := Tryz.underlying180
  a171 := Tryz.isAgg180
  z171 := Tryz.sizeOf180
  v171 := Tryz.zeroValue180
  t173 := Tryz.underlying183
  a173 := Tryz.isAgg183
  z173 := Tryz.sizeOf183
  v173 := Tryz.zeroValue183
  t175 := Tryz.underlying169
  a175 := Tryz.isAgg169
  z175 := Tryz.sizeOf169
  v175 := Tryz.zeroValue169
  t210 := Tryz.underlying172
  a210 := Tryz.isAgg172
  z210 := Tryz.sizeOf172
  v210 := Tryz.zeroValue172
  t212 := Tryz.underlying186
  a212 := Tryz.isAgg186
  z212 := Tryz.sizeOf186
  v212 := Tryz.zeroValue186
  t213 := Tryz.underlying187
  a213 := Tryz.isAgg187
  z213 := Tryz.sizeOf187
  t232 := Tryz.underlying190
  a232 := Tryz.isAgg190
  z232 := Tryz.sizeOf190
  v232 := Tryz.zeroValue190
  t233 := Tryz.underlying191
  a233 := Tryz.isAgg191
  z233 := Tryz.sizeOf191
  v233 := Tryz.zeroValue191
  g15 := by kernel_rfl
  g16 := by kernel_rfl
  g17 := by kernel_rfl
  g18 := by kernel_rfl
  g19 := by kernel_rfl }
open Go.RowKit in
/-- strconv.Atoi: "Atoi is equivalent to ParseInt(s, 10, 0), converted to type int.": AT A DECIMAL NUMERAL OF AT MOST 18 BYTES: its value, and a nil error. The world behind the call: the one new row that the library's '[]byte(s)' lays. (LAID: no walk: one application.) -/
theorem Tryz.strconv_Atoi (s : ByteArray) (n : Int) (hl : s.size ≤ 18) (h : Lib.atoi s.data.toList = some n) (w : World) :
    Calls Tryz.prog 119 #[.string s] w fun e w' => e = .returned (.tuple #[.int .i64 n, .nilIface]) ∧ ∃ t, w' = Lib.bytesWorld w 5 t := Any.strconv_Atoi Tryz.lays172 s n hl h w
def Tryz.lays219_ren : Go.Shelf.Ren := ⟨fun | 219 => 111 | 217 => 121 | 225 => 122 | 224 => 123 | 267 => 124 | 266 => 131 | 314 => 132 | n => n, fun | 9 => 9 | 3 => 3 | 4 => 4 | 5 => 5 | 46 => 147 | 146 => 154 | 51 => 153 | n => n, fun | 1 => 0 | n => n⟩
theorem Tryz.lays219 : Go.Proofs.Lays.n219 Tryz.prog Tryz.lays219_ren := {
  mixed := by kernel_rfl
  f217 := Tryz.func121.trans (congrArg some (by kernel_rfl))
  f219 := Tryz.func111.trans (congrArg some (by kernel_rfl))
  f224 := Tryz.func123.trans (congrArg some (by kernel_rfl))
  f225 := Tryz.func122.trans (congrArg some (by kernel_rfl))
  f266 := Tryz.func131.trans (congrArg some (by kernel_rfl))
  f267 := Tryz.func124.trans (congrArg some (by kernel_rfl))
  f314 := Tryz.func132.trans (congrArg some (by kernel_rfl))
  t3 := Tryz.underlying3
  a3 := Tryz.isAgg3
  z3 := Tryz.sizeOf3
  v3 := Tryz.zeroValue3
  t4 := Tryz.underlying4
  a4 := Tryz.isAgg4
  z4 := Tryz.sizeOf4
  v4 := Tryz.zeroValue4
  t5 := Tryz.underlying5
  a5 := Tryz.isAgg5
  z5 := Tryz.sizeOf5
  v5 := Tryz.zeroValue5
  t9 := Tryz.underlying9
  a9 := Tryz.isAgg9
  z9 := Tryz.sizeOf9
  v9 := Tryz.zeroValue9
  t46 := Tryz.underlying147
  a46 := Tryz.isAgg147
  z46 := Tryz.sizeOf147
  v46 := Tryz.zeroValue147
  t51 := Tryz.underlying153
  a51 := Tryz.isAgg153
  z51 := Tryz.sizeOf153
  v51 := Tryz.zeroValue153
  t146 := Tryz.underlying154
  a146 := Tryz.isAgg154
  z146 := Tryz.sizeOf154
  v146 := Tryz.zeroValue154
  g1 := by kernel_rfl }
open Go.RowKit Go.Lib in
/-- internal/stringslite.Index (what strings.Index calls) AT A substr OF ONE BYTE c: IT RETURNS 'Lib.indexByte s c'; the world is as it was. (LAID: no walk: one application.) -/
theorem Tryz.stringslite_Index_one (s : ByteArray) (c : UInt8) (w : World) :
    Calls Tryz.prog 111 #[.string s, .string ⟨#[c]⟩] w fun e w' => e = .returned (.int .i64 (Lib.indexByte s.data.toList c)) ∧ w' = w := Any.stringslite_Index_one Tryz.lays219 s c w
open Go.RowKit Go.Lib in
/-- internal/stringslite.Index (what strings.Index calls) AT A substr OF WHATEVER LENGTH: IT RETURNS 'Lib.index s substr'; the world is as it was. 'm': what internal/bytealg.MaxLen holds: whatever. (LAID: no walk: one application.) -/
theorem Tryz.stringslite_Index (s sub : ByteArray) (m : Int) (w : World) (hs : s.size < 4294967281) (hm : w.cell? ⟨0, 0, none⟩ = some (.int .i64 m)) :
    Calls Tryz.prog 111 #[.string s, .string sub] w fun e w' => e = .returned (.int .i64 (Lib.index s.data.toList sub.data.toList)) ∧ w' = w := Any.stringslite_Index Tryz.lays219 s sub m w hs hm
def Tryz.lays206_ren : Go.Shelf.Ren := ⟨fun | 206 => 110 | n => n, fun | 9 => 9 | 4 => 4 | 3 => 3 | n => n, fun | n => n⟩
theorem Tryz.lays206 : Go.Proofs.Lays.n206 Tryz.prog Tryz.lays206_ren := {
  mixed := by kernel_rfl
  f206 := Tryz.func110.trans (congrArg some (by kernel_rfl))
  t3 := Tryz.underlying3
  a3 := Tryz.isAgg3
  z3 := Tryz.sizeOf3
  v3 := Tryz.zeroValue3
  t4 := Tryz.underlying4
  a4 := Tryz.isAgg4
  z4 := Tryz.sizeOf4
  v4 := Tryz.zeroValue4
  t9 := Tryz.underlying9
  a9 := Tryz.isAgg9
  z9 := Tryz.sizeOf9
  v9 := Tryz.zeroValue9 }
open Go.RowKit Go.Lib in
/-- internal/stringslite.HasPrefix (what strings.HasPrefix calls). (LAID: no walk: one application.) -/
theorem Tryz.stringslite_HasPrefix (s p : ByteArray) (w : World) :
    Calls Tryz.prog 110 #[.string s, .string p] w fun e w' => e = .returned (.bool (Lib.hasPrefix s.data.toList p.data.toList)) ∧ w' = w := Any.stringslite_HasPrefix Tryz.lays206 s p w
end Go.Proofs
