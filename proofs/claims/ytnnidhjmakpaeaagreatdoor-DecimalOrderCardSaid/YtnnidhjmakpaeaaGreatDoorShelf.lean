/-
  DERIVED: THE SHELF's CONTRACTS AT THIS DUMP, IN PLAIN WORDS (tools/lay-plain.mjs out of 'TryzShelf.lean', which tools/lay-shelf.mjs wrote): THE SAME DECLARATIONS UNDER THE SAME NAMES: 'import', 'namespace', 'open', 'def', 'theorem' AND NOTHING ELSE: no command of the shelf's: FOR A HAND-IN. Each laying: the table of numbers ('.._ren') and one theorem, a field a fact of the dump's own or the kernel's comparison; each contract: ONE APPLICATION.
-/
import Derived.Test.YtnnidhjmakpaeaaGreatDoorProg
import Derived.Shelf.Strings.SlTrimAscii
import Derived.Shelf.Strings.Repeat
import Derived.Shelf.Strconv.Atoi
import Derived.Shelf.Strings.Search2
import Derived.Shelf.Strings.Prefix
import Derived.Shelf.Small.Strs
namespace Go.Proofs
open Go.Shelf
def Tryz.lays161_ren : Go.Shelf.Ren := ⟨fun | 161 => 44 | 231 => 61 | 227 => 46 | 233 => 62 | 235 => 63 | 228 => 64 | 197 => 72 | 151 => 66 | 260 => 84 | 152 => 74 | 137 => 85 | 119 => 86 | 224 => 82 | 225 => 81 | 217 => 80 | 266 => 91 | n => n, fun | 9 => 9 | 4 => 4 | 3 => 3 | 5 => 5 | 117 => 77 | 116 => 76 | 0 => 0 | 124 => 80 | 105 => 91 | 21 => 21 | 119 => 115 | 46 => 61 | 139 => 118 | 138 => 117 | n => n, fun | 3 => 3 | 4 => 4 | n => n⟩
theorem Tryz.lays161 : Go.Proofs.Lays.n161 Tryz.prog Tryz.lays161_ren := {
  mixed := by kernel_rfl
  f119 := Tryz.func86.trans (congrArg some (by kernel_rfl))
  f137 := Tryz.func85.trans (congrArg some (by kernel_rfl))
  f151 := Tryz.func66.trans (congrArg some (by kernel_rfl))
  f152 := Tryz.func74.trans (congrArg some (by kernel_rfl))
  f161 := Tryz.func44.trans (congrArg some (by kernel_rfl))
  f197 := Tryz.func72.trans (congrArg some (by kernel_rfl))
  f217 := Tryz.func80.trans (congrArg some (by kernel_rfl))
  f224 := Tryz.func82.trans (congrArg some (by kernel_rfl))
  f225 := Tryz.func81.trans (congrArg some (by kernel_rfl))
  f227 := Tryz.func46.trans (congrArg some (by kernel_rfl))
  f228 := Tryz.func64.trans (congrArg some (by kernel_rfl))
  f231 := Tryz.func61.trans (congrArg some (by kernel_rfl))
  f233 := Tryz.func62.trans (congrArg some (by kernel_rfl))
  f235 := Tryz.func63.trans (congrArg some (by kernel_rfl))
  f260 := Tryz.func84.trans (congrArg some (by kernel_rfl))
  f266 := Tryz.func91.trans (congrArg some (by kernel_rfl))
  t0 := Tryz.underlying0
  a0 := Tryz.isAgg0
  z0 := Tryz.sizeOf0
  v0 := Tryz.zeroValue0
  t3 := Tryz.underlying3
  a3 := Tryz.isAgg3
  z3 := Tryz.sizeOf3
  v3 := Tryz.zeroValue3
  t4 := Tryz.underlying4
  a4 := Tryz.isAgg4
  z4 := Tryz.sizeOf4
  v4 := Tryz.zeroValue4
  t5 := Tryz.underlying5
  a5 := Tryz.isAgg5
  z5 := Tryz.sizeOf5
  v5 := Tryz.zeroValue5
  t9 := Tryz.underlying9
  a9 := Tryz.isAgg9
  z9 := Tryz.sizeOf9
  v9 := Tryz.zeroValue9
  t21 := Tryz.underlying21
  a21 := Tryz.isAgg21
  z21 := Tryz.sizeOf21
  v21 := Tryz.zeroValue21
  t46 := Tryz.underlying61
  a46 := Tryz.isAgg61
  z46 := Tryz.sizeOf61
  v46 := Tryz.zeroValue61
  t105 := Tryz.underlying91
  a105 := Tryz.isAgg91
  z105 := Tryz.sizeOf91
  v105 := Tryz.zeroValue91
  t116 := Tryz.underlying76
  a116 := Tryz.isAgg76
  z116 := Tryz.sizeOf76
  t117 := Tryz.underlying77
  a117 := Tryz.isAgg77
  z117 := Tryz.sizeOf77
  v117 := Tryz.zeroValue77
  t119 := Tryz.underlying115
  a119 := Tryz.isAgg115
  z119 := Tryz.sizeOf115
  t124 := Tryz.underlying80
  a124 := Tryz.isAgg80
  z124 := Tryz.sizeOf80
  v124 := Tryz.zeroValue80
  t138 := Tryz.underlying117
  a138 := Tryz.isAgg117
  z138 := Tryz.sizeOf117
  v138 := Tryz.zeroValue117
  t139 := Tryz.underlying118
  a139 := Tryz.isAgg118
  z139 := Tryz.sizeOf118
  v139 := Tryz.zeroValue118
  g3 := by kernel_rfl
  g4 := by kernel_rfl }
open Go.RowKit in
/-- strings.TrimLeft: "TrimLeft returns a slice of the string s with all leading Unicode code points contained in cutset removed.": AT A cutset OF ONE ASCII BYTE. The world is as it was. (LAID: no walk: one application.) -/
theorem Tryz.strings_TrimLeft_one (s : ByteArray) (c : UInt8) (hc : c.toNat < 128) (w : World) :
    Calls Tryz.prog 44 #[.string s, .string ⟨#[c]⟩] w fun e w' => e = .returned (.string ⟨(Lib.trimLeftB s.data.toList c).toArray⟩) ∧ w' = w := Any.strings_TrimLeft_one Tryz.lays161 s c hc w
def Tryz.lays162_ren : Go.Shelf.Ren := ⟨fun | 162 => 23 | 232 => 45 | 227 => 46 | 234 => 47 | 236 => 48 | 228 => 64 | 271 => 65 | 151 => 66 | 120 => 73 | 197 => 72 | 152 => 74 | 260 => 84 | 137 => 85 | 119 => 86 | 224 => 82 | 225 => 81 | 217 => 80 | 266 => 91 | n => n, fun | 9 => 9 | 4 => 4 | 3 => 3 | 5 => 5 | 117 => 77 | 116 => 76 | 0 => 0 | 124 => 80 | 21 => 21 | 105 => 91 | 46 => 61 | 119 => 115 | 139 => 118 | 138 => 117 | n => n, fun | 3 => 3 | 4 => 4 | n => n⟩
theorem Tryz.lays162 : Go.Proofs.Lays.n162 Tryz.prog Tryz.lays162_ren := {
  mixed := by kernel_rfl
  f119 := Tryz.func86.trans (congrArg some (by kernel_rfl))
  f120 := Tryz.func73.trans (congrArg some (by kernel_rfl))
  f137 := Tryz.func85.trans (congrArg some (by kernel_rfl))
  f151 := Tryz.func66.trans (congrArg some (by kernel_rfl))
  f152 := Tryz.func74.trans (congrArg some (by kernel_rfl))
  f162 := Tryz.func23.trans (congrArg some (by kernel_rfl))
  f197 := Tryz.func72.trans (congrArg some (by kernel_rfl))
  f217 := Tryz.func80.trans (congrArg some (by kernel_rfl))
  f224 := Tryz.func82.trans (congrArg some (by kernel_rfl))
  f225 := Tryz.func81.trans (congrArg some (by kernel_rfl))
  f227 := Tryz.func46.trans (congrArg some (by kernel_rfl))
  f228 := Tryz.func64.trans (congrArg some (by kernel_rfl))
  f232 := Tryz.func45.trans (congrArg some (by kernel_rfl))
  f234 := Tryz.func47.trans (congrArg some (by kernel_rfl))
  f236 := Tryz.func48.trans (congrArg some (by kernel_rfl))
  f260 := Tryz.func84.trans (congrArg some (by kernel_rfl))
  f266 := Tryz.func91.trans (congrArg some (by kernel_rfl))
  f271 := Tryz.func65.trans (congrArg some (by kernel_rfl))
  t0 := Tryz.underlying0
  a0 := Tryz.isAgg0
  z0 := Tryz.sizeOf0
  v0 := Tryz.zeroValue0
  t3 := Tryz.underlying3
  a3 := Tryz.isAgg3
  z3 := Tryz.sizeOf3
  v3 := Tryz.zeroValue3
  t4 := Tryz.underlying4
  a4 := Tryz.isAgg4
  z4 := Tryz.sizeOf4
  v4 := Tryz.zeroValue4
  t5 := Tryz.underlying5
  a5 := Tryz.isAgg5
  z5 := Tryz.sizeOf5
  v5 := Tryz.zeroValue5
  t9 := Tryz.underlying9
  a9 := Tryz.isAgg9
  z9 := Tryz.sizeOf9
  v9 := Tryz.zeroValue9
  t21 := Tryz.underlying21
  a21 := Tryz.isAgg21
  z21 := Tryz.sizeOf21
  v21 := Tryz.zeroValue21
  t46 := Tryz.underlying61
  a46 := Tryz.isAgg61
  z46 := Tryz.sizeOf61
  v46 := Tryz.zeroValue61
  t105 := Tryz.underlying91
  a105 := Tryz.isAgg91
  z105 := Tryz.sizeOf91
  v105 := Tryz.zeroValue91
  t116 := Tryz.underlying76
  a116 := Tryz.isAgg76
  z116 := Tryz.sizeOf76
  t117 := Tryz.underlying77
  a117 := Tryz.isAgg77
  z117 := Tryz.sizeOf77
  v117 := Tryz.zeroValue77
  t119 := Tryz.underlying115
  a119 := Tryz.isAgg115
  z119 := Tryz.sizeOf115
  t124 := Tryz.underlying80
  a124 := Tryz.isAgg80
  z124 := Tryz.sizeOf80
  v124 := Tryz.zeroValue80
  t138 := Tryz.underlying117
  a138 := Tryz.isAgg117
  z138 := Tryz.sizeOf117
  v138 := Tryz.zeroValue117
  t139 := Tryz.underlying118
  a139 := Tryz.isAgg118
  z139 := Tryz.sizeOf118
  v139 := Tryz.zeroValue118
  g3 := by kernel_rfl
  g4 := by kernel_rfl }
open Go.RowKit in
/-- strings.TrimRight: "TrimRight returns a slice of the string s, with all trailing Unicode code points contained in cutset removed.": AT A cutset OF ONE ASCII BYTE. The world is as it was. (LAID: no walk: one application.) -/
theorem Tryz.strings_TrimRight_one (s : ByteArray) (c : UInt8) (hc : c.toNat < 128) (w : World) (hs : s.size ≤ 9223372036854775807) :
    Calls Tryz.prog 23 #[.string s, .string ⟨#[c]⟩] w fun e w' => e = .returned (.string ⟨(Lib.trimRightB s.data.toList c).toArray⟩) ∧ w' = w := Any.strings_TrimRight_one Tryz.lays162 s c hc w hs
def Tryz.lays160_ren : Go.Shelf.Ren := ⟨fun | 160 => 52 | 232 => 45 | 231 => 61 | 227 => 46 | 234 => 47 | 233 => 62 | 236 => 48 | 235 => 63 | 228 => 64 | 271 => 65 | 151 => 66 | 197 => 72 | 120 => 73 | 152 => 74 | 260 => 84 | 137 => 85 | 119 => 86 | 224 => 82 | 225 => 81 | 217 => 80 | 266 => 91 | n => n, fun | 9 => 9 | 4 => 4 | 3 => 3 | 5 => 5 | 117 => 77 | 116 => 76 | 0 => 0 | 124 => 80 | 21 => 21 | 105 => 91 | 46 => 61 | 119 => 115 | 139 => 118 | 138 => 117 | n => n, fun | 3 => 3 | 4 => 4 | n => n⟩
theorem Tryz.lays160 : Go.Proofs.Lays.n160 Tryz.prog Tryz.lays160_ren := {
  mixed := by kernel_rfl
  f119 := Tryz.func86.trans (congrArg some (by kernel_rfl))
  f120 := Tryz.func73.trans (congrArg some (by kernel_rfl))
  f137 := Tryz.func85.trans (congrArg some (by kernel_rfl))
  f151 := Tryz.func66.trans (congrArg some (by kernel_rfl))
  f152 := Tryz.func74.trans (congrArg some (by kernel_rfl))
  f160 := Tryz.func52.trans (congrArg some (by kernel_rfl))
  f197 := Tryz.func72.trans (congrArg some (by kernel_rfl))
  f217 := Tryz.func80.trans (congrArg some (by kernel_rfl))
  f224 := Tryz.func82.trans (congrArg some (by kernel_rfl))
  f225 := Tryz.func81.trans (congrArg some (by kernel_rfl))
  f227 := Tryz.func46.trans (congrArg some (by kernel_rfl))
  f228 := Tryz.func64.trans (congrArg some (by kernel_rfl))
  f231 := Tryz.func61.trans (congrArg some (by kernel_rfl))
  f232 := Tryz.func45.trans (congrArg some (by kernel_rfl))
  f233 := Tryz.func62.trans (congrArg some (by kernel_rfl))
  f234 := Tryz.func47.trans (congrArg some (by kernel_rfl))
  f235 := Tryz.func63.trans (congrArg some (by kernel_rfl))
  f236 := Tryz.func48.trans (congrArg some (by kernel_rfl))
  f260 := Tryz.func84.trans (congrArg some (by kernel_rfl))
  f266 := Tryz.func91.trans (congrArg some (by kernel_rfl))
  f271 := Tryz.func65.trans (congrArg some (by kernel_rfl))
  t0 := Tryz.underlying0
  a0 := Tryz.isAgg0
  z0 := Tryz.sizeOf0
  v0 := Tryz.zeroValue0
  t3 := Tryz.underlying3
  a3 := Tryz.isAgg3
  z3 := Tryz.sizeOf3
  v3 := Tryz.zeroValue3
  t4 := Tryz.underlying4
  a4 := Tryz.isAgg4
  z4 := Tryz.sizeOf4
  v4 := Tryz.zeroValue4
  t5 := Tryz.underlying5
  a5 := Tryz.isAgg5
  z5 := Tryz.sizeOf5
  v5 := Tryz.zeroValue5
  t9 := Tryz.underlying9
  a9 := Tryz.isAgg9
  z9 := Tryz.sizeOf9
  v9 := Tryz.zeroValue9
  t21 := Tryz.underlying21
  a21 := Tryz.isAgg21
  z21 := Tryz.sizeOf21
  v21 := Tryz.zeroValue21
  t46 := Tryz.underlying61
  a46 := Tryz.isAgg61
  z46 := Tryz.sizeOf61
  v46 := Tryz.zeroValue61
  t105 := Tryz.underlying91
  a105 := Tryz.isAgg91
  z105 := Tryz.sizeOf91
  v105 := Tryz.zeroValue91
  t116 := Tryz.underlying76
  a116 := Tryz.isAgg76
  z116 := Tryz.sizeOf76
  t117 := Tryz.underlying77
  a117 := Tryz.isAgg77
  z117 := Tryz.sizeOf77
  v117 := Tryz.zeroValue77
  t119 := Tryz.underlying115
  a119 := Tryz.isAgg115
  z119 := Tryz.sizeOf115
  t124 := Tryz.underlying80
  a124 := Tryz.isAgg80
  z124 := Tryz.sizeOf80
  v124 := Tryz.zeroValue80
  t138 := Tryz.underlying117
  a138 := Tryz.isAgg117
  z138 := Tryz.sizeOf117
  v138 := Tryz.zeroValue117
  t139 := Tryz.underlying118
  a139 := Tryz.isAgg118
  z139 := Tryz.sizeOf118
  v139 := Tryz.zeroValue118
  g3 := by kernel_rfl
  g4 := by kernel_rfl }
open Go.RowKit in
/-- strings.Trim: "Trim returns a slice of the string s with all leading and trailing Unicode code points contained in cutset removed.": AT A cutset OF ONE ASCII BYTE. THE WORLD BEHIND IT: as it was, or (where s is not empty) with ONE DRAW MORE off the tape: the statement 'return trimLeftByte(trimRightByte(s, c), c)' draws its order of evaluation. (LAID: no walk: one application.) -/
theorem Tryz.strings_Trim_one (s : ByteArray) (c : UInt8) (hc : c.toNat < 128) (w : World) (hs : s.size ≤ 9223372036854775807) :
    Calls Tryz.prog 52 #[.string s, .string ⟨#[c]⟩] w fun e w' => e = .returned (.string ⟨(Lib.trimB s.data.toList c).toArray⟩) ∧ (w' = w ∨ w' = w.drew) := Any.strings_Trim_one Tryz.lays160 s c hc w hs
def Tryz.lays172_ren : Go.Shelf.Ren := ⟨fun | 172 => 49 | 244 => 67 | 245 => 68 | 247 => 75 | 279 => 76 | 280 => 77 | 281 => 78 | 282 => 79 | 287 => 87 | 316 => 88 | 171 => 90 | 205 => 89 | 321 => 93 | 322 => 94 | 243 => 95 | 246 => 96 | 283 => 97 | 284 => 98 | 285 => 99 | 286 => 100 | 129 => 102 | 317 => 101 | 318 => 103 | 319 => 104 | 320 => 105 | 337 => 106 | 338 => 107 | n => n, fun | 9 => 9 | 3 => 3 | 75 => 70 | 76 => 71 | 4 => 4 | 5 => 5 | 167 => 99 | 37 => 65 | 0 => 0 | 85 => 100 | 2 => 2 | 168 => 102 | 53 => 86 | 175 => 108 | 46 => 61 | 210 => 111 | 127 => 89 | 145 => 122 | 143 => 120 | 21 => 21 | 171 => 124 | 173 => 127 | 212 => 130 | 51 => 83 | 20 => 20 | 213 => 131 | 232 => 134 | 233 => 135 | 80 => 52 | n => n, fun | 15 => 1 | 16 => 2 | 17 => 5 | 18 => 6 | 19 => 7 | n => n⟩
theorem Tryz.lays172 : Go.Proofs.Lays.n172 Tryz.prog Tryz.lays172_ren := {
  mixed := by kernel_rfl
  f129 := Tryz.func102.trans (congrArg some (by kernel_rfl))
  f171 := Tryz.func90.trans (congrArg some (by kernel_rfl))
  f172 := Tryz.func49.trans (congrArg some (by kernel_rfl))
  f205 := Tryz.func89.trans (congrArg some (by kernel_rfl))
  f243 := Tryz.func95.trans (congrArg some (by kernel_rfl))
  f244 := Tryz.func67.trans (congrArg some (by kernel_rfl))
  f245 := Tryz.func68.trans (congrArg some (by kernel_rfl))
  f246 := Tryz.func96.trans (congrArg some (by kernel_rfl))
  f247 := Tryz.func75.trans (congrArg some (by kernel_rfl))
  f279 := Tryz.func76.trans (congrArg some (by kernel_rfl))
  f280 := Tryz.func77.trans (congrArg some (by kernel_rfl))
  f281 := Tryz.func78.trans (congrArg some (by kernel_rfl))
  f282 := Tryz.func79.trans (congrArg some (by kernel_rfl))
  f283 := Tryz.func97.trans (congrArg some (by kernel_rfl))
  f284 := Tryz.func98.trans (congrArg some (by kernel_rfl))
  f285 := Tryz.func99.trans (congrArg some (by kernel_rfl))
  f286 := Tryz.func100.trans (congrArg some (by kernel_rfl))
  f287 := Tryz.func87.trans (congrArg some (by kernel_rfl))
  f316 := Tryz.func88.trans (congrArg some (by kernel_rfl))
  f317 := Tryz.func101.trans (congrArg some (by kernel_rfl))
  f318 := Tryz.func103.trans (congrArg some (by kernel_rfl))
  f319 := Tryz.func104.trans (congrArg some (by kernel_rfl))
  f320 := Tryz.func105.trans (congrArg some (by kernel_rfl))
  f321 := Tryz.func93.trans (congrArg some (by kernel_rfl))
  f322 := Tryz.func94.trans (congrArg some (by kernel_rfl))
  f337 := Tryz.func106.trans (congrArg some (by kernel_rfl))
  f338 := Tryz.func107.trans (congrArg some (by kernel_rfl))
  t0 := Tryz.underlying0
  a0 := Tryz.isAgg0
  z0 := Tryz.sizeOf0
  v0 := Tryz.zeroValue0
  t2 := Tryz.underlying2
  a2 := Tryz.isAgg2
  z2 := Tryz.sizeOf2
  v2 := Tryz.zeroValue2
  t3 := Tryz.underlying3
  a3 := Tryz.isAgg3
  z3 := Tryz.sizeOf3
  v3 := Tryz.zeroValue3
  t4 := Tryz.underlying4
  a4 := Tryz.isAgg4
  z4 := Tryz.sizeOf4
  v4 := Tryz.zeroValue4
  t5 := Tryz.underlying5
  a5 := Tryz.isAgg5
  z5 := Tryz.sizeOf5
  v5 := Tryz.zeroValue5
  t9 := Tryz.underlying9
  a9 := Tryz.isAgg9
  z9 := Tryz.sizeOf9
  v9 := Tryz.zeroValue9
  t20 := Tryz.underlying20
  a20 := Tryz.isAgg20
  z20 := Tryz.sizeOf20
  v20 := Tryz.zeroValue20
  t21 := Tryz.underlying21
  a21 := Tryz.isAgg21
  z21 := Tryz.sizeOf21
  v21 := Tryz.zeroValue21
  t37 := Tryz.underlying65
  a37 := Tryz.isAgg65
  z37 := Tryz.sizeOf65
  v37 := Tryz.zeroValue65
  t46 := Tryz.underlying61
  a46 := Tryz.isAgg61
  z46 := Tryz.sizeOf61
  v46 := Tryz.zeroValue61
  t51 := Tryz.underlying83
  a51 := Tryz.isAgg83
  z51 := Tryz.sizeOf83
  v51 := Tryz.zeroValue83
  t53 := Tryz.underlying86
  a53 := Tryz.isAgg86
  z53 := Tryz.sizeOf86
  v53 := Tryz.zeroValue86
  t75 := Tryz.underlying70
  a75 := Tryz.isAgg70
  z75 := Tryz.sizeOf70
  v75 := Tryz.zeroValue70
  t76 := Tryz.underlying71
  a76 := Tryz.isAgg71
  z76 := Tryz.sizeOf71
  v76 := Tryz.zeroValue71
  t85 := Tryz.underlying100
  a85 := Tryz.isAgg100
  z85 := Tryz.sizeOf100
  v85 := Tryz.zeroValue100
  t127 := Tryz.underlying89
  a127 := Tryz.isAgg89
  z127 := Tryz.sizeOf89
  v127 := Tryz.zeroValue89
  t143 := Tryz.underlying120
  a143 := Tryz.isAgg120
  z143 := Tryz.sizeOf120
  v143 := Tryz.zeroValue120
  t145 := Tryz.underlying122
  a145 := Tryz.isAgg122
  z145 := Tryz.sizeOf122
  v145 := Tryz.zeroValue122
  t167 := Tryz.underlying99
  a167 := Tryz.isAgg99
  z167 := Tryz.sizeOf99
  v167 := Tryz.zeroValue99
  t168 := Tryz.underlying102
  a168 := Tryz.isAgg102
  z168 := Tryz.sizeOf102
  v168 := Tryz.zeroValue102
  t171 := Tryz.underlying124
  a171 := Tryz.isAgg124
  z171 := Tryz.sizeOf124
  v171 := Tryz.zeroValue124
  t173 := Tryz.underlying127
  a173 := Tryz.isAgg127
  z173 := Tryz.sizeOf127
  v173 := Tryz.zeroValue127
  t175 := Tryz.underlying108
  a175 := Tryz.isAgg108
  z175 := Tryz.sizeOf108
  v175 := Tryz.zeroValue108
  t210 := Tryz.underlying111
  a210 := Tryz.isAgg111
  z210 := Tryz.sizeOf111
  v210 := Tryz.zeroValue111
  t212 := Tryz.underlying130
  a212 := Tryz.isAgg130
  z212 := Tryz.sizeOf130
  v212 := Tryz.zeroValue130
  t213 := Tryz.underlying131
  a213 := Tryz.isAgg131
  z213 := Tryz.sizeOf131
  t232 := Tryz.underlying134
  a232 := Tryz.isAgg134
  z232 := Tryz.sizeOf134
  v232 := Tryz.zeroValue134
  t233 := Tryz.underlying135
  a233 := Tryz.isAgg135
  z233 := Tryz.sizeOf135
  v233 := Tryz.zeroValue135
  g15 := by kernel_rfl
  g16 := by kernel_rfl
  g17 := by kernel_rfl
  g18 := by kernel_rfl
  g19 := by kernel_rfl }
open Go.RowKit in
/-- strconv.Atoi: "Atoi is equivalent to ParseInt(s, 10, 0), converted to type int.": AT A DECIMAL NUMERAL OF AT MOST 18 BYTES: its value, and a nil error. The world behind the call: the one new row that the library's '[]byte(s)' lays. (LAID: no walk: one application.) -/
theorem Tryz.strconv_Atoi (s : ByteArray) (n : Int) (hl : s.size ≤ 18) (h : Lib.atoi s.data.toList = some n) (w : World) :
    Calls Tryz.prog 49 #[.string s] w fun e w' => e = .returned (.tuple #[.int .i64 n, .nilIface]) ∧ ∃ t, w' = Lib.bytesWorld w 5 t := Any.strconv_Atoi Tryz.lays172 s n hl h w
def Tryz.lays219_ren : Go.Shelf.Ren := ⟨fun | 219 => 69 | 217 => 80 | 225 => 81 | 224 => 82 | 267 => 83 | 266 => 91 | 314 => 92 | n => n, fun | 9 => 9 | 3 => 3 | 4 => 4 | 5 => 5 | 46 => 61 | 146 => 84 | 51 => 83 | n => n, fun | 1 => 0 | n => n⟩
theorem Tryz.lays219 : Go.Proofs.Lays.n219 Tryz.prog Tryz.lays219_ren := {
  mixed := by kernel_rfl
  f217 := Tryz.func80.trans (congrArg some (by kernel_rfl))
  f219 := Tryz.func69.trans (congrArg some (by kernel_rfl))
  f224 := Tryz.func82.trans (congrArg some (by kernel_rfl))
  f225 := Tryz.func81.trans (congrArg some (by kernel_rfl))
  f266 := Tryz.func91.trans (congrArg some (by kernel_rfl))
  f267 := Tryz.func83.trans (congrArg some (by kernel_rfl))
  f314 := Tryz.func92.trans (congrArg some (by kernel_rfl))
  t3 := Tryz.underlying3
  a3 := Tryz.isAgg3
  z3 := Tryz.sizeOf3
  v3 := Tryz.zeroValue3
  t4 := Tryz.underlying4
  a4 := Tryz.isAgg4
  z4 := Tryz.sizeOf4
  v4 := Tryz.zeroValue4
  t5 := Tryz.underlying5
  a5 := Tryz.isAgg5
  z5 := Tryz.sizeOf5
  v5 := Tryz.zeroValue5
  t9 := Tryz.underlying9
  a9 := Tryz.isAgg9
  z9 := Tryz.sizeOf9
  v9 := Tryz.zeroValue9
  t46 := Tryz.underlying61
  a46 := Tryz.isAgg61
  z46 := Tryz.sizeOf61
  v46 := Tryz.zeroValue61
  t51 := Tryz.underlying83
  a51 := Tryz.isAgg83
  z51 := Tryz.sizeOf83
  v51 := Tryz.zeroValue83
  t146 := Tryz.underlying84
  a146 := Tryz.isAgg84
  z146 := Tryz.sizeOf84
  v146 := Tryz.zeroValue84
  g1 := by kernel_rfl }
open Go.RowKit Go.Lib in
/-- internal/stringslite.Index (what strings.Index calls) AT A substr OF ONE BYTE c: IT RETURNS 'Lib.indexByte s c'; the world is as it was. (LAID: no walk: one application.) -/
theorem Tryz.stringslite_Index_one (s : ByteArray) (c : UInt8) (w : World) :
    Calls Tryz.prog 69 #[.string s, .string ⟨#[c]⟩] w fun e w' => e = .returned (.int .i64 (Lib.indexByte s.data.toList c)) ∧ w' = w := Any.stringslite_Index_one Tryz.lays219 s c w
open Go.RowKit Go.Lib in
/-- internal/stringslite.Index (what strings.Index calls) AT A substr OF WHATEVER LENGTH: IT RETURNS 'Lib.index s substr'; the world is as it was. 'm': what internal/bytealg.MaxLen holds: whatever. (LAID: no walk: one application.) -/
theorem Tryz.stringslite_Index (s sub : ByteArray) (m : Int) (w : World) (hs : s.size < 4294967281) (hm : w.cell? ⟨0, 0, none⟩ = some (.int .i64 m)) :
    Calls Tryz.prog 69 #[.string s, .string sub] w fun e w' => e = .returned (.int .i64 (Lib.index s.data.toList sub.data.toList)) ∧ w' = w := Any.stringslite_Index Tryz.lays219 s sub m w hs hm
def Tryz.lays206_ren : Go.Shelf.Ren := ⟨fun | 206 => 58 | n => n, fun | 9 => 9 | 4 => 4 | 3 => 3 | n => n, fun | n => n⟩
theorem Tryz.lays206 : Go.Proofs.Lays.n206 Tryz.prog Tryz.lays206_ren := {
  mixed := by kernel_rfl
  f206 := Tryz.func58.trans (congrArg some (by kernel_rfl))
  t3 := Tryz.underlying3
  a3 := Tryz.isAgg3
  z3 := Tryz.sizeOf3
  v3 := Tryz.zeroValue3
  t4 := Tryz.underlying4
  a4 := Tryz.isAgg4
  z4 := Tryz.sizeOf4
  v4 := Tryz.zeroValue4
  t9 := Tryz.underlying9
  a9 := Tryz.isAgg9
  z9 := Tryz.sizeOf9
  v9 := Tryz.zeroValue9 }
open Go.RowKit Go.Lib in
/-- internal/stringslite.HasPrefix (what strings.HasPrefix calls). (LAID: no walk: one application.) -/
theorem Tryz.stringslite_HasPrefix (s p : ByteArray) (w : World) :
    Calls Tryz.prog 58 #[.string s, .string p] w fun e w' => e = .returned (.bool (Lib.hasPrefix s.data.toList p.data.toList)) ∧ w' = w := Any.stringslite_HasPrefix Tryz.lays206 s p w
def Tryz.lays99_ren : Go.Shelf.Ren := ⟨fun | 99 => 39 | 206 => 58 | n => n, fun | 9 => 9 | 4 => 4 | 3 => 3 | n => n, fun | n => n⟩
theorem Tryz.lays99 : Go.Proofs.Lays.n99 Tryz.prog Tryz.lays99_ren := {
  mixed := by kernel_rfl
  f99 := Tryz.func39.trans (congrArg some (by kernel_rfl))
  f206 := Tryz.func58.trans (congrArg some (by kernel_rfl))
  t3 := Tryz.underlying3
  a3 := Tryz.isAgg3
  z3 := Tryz.sizeOf3
  v3 := Tryz.zeroValue3
  t4 := Tryz.underlying4
  a4 := Tryz.isAgg4
  z4 := Tryz.sizeOf4
  v4 := Tryz.zeroValue4
  t9 := Tryz.underlying9
  a9 := Tryz.isAgg9
  z9 := Tryz.sizeOf9
  v9 := Tryz.zeroValue9 }
open Go.RowKit Go.Lib in
/-- strings.HasPrefix: "HasPrefix reports whether the string s begins with prefix.": IT RETURNS 'Lib.hasPrefix s prefix'; the world is as it was. (LAID: no walk: one application.) -/
theorem Tryz.strings_HasPrefix (s p : ByteArray) (w : World) :
    Calls Tryz.prog 39 #[.string s, .string p] w fun e w' => e = .returned (.bool (Lib.hasPrefix s.data.toList p.data.toList)) ∧ w' = w := Any.strings_HasPrefix Tryz.lays99 s p w
def Tryz.lays105_ren : Go.Shelf.Ren := ⟨fun | 105 => 20 | 212 => 38 | 99 => 39 | 165 => 40 | 166 => 41 | 170 => 42 | 169 => 43 | 263 => 56 | 264 => 57 | 206 => 58 | 240 => 59 | 241 => 60 | 276 => 70 | 277 => 71 | n => n, fun | 9 => 9 | 3 => 3 | 4 => 4 | 20 => 20 | 0 => 0 | 46 => 61 | 109 => 62 | 5 => 5 | 72 => 67 | 76 => 71 | 51 => 83 | 146 => 84 | 53 => 86 | 148 => 87 | 70 => 64 | 37 => 65 | 75 => 70 | 127 => 89 | 164 => 95 | 80 => 52 | n => n, fun | n => n⟩
theorem Tryz.lays105 : Go.Proofs.Lays.n105 Tryz.prog Tryz.lays105_ren := {
  mixed := by kernel_rfl
  f99 := Tryz.func39.trans (congrArg some (by kernel_rfl))
  f105 := Tryz.func20.trans (congrArg some (by kernel_rfl))
  f165 := Tryz.func40.trans (congrArg some (by kernel_rfl))
  f166 := Tryz.func41.trans (congrArg some (by kernel_rfl))
  f169 := Tryz.func43.trans (congrArg some (by kernel_rfl))
  f170 := Tryz.func42.trans (congrArg some (by kernel_rfl))
  f206 := Tryz.func58.trans (congrArg some (by kernel_rfl))
  f212 := Tryz.func38.trans (congrArg some (by kernel_rfl))
  f240 := Tryz.func59.trans (congrArg some (by kernel_rfl))
  f241 := Tryz.func60.trans (congrArg some (by kernel_rfl))
  f263 := Tryz.func56.trans (congrArg some (by kernel_rfl))
  f264 := Tryz.func57.trans (congrArg some (by kernel_rfl))
  f276 := Tryz.func70.trans (congrArg some (by kernel_rfl))
  f277 := Tryz.func71.trans (congrArg some (by kernel_rfl))
  t0 := Tryz.underlying0
  a0 := Tryz.isAgg0
  z0 := Tryz.sizeOf0
  v0 := Tryz.zeroValue0
  t3 := Tryz.underlying3
  a3 := Tryz.isAgg3
  z3 := Tryz.sizeOf3
  v3 := Tryz.zeroValue3
  t4 := Tryz.underlying4
  a4 := Tryz.isAgg4
  z4 := Tryz.sizeOf4
  v4 := Tryz.zeroValue4
  t5 := Tryz.underlying5
  a5 := Tryz.isAgg5
  z5 := Tryz.sizeOf5
  v5 := Tryz.zeroValue5
  t9 := Tryz.underlying9
  a9 := Tryz.isAgg9
  z9 := Tryz.sizeOf9
  v9 := Tryz.zeroValue9
  t20 := Tryz.underlying20
  a20 := Tryz.isAgg20
  z20 := Tryz.sizeOf20
  v20 := Tryz.zeroValue20
  t37 := Tryz.underlying65
  a37 := Tryz.isAgg65
  z37 := Tryz.sizeOf65
  v37 := Tryz.zeroValue65
  t46 := Tryz.underlying61
  a46 := Tryz.isAgg61
  z46 := Tryz.sizeOf61
  v46 := Tryz.zeroValue61
  t51 := Tryz.underlying83
  a51 := Tryz.isAgg83
  z51 := Tryz.sizeOf83
  v51 := Tryz.zeroValue83
  t53 := Tryz.underlying86
  a53 := Tryz.isAgg86
  z53 := Tryz.sizeOf86
  v53 := Tryz.zeroValue86
  t70 := Tryz.underlying64
  a70 := Tryz.isAgg64
  z70 := Tryz.sizeOf64
  v70 := Tryz.zeroValue64
  t72 := Tryz.underlying67
  a72 := Tryz.isAgg67
  z72 := Tryz.sizeOf67
  v72 := Tryz.zeroValue67
  t75 := Tryz.underlying70
  a75 := Tryz.isAgg70
  z75 := Tryz.sizeOf70
  v75 := Tryz.zeroValue70
  t76 := Tryz.underlying71
  a76 := Tryz.isAgg71
  z76 := Tryz.sizeOf71
  v76 := Tryz.zeroValue71
  t109 := Tryz.underlying62
  a109 := Tryz.isAgg62
  z109 := Tryz.sizeOf62
  v109 := Tryz.zeroValue62
  t127 := Tryz.underlying89
  a127 := Tryz.isAgg89
  z127 := Tryz.sizeOf89
  v127 := Tryz.zeroValue89
  t146 := Tryz.underlying84
  a146 := Tryz.isAgg84
  z146 := Tryz.sizeOf84
  v146 := Tryz.zeroValue84
  t148 := Tryz.underlying87
  a148 := Tryz.isAgg87
  z148 := Tryz.sizeOf87
  v148 := Tryz.zeroValue87
  t164 := Tryz.underlying95
  a164 := Tryz.isAgg95
  z164 := Tryz.sizeOf95
  v164 := Tryz.zeroValue95 }
theorem Tryz.Builder_Extra_105 : Builder.Extra Tryz.prog Tryz.lays105_ren := {
  sizeBuilder := by kernel_rfl
  liesBuilder := by kernel_rfl
  t5 := Tryz.underlying5
  a5 := Tryz.isAgg5
  z5 := Tryz.sizeOf5
  v5 := Tryz.zeroValue5
  infoByte := by kernel_rfl
  cellsByte := by kernel_rfl
  sizeByte := by kernel_rfl
  neB5 := by decide }
open Go.RowKit Go.Lib in
/-- THE MAIN CASE: at least two copies of a string that is not empty. (LAID: no walk: one application.) -/
theorem Tryz.strings_Repeat_main (s : ByteArray) (c : Nat) (w : World) (hc2 : 2 ≤ c) (hc : c ≤ 9223372036854775807) (hlen : s.size * c ≤ 140737488355328) (h0 : 0 < s.size) :
    Calls Tryz.prog 20 #[.string s, .int .i64 c] w fun e w' => e = .returned (.string ⟨(Lib.repeatL s.data.toList c).toArray⟩) ∧ Below w.heap.size w w' := Any.strings_Repeat_main Tryz.lays105 Tryz.Builder_Extra_105 s c w hc2 hc hlen h0
open Go.RowKit Go.Lib in
theorem Tryz.strings_Repeat_zero (s : ByteArray) (w : World) :
    Calls Tryz.prog 20 #[.string s, .int .i64 0] w fun e w' => e = .returned (.string ⟨#[]⟩) ∧ w' = w := Any.strings_Repeat_zero Tryz.lays105 s w
open Go.RowKit Go.Lib in
theorem Tryz.strings_Repeat_one (s : ByteArray) (w : World) :
    Calls Tryz.prog 20 #[.string s, .int .i64 1] w fun e w' => e = .returned (.string s) ∧ w' = w := Any.strings_Repeat_one Tryz.lays105 s w
open Go.RowKit Go.Lib in
/-- Copies of the empty string. (LAID: no walk: one application.) -/
theorem Tryz.strings_Repeat_empty (s : ByteArray) (c : Nat) (w : World) (hc2 : 2 ≤ c) (hc : c ≤ 9223372036854775807) (h0 : s.size = 0) :
    Calls Tryz.prog 20 #[.string s, .int .i64 c] w fun e w' => e = .returned (.string ⟨#[]⟩) ∧ w' = w := Any.strings_Repeat_empty Tryz.lays105 s c w hc2 hc h0
open Go.RowKit Go.Lib in
/-- count < 0: "It panics if count is negative". (LAID: no walk: one application.) -/
theorem Tryz.strings_Repeat_negative (s : ByteArray) (c : Int) (w : World) (hc : c < 0) :
    Calls Tryz.prog 20 #[.string s, .int .i64 c] w fun e w' => e = .panicked [{ v := repeatPanic Tryz.lays105_ren "strings: negative Repeat count", recovered := false }] ∧ w' = w := Any.strings_Repeat_negative Tryz.lays105 s c w hc
open Go.RowKit Go.Lib in
/-- len(s) * count is no int: ".. or if the result of (len(s) * count) overflows". (LAID: no walk: one application.) -/
theorem Tryz.strings_Repeat_overflow (s : ByteArray) (c : Nat) (w : World) (hc : c ≤ 9223372036854775807) (hs : s.size ≤ 9223372036854775807) (hbig : 9223372036854775807 < s.size * c) :
    Calls Tryz.prog 20 #[.string s, .int .i64 c] w fun e w' => e = .panicked [{ v := repeatPanic Tryz.lays105_ren "strings: Repeat output length overflow", recovered := false }] ∧ w' = w := Any.strings_Repeat_overflow Tryz.lays105 s c w hc hs hbig
open Go.RowKit Go.Lib in
/-- **strings.Repeat: count ≥ 0, the result within one allocation: count copies of s.** (LAID: no walk: one application.) -/
theorem Tryz.strings_Repeat (s : ByteArray) (c : Nat) (w : World) (hc : c ≤ 9223372036854775807) (hlen : s.size * c ≤ 140737488355328) :
    Calls Tryz.prog 20 #[.string s, .int .i64 c] w fun e w' => e = .returned (.string ⟨(Lib.repeatL s.data.toList c).toArray⟩) ∧ Below w.heap.size w w' := Any.strings_Repeat Tryz.lays105 Tryz.Builder_Extra_105 s c w hc hlen
end Go.Proofs
