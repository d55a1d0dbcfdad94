/-
  DERIVED: THE SHELF's CONTRACTS AT THIS DUMP, IN PLAIN WORDS (tools/lay-plain.mjs out of 'TryzShelf.lean', which tools/lay-shelf.mjs wrote): THE SAME DECLARATIONS UNDER THE SAME NAMES: 'import', 'namespace', 'open', 'def', 'theorem' AND NOTHING ELSE: no command of the shelf's: FOR A HAND-IN. Each laying: the table of numbers ('.._ren') and one theorem, a field a fact of the dump's own or the kernel's comparison; each contract: ONE APPLICATION.
-/
import Derived.Test.YtaolbfbnjbpljaaGreatDoorProg
import Derived.Shelf.Strings.SlTrimAscii
import Derived.Shelf.Strings.OnBuilder
import Derived.Shelf.Sort.Plain
import Derived.Shelf.Slices.Turned
import Derived.Shelf.Slices.Clone
import Derived.Shelf.Slices.CompactS
import Derived.Shelf.Slices.Cells
import Derived.Shelf.Strings.Builder1
import Derived.Shelf.Strings.Builder2
import Derived.Shelf.Strings.BuilderF
import Derived.Shelf.LaysM
import Derived.Shelf.Strconv.Itoa3
import Derived.Shelf.Strings.Trim
import Derived.Shelf.Small.Strs
import Derived.Shelf.Strconv.Atoi
namespace Go.Proofs
open Go.Shelf
def Tryz.lays169_ren : Go.Shelf.Ren := ⟨fun | 169 => 45 | n => n, fun | 70 => 93 | 9 => 9 | 0 => 0 | 72 => 96 | 37 => 94 | 127 => 112 | 3 => 3 | 5 => 5 | n => n, fun | n => n⟩
theorem Tryz.lays169 : Go.Proofs.Lays.n169 Tryz.prog Tryz.lays169_ren := {
  mixed := by kernel_rfl
  f169 := Tryz.func45.trans (congrArg some (by kernel_rfl))
  t0 := Tryz.underlying0
  a0 := Tryz.isAgg0
  z0 := Tryz.sizeOf0
  v0 := Tryz.zeroValue0
  t3 := Tryz.underlying3
  a3 := Tryz.isAgg3
  z3 := Tryz.sizeOf3
  v3 := Tryz.zeroValue3
  t9 := Tryz.underlying9
  a9 := Tryz.isAgg9
  z9 := Tryz.sizeOf9
  v9 := Tryz.zeroValue9
  t37 := Tryz.underlying94
  a37 := Tryz.isAgg94
  z37 := Tryz.sizeOf94
  v37 := Tryz.zeroValue94
  t70 := Tryz.underlying93
  a70 := Tryz.isAgg93
  z70 := Tryz.sizeOf93
  v70 := Tryz.zeroValue93
  t72 := Tryz.underlying96
  a72 := Tryz.isAgg96
  z72 := Tryz.sizeOf96
  v72 := Tryz.zeroValue96
  t127 := Tryz.underlying112
  a127 := Tryz.isAgg112
  z127 := Tryz.sizeOf112
  v127 := Tryz.zeroValue112 }
theorem Tryz.Builder_Extra_169 : Builder.Extra Tryz.prog Tryz.lays169_ren := {
  sizeBuilder := by kernel_rfl
  liesBuilder := by kernel_rfl
  t5 := Tryz.underlying5
  a5 := Tryz.isAgg5
  z5 := Tryz.sizeOf5
  v5 := Tryz.zeroValue5
  infoByte := by kernel_rfl
  cellsByte := by kernel_rfl
  sizeByte := by kernel_rfl
  neB5 := by decide }
open Go.RowKit in
/-- (*strings.Builder).String: "String returns the accumulated string.": OF A BUILDER THAT HOLDS AT LEAST ONE BYTE. ✋ THE MODEL FREEZES THOSE BYTES IN THE BUFFER (unsafe.String): a later write INTO them ends the model's run without an answer; a later append BEHIND them goes on. The statement's order of evaluation is drawn: one draw. (LAID: no walk: one application.) -/
theorem Tryz.Builder_String (B b : Nat) (l : List UInt8) (w : World) (h : Lib.IsBuilder 96 5 B b (Lib.byteCells l) w) (h0 : l ≠ []) :
    Calls Tryz.prog 45 #[.pointer (some ⟨b, 0, none⟩)] w fun e w' => e = .returned (.string ⟨l.toArray⟩) ∧ Below B w w' := Any.Builder_String Tryz.lays169 Tryz.Builder_Extra_169 B b l w h h0
open Go.RowKit in
/-- (*strings.Builder).String OF A BUILDER THAT HOLDS NO BYTE: the empty string. (Its buffer is nil, or a row of which it has taken nothing yet; where that row has NO capacity the model lays one new block for unsafe.SliceData's 'some address'.) One draw. (LAID: no walk: one application.) -/
theorem Tryz.Builder_String_empty (B b : Nat) (w : World) (h : Lib.IsBuilder 96 5 B b [] w) (hBw : B ≤ w.heap.size) :
    Calls Tryz.prog 45 #[.pointer (some ⟨b, 0, none⟩)] w fun e w' => e = .returned (.string ⟨#[]⟩) ∧ Below B w w' := Any.Builder_String_empty Tryz.lays169 Tryz.Builder_Extra_169 B b w h hBw
open Go.RowKit in
/-- (*strings.Builder).String: "String returns the accumulated string.": WHATEVER THE BUILDER HOLDS. (LAID: no walk: one application.) -/
theorem Tryz.Builder_String_any (B b : Nat) (l : List UInt8) (w : World) (h : Lib.IsBuilder 96 5 B b (Lib.byteCells l) w) (hBw : B ≤ w.heap.size) :
    Calls Tryz.prog 45 #[.pointer (some ⟨b, 0, none⟩)] w fun e w' => e = .returned (.string ⟨l.toArray⟩) ∧ Below B w w' := Any.Builder_String_any Tryz.lays169 Tryz.Builder_Extra_169 B b l w h hBw
def Tryz.lays156_ren : Go.Shelf.Ren := ⟨fun | 156 => 77 | 165 => 95 | 166 => 44 | 169 => 45 | 240 => 61 | 241 => 118 | 276 => 78 | 277 => 133 | n => n, fun | 31 => 28 | 9 => 9 | 3 => 3 | 4 => 4 | 0 => 0 | 20 => 20 | 72 => 96 | 76 => 100 | 70 => 93 | 37 => 94 | 75 => 98 | 127 => 112 | 164 => 126 | 5 => 5 | 80 => 102 | n => n, fun | n => n⟩
theorem Tryz.lays156 : Go.Proofs.Lays.n156 Tryz.prog Tryz.lays156_ren := {
  mixed := by kernel_rfl
  f156 := Tryz.func77.trans (congrArg some (by kernel_rfl))
  f165 := Tryz.func95.trans (congrArg some (by kernel_rfl))
  f166 := Tryz.func44.trans (congrArg some (by kernel_rfl))
  f169 := Tryz.func45.trans (congrArg some (by kernel_rfl))
  f240 := Tryz.func61.trans (congrArg some (by kernel_rfl))
  f241 := Tryz.func118.trans (congrArg some (by kernel_rfl))
  f276 := Tryz.func78.trans (congrArg some (by kernel_rfl))
  f277 := Tryz.func133.trans (congrArg some (by kernel_rfl))
  t0 := Tryz.underlying0
  a0 := Tryz.isAgg0
  z0 := Tryz.sizeOf0
  v0 := Tryz.zeroValue0
  t3 := Tryz.underlying3
  a3 := Tryz.isAgg3
  z3 := Tryz.sizeOf3
  v3 := Tryz.zeroValue3
  t4 := Tryz.underlying4
  a4 := Tryz.isAgg4
  z4 := Tryz.sizeOf4
  v4 := Tryz.zeroValue4
  t9 := Tryz.underlying9
  a9 := Tryz.isAgg9
  z9 := Tryz.sizeOf9
  v9 := Tryz.zeroValue9
  t20 := Tryz.underlying20
  a20 := Tryz.isAgg20
  z20 := Tryz.sizeOf20
  v20 := Tryz.zeroValue20
  t31 := Tryz.underlying28
  a31 := Tryz.isAgg28
  z31 := Tryz.sizeOf28
  v31 := Tryz.zeroValue28
  t37 := Tryz.underlying94
  a37 := Tryz.isAgg94
  z37 := Tryz.sizeOf94
  v37 := Tryz.zeroValue94
  t70 := Tryz.underlying93
  a70 := Tryz.isAgg93
  z70 := Tryz.sizeOf93
  v70 := Tryz.zeroValue93
  t72 := Tryz.underlying96
  a72 := Tryz.isAgg96
  z72 := Tryz.sizeOf96
  v72 := Tryz.zeroValue96
  t75 := Tryz.underlying98
  a75 := Tryz.isAgg98
  z75 := Tryz.sizeOf98
  v75 := Tryz.zeroValue98
  t76 := Tryz.underlying100
  a76 := Tryz.isAgg100
  z76 := Tryz.sizeOf100
  v76 := Tryz.zeroValue100
  t127 := Tryz.underlying112
  a127 := Tryz.isAgg112
  z127 := Tryz.sizeOf112
  v127 := Tryz.zeroValue112
  t164 := Tryz.underlying126
  a164 := Tryz.isAgg126
  z164 := Tryz.sizeOf126
  v164 := Tryz.zeroValue126 }
theorem Tryz.Builder_Extra_156 : Builder.Extra Tryz.prog Tryz.lays156_ren := {
  sizeBuilder := by kernel_rfl
  liesBuilder := by kernel_rfl
  t5 := Tryz.underlying5
  a5 := Tryz.isAgg5
  z5 := Tryz.sizeOf5
  v5 := Tryz.zeroValue5
  infoByte := by kernel_rfl
  cellsByte := by kernel_rfl
  sizeByte := by kernel_rfl
  neB5 := by decide }
open Go.RowKit in
/-- No element: the empty string; the world is as it was. (Whatever the slice's address and capacity: a nil slice too.) (LAID: no walk: one application.) -/
theorem Tryz.strings_Join_none (a : Option Addr) (c : Nat) (sep : ByteArray) (w : World) :
    Calls Tryz.prog 77 #[.slice a 0 c, .string sep] w fun e w' => e = .returned (.string ⟨#[]⟩) ∧ w' = w := Any.strings_Join_none Tryz.lays156 Tryz.Builder_Extra_156 a c sep w
open Go.RowKit in
/-- strings.Join: "Join concatenates the elements of its first argument to create a single string. The separator string sep is placed between elements in the resulting string.": HOWEVER MANY ELEMENTS. Below the heap's end the world is as it was. (LAID: no walk: one application.) -/
theorem Tryz.strings_Join (bk o c : Nat) (xs : List ByteArray) (sep : ByteArray) (w : World) (hcells : ∀ (j : Nat) x, xs[j]? = some x → w.cell? ⟨bk, o + j, none⟩ = some (.string x)) (hbk : bk < w.heap.size) (hN : xs.length ≤ 140737488355328) (hcap : xs.length ≤ c) (hlen : (Lib.join (xs.map (·.data.toList)) sep.data.toList).length ≤ 140737488355328) :
    Calls Tryz.prog 77 #[.slice (some ⟨bk, o, none⟩) xs.length c, .string sep] w fun e w' => e = .returned (.string ⟨(Lib.join (xs.map (·.data.toList)) sep.data.toList).toArray⟩) ∧ Below w.heap.size w w' := Any.strings_Join Tryz.lays156 Tryz.Builder_Extra_156 bk o c xs sep w hcells hbk hN hcap hlen
def Tryz.lays161_ren : Go.Shelf.Ren := ⟨fun | 161 => 72 | 231 => 63 | 227 => 65 | 233 => 66 | 235 => 68 | 228 => 83 | 197 => 84 | 151 => 85 | 260 => 101 | 152 => 102 | 137 => 121 | 119 => 122 | 224 => 123 | 225 => 124 | 217 => 134 | 266 => 136 | n => n, fun | 9 => 9 | 4 => 4 | 3 => 3 | 5 => 5 | 117 => 118 | 116 => 117 | 0 => 0 | 124 => 121 | 105 => 134 | 21 => 21 | 119 => 168 | 46 => 146 | 139 => 171 | 138 => 170 | n => n, fun | 3 => 3 | 4 => 4 | n => n⟩
theorem Tryz.lays161 : Go.Proofs.Lays.n161 Tryz.prog Tryz.lays161_ren := {
  mixed := by kernel_rfl
  f119 := Tryz.func122.trans (congrArg some (by kernel_rfl))
  f137 := Tryz.func121.trans (congrArg some (by kernel_rfl))
  f151 := Tryz.func85.trans (congrArg some (by kernel_rfl))
  f152 := Tryz.func102.trans (congrArg some (by kernel_rfl))
  f161 := Tryz.func72.trans (congrArg some (by kernel_rfl))
  f197 := Tryz.func84.trans (congrArg some (by kernel_rfl))
  f217 := Tryz.func134.trans (congrArg some (by kernel_rfl))
  f224 := Tryz.func123.trans (congrArg some (by kernel_rfl))
  f225 := Tryz.func124.trans (congrArg some (by kernel_rfl))
  f227 := Tryz.func65.trans (congrArg some (by kernel_rfl))
  f228 := Tryz.func83.trans (congrArg some (by kernel_rfl))
  f231 := Tryz.func63.trans (congrArg some (by kernel_rfl))
  f233 := Tryz.func66.trans (congrArg some (by kernel_rfl))
  f235 := Tryz.func68.trans (congrArg some (by kernel_rfl))
  f260 := Tryz.func101.trans (congrArg some (by kernel_rfl))
  f266 := Tryz.func136.trans (congrArg some (by kernel_rfl))
  t0 := Tryz.underlying0
  a0 := Tryz.isAgg0
  z0 := Tryz.sizeOf0
  v0 := Tryz.zeroValue0
  t3 := Tryz.underlying3
  a3 := Tryz.isAgg3
  z3 := Tryz.sizeOf3
  v3 := Tryz.zeroValue3
  t4 := Tryz.underlying4
  a4 := Tryz.isAgg4
  z4 := Tryz.sizeOf4
  v4 := Tryz.zeroValue4
  t5 := Tryz.underlying5
  a5 := Tryz.isAgg5
  z5 := Tryz.sizeOf5
  v5 := Tryz.zeroValue5
  t9 := Tryz.underlying9
  a9 := Tryz.isAgg9
  z9 := Tryz.sizeOf9
  v9 := Tryz.zeroValue9
  t21 := Tryz.underlying21
  a21 := Tryz.isAgg21
  z21 := Tryz.sizeOf21
  v21 := Tryz.zeroValue21
  t46 := Tryz.underlying146
  a46 := Tryz.isAgg146
  z46 := Tryz.sizeOf146
  v46 := Tryz.zeroValue146
  t105 := Tryz.underlying134
  a105 := Tryz.isAgg134
  z105 := Tryz.sizeOf134
  v105 := Tryz.zeroValue134
  t116 := Tryz.underlying117
  a116 := Tryz.isAgg117
  z116 := Tryz.sizeOf117
  t117 := Tryz.underlying118
  a117 := Tryz.isAgg118
  z117 := Tryz.sizeOf118
  v117 := Tryz.zeroValue118
  t119 := Tryz.underlying168
  a119 := Tryz.isAgg168
  z119 := Tryz.sizeOf168
  t124 := Tryz.underlying121
  a124 := Tryz.isAgg121
  z124 := Tryz.sizeOf121
  v124 := Tryz.zeroValue121
  t138 := Tryz.underlying170
  a138 := Tryz.isAgg170
  z138 := Tryz.sizeOf170
  v138 := Tryz.zeroValue170
  t139 := Tryz.underlying171
  a139 := Tryz.isAgg171
  z139 := Tryz.sizeOf171
  v139 := Tryz.zeroValue171
  g3 := by kernel_rfl
  g4 := by kernel_rfl }
open Go.RowKit in
/-- strings.TrimLeft: "TrimLeft returns a slice of the string s with all leading Unicode code points contained in cutset removed.": AT A cutset OF ONE ASCII BYTE. The world is as it was. (LAID: no walk: one application.) -/
theorem Tryz.strings_TrimLeft_one (s : ByteArray) (c : UInt8) (hc : c.toNat < 128) (w : World) :
    Calls Tryz.prog 72 #[.string s, .string ⟨#[c]⟩] w fun e w' => e = .returned (.string ⟨(Lib.trimLeftB s.data.toList c).toArray⟩) ∧ w' = w := Any.strings_TrimLeft_one Tryz.lays161 s c hc w
def Tryz.lays160_ren : Go.Shelf.Ren := ⟨fun | 160 => 56 | 232 => 64 | 231 => 63 | 227 => 65 | 234 => 67 | 233 => 66 | 236 => 69 | 235 => 68 | 228 => 83 | 271 => 86 | 151 => 85 | 197 => 84 | 120 => 103 | 152 => 102 | 260 => 101 | 137 => 121 | 119 => 122 | 224 => 123 | 225 => 124 | 217 => 134 | 266 => 136 | n => n, fun | 9 => 9 | 4 => 4 | 3 => 3 | 5 => 5 | 117 => 118 | 116 => 117 | 0 => 0 | 124 => 121 | 21 => 21 | 105 => 134 | 46 => 146 | 119 => 168 | 139 => 171 | 138 => 170 | n => n, fun | 3 => 3 | 4 => 4 | n => n⟩
theorem Tryz.lays160 : Go.Proofs.Lays.n160 Tryz.prog Tryz.lays160_ren := {
  mixed := by kernel_rfl
  f119 := Tryz.func122.trans (congrArg some (by kernel_rfl))
  f120 := Tryz.func103.trans (congrArg some (by kernel_rfl))
  f137 := Tryz.func121.trans (congrArg some (by kernel_rfl))
  f151 := Tryz.func85.trans (congrArg some (by kernel_rfl))
  f152 := Tryz.func102.trans (congrArg some (by kernel_rfl))
  f160 := Tryz.func56.trans (congrArg some (by kernel_rfl))
  f197 := Tryz.func84.trans (congrArg some (by kernel_rfl))
  f217 := Tryz.func134.trans (congrArg some (by kernel_rfl))
  f224 := Tryz.func123.trans (congrArg some (by kernel_rfl))
  f225 := Tryz.func124.trans (congrArg some (by kernel_rfl))
  f227 := Tryz.func65.trans (congrArg some (by kernel_rfl))
  f228 := Tryz.func83.trans (congrArg some (by kernel_rfl))
  f231 := Tryz.func63.trans (congrArg some (by kernel_rfl))
  f232 := Tryz.func64.trans (congrArg some (by kernel_rfl))
  f233 := Tryz.func66.trans (congrArg some (by kernel_rfl))
  f234 := Tryz.func67.trans (congrArg some (by kernel_rfl))
  f235 := Tryz.func68.trans (congrArg some (by kernel_rfl))
  f236 := Tryz.func69.trans (congrArg some (by kernel_rfl))
  f260 := Tryz.func101.trans (congrArg some (by kernel_rfl))
  f266 := Tryz.func136.trans (congrArg some (by kernel_rfl))
  f271 := Tryz.func86.trans (congrArg some (by kernel_rfl))
  t0 := Tryz.underlying0
  a0 := Tryz.isAgg0
  z0 := Tryz.sizeOf0
  v0 := Tryz.zeroValue0
  t3 := Tryz.underlying3
  a3 := Tryz.isAgg3
  z3 := Tryz.sizeOf3
  v3 := Tryz.zeroValue3
  t4 := Tryz.underlying4
  a4 := Tryz.isAgg4
  z4 := Tryz.sizeOf4
  v4 := Tryz.zeroValue4
  t5 := Tryz.underlying5
  a5 := Tryz.isAgg5
  z5 := Tryz.sizeOf5
  v5 := Tryz.zeroValue5
  t9 := Tryz.underlying9
  a9 := Tryz.isAgg9
  z9 := Tryz.sizeOf9
  v9 := Tryz.zeroValue9
  t21 := Tryz.underlying21
  a21 := Tryz.isAgg21
  z21 := Tryz.sizeOf21
  v21 := Tryz.zeroValue21
  t46 := Tryz.underlying146
  a46 := Tryz.isAgg146
  z46 := Tryz.sizeOf146
  v46 := Tryz.zeroValue146
  t105 := Tryz.underlying134
  a105 := Tryz.isAgg134
  z105 := Tryz.sizeOf134
  v105 := Tryz.zeroValue134
  t116 := Tryz.underlying117
  a116 := Tryz.isAgg117
  z116 := Tryz.sizeOf117
  t117 := Tryz.underlying118
  a117 := Tryz.isAgg118
  z117 := Tryz.sizeOf118
  v117 := Tryz.zeroValue118
  t119 := Tryz.underlying168
  a119 := Tryz.isAgg168
  z119 := Tryz.sizeOf168
  t124 := Tryz.underlying121
  a124 := Tryz.isAgg121
  z124 := Tryz.sizeOf121
  v124 := Tryz.zeroValue121
  t138 := Tryz.underlying170
  a138 := Tryz.isAgg170
  z138 := Tryz.sizeOf170
  v138 := Tryz.zeroValue170
  t139 := Tryz.underlying171
  a139 := Tryz.isAgg171
  z139 := Tryz.sizeOf171
  v139 := Tryz.zeroValue171
  g3 := by kernel_rfl
  g4 := by kernel_rfl }
open Go.RowKit in
/-- strings.Trim: "Trim returns a slice of the string s with all leading and trailing Unicode code points contained in cutset removed.": AT A cutset OF ONE ASCII BYTE. THE WORLD BEHIND IT: as it was, or (where s is not empty) with ONE DRAW MORE off the tape: the statement 'return trimLeftByte(trimRightByte(s, c), c)' draws its order of evaluation. (LAID: no walk: one application.) -/
theorem Tryz.strings_Trim_one (s : ByteArray) (c : UInt8) (hc : c.toNat < 128) (w : World) (hs : s.size ≤ 9223372036854775807) :
    Calls Tryz.prog 56 #[.string s, .string ⟨#[c]⟩] w fun e w' => e = .returned (.string ⟨(Lib.trimB s.data.toList c).toArray⟩) ∧ (w' = w ∨ w' = w.drew) := Any.strings_Trim_one Tryz.lays160 s c hc w hs
def Tryz.lays172_ren : Go.Shelf.Ren := ⟨fun | 172 => 57 | 244 => 70 | 245 => 71 | 247 => 87 | 279 => 88 | 280 => 89 | 281 => 90 | 282 => 91 | 287 => 104 | 316 => 105 | 171 => 33 | 205 => 106 | 321 => 125 | 322 => 126 | 243 => 55 | 246 => 62 | 283 => 79 | 284 => 80 | 285 => 81 | 286 => 82 | 129 => 97 | 317 => 96 | 318 => 98 | 319 => 99 | 320 => 100 | 337 => 119 | 338 => 120 | n => n, fun | 9 => 9 | 3 => 3 | 75 => 98 | 76 => 100 | 4 => 4 | 5 => 5 | 167 => 137 | 37 => 94 | 0 => 0 | 85 => 138 | 2 => 2 | 168 => 140 | 53 => 129 | 175 => 153 | 46 => 146 | 210 => 157 | 127 => 112 | 145 => 178 | 143 => 176 | 21 => 21 | 171 => 128 | 173 => 132 | 212 => 149 | 51 => 150 | 20 => 20 | 213 => 151 | 232 => 186 | 233 => 187 | 80 => 102 | n => n, fun | 15 => 1 | 16 => 2 | 17 => 0 | 18 => 5 | 19 => 6 | n => n⟩
theorem Tryz.lays172 : Go.Proofs.Lays.n172 Tryz.prog Tryz.lays172_ren := {
  mixed := by kernel_rfl
  f129 := Tryz.func97.trans (congrArg some (by kernel_rfl))
  f171 := Tryz.func33.trans (congrArg some (by kernel_rfl))
  f172 := Tryz.func57.trans (congrArg some (by kernel_rfl))
  f205 := Tryz.func106.trans (congrArg some (by kernel_rfl))
  f243 := Tryz.func55.trans (congrArg some (by kernel_rfl))
  f244 := Tryz.func70.trans (congrArg some (by kernel_rfl))
  f245 := Tryz.func71.trans (congrArg some (by kernel_rfl))
  f246 := Tryz.func62.trans (congrArg some (by kernel_rfl))
  f247 := Tryz.func87.trans (congrArg some (by kernel_rfl))
  f279 := Tryz.func88.trans (congrArg some (by kernel_rfl))
  f280 := Tryz.func89.trans (congrArg some (by kernel_rfl))
  f281 := Tryz.func90.trans (congrArg some (by kernel_rfl))
  f282 := Tryz.func91.trans (congrArg some (by kernel_rfl))
  f283 := Tryz.func79.trans (congrArg some (by kernel_rfl))
  f284 := Tryz.func80.trans (congrArg some (by kernel_rfl))
  f285 := Tryz.func81.trans (congrArg some (by kernel_rfl))
  f286 := Tryz.func82.trans (congrArg some (by kernel_rfl))
  f287 := Tryz.func104.trans (congrArg some (by kernel_rfl))
  f316 := Tryz.func105.trans (congrArg some (by kernel_rfl))
  f317 := Tryz.func96.trans (congrArg some (by kernel_rfl))
  f318 := Tryz.func98.trans (congrArg some (by kernel_rfl))
  f319 := Tryz.func99.trans (congrArg some (by kernel_rfl))
  f320 := Tryz.func100.trans (congrArg some (by kernel_rfl))
  f321 := Tryz.func125.trans (congrArg some (by kernel_rfl))
  f322 := Tryz.func126.trans (congrArg some (by kernel_rfl))
  f337 := Tryz.func119.trans (congrArg some (by kernel_rfl))
  f338 := Tryz.func120.trans (congrArg some (by kernel_rfl))
  t0 := Tryz.underlying0
  a0 := Tryz.isAgg0
  z0 := Tryz.sizeOf0
  v0 := Tryz.zeroValue0
  t2 := Tryz.underlying2
  a2 := Tryz.isAgg2
  z2 := Tryz.sizeOf2
  v2 := Tryz.zeroValue2
  t3 := Tryz.underlying3
  a3 := Tryz.isAgg3
  z3 := Tryz.sizeOf3
  v3 := Tryz.zeroValue3
  t4 := Tryz.underlying4
  a4 := Tryz.isAgg4
  z4 := Tryz.sizeOf4
  v4 := Tryz.zeroValue4
  t5 := Tryz.underlying5
  a5 := Tryz.isAgg5
  z5 := Tryz.sizeOf5
  v5 := Tryz.zeroValue5
  t9 := Tryz.underlying9
  a9 := Tryz.isAgg9
  z9 := Tryz.sizeOf9
  v9 := Tryz.zeroValue9
  t20 := Tryz.underlying20
  a20 := Tryz.isAgg20
  z20 := Tryz.sizeOf20
  v20 := Tryz.zeroValue20
  t21 := Tryz.underlying21
  a21 := Tryz.isAgg21
  z21 := Tryz.sizeOf21
  v21 := Tryz.zeroValue21
  t37 := Tryz.underlying94
  a37 := Tryz.isAgg94
  z37 := Tryz.sizeOf94
  v37 := Tryz.zeroValue94
  t46 := Tryz.underlying146
  a46 := Tryz.isAgg146
  z46 := Tryz.sizeOf146
  v46 := Tryz.zeroValue146
  t51 := Tryz.underlying150
  a51 := Tryz.isAgg150
  z51 := Tryz.sizeOf150
  v51 := Tryz.zeroValue150
  t53 := Tryz.underlying129
  a53 := Tryz.isAgg129
  z53 := Tryz.sizeOf129
  v53 := Tryz.zeroValue129
  t75 := Tryz.underlying98
  a75 := Tryz.isAgg98
  z75 := Tryz.sizeOf98
  v75 := Tryz.zeroValue98
  t76 := Tryz.underlying100
  a76 := Tryz.isAgg100
  z76 := Tryz.sizeOf100
  v76 := Tryz.zeroValue100
  t85 := Tryz.underlying138
  a85 := Tryz.isAgg138
  z85 := Tryz.sizeOf138
  v85 := Tryz.zeroValue138
  t127 := Tryz.underlying112
  a127 := Tryz.isAgg112
  z127 := Tryz.sizeOf112
  v127 := Tryz.zeroValue112
  t143 := Tryz.underlying176
  a143 := Tryz.isAgg176
  z143 := Tryz.sizeOf176
  v143 := Tryz.zeroValue176
  t145 := Tryz.underlying178
  a145 := Tryz.isAgg178
  z145 := Tryz.sizeOf178
  v145 := Tryz.zeroValue178
  t167 := Tryz.underlying137
  a167 := Tryz.isAgg137
  z167 := Tryz.sizeOf137
  v167 := Tryz.zeroValue137
  t168 := Tryz.underlying140
  a168 := Tryz.isAgg140
  z168 := Tryz.sizeOf140
  v168 := Tryz.zeroValue140
  t171 := Tryz.underlying128
  a171 := Tryz.isAgg128
  z171 := Tryz.sizeOf128
  v171 := Tryz.zeroValue128
  t173 := Tryz.underlying132
  a173 := Tryz.isAgg132
  z173 := Tryz.sizeOf132
  v173 := Tryz.zeroValue132
  t175 := Tryz.underlying153
  a175 := Tryz.isAgg153
  z175 := Tryz.sizeOf153
  v175 := Tryz.zeroValue153
  t210 := Tryz.underlying157
  a210 := Tryz.isAgg157
  z210 := Tryz.sizeOf157
  v210 := Tryz.zeroValue157
  t212 := Tryz.underlying149
  a212 := Tryz.isAgg149
  z212 := Tryz.sizeOf149
  v212 := Tryz.zeroValue149
  t213 := Tryz.underlying151
  a213 := Tryz.isAgg151
  z213 := Tryz.sizeOf151
  t232 := Tryz.underlying186
  a232 := Tryz.isAgg186
  z232 := Tryz.sizeOf186
  v232 := Tryz.zeroValue186
  t233 := Tryz.underlying187
  a233 := Tryz.isAgg187
  z233 := Tryz.sizeOf187
  v233 := Tryz.zeroValue187
  g15 := by kernel_rfl
  g16 := by kernel_rfl
  g17 := by kernel_rfl
  g18 := by kernel_rfl
  g19 := by kernel_rfl }
open Go.RowKit in
/-- strconv.Atoi: "Atoi is equivalent to ParseInt(s, 10, 0), converted to type int.": AT A DECIMAL NUMERAL OF AT MOST 18 BYTES: its value, and a nil error. The world behind the call: the one new row that the library's '[]byte(s)' lays. (LAID: no walk: one application.) -/
theorem Tryz.strconv_Atoi (s : ByteArray) (n : Int) (hl : s.size ≤ 18) (h : Lib.atoi s.data.toList = some n) (w : World) :
    Calls Tryz.prog 57 #[.string s] w fun e w' => e = .returned (.tuple #[.int .i64 n, .nilIface]) ∧ ∃ t, w' = Lib.bytesWorld w 5 t := Any.strconv_Atoi Tryz.lays172 s n hl h w
def Tryz.lays129_ren : Go.Shelf.Ren := ⟨fun | 129 => 97 | n => n, fun | 53 => 129 | 3 => 3 | 4 => 4 | 46 => 146 | 5 => 5 | 9 => 9 | n => n, fun | n => n⟩
theorem Tryz.lays129 : Go.Proofs.Lays.n129 Tryz.prog Tryz.lays129_ren := {
  mixed := by kernel_rfl
  f129 := Tryz.func97.trans (congrArg some (by kernel_rfl))
  t3 := Tryz.underlying3
  a3 := Tryz.isAgg3
  z3 := Tryz.sizeOf3
  v3 := Tryz.zeroValue3
  t4 := Tryz.underlying4
  a4 := Tryz.isAgg4
  z4 := Tryz.sizeOf4
  v4 := Tryz.zeroValue4
  t5 := Tryz.underlying5
  a5 := Tryz.isAgg5
  z5 := Tryz.sizeOf5
  v5 := Tryz.zeroValue5
  t9 := Tryz.underlying9
  a9 := Tryz.isAgg9
  z9 := Tryz.sizeOf9
  v9 := Tryz.zeroValue9
  t46 := Tryz.underlying146
  a46 := Tryz.isAgg146
  z46 := Tryz.sizeOf146
  v46 := Tryz.zeroValue146
  t53 := Tryz.underlying129
  a53 := Tryz.isAgg129
  z53 := Tryz.sizeOf129
  v53 := Tryz.zeroValue129 }
/-- bits.Len64: "Len64 returns the minimum number of bits required to represent x; the result is 0 for x == 0.": IT RETURNS 'Lib.bitLen x'; the world is as it was. ('h0', 'h1': x is a uint64.) (LAID: no walk: one application.) -/
theorem Tryz.bits_Len64 (x : Int) (w : World) (h0 : 0 ≤ x) (h1 : x ≤ 18446744073709551615) :
    Calls Tryz.prog 97 #[.int .u64 x] w fun e w' => e = .returned (.int .i64 (Lib.bitLen x.toNat)) ∧ w' = w := Any.bits_Len64 Tryz.lays129 x w h0 h1
def Tryz.lays317_ren : Go.Shelf.Ren := ⟨fun | 317 => 96 | n => n, fun | 3 => 3 | 46 => 146 | n => n, fun | n => n⟩
theorem Tryz.lays317 : Go.Proofs.Lays.n317 Tryz.prog Tryz.lays317_ren := {
  mixed := by kernel_rfl
  f317 := Tryz.func96.trans (congrArg some (by kernel_rfl))
  t3 := Tryz.underlying3
  a3 := Tryz.isAgg3
  z3 := Tryz.sizeOf3
  v3 := Tryz.zeroValue3
  t46 := Tryz.underlying146
  a46 := Tryz.isAgg146
  z46 := Tryz.sizeOf146
  v46 := Tryz.zeroValue146 }
open Go.Lib in
/-- internal/strconv.log10Pow2: "log10Pow2(x) returns ⌊log₁₀ 2**x⌋ = ⌊x * log₁₀ 2⌋.": '(x * 78913) >> 18', at an x up to 64 (a length in bits). The world is as it was. (LAID: no walk: one application.) -/
theorem Tryz.internal_strconv_log10Pow2 (x : Nat) (h : x ≤ 64) (w : World) :
    Calls Tryz.prog 96 #[.int .i64 x] w fun e w' => e = .returned (.int .i64 (Lib.l10 x)) ∧ w' = w := Any.internal_strconv_log10Pow2 Tryz.lays317 x h w
def Tryz.lays318_ren : Go.Shelf.Ren := ⟨fun | 318 => 98 | n => n, fun | 3 => 3 | 4 => 4 | n => n, fun | n => n⟩
theorem Tryz.lays318 : Go.Proofs.Lays.n318 Tryz.prog Tryz.lays318_ren := {
  mixed := by kernel_rfl
  f318 := Tryz.func98.trans (congrArg some (by kernel_rfl))
  t3 := Tryz.underlying3
  a3 := Tryz.isAgg3
  z3 := Tryz.sizeOf3
  v3 := Tryz.zeroValue3
  t4 := Tryz.underlying4
  a4 := Tryz.isAgg4
  z4 := Tryz.sizeOf4
  v4 := Tryz.zeroValue4 }
open Go.Lib in
/-- internal/strconv.bool2: "bool2 converts b to an integer: 1 for true, 0 for false." The world is as it was. (LAID: no walk: one application.) -/
theorem Tryz.internal_strconv_bool2_int (b : Bool) (w : World) :
    Calls Tryz.prog 98 #[.bool b] w fun e w' => e = .returned (.int .i64 (if b then 1 else 0)) ∧ w' = w := Any.internal_strconv_bool2_int Tryz.lays318 b w
def Tryz.lays283_ren : Go.Shelf.Ren := ⟨fun | 283 => 79 | n => n, fun | 3 => 3 | 9 => 9 | 4 => 4 | n => n, fun | n => n⟩
theorem Tryz.lays283 : Go.Proofs.Lays.n283 Tryz.prog Tryz.lays283_ren := {
  mixed := by kernel_rfl
  f283 := Tryz.func79.trans (congrArg some (by kernel_rfl))
  t3 := Tryz.underlying3
  a3 := Tryz.isAgg3
  z3 := Tryz.sizeOf3
  v3 := Tryz.zeroValue3
  t4 := Tryz.underlying4
  a4 := Tryz.isAgg4
  z4 := Tryz.sizeOf4
  v4 := Tryz.zeroValue4
  t9 := Tryz.underlying9
  a9 := Tryz.isAgg9
  z9 := Tryz.sizeOf9
  v9 := Tryz.zeroValue9 }
open Go.Lib in
/-- internal/strconv.small: "small returns the string for an i with 0 <= i < nSmalls.": i's decimal numeral. The world is as it was. (LAID: no walk: one application.) -/
theorem Tryz.internal_strconv_small (i : Nat) (h : i < 100) (w : World) :
    Calls Tryz.prog 79 #[.int .i64 i] w fun e w' => e = .returned (.string ⟨(Lib.decDigits i).toArray⟩) ∧ w' = w := Any.internal_strconv_small Tryz.lays283 i h w
def Tryz.laysM284_ren : Go.Shelf.Ren := ⟨fun | 284 => 80 | 129 => 97 | 317 => 96 | 318 => 98 | n => n, fun | 53 => 129 | 3 => 3 | 212 => 149 | 0 => 0 | 4 => 4 | 46 => 146 | 5 => 5 | 9 => 9 | n => n, fun | 17 => 0 | n => n⟩
theorem Tryz.laysM284 : Go.Proofs.LaysM.n284 Tryz.prog Tryz.laysM284_ren := {
  mixed := by kernel_rfl
  f129 := Tryz.func97.trans (congrArg some (by kernel_rfl))
  f284 := Tryz.func80.trans (congrArg some (by kernel_rfl))
  f317 := Tryz.func96.trans (congrArg some (by kernel_rfl))
  f318 := Tryz.func98.trans (congrArg some (by kernel_rfl))
  t0 := Tryz.underlying0
  a0 := Tryz.isAgg0
  z0 := Tryz.sizeOf0
  v0 := Tryz.zeroValue0
  t3 := Tryz.underlying3
  a3 := Tryz.isAgg3
  z3 := Tryz.sizeOf3
  v3 := Tryz.zeroValue3
  t4 := Tryz.underlying4
  a4 := Tryz.isAgg4
  z4 := Tryz.sizeOf4
  v4 := Tryz.zeroValue4
  t5 := Tryz.underlying5
  a5 := Tryz.isAgg5
  z5 := Tryz.sizeOf5
  v5 := Tryz.zeroValue5
  t9 := Tryz.underlying9
  a9 := Tryz.isAgg9
  z9 := Tryz.sizeOf9
  v9 := Tryz.zeroValue9
  t46 := Tryz.underlying146
  a46 := Tryz.isAgg146
  z46 := Tryz.sizeOf146
  v46 := Tryz.zeroValue146
  t53 := Tryz.underlying129
  a53 := Tryz.isAgg129
  z53 := Tryz.sizeOf129
  v53 := Tryz.zeroValue129
  t212 := Tryz.underlying149
  a212 := Tryz.isAgg149
  z212 := Tryz.sizeOf149
  v212 := Tryz.zeroValue149
  g17 := by kernel_rfl
  i0 := by kernel_rfl
  i3 := by kernel_rfl
  i4 := by kernel_rfl
  i5 := by kernel_rfl
  i9 := by kernel_rfl
  i46 := by kernel_rfl
  i53 := by kernel_rfl
  i212 := by kernel_rfl
  m17 := by kernel_rfl }
open Go.Lib in
/-- internal/strconv.numDigits, at a d that is not 0: THE NUMBER OF d's DECIMAL DIGITS. The world is as it was. (LAID: no walk: one application.) -/
theorem Tryz.internal_strconv_numDigits (u : Nat) (h1 : 1 ≤ u) (h2 : u < 18446744073709551616) (w : World) (htab : Lib.TabIs Tryz.prog w "internal/strconv.uint64pow10" .u64 Lib.pow10Tab) :
    Calls Tryz.prog 80 #[.int .u64 u] w fun e w' => e = .returned (.int .i64 (Lib.nDigits u)) ∧ w' = w := Any.internal_strconv_numDigits Tryz.laysM284 u h1 h2 w htab
def Tryz.lays285_ren : Go.Shelf.Ren := ⟨fun | 285 => 81 | n => n, fun | 37 => 94 | 53 => 129 | 3 => 3 | 4 => 4 | 51 => 150 | 9 => 9 | 5 => 5 | 0 => 0 | n => n, fun | n => n⟩
theorem Tryz.lays285 : Go.Proofs.Lays.n285 Tryz.prog Tryz.lays285_ren := {
  mixed := by kernel_rfl
  f285 := Tryz.func81.trans (congrArg some (by kernel_rfl))
  t0 := Tryz.underlying0
  a0 := Tryz.isAgg0
  z0 := Tryz.sizeOf0
  v0 := Tryz.zeroValue0
  t3 := Tryz.underlying3
  a3 := Tryz.isAgg3
  z3 := Tryz.sizeOf3
  v3 := Tryz.zeroValue3
  t4 := Tryz.underlying4
  a4 := Tryz.isAgg4
  z4 := Tryz.sizeOf4
  v4 := Tryz.zeroValue4
  t5 := Tryz.underlying5
  a5 := Tryz.isAgg5
  z5 := Tryz.sizeOf5
  v5 := Tryz.zeroValue5
  t9 := Tryz.underlying9
  a9 := Tryz.isAgg9
  z9 := Tryz.sizeOf9
  v9 := Tryz.zeroValue9
  t37 := Tryz.underlying94
  a37 := Tryz.isAgg94
  z37 := Tryz.sizeOf94
  v37 := Tryz.zeroValue94
  t51 := Tryz.underlying150
  a51 := Tryz.isAgg150
  z51 := Tryz.sizeOf150
  v51 := Tryz.zeroValue150
  t53 := Tryz.underlying129
  a53 := Tryz.isAgg129
  z53 := Tryz.sizeOf129
  v53 := Tryz.zeroValue129 }
open Go.RowKit Go.Sort Go.Lib in
/-- internal/strconv.formatBase10: "formatBase10 formats the decimal representation of u into a. The caller is responsible for ensuring that a is big enough to hold u. If a is too big, leading zeros will be filled in as needed.": THE ROW HOLDS u's DIGITS ('FmtInv .. 0 ..': every place t holds 'dg u (len - 1 - t)'); all else is as it was but for the count of draws. (LAID: no walk: one application.) -/
theorem Tryz.internal_strconv_formatBase10 (blk off cap : Nat) (u : Nat) (d : Array UInt8) (w : World) (hH : Holds (fun (b : UInt8) => Value.int .u8 (b.toNat : Int)) w blk off d) (hu : u < 10 ^ d.size) (hu64 : u < 18446744073709551616) (hsz : d.size < 4611686018427387904) :
    Calls Tryz.prog 81 #[.slice (some ⟨blk, off, none⟩) d.size cap, .int .u64 u] w fun e w' =>
      e = .returned (.tuple #[]) ∧ ∃ (n v' : Nat) (dk : Array UInt8), w' = (putRow (fun (b : UInt8) => Value.int .u8 (b.toNat : Int)) w blk off dk).drewN n ∧ FmtInv d.size u 0 v' dk := Any.internal_strconv_formatBase10 Tryz.lays285 blk off cap u d w hH hu hu64 hsz
def Tryz.laysM246_ren : Go.Shelf.Ren := ⟨fun | 246 => 62 | 283 => 79 | 284 => 80 | 285 => 81 | 286 => 82 | 129 => 97 | 317 => 96 | 318 => 98 | 319 => 99 | 320 => 100 | 337 => 119 | 338 => 120 | n => n, fun | 2 => 2 | 3 => 3 | 9 => 9 | 4 => 4 | 171 => 128 | 0 => 0 | 53 => 129 | 37 => 94 | 5 => 5 | 173 => 132 | 212 => 149 | 51 => 150 | 20 => 20 | 213 => 151 | 46 => 146 | 232 => 186 | 233 => 187 | n => n, fun | 17 => 0 | 18 => 5 | 19 => 6 | n => n⟩
theorem Tryz.laysM246 : Go.Proofs.LaysM.n246 Tryz.prog Tryz.laysM246_ren := {
  mixed := by kernel_rfl
  f129 := Tryz.func97.trans (congrArg some (by kernel_rfl))
  f246 := Tryz.func62.trans (congrArg some (by kernel_rfl))
  f283 := Tryz.func79.trans (congrArg some (by kernel_rfl))
  f284 := Tryz.func80.trans (congrArg some (by kernel_rfl))
  f285 := Tryz.func81.trans (congrArg some (by kernel_rfl))
  f286 := Tryz.func82.trans (congrArg some (by kernel_rfl))
  f317 := Tryz.func96.trans (congrArg some (by kernel_rfl))
  f318 := Tryz.func98.trans (congrArg some (by kernel_rfl))
  f319 := Tryz.func99.trans (congrArg some (by kernel_rfl))
  f320 := Tryz.func100.trans (congrArg some (by kernel_rfl))
  f337 := Tryz.func119.trans (congrArg some (by kernel_rfl))
  f338 := Tryz.func120.trans (congrArg some (by kernel_rfl))
  t0 := Tryz.underlying0
  a0 := Tryz.isAgg0
  z0 := Tryz.sizeOf0
  v0 := Tryz.zeroValue0
  t2 := Tryz.underlying2
  a2 := Tryz.isAgg2
  z2 := Tryz.sizeOf2
  v2 := Tryz.zeroValue2
  t3 := Tryz.underlying3
  a3 := Tryz.isAgg3
  z3 := Tryz.sizeOf3
  v3 := Tryz.zeroValue3
  t4 := Tryz.underlying4
  a4 := Tryz.isAgg4
  z4 := Tryz.sizeOf4
  v4 := Tryz.zeroValue4
  t5 := Tryz.underlying5
  a5 := Tryz.isAgg5
  z5 := Tryz.sizeOf5
  v5 := Tryz.zeroValue5
  t9 := Tryz.underlying9
  a9 := Tryz.isAgg9
  z9 := Tryz.sizeOf9
  v9 := Tryz.zeroValue9
  t20 := Tryz.underlying20
  a20 := Tryz.isAgg20
  z20 := Tryz.sizeOf20
  v20 := Tryz.zeroValue20
  t37 := Tryz.underlying94
  a37 := Tryz.isAgg94
  z37 := Tryz.sizeOf94
  v37 := Tryz.zeroValue94
  t46 := Tryz.underlying146
  a46 := Tryz.isAgg146
  z46 := Tryz.sizeOf146
  v46 := Tryz.zeroValue146
  t51 := Tryz.underlying150
  a51 := Tryz.isAgg150
  z51 := Tryz.sizeOf150
  v51 := Tryz.zeroValue150
  t53 := Tryz.underlying129
  a53 := Tryz.isAgg129
  z53 := Tryz.sizeOf129
  v53 := Tryz.zeroValue129
  t171 := Tryz.underlying128
  a171 := Tryz.isAgg128
  z171 := Tryz.sizeOf128
  v171 := Tryz.zeroValue128
  t173 := Tryz.underlying132
  a173 := Tryz.isAgg132
  z173 := Tryz.sizeOf132
  v173 := Tryz.zeroValue132
  t212 := Tryz.underlying149
  a212 := Tryz.isAgg149
  z212 := Tryz.sizeOf149
  v212 := Tryz.zeroValue149
  t213 := Tryz.underlying151
  a213 := Tryz.isAgg151
  z213 := Tryz.sizeOf151
  t232 := Tryz.underlying186
  a232 := Tryz.isAgg186
  z232 := Tryz.sizeOf186
  v232 := Tryz.zeroValue186
  t233 := Tryz.underlying187
  a233 := Tryz.isAgg187
  z233 := Tryz.sizeOf187
  v233 := Tryz.zeroValue187
  g17 := by kernel_rfl
  g18 := by kernel_rfl
  g19 := by kernel_rfl
  i0 := by kernel_rfl
  i2 := by kernel_rfl
  i3 := by kernel_rfl
  i4 := by kernel_rfl
  i5 := by kernel_rfl
  i9 := by kernel_rfl
  i20 := by kernel_rfl
  i37 := by kernel_rfl
  i46 := by kernel_rfl
  i51 := by kernel_rfl
  i53 := by kernel_rfl
  i171 := by kernel_rfl
  i173 := by kernel_rfl
  i212 := by kernel_rfl
  i232 := by kernel_rfl
  i233 := by kernel_rfl
  m17 := by kernel_rfl
  m18 := by kernel_rfl
  m19 := by kernel_rfl }
open Go.RowKit Go.Sort Go.Lib in
/-- internal/strconv.FormatInt: "FormatInt returns the string representation of i in the given base": AT BASE 10: i's decimal numeral, for every int64. The world behind the call: the world before it, new blocks behind the heap, draws. (LAID: no walk: one application.) -/
theorem Tryz.internal_strconv_FormatInt_10 (n : Int) (h0 : -9223372036854775808 ≤ n) (h1 : n ≤ 9223372036854775807) (w : World) (htab : Lib.TabIs Tryz.prog w "internal/strconv.uint64pow10" .u64 Lib.pow10Tab) :
    Calls Tryz.prog 62 #[.int .i64 n, .int .i64 10] w fun e w' => e = .returned (.string ⟨(Lib.itoa n).toArray⟩) ∧ ∃ k os, w' = grow (w.drewN k) os := Any.internal_strconv_FormatInt_10 Tryz.laysM246 n h0 h1 w htab
def Tryz.lays246_ren : Go.Shelf.Ren := ⟨fun | 246 => 62 | 283 => 79 | 284 => 80 | 285 => 81 | 286 => 82 | 129 => 97 | 317 => 96 | 318 => 98 | 319 => 99 | 320 => 100 | 337 => 119 | 338 => 120 | n => n, fun | 2 => 2 | 3 => 3 | 9 => 9 | 4 => 4 | 171 => 128 | 0 => 0 | 53 => 129 | 37 => 94 | 5 => 5 | 173 => 132 | 212 => 149 | 51 => 150 | 20 => 20 | 213 => 151 | 46 => 146 | 232 => 186 | 233 => 187 | n => n, fun | 17 => 0 | 18 => 5 | 19 => 6 | n => n⟩
theorem Tryz.lays246 : Go.Proofs.Lays.n246 Tryz.prog Tryz.lays246_ren := {
  mixed := by kernel_rfl
  f129 := Tryz.func97.trans (congrArg some (by kernel_rfl))
  f246 := Tryz.func62.trans (congrArg some (by kernel_rfl))
  f283 := Tryz.func79.trans (congrArg some (by kernel_rfl))
  f284 := Tryz.func80.trans (congrArg some (by kernel_rfl))
  f285 := Tryz.func81.trans (congrArg some (by kernel_rfl))
  f286 := Tryz.func82.trans (congrArg some (by kernel_rfl))
  f317 := Tryz.func96.trans (congrArg some (by kernel_rfl))
  f318 := Tryz.func98.trans (congrArg some (by kernel_rfl))
  f319 := Tryz.func99.trans (congrArg some (by kernel_rfl))
  f320 := Tryz.func100.trans (congrArg some (by kernel_rfl))
  f337 := Tryz.func119.trans (congrArg some (by kernel_rfl))
  f338 := Tryz.func120.trans (congrArg some (by kernel_rfl))
  t0 := Tryz.underlying0
  a0 := Tryz.isAgg0
  z0 := Tryz.sizeOf0
  v0 := Tryz.zeroValue0
  t2 := Tryz.underlying2
  a2 := Tryz.isAgg2
  z2 := Tryz.sizeOf2
  v2 := Tryz.zeroValue2
  t3 := Tryz.underlying3
  a3 := Tryz.isAgg3
  z3 := Tryz.sizeOf3
  v3 := Tryz.zeroValue3
  t4 := Tryz.underlying4
  a4 := Tryz.isAgg4
  z4 := Tryz.sizeOf4
  v4 := Tryz.zeroValue4
  t5 := Tryz.underlying5
  a5 := Tryz.isAgg5
  z5 := Tryz.sizeOf5
  v5 := Tryz.zeroValue5
  t9 := Tryz.underlying9
  a9 := Tryz.isAgg9
  z9 := Tryz.sizeOf9
  v9 := Tryz.zeroValue9
  t20 := Tryz.underlying20
  a20 := Tryz.isAgg20
  z20 := Tryz.sizeOf20
  v20 := Tryz.zeroValue20
  t37 := Tryz.underlying94
  a37 := Tryz.isAgg94
  z37 := Tryz.sizeOf94
  v37 := Tryz.zeroValue94
  t46 := Tryz.underlying146
  a46 := Tryz.isAgg146
  z46 := Tryz.sizeOf146
  v46 := Tryz.zeroValue146
  t51 := Tryz.underlying150
  a51 := Tryz.isAgg150
  z51 := Tryz.sizeOf150
  v51 := Tryz.zeroValue150
  t53 := Tryz.underlying129
  a53 := Tryz.isAgg129
  z53 := Tryz.sizeOf129
  v53 := Tryz.zeroValue129
  t171 := Tryz.underlying128
  a171 := Tryz.isAgg128
  z171 := Tryz.sizeOf128
  v171 := Tryz.zeroValue128
  t173 := Tryz.underlying132
  a173 := Tryz.isAgg132
  z173 := Tryz.sizeOf132
  v173 := Tryz.zeroValue132
  t212 := Tryz.underlying149
  a212 := Tryz.isAgg149
  z212 := Tryz.sizeOf149
  v212 := Tryz.zeroValue149
  t213 := Tryz.underlying151
  a213 := Tryz.isAgg151
  z213 := Tryz.sizeOf151
  t232 := Tryz.underlying186
  a232 := Tryz.isAgg186
  z232 := Tryz.sizeOf186
  v232 := Tryz.zeroValue186
  t233 := Tryz.underlying187
  a233 := Tryz.isAgg187
  z233 := Tryz.sizeOf187
  v233 := Tryz.zeroValue187
  g17 := by kernel_rfl
  g18 := by kernel_rfl
  g19 := by kernel_rfl }
open Go.RowKit Go.Sort Go.Lib in
/-- THE ROAD WITHOUT THE TABLE: 0 <= i < 100: two constants are read, nothing is laid: no premise on the world, and the world is as it was. (LAID: no walk: one application.) -/
theorem Tryz.internal_strconv_FormatInt_10_small (i : Nat) (hi : i < 100) (w : World) :
    Calls Tryz.prog 62 #[.int .i64 i, .int .i64 10] w fun e w' => e = .returned (.string ⟨(Lib.decDigits i).toArray⟩) ∧ w' = w := Any.internal_strconv_FormatInt_10_small Tryz.lays246 i hi w
def Tryz.laysM243_ren : Go.Shelf.Ren := ⟨fun | 243 => 55 | 246 => 62 | 283 => 79 | 284 => 80 | 285 => 81 | 286 => 82 | 129 => 97 | 317 => 96 | 318 => 98 | 319 => 99 | 320 => 100 | 337 => 119 | 338 => 120 | n => n, fun | 3 => 3 | 9 => 9 | 2 => 2 | 4 => 4 | 171 => 128 | 0 => 0 | 53 => 129 | 37 => 94 | 5 => 5 | 173 => 132 | 212 => 149 | 51 => 150 | 20 => 20 | 213 => 151 | 46 => 146 | 232 => 186 | 233 => 187 | n => n, fun | 17 => 0 | 18 => 5 | 19 => 6 | n => n⟩
theorem Tryz.laysM243 : Go.Proofs.LaysM.n243 Tryz.prog Tryz.laysM243_ren := {
  mixed := by kernel_rfl
  f129 := Tryz.func97.trans (congrArg some (by kernel_rfl))
  f243 := Tryz.func55.trans (congrArg some (by kernel_rfl))
  f246 := Tryz.func62.trans (congrArg some (by kernel_rfl))
  f283 := Tryz.func79.trans (congrArg some (by kernel_rfl))
  f284 := Tryz.func80.trans (congrArg some (by kernel_rfl))
  f285 := Tryz.func81.trans (congrArg some (by kernel_rfl))
  f286 := Tryz.func82.trans (congrArg some (by kernel_rfl))
  f317 := Tryz.func96.trans (congrArg some (by kernel_rfl))
  f318 := Tryz.func98.trans (congrArg some (by kernel_rfl))
  f319 := Tryz.func99.trans (congrArg some (by kernel_rfl))
  f320 := Tryz.func100.trans (congrArg some (by kernel_rfl))
  f337 := Tryz.func119.trans (congrArg some (by kernel_rfl))
  f338 := Tryz.func120.trans (congrArg some (by kernel_rfl))
  t0 := Tryz.underlying0
  a0 := Tryz.isAgg0
  z0 := Tryz.sizeOf0
  v0 := Tryz.zeroValue0
  t2 := Tryz.underlying2
  a2 := Tryz.isAgg2
  z2 := Tryz.sizeOf2
  v2 := Tryz.zeroValue2
  t3 := Tryz.underlying3
  a3 := Tryz.isAgg3
  z3 := Tryz.sizeOf3
  v3 := Tryz.zeroValue3
  t4 := Tryz.underlying4
  a4 := Tryz.isAgg4
  z4 := Tryz.sizeOf4
  v4 := Tryz.zeroValue4
  t5 := Tryz.underlying5
  a5 := Tryz.isAgg5
  z5 := Tryz.sizeOf5
  v5 := Tryz.zeroValue5
  t9 := Tryz.underlying9
  a9 := Tryz.isAgg9
  z9 := Tryz.sizeOf9
  v9 := Tryz.zeroValue9
  t20 := Tryz.underlying20
  a20 := Tryz.isAgg20
  z20 := Tryz.sizeOf20
  v20 := Tryz.zeroValue20
  t37 := Tryz.underlying94
  a37 := Tryz.isAgg94
  z37 := Tryz.sizeOf94
  v37 := Tryz.zeroValue94
  t46 := Tryz.underlying146
  a46 := Tryz.isAgg146
  z46 := Tryz.sizeOf146
  v46 := Tryz.zeroValue146
  t51 := Tryz.underlying150
  a51 := Tryz.isAgg150
  z51 := Tryz.sizeOf150
  v51 := Tryz.zeroValue150
  t53 := Tryz.underlying129
  a53 := Tryz.isAgg129
  z53 := Tryz.sizeOf129
  v53 := Tryz.zeroValue129
  t171 := Tryz.underlying128
  a171 := Tryz.isAgg128
  z171 := Tryz.sizeOf128
  v171 := Tryz.zeroValue128
  t173 := Tryz.underlying132
  a173 := Tryz.isAgg132
  z173 := Tryz.sizeOf132
  v173 := Tryz.zeroValue132
  t212 := Tryz.underlying149
  a212 := Tryz.isAgg149
  z212 := Tryz.sizeOf149
  v212 := Tryz.zeroValue149
  t213 := Tryz.underlying151
  a213 := Tryz.isAgg151
  z213 := Tryz.sizeOf151
  t232 := Tryz.underlying186
  a232 := Tryz.isAgg186
  z232 := Tryz.sizeOf186
  v232 := Tryz.zeroValue186
  t233 := Tryz.underlying187
  a233 := Tryz.isAgg187
  z233 := Tryz.sizeOf187
  v233 := Tryz.zeroValue187
  g17 := by kernel_rfl
  g18 := by kernel_rfl
  g19 := by kernel_rfl
  i0 := by kernel_rfl
  i2 := by kernel_rfl
  i3 := by kernel_rfl
  i4 := by kernel_rfl
  i5 := by kernel_rfl
  i9 := by kernel_rfl
  i20 := by kernel_rfl
  i37 := by kernel_rfl
  i46 := by kernel_rfl
  i51 := by kernel_rfl
  i53 := by kernel_rfl
  i171 := by kernel_rfl
  i173 := by kernel_rfl
  i212 := by kernel_rfl
  i232 := by kernel_rfl
  i233 := by kernel_rfl
  m17 := by kernel_rfl
  m18 := by kernel_rfl
  m19 := by kernel_rfl }
open Go.RowKit Go.Sort Go.Lib in
/-- internal/strconv.Itoa: "Itoa is equivalent to FormatInt(int64(i), 10).": i's decimal numeral, for every int. (LAID: no walk: one application.) -/
theorem Tryz.internal_strconv_Itoa (n : Int) (h0 : -9223372036854775808 ≤ n) (h1 : n ≤ 9223372036854775807) (w : World) (htab : Lib.TabIs Tryz.prog w "internal/strconv.uint64pow10" .u64 Lib.pow10Tab) :
    Calls Tryz.prog 55 #[.int .i64 n] w fun e w' => e = .returned (.string ⟨(Lib.itoa n).toArray⟩) ∧ ∃ k os, w' = grow (w.drewN k) os := Any.internal_strconv_Itoa Tryz.laysM243 n h0 h1 w htab
def Tryz.lays243_ren : Go.Shelf.Ren := ⟨fun | 243 => 55 | 246 => 62 | 283 => 79 | 284 => 80 | 285 => 81 | 286 => 82 | 129 => 97 | 317 => 96 | 318 => 98 | 319 => 99 | 320 => 100 | 337 => 119 | 338 => 120 | n => n, fun | 3 => 3 | 9 => 9 | 2 => 2 | 4 => 4 | 171 => 128 | 0 => 0 | 53 => 129 | 37 => 94 | 5 => 5 | 173 => 132 | 212 => 149 | 51 => 150 | 20 => 20 | 213 => 151 | 46 => 146 | 232 => 186 | 233 => 187 | n => n, fun | 17 => 0 | 18 => 5 | 19 => 6 | n => n⟩
theorem Tryz.lays243 : Go.Proofs.Lays.n243 Tryz.prog Tryz.lays243_ren := {
  mixed := by kernel_rfl
  f129 := Tryz.func97.trans (congrArg some (by kernel_rfl))
  f243 := Tryz.func55.trans (congrArg some (by kernel_rfl))
  f246 := Tryz.func62.trans (congrArg some (by kernel_rfl))
  f283 := Tryz.func79.trans (congrArg some (by kernel_rfl))
  f284 := Tryz.func80.trans (congrArg some (by kernel_rfl))
  f285 := Tryz.func81.trans (congrArg some (by kernel_rfl))
  f286 := Tryz.func82.trans (congrArg some (by kernel_rfl))
  f317 := Tryz.func96.trans (congrArg some (by kernel_rfl))
  f318 := Tryz.func98.trans (congrArg some (by kernel_rfl))
  f319 := Tryz.func99.trans (congrArg some (by kernel_rfl))
  f320 := Tryz.func100.trans (congrArg some (by kernel_rfl))
  f337 := Tryz.func119.trans (congrArg some (by kernel_rfl))
  f338 := Tryz.func120.trans (congrArg some (by kernel_rfl))
  t0 := Tryz.underlying0
  a0 := Tryz.isAgg0
  z0 := Tryz.sizeOf0
  v0 := Tryz.zeroValue0
  t2 := Tryz.underlying2
  a2 := Tryz.isAgg2
  z2 := Tryz.sizeOf2
  v2 := Tryz.zeroValue2
  t3 := Tryz.underlying3
  a3 := Tryz.isAgg3
  z3 := Tryz.sizeOf3
  v3 := Tryz.zeroValue3
  t4 := Tryz.underlying4
  a4 := Tryz.isAgg4
  z4 := Tryz.sizeOf4
  v4 := Tryz.zeroValue4
  t5 := Tryz.underlying5
  a5 := Tryz.isAgg5
  z5 := Tryz.sizeOf5
  v5 := Tryz.zeroValue5
  t9 := Tryz.underlying9
  a9 := Tryz.isAgg9
  z9 := Tryz.sizeOf9
  v9 := Tryz.zeroValue9
  t20 := Tryz.underlying20
  a20 := Tryz.isAgg20
  z20 := Tryz.sizeOf20
  v20 := Tryz.zeroValue20
  t37 := Tryz.underlying94
  a37 := Tryz.isAgg94
  z37 := Tryz.sizeOf94
  v37 := Tryz.zeroValue94
  t46 := Tryz.underlying146
  a46 := Tryz.isAgg146
  z46 := Tryz.sizeOf146
  v46 := Tryz.zeroValue146
  t51 := Tryz.underlying150
  a51 := Tryz.isAgg150
  z51 := Tryz.sizeOf150
  v51 := Tryz.zeroValue150
  t53 := Tryz.underlying129
  a53 := Tryz.isAgg129
  z53 := Tryz.sizeOf129
  v53 := Tryz.zeroValue129
  t171 := Tryz.underlying128
  a171 := Tryz.isAgg128
  z171 := Tryz.sizeOf128
  v171 := Tryz.zeroValue128
  t173 := Tryz.underlying132
  a173 := Tryz.isAgg132
  z173 := Tryz.sizeOf132
  v173 := Tryz.zeroValue132
  t212 := Tryz.underlying149
  a212 := Tryz.isAgg149
  z212 := Tryz.sizeOf149
  v212 := Tryz.zeroValue149
  t213 := Tryz.underlying151
  a213 := Tryz.isAgg151
  z213 := Tryz.sizeOf151
  t232 := Tryz.underlying186
  a232 := Tryz.isAgg186
  z232 := Tryz.sizeOf186
  v232 := Tryz.zeroValue186
  t233 := Tryz.underlying187
  a233 := Tryz.isAgg187
  z233 := Tryz.sizeOf187
  v233 := Tryz.zeroValue187
  g17 := by kernel_rfl
  g18 := by kernel_rfl
  g19 := by kernel_rfl }
open Go.RowKit Go.Sort Go.Lib in
/-- THE ROAD WITHOUT THE TABLE: 0 <= i < 100. (LAID: no walk: one application.) -/
theorem Tryz.internal_strconv_Itoa_small (i : Nat) (hi : i < 100) (w : World) :
    Calls Tryz.prog 55 #[.int .i64 i] w fun e w' => e = .returned (.string ⟨(Lib.decDigits i).toArray⟩) ∧ w' = w := Any.internal_strconv_Itoa_small Tryz.lays243 i hi w
def Tryz.laysM171_ren : Go.Shelf.Ren := ⟨fun | 171 => 33 | 243 => 55 | 246 => 62 | 283 => 79 | 284 => 80 | 285 => 81 | 286 => 82 | 129 => 97 | 317 => 96 | 318 => 98 | 319 => 99 | 320 => 100 | 337 => 119 | 338 => 120 | n => n, fun | 3 => 3 | 9 => 9 | 2 => 2 | 4 => 4 | 171 => 128 | 0 => 0 | 53 => 129 | 37 => 94 | 5 => 5 | 173 => 132 | 212 => 149 | 51 => 150 | 20 => 20 | 213 => 151 | 46 => 146 | 232 => 186 | 233 => 187 | n => n, fun | 17 => 0 | 18 => 5 | 19 => 6 | n => n⟩
theorem Tryz.laysM171 : Go.Proofs.LaysM.n171 Tryz.prog Tryz.laysM171_ren := {
  mixed := by kernel_rfl
  f129 := Tryz.func97.trans (congrArg some (by kernel_rfl))
  f171 := Tryz.func33.trans (congrArg some (by kernel_rfl))
  f243 := Tryz.func55.trans (congrArg some (by kernel_rfl))
  f246 := Tryz.func62.trans (congrArg some (by kernel_rfl))
  f283 := Tryz.func79.trans (congrArg some (by kernel_rfl))
  f284 := Tryz.func80.trans (congrArg some (by kernel_rfl))
  f285 := Tryz.func81.trans (congrArg some (by kernel_rfl))
  f286 := Tryz.func82.trans (congrArg some (by kernel_rfl))
  f317 := Tryz.func96.trans (congrArg some (by kernel_rfl))
  f318 := Tryz.func98.trans (congrArg some (by kernel_rfl))
  f319 := Tryz.func99.trans (congrArg some (by kernel_rfl))
  f320 := Tryz.func100.trans (congrArg some (by kernel_rfl))
  f337 := Tryz.func119.trans (congrArg some (by kernel_rfl))
  f338 := Tryz.func120.trans (congrArg some (by kernel_rfl))
  t0 := Tryz.underlying0
  a0 := Tryz.isAgg0
  z0 := Tryz.sizeOf0
  v0 := Tryz.zeroValue0
  t2 := Tryz.underlying2
  a2 := Tryz.isAgg2
  z2 := Tryz.sizeOf2
  v2 := Tryz.zeroValue2
  t3 := Tryz.underlying3
  a3 := Tryz.isAgg3
  z3 := Tryz.sizeOf3
  v3 := Tryz.zeroValue3
  t4 := Tryz.underlying4
  a4 := Tryz.isAgg4
  z4 := Tryz.sizeOf4
  v4 := Tryz.zeroValue4
  t5 := Tryz.underlying5
  a5 := Tryz.isAgg5
  z5 := Tryz.sizeOf5
  v5 := Tryz.zeroValue5
  t9 := Tryz.underlying9
  a9 := Tryz.isAgg9
  z9 := Tryz.sizeOf9
  v9 := Tryz.zeroValue9
  t20 := Tryz.underlying20
  a20 := Tryz.isAgg20
  z20 := Tryz.sizeOf20
  v20 := Tryz.zeroValue20
  t37 := Tryz.underlying94
  a37 := Tryz.isAgg94
  z37 := Tryz.sizeOf94
  v37 := Tryz.zeroValue94
  t46 := Tryz.underlying146
  a46 := Tryz.isAgg146
  z46 := Tryz.sizeOf146
  v46 := Tryz.zeroValue146
  t51 := Tryz.underlying150
  a51 := Tryz.isAgg150
  z51 := Tryz.sizeOf150
  v51 := Tryz.zeroValue150
  t53 := Tryz.underlying129
  a53 := Tryz.isAgg129
  z53 := Tryz.sizeOf129
  v53 := Tryz.zeroValue129
  t171 := Tryz.underlying128
  a171 := Tryz.isAgg128
  z171 := Tryz.sizeOf128
  v171 := Tryz.zeroValue128
  t173 := Tryz.underlying132
  a173 := Tryz.isAgg132
  z173 := Tryz.sizeOf132
  v173 := Tryz.zeroValue132
  t212 := Tryz.underlying149
  a212 := Tryz.isAgg149
  z212 := Tryz.sizeOf149
  v212 := Tryz.zeroValue149
  t213 := Tryz.underlying151
  a213 := Tryz.isAgg151
  z213 := Tryz.sizeOf151
  t232 := Tryz.underlying186
  a232 := Tryz.isAgg186
  z232 := Tryz.sizeOf186
  v232 := Tryz.zeroValue186
  t233 := Tryz.underlying187
  a233 := Tryz.isAgg187
  z233 := Tryz.sizeOf187
  v233 := Tryz.zeroValue187
  g17 := by kernel_rfl
  g18 := by kernel_rfl
  g19 := by kernel_rfl
  i0 := by kernel_rfl
  i2 := by kernel_rfl
  i3 := by kernel_rfl
  i4 := by kernel_rfl
  i5 := by kernel_rfl
  i9 := by kernel_rfl
  i20 := by kernel_rfl
  i37 := by kernel_rfl
  i46 := by kernel_rfl
  i51 := by kernel_rfl
  i53 := by kernel_rfl
  i171 := by kernel_rfl
  i173 := by kernel_rfl
  i212 := by kernel_rfl
  i232 := by kernel_rfl
  i233 := by kernel_rfl
  m17 := by kernel_rfl
  m18 := by kernel_rfl
  m19 := by kernel_rfl }
open Go.RowKit Go.Sort Go.Lib in
/-- strconv.Itoa: "Itoa is equivalent to FormatInt(int64(i), 10).": i's DECIMAL NUMERAL ('Lib.itoa': a '-' where i is negative, then the digits), FOR EVERY int. The world behind the call: the world before it, new blocks behind the heap (the library's 'var a [24]byte'), draws. (LAID: no walk: one application.) -/
theorem Tryz.strconv_Itoa (n : Int) (h0 : -9223372036854775808 ≤ n) (h1 : n ≤ 9223372036854775807) (w : World) (htab : Lib.TabIs Tryz.prog w "internal/strconv.uint64pow10" .u64 Lib.pow10Tab) :
    Calls Tryz.prog 33 #[.int .i64 n] w fun e w' => e = .returned (.string ⟨(Lib.itoa n).toArray⟩) ∧ ∃ k os, w' = grow (w.drewN k) os := Any.strconv_Itoa Tryz.laysM171 n h0 h1 w htab
def Tryz.lays171_ren : Go.Shelf.Ren := ⟨fun | 171 => 33 | 243 => 55 | 246 => 62 | 283 => 79 | 284 => 80 | 285 => 81 | 286 => 82 | 129 => 97 | 317 => 96 | 318 => 98 | 319 => 99 | 320 => 100 | 337 => 119 | 338 => 120 | n => n, fun | 3 => 3 | 9 => 9 | 2 => 2 | 4 => 4 | 171 => 128 | 0 => 0 | 53 => 129 | 37 => 94 | 5 => 5 | 173 => 132 | 212 => 149 | 51 => 150 | 20 => 20 | 213 => 151 | 46 => 146 | 232 => 186 | 233 => 187 | n => n, fun | 17 => 0 | 18 => 5 | 19 => 6 | n => n⟩
theorem Tryz.lays171 : Go.Proofs.Lays.n171 Tryz.prog Tryz.lays171_ren := {
  mixed := by kernel_rfl
  f129 := Tryz.func97.trans (congrArg some (by kernel_rfl))
  f171 := Tryz.func33.trans (congrArg some (by kernel_rfl))
  f243 := Tryz.func55.trans (congrArg some (by kernel_rfl))
  f246 := Tryz.func62.trans (congrArg some (by kernel_rfl))
  f283 := Tryz.func79.trans (congrArg some (by kernel_rfl))
  f284 := Tryz.func80.trans (congrArg some (by kernel_rfl))
  f285 := Tryz.func81.trans (congrArg some (by kernel_rfl))
  f286 := Tryz.func82.trans (congrArg some (by kernel_rfl))
  f317 := Tryz.func96.trans (congrArg some (by kernel_rfl))
  f318 := Tryz.func98.trans (congrArg some (by kernel_rfl))
  f319 := Tryz.func99.trans (congrArg some (by kernel_rfl))
  f320 := Tryz.func100.trans (congrArg some (by kernel_rfl))
  f337 := Tryz.func119.trans (congrArg some (by kernel_rfl))
  f338 := Tryz.func120.trans (congrArg some (by kernel_rfl))
  t0 := Tryz.underlying0
  a0 := Tryz.isAgg0
  z0 := Tryz.sizeOf0
  v0 := Tryz.zeroValue0
  t2 := Tryz.underlying2
  a2 := Tryz.isAgg2
  z2 := Tryz.sizeOf2
  v2 := Tryz.zeroValue2
  t3 := Tryz.underlying3
  a3 := Tryz.isAgg3
  z3 := Tryz.sizeOf3
  v3 := Tryz.zeroValue3
  t4 := Tryz.underlying4
  a4 := Tryz.isAgg4
  z4 := Tryz.sizeOf4
  v4 := Tryz.zeroValue4
  t5 := Tryz.underlying5
  a5 := Tryz.isAgg5
  z5 := Tryz.sizeOf5
  v5 := Tryz.zeroValue5
  t9 := Tryz.underlying9
  a9 := Tryz.isAgg9
  z9 := Tryz.sizeOf9
  v9 := Tryz.zeroValue9
  t20 := Tryz.underlying20
  a20 := Tryz.isAgg20
  z20 := Tryz.sizeOf20
  v20 := Tryz.zeroValue20
  t37 := Tryz.underlying94
  a37 := Tryz.isAgg94
  z37 := Tryz.sizeOf94
  v37 := Tryz.zeroValue94
  t46 := Tryz.underlying146
  a46 := Tryz.isAgg146
  z46 := Tryz.sizeOf146
  v46 := Tryz.zeroValue146
  t51 := Tryz.underlying150
  a51 := Tryz.isAgg150
  z51 := Tryz.sizeOf150
  v51 := Tryz.zeroValue150
  t53 := Tryz.underlying129
  a53 := Tryz.isAgg129
  z53 := Tryz.sizeOf129
  v53 := Tryz.zeroValue129
  t171 := Tryz.underlying128
  a171 := Tryz.isAgg128
  z171 := Tryz.sizeOf128
  v171 := Tryz.zeroValue128
  t173 := Tryz.underlying132
  a173 := Tryz.isAgg132
  z173 := Tryz.sizeOf132
  v173 := Tryz.zeroValue132
  t212 := Tryz.underlying149
  a212 := Tryz.isAgg149
  z212 := Tryz.sizeOf149
  v212 := Tryz.zeroValue149
  t213 := Tryz.underlying151
  a213 := Tryz.isAgg151
  z213 := Tryz.sizeOf151
  t232 := Tryz.underlying186
  a232 := Tryz.isAgg186
  z232 := Tryz.sizeOf186
  v232 := Tryz.zeroValue186
  t233 := Tryz.underlying187
  a233 := Tryz.isAgg187
  z233 := Tryz.sizeOf187
  v233 := Tryz.zeroValue187
  g17 := by kernel_rfl
  g18 := by kernel_rfl
  g19 := by kernel_rfl }
open Go.RowKit Go.Sort Go.Lib in
/-- THE ROAD WITHOUT THE TABLE: 0 <= i < 100: NO PREMISE ON THE WORLD, AND THE WORLD IS AS IT WAS: a row that keeps its argument in that range need list no table ('laid = []'). (LAID: no walk: one application.) -/
theorem Tryz.strconv_Itoa_small (i : Nat) (hi : i < 100) (w : World) :
    Calls Tryz.prog 33 #[.int .i64 i] w fun e w' => e = .returned (.string ⟨(Lib.decDigits i).toArray⟩) ∧ w' = w := Any.strconv_Itoa_small Tryz.lays171 i hi w
def Tryz.lays190_ren : Go.Shelf.Ren := ⟨fun | 190 => 74 | 125 => 94 | 258 => 93 | 128 => 117 | 129 => 97 | 302 => 108 | 303 => 109 | 304 => 110 | 305 => 111 | 306 => 112 | 307 => 113 | 308 => 114 | 309 => 115 | 310 => 116 | 333 => 127 | 329 => 128 | 330 => 129 | 334 => 130 | 335 => 131 | 336 => 132 | 344 => 135 | n => n, fun | 31 => 28 | 9 => 9 | 3 => 3 | 46 => 146 | 0 => 0 | 51 => 150 | 53 => 129 | 4 => 4 | 183 => 162 | 182 => 161 | 131 => 72 | 5 => 5 | 218 => 179 | 222 => 183 | 228 => 188 | 229 => 189 | n => n, fun | n => n⟩
theorem Tryz.lays190 : Go.Proofs.Lays.n190 Tryz.prog Tryz.lays190_ren := {
  mixed := by kernel_rfl
  f125 := Tryz.func94.trans (congrArg some (by kernel_rfl))
  f128 := Tryz.func117.trans (congrArg some (by kernel_rfl))
  f129 := Tryz.func97.trans (congrArg some (by kernel_rfl))
  f190 := Tryz.func74.trans (congrArg some (by kernel_rfl))
  f258 := Tryz.func93.trans (congrArg some (by kernel_rfl))
  f302 := Tryz.func108.trans (congrArg some (by kernel_rfl))
  f303 := Tryz.func109.trans (congrArg some (by kernel_rfl))
  f304 := Tryz.func110.trans (congrArg some (by kernel_rfl))
  f305 := Tryz.func111.trans (congrArg some (by kernel_rfl))
  f306 := Tryz.func112.trans (congrArg some (by kernel_rfl))
  f307 := Tryz.func113.trans (congrArg some (by kernel_rfl))
  f308 := Tryz.func114.trans (congrArg some (by kernel_rfl))
  f309 := Tryz.func115.trans (congrArg some (by kernel_rfl))
  f310 := Tryz.func116.trans (congrArg some (by kernel_rfl))
  f329 := Tryz.func128.trans (congrArg some (by kernel_rfl))
  f330 := Tryz.func129.trans (congrArg some (by kernel_rfl))
  f333 := Tryz.func127.trans (congrArg some (by kernel_rfl))
  f334 := Tryz.func130.trans (congrArg some (by kernel_rfl))
  f335 := Tryz.func131.trans (congrArg some (by kernel_rfl))
  f336 := Tryz.func132.trans (congrArg some (by kernel_rfl))
  f344 := Tryz.func135.trans (congrArg some (by kernel_rfl))
  t0 := Tryz.underlying0
  a0 := Tryz.isAgg0
  z0 := Tryz.sizeOf0
  v0 := Tryz.zeroValue0
  t3 := Tryz.underlying3
  a3 := Tryz.isAgg3
  z3 := Tryz.sizeOf3
  v3 := Tryz.zeroValue3
  t4 := Tryz.underlying4
  a4 := Tryz.isAgg4
  z4 := Tryz.sizeOf4
  v4 := Tryz.zeroValue4
  t5 := Tryz.underlying5
  a5 := Tryz.isAgg5
  z5 := Tryz.sizeOf5
  v5 := Tryz.zeroValue5
  t9 := Tryz.underlying9
  a9 := Tryz.isAgg9
  z9 := Tryz.sizeOf9
  v9 := Tryz.zeroValue9
  t31 := Tryz.underlying28
  a31 := Tryz.isAgg28
  z31 := Tryz.sizeOf28
  v31 := Tryz.zeroValue28
  t46 := Tryz.underlying146
  a46 := Tryz.isAgg146
  z46 := Tryz.sizeOf146
  v46 := Tryz.zeroValue146
  t51 := Tryz.underlying150
  a51 := Tryz.isAgg150
  z51 := Tryz.sizeOf150
  v51 := Tryz.zeroValue150
  t53 := Tryz.underlying129
  a53 := Tryz.isAgg129
  z53 := Tryz.sizeOf129
  v53 := Tryz.zeroValue129
  t131 := Tryz.underlying72
  a131 := Tryz.isAgg72
  z131 := Tryz.sizeOf72
  v131 := Tryz.zeroValue72
  t182 := Tryz.underlying161
  a182 := Tryz.isAgg161
  z182 := Tryz.sizeOf161
  v182 := Tryz.zeroValue161
  t183 := Tryz.underlying162
  a183 := Tryz.isAgg162
  z183 := Tryz.sizeOf162
  v183 := Tryz.zeroValue162
  t218 := Tryz.underlying179
  a218 := Tryz.isAgg179
  z218 := Tryz.sizeOf179
  v218 := Tryz.zeroValue179
  t222 := Tryz.underlying183
  a222 := Tryz.isAgg183
  z222 := Tryz.sizeOf183
  v222 := Tryz.zeroValue183
  t228 := Tryz.underlying188
  a228 := Tryz.isAgg188
  z228 := Tryz.sizeOf188
  v228 := Tryz.zeroValue188
  t229 := Tryz.underlying189
  a229 := Tryz.isAgg189
  z229 := Tryz.sizeOf189
  v229 := Tryz.zeroValue189 }
open Go.Sort Go.RowKit in
theorem Tryz.slices_Sort_string (blk off cap : Nat) (ss : List (List UInt8)) (w : World) (hH : Holds encStr w blk off ss.toArray) (hblk : blk < w.heap.size) (hsz : ss.length < 4611686018427387904) :
    Calls Tryz.prog 74 #[.slice (some ⟨blk, off, none⟩) ss.length cap] w fun e w' =>
      e = .returned (.tuple #[]) ∧ ∃ n os, w' = grow (putRow encStr (Sort.ahead w n) blk off (ss.mergeSort fun x y => decide (x ≤ y)).toArray) os := Any.slices_Sort_string Tryz.lays190 blk off cap ss w hH hblk hsz
def Tryz.lays110_ren : Go.Shelf.Ren := ⟨fun | 110 => 92 | 109 => 107 | n => n, fun | 31 => 28 | 9 => 9 | 4 => 4 | 3 => 3 | 0 => 0 | n => n, fun | n => n⟩
theorem Tryz.lays110 : Go.Proofs.Lays.n110 Tryz.prog Tryz.lays110_ren := {
  mixed := by kernel_rfl
  f109 := Tryz.func107.trans (congrArg some (by kernel_rfl))
  f110 := Tryz.func92.trans (congrArg some (by kernel_rfl))
  t0 := Tryz.underlying0
  a0 := Tryz.isAgg0
  z0 := Tryz.sizeOf0
  v0 := Tryz.zeroValue0
  t3 := Tryz.underlying3
  a3 := Tryz.isAgg3
  z3 := Tryz.sizeOf3
  v3 := Tryz.zeroValue3
  t4 := Tryz.underlying4
  a4 := Tryz.isAgg4
  z4 := Tryz.sizeOf4
  v4 := Tryz.zeroValue4
  t9 := Tryz.underlying9
  a9 := Tryz.isAgg9
  z9 := Tryz.sizeOf9
  v9 := Tryz.zeroValue9
  t31 := Tryz.underlying28
  a31 := Tryz.isAgg28
  z31 := Tryz.sizeOf28
  v31 := Tryz.zeroValue28 }
open Go.Lib in
/-- slices.Contains at []string: "Contains reports whether v is present in s.": IT RETURNS 'Lib.containsS (the elements) v', which is true just where v is among them ('Lib.containsS_iff'); the world is as it was. ITS CALLEE slices.Index IS MET BY ITS OWN CONTRACT OFF THE SHELF (lay that first): no loop is walked here. (LAID: no walk: one application.) -/
theorem Tryz.slices_Contains_string (b off n c : Nat) (zs : List ByteArray) (x : ByteArray) (w : World) (hz : n ≤ zs.length) (hbig : n ≤ 9223372036854775807) (hc : ∀ j, j < zs.length → w.cell? ⟨b, off + j, none⟩ = some (.string (zs.getD j ByteArray.empty))) :
    Calls Tryz.prog 92 #[.slice (some ⟨b, off, none⟩) n c, .string x] w fun e w' => e = .returned (.bool (Lib.containsS (zs.take n) x)) ∧ w' = w := Any.slices_Contains_string Tryz.lays110 b off n c zs x w hz hbig hc
open Go.Lib in
/-- The same at a slice of length 0, a nil one too. (LAID: no walk: one application.) -/
theorem Tryz.slices_Contains_string_empty (a : Option Addr) (c : Nat) (x : ByteArray) (w : World) :
    Calls Tryz.prog 92 #[.slice a 0 c, .string x] w fun e w' => e = .returned (.bool false) ∧ w' = w := Any.slices_Contains_string_empty Tryz.lays110 a c x w
def Tryz.laysNm216_ren : Go.Shelf.Ren := ⟨fun | 16 => 76 | n => n, fun | 24 => 28 | 9 => 9 | 4 => 4 | n => n, fun | n => n⟩
theorem Tryz.laysNm216 : Go.Proofs.Lays2.n16 Tryz.prog Tryz.laysNm216_ren := {
  mixed := by kernel_rfl
  f16 := Tryz.func76.trans (congrArg some (by kernel_rfl))
  t4 := Tryz.underlying4
  a4 := Tryz.isAgg4
  z4 := Tryz.sizeOf4
  v4 := Tryz.zeroValue4
  t9 := Tryz.underlying9
  a9 := Tryz.isAgg9
  z9 := Tryz.sizeOf9
  v9 := Tryz.zeroValue9
  t24 := Tryz.underlying28
  a24 := Tryz.isAgg28
  z24 := Tryz.sizeOf28
  v24 := Tryz.zeroValue28
  i9 := by kernel_rfl }
open Go.RowKit Go.Lib in
/-- slices.Clone at []string: "Clone returns a copy of the slice. The elements are copied using assignment, so this is a shallow clone. The result may have additional unused capacity. The result preserves the nilness of s.": OF A SLICE THAT IS NOT nil IT RETURNS A SLICE THAT IS NOT nil, OF THE SAME ELEMENTS, IN MEMORY OF THE CALL's OWN: in the how-to's words (6f): 'w'.ownsRow B e 1 v' n cells': v' begins at the head of a row among the blocks from B on (B: the heap's size at the call), not frozen, whose first cells are the elements · 'Below B w w'': below B all is as it was. The capacity is whatever the run-time gives. 'zs': what the cells behind the slice's address hold; 'zs.take n': its elements. (LAID: no walk: one application.) -/
theorem Tryz.slices_Clone_string (b off n c : Nat) (zs : List ByteArray) (w : World) (hz : n ≤ zs.length) (hbig : n * 16 ≤ 140737488355328) (hc : ∀ j, j < zs.length → w.cell? ⟨b, off + j, none⟩ = some (.string (zs.getD j ByteArray.empty))) :
    Calls Tryz.prog 76 #[.slice (some ⟨b, off, none⟩) n c] w fun e w' => ∃ v', e = .returned v' ∧ w'.ownsRow w.heap.size 9 1 v' n ((zs.take n).map (Value.string)) ∧ v' ≠ .slice none 0 0 ∧ Below w.heap.size w w' := Any.slices_Clone_string Tryz.laysNm216 b off n c zs w hz hbig hc
open Go.RowKit Go.Lib in
/-- The same at nil: nil comes back; the world is as it was. (LAID: no walk: one application.) -/
theorem Tryz.slices_Clone_string_nil (n c : Nat) (w : World) :
    Calls Tryz.prog 76 #[.slice none n c] w fun e w' => e = .returned (.slice none 0 0) ∧ w' = w := Any.slices_Clone_string_nil Tryz.laysNm216 n c w
open Go.RowKit Go.Lib in
/-- The same at a slice of length 0 that is not nil, WHATEVER ITS ADDRESS (no cell is asked for): a slice that is not nil and owns nothing comes back. (LAID: no walk: one application.) -/
theorem Tryz.slices_Clone_string_zero (a : Addr) (c : Nat) (w : World) :
    Calls Tryz.prog 76 #[.slice (some a) 0 c] w fun e w' => ∃ v', e = .returned v' ∧ w'.ownsRow w.heap.size 9 1 v' 0 [] ∧ v' ≠ .slice none 0 0 ∧ Below w.heap.size w w' := Any.slices_Clone_string_zero Tryz.laysNm216 a c w
def Tryz.lays194_ren : Go.Shelf.Ren := ⟨fun | 194 => 75 | n => n, fun | 31 => 28 | 9 => 9 | 3 => 3 | 4 => 4 | 0 => 0 | n => n, fun | n => n⟩
theorem Tryz.lays194 : Go.Proofs.Lays.n194 Tryz.prog Tryz.lays194_ren := {
  mixed := by kernel_rfl
  f194 := Tryz.func75.trans (congrArg some (by kernel_rfl))
  t0 := Tryz.underlying0
  a0 := Tryz.isAgg0
  z0 := Tryz.sizeOf0
  v0 := Tryz.zeroValue0
  t3 := Tryz.underlying3
  a3 := Tryz.isAgg3
  z3 := Tryz.sizeOf3
  v3 := Tryz.zeroValue3
  t4 := Tryz.underlying4
  a4 := Tryz.isAgg4
  z4 := Tryz.sizeOf4
  v4 := Tryz.zeroValue4
  t9 := Tryz.underlying9
  a9 := Tryz.isAgg9
  z9 := Tryz.sizeOf9
  v9 := Tryz.zeroValue9
  t31 := Tryz.underlying28
  a31 := Tryz.isAgg28
  z31 := Tryz.sizeOf28
  v31 := Tryz.zeroValue28 }
open Go.RowKit Go.Lib Go.Sort in
/-- slices.Compact at []string, over an array: the library's two loops are walked. (LAID: no walk: one application.) -/
theorem Tryz.slices_Compact_string_arr (blk off cap : Nat) (d : Array (List UInt8)) (w : World) (hH : Holds encStr w blk off d) (hsz : d.size ≤ 9223372036854775807) (hcap : d.size ≤ cap) :
    Calls Tryz.prog 75 #[.slice (some ⟨blk, off, none⟩) d.size cap] w fun e w' => e = .returned (.slice (some ⟨blk, off, none⟩) (compactUpTo d d.size).length cap) ∧ ∃ q, w' = putRow encStr (Sort.ahead w q) blk off (compactUpTo d d.size ++ List.replicate (d.size - (compactUpTo d d.size).length) []).toArray := Any.slices_Compact_string_arr Tryz.lays194 blk off cap d w hH hsz hcap
open Go.RowKit Go.Lib Go.Sort in
/-- slices.Compact at []string: "Compact replaces consecutive runs of equal elements with a single copy. This is like the uniq command found on Unix. Compact modifies the contents of the slice s and returns the modified slice, which may have a smaller length. Compact zeroes the elements between the new length and the original length. The result preserves the nilness of s.": IT RETURNS THE SLICE CUT TO 'Lib.compact zs'; ITS CELLS HOLD 'Lib.compact zs', THEN ZERO VALUES up to the old length; all else is as it was, but for the count of draws. IN THE WORDS OF slices.Sort's CONTRACT ('Holds', 'putRow'): so the everyday 'slices.Sort(xs); xs = slices.Compact(xs)' goes from the one contract to the other. It asks 'zs.length ≤ cap' (every slice's: the reslicing 's[:k]' looks at it). Length 0, nil: '.._empty'. (LAID: no walk: one application.) -/
theorem Tryz.slices_Compact_string (blk off cap : Nat) (zs : List (List UInt8)) (w : World) (hH : Holds encStr w blk off zs.toArray) (hsz : zs.length ≤ 9223372036854775807) (hcap : zs.length ≤ cap) :
    Calls Tryz.prog 75 #[.slice (some ⟨blk, off, none⟩) zs.length cap] w fun e w' => e = .returned (.slice (some ⟨blk, off, none⟩) (Lib.compact zs).length cap) ∧ ∃ q, w' = putRow encStr (Sort.ahead w q) blk off (Lib.compact zs ++ List.replicate (zs.length - (Lib.compact zs).length) []).toArray := Any.slices_Compact_string Tryz.lays194 blk off cap zs w hH hsz hcap
open Go.RowKit Go.Lib Go.Sort in
/-- The same at a slice of length 0, a nil one too: it comes back as it is. (LAID: no walk: one application.) -/
theorem Tryz.slices_Compact_string_empty (a : Option Addr) (cap : Nat) (w : World) :
    Calls Tryz.prog 75 #[.slice a 0 cap] w fun e w' => e = .returned (.slice a 0 cap) ∧ w' = w := Any.slices_Compact_string_empty Tryz.lays194 a cap w
open Go.RowKit Go.Lib Go.Sort in
/-- slices.Compact at []string, of an argument. (LAID: no walk: one application.) -/
theorem Tryz.slices_Compact_string_cells (b off n c : Nat) (Sx : Nat → ByteArray) (w : World) (hbig : n ≤ 9223372036854775807) (hcap : n ≤ c) (hc : ∀ i, i < n → w.cell? ⟨b, off + i, none⟩ = some (.string (Sx i))) (hf : ∀ j, j < n → w.frozen? ⟨b, off + j, none⟩ = false) :
    Calls Tryz.prog 75 #[.slice (some ⟨b, off, none⟩) n c] w fun e w' => e = .returned (.slice (some ⟨b, off, none⟩) (Lib.compact (Lib.strsOf Sx n)).length c) ∧ ∃ q, w' = (w.drewN q).setCells b off ((Lib.compact (Lib.strsOf Sx n) ++ List.replicate (n - (Lib.compact (Lib.strsOf Sx n)).length) []).map encStr) := Any.slices_Compact_string_cells Tryz.lays194 b off n c Sx w hbig hcap hc hf
end Go.Proofs
