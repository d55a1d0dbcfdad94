/- part -/
import Derived.Shelf.Strings.OnBuilder
import Derived.Shelf.Strings.Trim
import Derived.Shelf.Small.Utf8
import Derived.Shelf.Strings.BuilderRune
import Derived.Shelf.Strconv.Itoa4
import Derived.Shelf.Strconv.AtoiAll
import Derived.Shelf.Strings.Shaped
import Derived.Shelf.Strings.Runes
import Derived.Shelf.Strings.AsciiSet
import Derived.Shelf.Strings.Repeat
import Derived.Shelf.Unicode.DecodeAny
import Derived.Test.YtmleeodfmmpdgaaGreatDoorProg
namespace Go.Proofs
open Go.Shelf
open _root_.Go.Proofs.Tryz
def Tryz.lays145_ren : Go.Shelf.Ren := ⟨fun | 145 => 173 | 220 => 217 | 219 => 264 | 217 => 263 | 225 => 300 | 224 => 301 | 267 => 302 | 266 => 299 | 314 => 320 | n => n, fun | 9 => 9 | 4 => 4 | 59 => 208 | 3 => 3 | 5 => 5 | 46 => 259 | 146 => 320 | 51 => 257 | n => n, fun | 1 => 1 | n => n⟩
theorem Tryz.lays145 : Go.Proofs.Lays.n145 prog Tryz.lays145_ren := {
  mixed := by kernel_rfl
  f145 := func173.trans (congrArg some (by kernel_rfl))
  f217 := func263.trans (congrArg some (by kernel_rfl))
  f219 := func264.trans (congrArg some (by kernel_rfl))
  f220 := func217.trans (congrArg some (by kernel_rfl))
  f224 := func301.trans (congrArg some (by kernel_rfl))
  f225 := func300.trans (congrArg some (by kernel_rfl))
  f266 := func299.trans (congrArg some (by kernel_rfl))
  f267 := func302.trans (congrArg some (by kernel_rfl))
  f314 := func320.trans (congrArg some (by kernel_rfl))
  t3 := underlying3
  a3 := Tryz.isAgg3
  z3 := Tryz.sizeOf3
  v3 := Tryz.zeroValue3
  t4 := underlying4
  a4 := Tryz.isAgg4
  z4 := Tryz.sizeOf4
  v4 := Tryz.zeroValue4
  t5 := underlying5
  a5 := Tryz.isAgg5
  z5 := Tryz.sizeOf5
  v5 := Tryz.zeroValue5
  t9 := underlying9
  a9 := Tryz.isAgg9
  z9 := Tryz.sizeOf9
  v9 := Tryz.zeroValue9
  t46 := underlying259
  a46 := Tryz.isAgg259
  z46 := Tryz.sizeOf259
  v46 := Tryz.zeroValue259
  t51 := underlying257
  a51 := Tryz.isAgg257
  z51 := Tryz.sizeOf257
  v51 := Tryz.zeroValue257
  t59 := underlying208
  a59 := Tryz.isAgg208
  z59 := Tryz.sizeOf208
  v59 := Tryz.zeroValue208
  t146 := underlying320
  a146 := Tryz.isAgg320
  z146 := Tryz.sizeOf320
  v146 := Tryz.zeroValue320
  g1 := by kernel_rfl }
open Go.RowKit Go.Lib in
theorem Tryz.strings_Cut (s sep : ByteArray) (m : Int) (w : World) (hs : s.size < 4294967281) (hm : w.cell? ⟨1, 0, none⟩ = some (.int .i64 m)) :
    Calls prog 173 #[.string s, .string sep] w fun e w' => e = .returned (.tuple #[.string ⟨(Lib.cut s.data.toList sep.data.toList).1.toArray⟩, .string ⟨(Lib.cut s.data.toList sep.data.toList).2.1.toArray⟩, .bool (Lib.cut s.data.toList sep.data.toList).2.2]) ∧ ∃ n, w' = w.drewN n := Any.strings_Cut Tryz.lays145 s sep m w hs hm
end Go.Proofs
