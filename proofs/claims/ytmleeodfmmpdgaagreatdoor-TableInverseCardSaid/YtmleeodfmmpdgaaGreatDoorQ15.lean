/- part -/
import Derived.Test.YtmleeodfmmpdgaaGreatDoorProg
import Derived.Shelf.Strings.Prefix
namespace Go.Proofs
open Go.Shelf
open _root_.Go.Proofs.Tryz
def Tryz.lays99_ren : Go.Shelf.Ren := ⟨fun | 99 => 316 | 206 => 328 | n => n, fun | 9 => 9 | 4 => 4 | 3 => 3 | n => n, fun | n => n⟩
theorem Tryz.lays99 : Go.Proofs.Lays.n99 prog Tryz.lays99_ren := {
  mixed := by kernel_rfl
  f99 := func316.trans (congrArg some (by kernel_rfl))
  f206 := func328.trans (congrArg some (by kernel_rfl))
  t3 := underlying3
  a3 := Tryz.isAgg3
  z3 := Tryz.sizeOf3
  v3 := Tryz.zeroValue3
  t4 := underlying4
  a4 := Tryz.isAgg4
  z4 := Tryz.sizeOf4
  v4 := Tryz.zeroValue4
  t9 := underlying9
  a9 := Tryz.isAgg9
  z9 := Tryz.sizeOf9
  v9 := Tryz.zeroValue9 }
def Tryz.lays143_ren : Go.Shelf.Ren := ⟨fun | 143 => 338 | 219 => 264 | 217 => 263 | 225 => 300 | 224 => 301 | 267 => 302 | 266 => 299 | 314 => 320 | n => n, fun | 9 => 9 | 3 => 3 | 4 => 4 | 5 => 5 | 46 => 259 | 146 => 320 | 51 => 257 | n => n, fun | 1 => 1 | n => n⟩
theorem Tryz.lays143 : Go.Proofs.Lays.n143 prog Tryz.lays143_ren := {
  mixed := by kernel_rfl
  f143 := func338.trans (congrArg some (by kernel_rfl))
  f217 := func263.trans (congrArg some (by kernel_rfl))
  f219 := func264.trans (congrArg some (by kernel_rfl))
  f224 := func301.trans (congrArg some (by kernel_rfl))
  f225 := func300.trans (congrArg some (by kernel_rfl))
  f266 := func299.trans (congrArg some (by kernel_rfl))
  f267 := func302.trans (congrArg some (by kernel_rfl))
  f314 := func320.trans (congrArg some (by kernel_rfl))
  t3 := underlying3
  a3 := Tryz.isAgg3
  z3 := Tryz.sizeOf3
  v3 := Tryz.zeroValue3
  t4 := underlying4
  a4 := Tryz.isAgg4
  z4 := Tryz.sizeOf4
  v4 := Tryz.zeroValue4
  t5 := underlying5
  a5 := Tryz.isAgg5
  z5 := Tryz.sizeOf5
  v5 := Tryz.zeroValue5
  t9 := underlying9
  a9 := Tryz.isAgg9
  z9 := Tryz.sizeOf9
  v9 := Tryz.zeroValue9
  t46 := underlying259
  a46 := Tryz.isAgg259
  z46 := Tryz.sizeOf259
  v46 := Tryz.zeroValue259
  t51 := underlying257
  a51 := Tryz.isAgg257
  z51 := Tryz.sizeOf257
  v51 := Tryz.zeroValue257
  t146 := underlying320
  a146 := Tryz.isAgg320
  z146 := Tryz.sizeOf320
  v146 := Tryz.zeroValue320
  g1 := by kernel_rfl }
end Go.Proofs
