/- Plain: the class of a number, and the key that a value chooses. -/
import Derived.Test.YtadhblppeaamlaaGreatDoorS1
import Derived.Test.YtadhblppeaamlaaGreatDoorPD
namespace Go.Proofs.YtadhblppeaamlaaGreatDoor
open Go.RowKit

/-- whether a relation holds for a number -/
def holdsR (s : List UInt8) (r : Rel) : Bool :=
  if (opV s r.op).2 = 0 then insideV r.sp (if r.md = 0 then ((opV s r.op).1 : Int) else ((opV s r.op).1 : Int) % r.md) != r.neg else r.neg
/-- whether a condition holds for a number -/
def holdsC (s : List UInt8) (c : List (List Rel)) : Bool := c.any fun l => l.all (holdsR s)
/-- the class of a number by valid rules -/
def classOf (rs : List (ByteArray × List (List Rel))) (s : List UInt8) : ByteArray :=
  match rs.find? fun r => holdsC s r.2 with
  | some r => r.1
  | none => otherB
/-- the class of a number, and the error -/
def classV (rs : List (ByteArray × List (List Rel))) (s : List UInt8) : ByteArray × Nat :=
  if validR rs && dOk s then (classOf rs s, 0) else (.empty, 1)

/-- a value: its name, type, text, date, and list -/
structure Vl where
  nm : ByteArray
  ty : Int
  tx : ByteArray
  dt : Int
  li : List ByteArray
/-- a string of a machine's size -/
def StrC (_ : World) (x : Nat → Value) (s : ByteArray) : Prop := x 0 = .string s ∧ s.size ≤ 140737488351232
/-- the five cells of a value -/
def ValC (w : World) (x : Nat → Value) (v : Vl) : Prop := x 0 = .string v.nm ∧ v.nm.size ≤ 140737488351232 ∧ x 1 = .int .i64 v.ty ∧ x 2 = .string v.tx ∧ v.tx.size ≤ 140737488351232 ∧ x 3 = .int .i64 v.dt ∧ RowsOf 1 StrC w (x 4) v.li
theorem ValC.below {w w' : World} {x : Nat → Value} {v : Vl} (h : ValC w x v) (hb : Below w.heap.size w w') : ValC w' x v :=
  ⟨h.1, h.2.1, h.2.2.1, h.2.2.2.1, h.2.2.2.2.1, h.2.2.2.2.2.1, h.2.2.2.2.2.2.map hb fun _ _ h => h⟩
/-- values -/
def ValsAt (w : World) (v : Value) (l : List Vl) : Prop := RowsOf 5 ValC w v l
theorem ValsAt.below {w w' : World} {v : Value} {l : List Vl} (h : ValsAt w v l) (hb : Below w.heap.size w w') : ValsAt w' v l := RowsOf.map h hb fun _ _ h => h.below hb
/-- the sixteen cells of a locale, of which the third and the fourth are rules -/
def LocC (w : World) (x : Nat → Value) (a b : List (ByteArray × List (List Rel))) : Prop := RulesAt w (x 3) a ∧ RulesAt w (x 4) b
theorem LocC.below {w w' : World} {x : Nat → Value} {a b : List (ByteArray × List (List Rel))} (h : LocC w x a b) (hb : Below w.heap.size w w') : LocC w' x a b := ⟨h.1.below hb, h.2.below hb⟩
def properVl (v : Vl) : Bool :=
  if v.ty = 1 then decide (v.dt = 0) && decide (v.li.length = 0)
  else if v.ty = 2 then dOk v.tx.data.toList && decide (v.dt = 0) && decide (v.li.length = 0)
  else if v.ty = 3 then decide (v.tx.size = 0) && decide (v.li.length = 0)
  else if v.ty = 4 then decide (v.tx.size = 0) && decide (v.dt = 0)
  else false
/-- whether a value is suitable for a kind -/
def suitV (kind : Int) (v : Vl) : Bool := properVl v && decide (v.ty = if kind = 9 then 1 else 2)
/-- the rules for a kind -/
def rulesV (kind : Int) (card ord : List (ByteArray × List (List Rel))) : List (ByteArray × List (List Rel)) := if kind = 7 then card else if kind = 8 then ord else []
/-- the keys that a value wants -/
def wantV (kind : Int) (rs : List (ByteArray × List (List Rel))) (tx : ByteArray) : List ByteArray :=
  if kind = 9 then [tx, otherB] else [bs (61 :: tx.data.toList), (classV rs tx.data.toList).1, otherB]
/-- the index of the first key that is the first of the wanted ones -/
def firstK (keys : List ByteArray) : List ByteArray → Int
  | [] => -1
  | a :: r => if a ∈ keys then ((keys.idxOf a : Nat) : Int) else firstK keys r
/-- the error ahead of the choice, 0 if there is none -/
def ahead (kind : Int) (rs : List (ByteArray × List (List Rel))) (v : Option Vl) : Nat :=
  if ¬ (7 ≤ kind ∧ kind ≤ 9) then 1 else if validR rs = false then 18 else match v with
    | none => 12
    | some v => if suitV kind v then 0 else 11
/-- what Choose answers -/
def chooseV (kind : Int) (rs : List (ByteArray × List (List Rel))) (keys : List ByteArray) (v : Option Vl) : Int × Nat :=
  if ahead kind rs v = 0 then
    (if firstK keys (wantV kind rs (match v with | some v => v.tx | none => .empty)) < 0 then (0, 13) else (firstK keys (wantV kind rs (match v with | some v => v.tx | none => .empty)), 0))
  else (0, ahead kind rs v)
/-- what Key answers -/
def keyV (kind : Int) (rs : List (ByteArray × List (List Rel))) (keys : List ByteArray) (v : Vl) : ByteArray × Nat :=
  if ahead kind rs (some v) = 0 then
    (if firstK keys (wantV kind rs v.tx) < 0 then (.empty, 13) else (keys.getD (firstK keys (wantV kind rs v.tx)).toNat .empty, 0))
  else (.empty, ahead kind rs (some v))
/-- what Class answers -/
def clsV (kind : Int) (rs : List (ByteArray × List (List Rel))) (s : List UInt8) : ByteArray × Nat :=
  if (kind = 7 ∨ kind = 8) ∧ dOk s = true then (if validR rs then (classOf rs s, 0) else (.empty, 18)) else (.empty, 1)
end Go.Proofs.YtadhblppeaamlaaGreatDoor
