/- Plain: what the functions on numbers answer. -/
import Derived.Test.YtadhblppeaamlaaGreatDoorP1
namespace Go.Proofs.YtadhblppeaamlaaGreatDoor
/-- the text of a number, or ErrRange -/
def permD (n : Bool) (a f : List UInt8) : List UInt8 × Nat := if 15 < a.length ∨ 6 < f.length then ([], 2) else (textD n a f, 0)

/-- what Shift makes of the parts for n -/
def shW (a f : List UInt8) (n : Int) : List UInt8 :=
  if 0 ≤ n then trimmedD (a ++ (f ++ List.replicate n.toNat 48).take n.toNat)
  else trimmedD ((List.replicate (-n).toNat 48 ++ a).take (a.length))
def shF (a f : List UInt8) (n : Int) : List UInt8 :=
  if 0 ≤ n then f.drop (min n.toNat f.length) else (List.replicate (-n).toNat 48 ++ a).drop a.length ++ f
def shiftD (l : List UInt8) (n : Int) : List UInt8 × Nat :=
  if dOk l = false then ([], 1) else permD (dNeg l) (shW (dWhole l) (dFrac l) (max (min n 40) (-40))) (shF (dWhole l) (dFrac l) (max (min n 40) (-40)))

/-- an operand, and the error -/
def opV (l : List UInt8) (op : Int) : Nat × Nat :=
  if dOk l = false then (0, 1)
  else if op = 1 then (if allZ (dFrac l) then (valD (dWhole l), 0) else (0, 8))
  else if op = 2 then (valD (dWhole l), 0)
  else if op = 3 then ((dFrac l).length, 0)
  else if op = 4 then ((trimZ (dFrac l)).length, 0)
  else if op = 5 then (valD (dFrac l), 0)
  else if op = 6 then (valD (trimZ (dFrac l)), 0)
  else (0, 1)

/-- the integer that a number is -/
def intV (l : List UInt8) : Int × Bool := if dOk l = true ∧ allZ (dFrac l) = true then (if dNeg l then -((valD (dWhole l) : Nat) : Int) else ((valD (dWhole l) : Nat) : Int), true) else (0, false)
/-- a number in its normal form -/
def normD (l : List UInt8) : List UInt8 × Nat := if dOk l = true then (textD (dNeg l) (dWhole l) (trimZ (dFrac l)), 0) else ([], 1)
theorem intV_no {l : List UInt8} (h : dOk l = false) : intV l = (0, false) := by unfold intV; rw [if_neg (by rw [h]; simp)]
theorem intV_frac {l : List UInt8} (h : allZ (dFrac l) = false) : intV l = (0, false) := by unfold intV; rw [if_neg (by rw [h]; simp)]
theorem intV_pos {l : List UInt8} (ho : dOk l = true) (hz : allZ (dFrac l) = true) (hn : dNeg l = false) : intV l = (((valD (dWhole l) : Nat) : Int), true) := by unfold intV; rw [if_pos ⟨ho, hz⟩, if_neg (by rw [hn]; simp)]
theorem intV_neg {l : List UInt8} (ho : dOk l = true) (hz : allZ (dFrac l) = true) (hn : dNeg l = true) : intV l = (-((valD (dWhole l) : Nat) : Int), true) := by unfold intV; rw [if_pos ⟨ho, hz⟩, if_pos hn]
theorem normD_no {l : List UInt8} (h : dOk l = false) : normD l = ([], 1) := by unfold normD; rw [if_neg (by rw [h]; simp)]
theorem normD_yes {l : List UInt8} (h : dOk l = true) : normD l = (textD (dNeg l) (dWhole l) (trimZ (dFrac l)), 0) := by unfold normD; rw [if_pos h]
end Go.Proofs.YtadhblppeaamlaaGreatDoor
