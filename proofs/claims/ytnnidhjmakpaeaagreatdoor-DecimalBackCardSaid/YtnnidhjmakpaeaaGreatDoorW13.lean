/- Walks: checked, Shift by the reference. -/
import Derived.Test.YtnnidhjmakpaeaaGreatDoorW10
namespace Go.Proofs.YtnnidhjmakpaeaaGreatDoor
open Go.RowKit
attribute [local go_sem] Ext.cell Ext.frozen
attribute [local go_sem ↓] Go.wp_at_zero Go.wp_at_succ

/-- Shift, as the reference has it -/
def rAll (a f : List UInt8) (n : Int) : List UInt8 := List.replicate ((f.length : Int) - n).toNat 48 ++ a ++ f ++ List.replicate (n - (f.length : Int)).toNat 48
def rshiftD (l : List UInt8) (n : Int) : List UInt8 × Nat :=
  if dOk l = false then ([], 1)
  else if n < -6 ∨ (21 < n ∧ (allZ (dWhole l) && allZ (dFrac l)) = false) then ([], 2)
  else permD (dNeg l) (leadD ((rAll (dWhole l) (dFrac l) (min n 30)).take ((rAll (dWhole l) (dFrac l) (min n 30)).length - (((dFrac l).length : Int) - min n 30).toNat)))
    ((rAll (dWhole l) (dFrac l) (min n 30)).drop ((rAll (dWhole l) (dFrac l) (min n 30)).length - (((dFrac l).length : Int) - min n 30).toNat))
end Go.Proofs.YtnnidhjmakpaeaaGreatDoor
