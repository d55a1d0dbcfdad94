/- Plain: what Round makes. -/
import Derived.Test.YtnnidhjmakpaeaaGreatDoorPD
import Derived.Test.YtnnidhjmakpaeaaGreatDoorP3
namespace Go.Proofs.YtnnidhjmakpaeaaGreatDoor

/-- what Round makes of the parts -/
def roundA (a f : List UInt8) (n : Nat) : List UInt8 := if f[n]?.getD 0 ≥ 53 then incD (a ++ f.take n) else a ++ f.take n
def roundD (l : List UInt8) (n : Int) : List UInt8 × Nat :=
  if dOk l = false then ([], 1)
  else if n < 0 ∨ 6 < n then ([], 2)
  else if ((dFrac l).length : Int) ≤ n then permD (dNeg l) (dWhole l) (dFrac l ++ List.replicate (n - ((dFrac l).length : Int)).toNat 48)
  else permD (dNeg l) ((roundA (dWhole l) (dFrac l) n.toNat).take ((roundA (dWhole l) (dFrac l) n.toNat).length - n.toNat)) ((roundA (dWhole l) (dFrac l) n.toNat).drop ((roundA (dWhole l) (dFrac l) n.toNat).length - n.toNat))
end Go.Proofs.YtnnidhjmakpaeaaGreatDoor
