/- Walks: checked, Shift by the reference. -/
import Derived.Test.YtnnidhjmakpaeaaDoorW10
namespace Go.Proofs.YtnnidhjmakpaeaaDoor
open Go.RowKit
attribute [local go_sem] Ext.cell Ext.frozen
attribute [local go_sem ↓] Go.wp_at_zero Go.wp_at_succ

set_option maxHeartbeats 2000000 in
theorem checked_any (n : Bool) (a0 f : ByteArray) (w : World) (ha : a0.size ≤ 1000) (hf : f.size ≤ 1000) :
    Calls Tryd.prog 33 #[.agg #[.bool n, .string a0, .string f]] w fun e w' =>
      e = .returned (.tuple #[.string (bs (permD n (leadD a0.data.toList) f.data.toList).1), .int .i64 ((permD n (leadD a0.data.toList) f.data.toList).2 : Nat)]) ∧ Below w.heap.size w w' := by
  have HL := Lib.hid (fun w => rlead_any a0 w (by omega))
  have hl : (bs (leadD a0.data.toList)).size ≤ 1000 := by rw [bs_size]; have := leadD_len a0.data.toList; rw [size_len] at this; omega
  have HD : Hid (leadD a0.data.toList = (bs (leadD a0.data.toList)).data.toList) := rfl
  rw [HD.out]
  clear HD
  generalize bs (leadD a0.data.toList) = a at *
  have HT := Lib.hid (fun w => rtext_any n a f w hl hf)
  by_cases h1 : 15 < a.size
  · have HP : Hid (permD n a.data.toList f.data.toList = ([], 2)) := by unfold Hid permD; rw [size_len, if_pos (.inl h1)]
    go_enter Tryd.func33, Tryd.ntmps33
    go_wp2_with fail
    refine (HL.out _).mono ?_
    rintro e _ ⟨rfl, rfl⟩
    go_wp2_with fail
    go_ret2
    exact ⟨by rw [HP.out]; rfl, by (show Bel w _; (repeat (first | exact Bel.refl _ | refine Bel.ext ?_ _ | refine Bel.alloc ?_ _ | refine Bel.drewN ?_ _ | refine Bel.drew ?_ | refine Bel.setCell ?_ _ _ ?_ | exact Nat.le_refl _ | (simp; done) | omega)))⟩
  · by_cases h2 : 6 < f.size
    · have HP : Hid (permD n a.data.toList f.data.toList = ([], 2)) := by unfold Hid permD; rw [size_len, size_len, if_pos (.inr h2)]
      go_enter Tryd.func33, Tryd.ntmps33
      go_wp2_with fail
      refine (HL.out _).mono ?_
      rintro e _ ⟨rfl, rfl⟩
      go_wp2_with fail
      go_ret2
      exact ⟨by rw [HP.out]; rfl, by (show Bel w _; (repeat (first | exact Bel.refl _ | refine Bel.ext ?_ _ | refine Bel.alloc ?_ _ | refine Bel.drewN ?_ _ | refine Bel.drew ?_ | refine Bel.setCell ?_ _ _ ?_ | exact Nat.le_refl _ | (simp; done) | omega)))⟩
    · have HP : Hid (permD n a.data.toList f.data.toList = (textD n a.data.toList f.data.toList, 0)) := by unfold Hid permD; rw [size_len, size_len, if_neg (by omega)]
      generalize textD n a.data.toList f.data.toList = t at *
      go_enter Tryd.func33, Tryd.ntmps33
      go_wp2_with fail
      refine (HL.out _).mono ?_
      rintro e _ ⟨rfl, rfl⟩
      go_wp2_with fail
      refine (Calls.toExt (HT.out _)).mono ?_
      rintro e _ ⟨rfl, x, rfl⟩
      go_wp2_with fail
      go_ret2
      exact ⟨by rw [HP.out]; rfl, by (show Bel w _; (repeat (first | exact Bel.refl _ | refine Bel.ext ?_ _ | refine Bel.alloc ?_ _ | refine Bel.drewN ?_ _ | refine Bel.drew ?_ | refine Bel.setCell ?_ _ _ ?_ | exact Nat.le_refl _ | (simp; done) | omega)))⟩

/-- Shift, as the reference has it -/
def rAll (a f : List UInt8) (n : Int) : List UInt8 := List.replicate ((f.length : Int) - n).toNat 48 ++ a ++ f ++ List.replicate (n - (f.length : Int)).toNat 48
def rshiftD (l : List UInt8) (n : Int) : List UInt8 × Nat :=
  if dOk l = false then ([], 1)
  else if n < -6 ∨ (21 < n ∧ (allZ (dWhole l) && allZ (dFrac l)) = false) then ([], 2)
  else permD (dNeg l) (leadD ((rAll (dWhole l) (dFrac l) (min n 30)).take ((rAll (dWhole l) (dFrac l) (min n 30)).length - (((dFrac l).length : Int) - min n 30).toNat)))
    ((rAll (dWhole l) (dFrac l) (min n 30)).drop ((rAll (dWhole l) (dFrac l) (min n 30)).length - (((dFrac l).length : Int) - min n 30).toNat))
end Go.Proofs.YtnnidhjmakpaeaaDoor
