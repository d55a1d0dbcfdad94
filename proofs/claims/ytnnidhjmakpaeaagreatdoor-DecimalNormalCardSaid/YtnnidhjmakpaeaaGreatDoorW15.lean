/- Walks: Shift by the program, whole; the two examples. -/
import Derived.Test.YtnnidhjmakpaeaaGreatDoorW11
import Derived.Test.YtnnidhjmakpaeaaGreatDoorW12
import Derived.Test.YtnnidhjmakpaeaaGreatDoorW14
namespace Go.Proofs.YtnnidhjmakpaeaaGreatDoor
open Go.RowKit
attribute [local go_sem] Ext.cell Ext.frozen
attribute [local go_sem ↓] Go.wp_at_zero Go.wp_at_succ

theorem shift_no (s : ByteArray) (n0 : Int) (w : World) (hs : s.size ≤ 1000) (ho : dOk s.data.toList = false) :
    Calls Tryz.prog 12 #[.string s, .int .i64 n0] w fun e w' => e = .returned (.tuple #[.string (bs (shiftD s.data.toList n0).1), .int .i64 ((shiftD s.data.toList n0).2 : Nat)]) ∧ Below w.heap.size w w' := by
  have HS := Lib.hid (fun w => split_any s w hs)
  have HSH : Hid (shiftD s.data.toList n0 = ([], 1)) := by unfold Hid shiftD; rw [if_pos ho]
  rw [ho] at HS
  clear ho
  generalize dNeg s.data.toList = ng at *
  generalize bs (dWhole s.data.toList) = a at *
  generalize bs (dFrac s.data.toList) = f at *
  go_enter Tryz.func12, Tryz.ntmps12
  go_wp2_with fail
  refine (Calls.toExt (HS.out _)).mono ?_
  rintro e _ ⟨rfl, x, rfl⟩
  have hxw : w.heap.size ≤ x.1.heap.size := by have := x.2.size; (try simp at this); omega
  go_wp2_with fail
  go_ret2
  exact ⟨by rw [HSH.out]; rfl, by (show Bel w _; (repeat (first | exact Bel.refl _ | refine Bel.ext ?_ _ | refine Bel.alloc ?_ _ | refine Bel.drewN ?_ _ | refine Bel.drew ?_ | refine Bel.setCell ?_ _ _ ?_ | exact Nat.le_refl _ | (simp; done) | omega | (simp <;> omega))))⟩

theorem shift_any (s : ByteArray) (n0 : Int) (w : World) (hs : s.size ≤ 1000) :
    Calls Tryz.prog 12 #[.string s, .int .i64 n0] w fun e w' => e = .returned (.tuple #[.string (bs (shiftD s.data.toList n0).1), .int .i64 ((shiftD s.data.toList n0).2 : Nat)]) ∧ Below w.heap.size w w' := by
  cases ho : dOk s.data.toList with
  | false => exact shift_no s n0 w hs ho
  | true =>
    by_cases h : 0 ≤ max (min n0 40) (-40)
    · exact shift_up s n0 (max (min n0 40) (-40)).toNat w hs ho (by omega)
    · exact shift_down s n0 (-(max (min n0 40) (-40))).toNat w hs ho (by omega) (by omega)

theorem ex_shift : shiftD [49, 46, 53, 48] 1 = ([49, 53, 46, 48], 0) := by decide +kernel
theorem ex_operand : opV [49, 46, 51, 48] 6 = (3, 0) := by decide +kernel
theorem awake_any (w : World) : Calls Tryz.prog 7 #[] w fun e w' => e = .returned (.bool true) ∧ Below w.heap.size w w' := by
  have HS : Hid (∀ w, Calls Tryz.prog 12 #[.string ⟨#[49, 46, 53, 48]⟩, .int .i64 1] w fun e w' => e = .returned (.tuple #[.string (bs [49, 53, 46, 48]), .int .i64 (0 : Nat)]) ∧ Below w.heap.size w w') := fun w => by
    have h := shift_any ⟨#[49, 46, 53, 48]⟩ 1 w (by decide)
    rw [show (ByteArray.mk #[49, 46, 53, 48]).data.toList = [49, 46, 53, 48] from rfl, ex_shift] at h
    exact h
  have HO : Hid (∀ w, Calls Tryz.prog 14 #[.string ⟨#[49, 46, 51, 48]⟩, .int .i64 6] w fun e w' => e = .returned (.tuple #[.int .i64 (3 : Nat), .int .i64 (0 : Nat)]) ∧ Below w.heap.size w w') := fun w => by
    have h := operand_any ⟨#[49, 46, 51, 48]⟩ 6 w (by decide)
    rw [show (ByteArray.mk #[49, 46, 51, 48]).data.toList = [49, 46, 51, 48] from rfl, ex_operand] at h
    exact h
  have hb : bs [49, 53, 46, 48] = ⟨#[49, 53, 46, 48]⟩ := rfl
  rw [hb] at HS
  clear hb
  go_enter Tryz.func7, Tryz.ntmps7
  go_wp2_with fail
  refine (Calls.toExt (HS.out _)).mono ?_
  rintro e _ ⟨rfl, x, rfl⟩
  have hxw : w.heap.size ≤ x.1.heap.size := by have := x.2.size; (try simp at this); omega
  go_wp2_with fail
  refine (Calls.toExt (HO.out _)).mono ?_
  rintro e _ ⟨rfl, y, rfl⟩
  go_wp2_with fail
  go_ret
  exact ⟨rfl, by (show Bel w _; (repeat (first | exact Bel.refl _ | refine Bel.ext ?_ _ | refine Bel.alloc ?_ _ | refine Bel.drewN ?_ _ | refine Bel.drew ?_ | refine Bel.setCell ?_ _ _ ?_ | exact Nat.le_refl _ | (simp; done) | omega | (simp <;> omega))))⟩
end Go.Proofs.YtnnidhjmakpaeaaGreatDoor
