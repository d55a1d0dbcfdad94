/- Walks over rules in the program: whether a string is a class, whether rules are valid. -/
import Derived.Test.YtadhblppeaamlaaGreatDoorSE
import Derived.Test.YtadhblppeaamlaaGreatDoorSC
namespace Go.Proofs.YtadhblppeaamlaaGreatDoor
open Go.RowKit
attribute [local go_sem] Ext.cell Ext.frozen
attribute [local go_sem ↓] Go.wp_at_zero Go.wp_at_succ

def class6 : List ByteArray := classL ++ [otherB]
abbrev six : Array Value := #[.string ⟨#[122, 101, 114, 111]⟩, .string ⟨#[111, 110, 101]⟩, .string ⟨#[116, 119, 111]⟩, .string ⟨#[102, 101, 119]⟩, .string ⟨#[109, 97, 110, 121]⟩, .string ⟨#[111, 116, 104, 101, 114]⟩]
theorem order_any (w : World) : Calls Tryz.prog 68 #[] w fun e w' => e = .returned (.agg six) ∧ Below w.heap.size w w' := by
  go_enter Tryz.func68, Tryz.ntmps68
  go_wp2_with fail
  exact bodyPost_ret (v := .agg six) (by simp [results, Tryz.f68, go_sem]) rfl ⟨rfl, by show Bel w _; repeat (first | exact Bel.refl _ | refine Bel.alloc ?_ _ | refine Bel.setCell ?_ _ _ ?_ | (simp; done))⟩
theorem pknown_any (s : ByteArray) (w : World) : Calls Tryz.prog 50 #[.string s] w fun e w' => e = .returned (.bool (class6.contains s)) ∧ Below w.heap.size w w' := by
  have HO := Lib.hid (fun w => order_any w)
  have HC : Hid (∀ (W : World) e, Calls Tryz.prog 69 #[.slice (some ⟨W.heap.size, 0, none⟩) 6 6, .string s] (W.alloc (.cells six e)) fun e' w' => e' = .returned (.bool (class6.contains s)) ∧ W.alloc (.cells six e) = w') := fun W e => contains_str _ 6 6 class6 s _ (sl_made W (strs class6) e (by decide))
  generalize class6.contains s = q at *
  go_enter Tryz.func50, Tryz.ntmps50
  go_wp2_with fail
  refine (Calls.toExt (HO.out _)).mono ?_
  rintro e _ ⟨rfl, x1, rfl⟩
  go_wp2_with fail
  refine (HC.out _ _).mono ?_
  rintro e _ ⟨rfl, rfl⟩
  go_wp2_with fail
  go_ret
  exact ⟨rfl, by show Bel w _; exact ((Bel.refl _).ext x1).alloc _⟩
theorem psame_any (x : Nat → Value) (a b : ByteArray) (B : Nat) (w : World) (h0 : x 0 = .string a) (hc : w.cell? ⟨B, 0, none⟩ = some (.string b)) :
    Calls Tryz.prog 53 #[.agg #[x 0, x 1], .pointer (some ⟨B, 0, none⟩)] w fun e w' => e = .returned (.bool (a == b)) ∧ Below w.heap.size w w' := by
  rw [h0]
  have hlt : B < w.heap.size := World.block_lt_of_cell? _ _ hc
  have h9 := fun o => Lib.cell?_alloc_some o hc
  generalize x 1 = x1 at *
  clear h0
  by_cases he : a = b
  · subst he
    have e1 : (a.toList == a.toList) = true := by simp
    rw [show (a == a) = true from by simp]
    go_enter Tryz.func53, Tryz.ntmps53
    go_wp2_with fail
    go_ret
    exact ⟨rfl, (Below.refl _ _).alloc (Nat.le_refl _) _⟩
  · have e1 : (a.toList == b.toList) = false := by rw [beq_eq_false_iff_ne]; exact fun e => he (ByteArray.ext (by simpa [ByteArray.toList_eq] using e))
    rw [show (a == b) = false from by rw [beq_eq_false_iff_ne]; exact he]
    clear he
    go_enter Tryz.func53, Tryz.ntmps53
    go_wp2_with fail
    go_ret
    exact ⟨rfl, (Below.refl _ _).alloc (Nat.le_refl _) _⟩
end Go.Proofs.YtadhblppeaamlaaGreatDoor
