/- Walks: permitted, Shift by the program. -/
import Derived.Test.YtnnidhjmakpaeaaGreatDoorW9
namespace Go.Proofs.YtnnidhjmakpaeaaGreatDoor
open Go.RowKit
attribute [local go_sem] Ext.cell Ext.frozen
attribute [local go_sem ↓] Go.wp_at_zero Go.wp_at_succ

set_option maxHeartbeats 1000000 in
theorem permitted_any (n : Bool) (a f : ByteArray) (w : World) (ha : a.size ≤ 1000) (hf : f.size ≤ 1000) :
    Calls Tryz.prog 22 #[.agg #[.bool n, .string a, .string f]] w fun e w' =>
      e = .returned (.tuple #[.string (bs (permD n a.data.toList f.data.toList).1), .int .i64 ((permD n a.data.toList f.data.toList).2 : Nat)]) ∧ Below w.heap.size w w' := by
  have HT := Lib.hid (fun w => text_any n a f w ha hf)
  by_cases h1 : 15 < a.size
  · have HP : Hid (permD n a.data.toList f.data.toList = ([], 2)) := by unfold Hid permD; rw [size_len, if_pos (.inl h1)]
    go_enter Tryz.func22, Tryz.ntmps22
    go_wp2_with fail
    go_ret2
    exact ⟨by rw [HP.out]; rfl, by (show Bel w _; (repeat (first | exact Bel.refl _ | refine Bel.ext ?_ _ | refine Bel.alloc ?_ _ | refine Bel.drewN ?_ _ | refine Bel.drew ?_ | refine Bel.setCell ?_ _ _ ?_ | exact Nat.le_refl _ | (simp; done) | omega)))⟩
  · by_cases h2 : 6 < f.size
    · have HP : Hid (permD n a.data.toList f.data.toList = ([], 2)) := by unfold Hid permD; rw [size_len, size_len, if_pos (.inr h2)]
      go_enter Tryz.func22, Tryz.ntmps22
      go_wp2_with fail
      go_ret2
      exact ⟨by rw [HP.out]; rfl, by (show Bel w _; (repeat (first | exact Bel.refl _ | refine Bel.ext ?_ _ | refine Bel.alloc ?_ _ | refine Bel.drewN ?_ _ | refine Bel.drew ?_ | refine Bel.setCell ?_ _ _ ?_ | exact Nat.le_refl _ | (simp; done) | omega)))⟩
    · have HP : Hid (permD n a.data.toList f.data.toList = (textD n a.data.toList f.data.toList, 0)) := by unfold Hid permD; rw [size_len, size_len, if_neg (by omega)]
      generalize textD n a.data.toList f.data.toList = t at *
      go_enter Tryz.func22, Tryz.ntmps22
      go_wp2_with fail
      refine (Calls.toExt (HT.out _)).mono ?_
      rintro e _ ⟨rfl, x, rfl⟩
      go_wp2_with fail
      go_ret2
      exact ⟨by rw [HP.out]; rfl, by (show Bel w _; (repeat (first | exact Bel.refl _ | refine Bel.ext ?_ _ | refine Bel.alloc ?_ _ | refine Bel.drewN ?_ _ | refine Bel.drew ?_ | refine Bel.setCell ?_ _ _ ?_ | exact Nat.le_refl _ | (simp; done) | omega)))⟩

theorem repeat_any (n : Nat) (w : World) (hn : n ≤ 1000) :
    Calls Tryz.prog 20 #[.string ⟨#[48]⟩, .int .i64 (n : Nat)] w fun e w' => e = .returned (.string (bs (List.replicate n 48))) ∧ Below w.heap.size w w' :=
  (Tryz.strings_Repeat ⟨#[48]⟩ n w (by omega) (by show 1 * n ≤ _; omega)).mono fun e w' ⟨he, hb⟩ => ⟨by
    rw [he]
    show Ending.returned (.string ⟨(Lib.repeatL [48] n).toArray⟩) = _
    rw [repeat_zeros]; rfl, hb⟩

end Go.Proofs.YtnnidhjmakpaeaaGreatDoor
