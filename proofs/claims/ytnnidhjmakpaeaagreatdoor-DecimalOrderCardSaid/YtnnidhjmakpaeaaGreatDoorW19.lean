/- Walks: Round by the program. -/
import Derived.Test.YtnnidhjmakpaeaaGreatDoorW18
import Derived.Test.YtnnidhjmakpaeaaGreatDoorW10
import Derived.Test.YtnnidhjmakpaeaaGreatDoorP5
namespace Go.Proofs.YtnnidhjmakpaeaaGreatDoor
open Go.RowKit
attribute [local go_sem] Ext.cell Ext.frozen
attribute [local go_sem ↓] Go.wp_at_zero Go.wp_at_succ

theorem round_no (s : ByteArray) (n0 : Int) (w : World) (hs : s.size ≤ 1000) (ho : dOk s.data.toList = false) :
    Calls Tryz.prog 15 #[.string s, .int .i64 n0] w fun e w' => e = .returned (.tuple #[.string (bs (roundD s.data.toList n0).1), .int .i64 ((roundD s.data.toList n0).2 : Nat)]) ∧ Below w.heap.size w w' := by
  have HS := Lib.hid (fun w => split_any s w hs)
  have HO : Hid (roundD s.data.toList n0 = ([], 1)) := by unfold Hid roundD; rw [if_pos ho]
  rw [ho] at HS
  clear ho
  generalize dNeg s.data.toList = ng at *
  generalize bs (dWhole s.data.toList) = a at *
  generalize bs (dFrac s.data.toList) = f at *
  go_enter Tryz.func15, Tryz.ntmps15
  go_wp2_with fail
  refine (Calls.toExt (HS.out _)).mono ?_
  rintro e _ ⟨rfl, x, rfl⟩
  have hxw : w.heap.size ≤ x.1.heap.size := by have := x.2.size; (try simp at this); omega
  go_wp2_with fail
  go_ret2
  exact ⟨by rw [HO.out]; rfl, by (show Bel w _; (repeat (first | exact Bel.refl _ | refine Bel.ext ?_ _ | refine Bel.alloc ?_ _ | refine Bel.drewN ?_ _ | refine Bel.drew ?_ | refine Bel.setCell ?_ _ _ ?_ | exact Nat.le_refl _ | (simp; done) | omega | (simp <;> omega))))⟩

theorem round_low (s : ByteArray) (n0 : Int) (w : World) (hs : s.size ≤ 1000) (ho : dOk s.data.toList = true) (hn : n0 < 0) :
    Calls Tryz.prog 15 #[.string s, .int .i64 n0] w fun e w' => e = .returned (.tuple #[.string (bs (roundD s.data.toList n0).1), .int .i64 ((roundD s.data.toList n0).2 : Nat)]) ∧ Below w.heap.size w w' := by
  have HS := Lib.hid (fun w => split_any s w hs)
  have HO : Hid (roundD s.data.toList n0 = ([], 2)) := by unfold Hid roundD; rw [if_neg (by rw [ho]; simp), if_pos (.inl hn)]
  rw [ho] at HS
  clear ho
  generalize dNeg s.data.toList = ng at *
  generalize bs (dWhole s.data.toList) = a at *
  generalize bs (dFrac s.data.toList) = f at *
  go_enter Tryz.func15, Tryz.ntmps15
  go_wp2_with fail
  refine (Calls.toExt (HS.out _)).mono ?_
  rintro e _ ⟨rfl, x, rfl⟩
  have hxw : w.heap.size ≤ x.1.heap.size := by have := x.2.size; (try simp at this); omega
  go_wp2_with fail
  go_ret2
  exact ⟨by rw [HO.out]; rfl, by (show Bel w _; (repeat (first | exact Bel.refl _ | refine Bel.ext ?_ _ | refine Bel.alloc ?_ _ | refine Bel.drewN ?_ _ | refine Bel.drew ?_ | refine Bel.setCell ?_ _ _ ?_ | exact Nat.le_refl _ | (simp; done) | omega | (simp <;> omega))))⟩

theorem round_high (s : ByteArray) (n0 : Int) (w : World) (hs : s.size ≤ 1000) (ho : dOk s.data.toList = true) (hn : 6 < n0) :
    Calls Tryz.prog 15 #[.string s, .int .i64 n0] w fun e w' => e = .returned (.tuple #[.string (bs (roundD s.data.toList n0).1), .int .i64 ((roundD s.data.toList n0).2 : Nat)]) ∧ Below w.heap.size w w' := by
  have HS := Lib.hid (fun w => split_any s w hs)
  have HO : Hid (roundD s.data.toList n0 = ([], 2)) := by unfold Hid roundD; rw [if_neg (by rw [ho]; simp), if_pos (.inr hn)]
  have hn2 : ¬ n0 < 0 := by omega
  rw [ho] at HS
  clear ho
  generalize dNeg s.data.toList = ng at *
  generalize bs (dWhole s.data.toList) = a at *
  generalize bs (dFrac s.data.toList) = f at *
  go_enter Tryz.func15, Tryz.ntmps15
  go_wp2_with fail
  refine (Calls.toExt (HS.out _)).mono ?_
  rintro e _ ⟨rfl, x, rfl⟩
  have hxw : w.heap.size ≤ x.1.heap.size := by have := x.2.size; (try simp at this); omega
  go_wp2_with fail
  go_ret2
  exact ⟨by rw [HO.out]; rfl, by (show Bel w _; (repeat (first | exact Bel.refl _ | refine Bel.ext ?_ _ | refine Bel.alloc ?_ _ | refine Bel.drewN ?_ _ | refine Bel.drew ?_ | refine Bel.setCell ?_ _ _ ?_ | exact Nat.le_refl _ | (simp; done) | omega | (simp <;> omega))))⟩

set_option maxRecDepth 20000 in
set_option maxHeartbeats 8000000 in
theorem round_pad (s : ByteArray) (n0 : Int) (j : Nat) (w : World) (hs : s.size ≤ 1000) (ho : dOk s.data.toList = true) (hn : n0 ≤ 6) (hj : n0 = ((bs (dFrac s.data.toList)).size : Int) + (j : Int)) :
    Calls Tryz.prog 15 #[.string s, .int .i64 n0] w fun e w' => e = .returned (.tuple #[.string (bs (roundD s.data.toList n0).1), .int .i64 ((roundD s.data.toList n0).2 : Nat)]) ∧ Below w.heap.size w w' := by
  have HS := Lib.hid (fun w => split_any s w hs)
  obtain ⟨ha, hf, _, _, _⟩ := split_ok_facts ho
  have hz := bs_size (List.replicate j (48 : UInt8))
  rw [List.length_replicate] at hz
  have HP := Lib.hid (fun w => permitted_any (dNeg s.data.toList) (bs (dWhole s.data.toList)) (bs (dFrac s.data.toList) ++ bs (List.replicate j 48)) w (by omega) (by rw [ByteArray.size_append]; omega))
  have HO : Hid (roundD s.data.toList n0 = permD (dNeg s.data.toList) (dWhole s.data.toList) (bs (dFrac s.data.toList) ++ bs (List.replicate j 48)).data.toList) := by
    unfold Hid roundD
    rw [bs_size] at hj
    rw [if_neg (by rw [ho]; simp), if_neg (by omega), if_pos (by omega), app_data, bs_data, bs_data]
    rw [show (n0 - ((dFrac s.data.toList).length : Int)).toNat = j by omega]
  rw [bs_data] at HP
  have HR := Lib.hid (fun w => repeat_any j w (by omega))
  rw [ho] at HS
  clear ho
  generalize permD (dNeg s.data.toList) (dWhole s.data.toList) (bs (dFrac s.data.toList) ++ bs (List.replicate j 48)).data.toList = pv at *
  generalize bs (List.replicate j 48) = z at *
  generalize dNeg s.data.toList = ng at *
  generalize bs (dWhole s.data.toList) = a at *
  generalize bs (dFrac s.data.toList) = f at *
  have hn2 : ¬ n0 < 0 := by omega
  have hn3 : ¬ 6 < n0 := by omega
  have hn4 : (f.size : Int) ≤ n0 := by omega
  have hsub : n0 - (f.size : Int) = (j : Int) := by omega
  have hwr : IntKind.i64.wrap (j : Int) = (j : Int) := by rw [IntKind.wrap_i64]; omega
  clear hj
  go_enter Tryz.func15, Tryz.ntmps15
  go_wp2_with fail
  refine (Calls.toExt (HS.out _)).mono ?_
  rintro e _ ⟨rfl, x, rfl⟩
  have hxw : w.heap.size ≤ x.1.heap.size := by have := x.2.size; (try simp at this); omega
  go_wp2_with fail
  go_region_with ((go_at_call 20; refine (Calls.toExt (HR.out _)).mono ?_; rintro e _ ⟨rfl, y, rfl⟩))
  all_goals
    go_wp2_with fail
    refine (Calls.toExt (HP.out _)).mono ?_
    rintro e _ ⟨rfl, u, rfl⟩
    go_wp2_with fail
    go_ret2
    exact ⟨by rw [HO.out]; rfl, by (show Bel w _; (repeat (first | exact Bel.refl _ | refine Bel.ext ?_ _ | refine Bel.alloc ?_ _ | refine Bel.drewN ?_ _ | refine Bel.drew ?_ | refine Bel.setCell ?_ _ _ ?_ | exact Nat.le_refl _ | (simp; done) | omega | (simp <;> omega))))⟩
end Go.Proofs.YtnnidhjmakpaeaaGreatDoor
