/- Walks: Integer and Normal, by the program and by the reference. -/
import Derived.Test.YtnnidhjmakpaeaaGreatDoorW15
namespace Go.Proofs.YtnnidhjmakpaeaaGreatDoor
open Go.RowKit
attribute [local go_sem] Ext.cell Ext.frozen
attribute [local go_sem ↓] Go.wp_at_zero Go.wp_at_succ

theorem whole_lt {l : List UInt8} (h : dOk l = true) : valD (dWhole l) < 1000000000000000 := by
  obtain ⟨ha, _, hda, _, _⟩ := split_ok_facts h
  rw [bs_size] at ha
  exact Nat.lt_of_lt_of_le (valD_lt _ hda) (Nat.pow_le_pow_right (n := 10) (by decide) ha)

set_option maxHeartbeats 2000000 in
theorem normal_any (s : ByteArray) (w : World) (hs : s.size ≤ 1000) :
    Calls Tryz.prog 13 #[.string s] w fun e w' => e = .returned (.tuple #[.string (bs (normD s.data.toList).1), .int .i64 ((normD s.data.toList).2 : Nat)]) ∧ Below w.heap.size w w' := by
  have HS := Lib.hid (fun w => split_any s w hs)
  cases ho : dOk s.data.toList with
  | false =>
    have HO : Hid (normD s.data.toList = ([], 1)) := normD_no ho
    rw [ho] at HS
    clear ho
    generalize dNeg s.data.toList = n at *
    generalize bs (dWhole s.data.toList) = a at *
    generalize bs (dFrac s.data.toList) = f at *
    go_enter Tryz.func13, Tryz.ntmps13
    go_wp2_with fail
    refine (Calls.toExt (HS.out _)).mono ?_
    rintro e _ ⟨rfl, x, rfl⟩
    have hxw : w.heap.size ≤ x.1.heap.size := by have := x.2.size; (try simp at this); omega
    go_wp2_with fail
    go_ret2
    exact ⟨by rw [HO.out]; rfl, by (show Bel w _; (repeat (first | exact Bel.refl _ | refine Bel.ext ?_ _ | refine Bel.alloc ?_ _ | refine Bel.drewN ?_ _ | refine Bel.drew ?_ | refine Bel.setCell ?_ _ _ ?_ | exact Nat.le_refl _ | (simp; done) | omega | (simp <;> omega))))⟩
  | true =>
    obtain ⟨ha, hf, hda, hdf, _⟩ := split_ok_facts ho
    have HO := Lib.hid (normD_yes ho)
    have HT := Lib.hid (fun w => trimR0 (bs (dFrac s.data.toList)) w (by omega))
    have htl := trimZ_len (dFrac s.data.toList)
    have HX := Lib.hid (fun w => text_any (dNeg s.data.toList) (bs (dWhole s.data.toList)) (bs (trimZ (dFrac s.data.toList))) w (by omega) (by rw [bs_size] at hf ⊢; omega))
    simp only [bs_data] at HT HX
    rw [ho] at HS
    clear ho hda hdf htl
    generalize textD (dNeg s.data.toList) (dWhole s.data.toList) (trimZ (dFrac s.data.toList)) = t at *
    generalize dNeg s.data.toList = n at *
    generalize bs (dWhole s.data.toList) = a at *
    generalize bs (dFrac s.data.toList) = f at *
    generalize bs (trimZ (dFrac s.data.toList)) = f2 at *
    go_enter Tryz.func13, Tryz.ntmps13
    go_wp2_with fail
    refine (Calls.toExt (HS.out _)).mono ?_
    rintro e _ ⟨rfl, x, rfl⟩
    have hxw : w.heap.size ≤ x.1.heap.size := by have := x.2.size; (try simp at this); omega
    go_wp2_with fail
    refine (HT.out _).mono ?_
    rintro e _ ⟨rfl, rfl⟩
    go_wp2_with fail
    refine (Calls.toExt (HX.out _)).mono ?_
    rintro e _ ⟨rfl, y, rfl⟩
    go_wp2_with fail
    go_ret2
    exact ⟨by rw [HO.out]; rfl, by (show Bel w _; (repeat (first | exact Bel.refl _ | refine Bel.ext ?_ _ | refine Bel.alloc ?_ _ | refine Bel.drewN ?_ _ | refine Bel.drew ?_ | refine Bel.setCell ?_ _ _ ?_ | exact Nat.le_refl _ | (simp; done) | omega | (simp <;> omega))))⟩

end Go.Proofs.YtnnidhjmakpaeaaGreatDoor