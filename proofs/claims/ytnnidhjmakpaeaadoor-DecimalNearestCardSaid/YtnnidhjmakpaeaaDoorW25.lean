/- Walks: a number in millionths. -/
import Derived.Test.YtnnidhjmakpaeaaDoorW9
import Derived.Test.YtnnidhjmakpaeaaDoorP6
namespace Go.Proofs.YtnnidhjmakpaeaaDoor
open Go.RowKit
attribute [local go_sem] Ext.cell Ext.frozen
attribute [local go_sem ↓] Go.wp_at_zero Go.wp_at_succ

/-- a number in millionths, if its whole part is short -/
def milV (l : List UInt8) : Int × Bool := if dOk l && decide ((dWhole l).length ≤ 9) then (mv l, true) else (0, false)
def lackW (H : Nat) (w : World) : Nat :=
  match w.cell? ⟨H, 2, none⟩ with
  | some (.string s) => 6 - s.size
  | _ => 0
theorem mag_lt {l : List UInt8} (h : dOk l = true) (h9 : (dWhole l).length ≤ 9) : mag l < 1000000000000000 := by
  have h1 := valD_lt _ (okW_allD (dOk_parts h).1)
  have h2 := pad6_lt (dOk_F h).2 (dOk_F h).1
  have h3 : 10 ^ (dWhole l).length ≤ 10 ^ 9 := Nat.pow_le_pow_right (by omega) h9
  have h4 : (10 : Nat) ^ 9 = 1000000000 := rfl
  unfold mag magW
  omega
theorem mag_val {l : List UInt8} (h : dOk l = true) : valD (dWhole l ++ pad6 (dFrac l)) = mag l := by
  have := dOk_F h
  unfold mag magW
  rw [valD_append, show (pad6 (dFrac l)).length = 6 by unfold pad6; rw [List.length_append, List.length_replicate]; omega]

set_option maxRecDepth 20000 in
set_option maxHeartbeats 8000000 in
theorem millionths_any (s : ByteArray) (w : World) (hs : s.size ≤ 9223372036854775807) :
    Calls Tryd.prog 21 #[.string s] w fun e w' => e = .returned (.tuple #[.int .i64 (milV s.data.toList).1, .bool (milV s.data.toList).2]) ∧ Below w.heap.size w w' := by
  have HS := Lib.hid (fun w => rsplit_wide s w hs)
  cases ho : dOk s.data.toList with
  | false =>
    have HO : Hid (milV s.data.toList = (0, false)) := by unfold Hid milV; rw [ho]; rfl
    rw [ho, RS_no rfl] at HS
    clear ho
    go_enter Tryd.func21, Tryd.ntmps21
    go_wp2_with fail
    refine (Calls.toExt (HS.out _)).mono ?_
    rintro e _ ⟨rfl, x, rfl⟩
    have hxw : w.heap.size ≤ x.1.heap.size := by have := x.2.size; (try simp at this); omega
    go_wp2_with fail
    go_ret2
    exact ⟨by rw [HO.out]; rfl, by (show Bel w _; (repeat (first | exact Bel.refl _ | refine Bel.ext ?_ _ | refine Bel.alloc ?_ _ | refine Bel.drewN ?_ _ | refine Bel.drew ?_ | refine Bel.setCell ?_ _ _ ?_ | exact Nat.le_refl _ | (simp; done) | omega | (simp <;> omega))))⟩
  | true =>
    obtain ⟨ha, hf, hda, hdf, _⟩ := split_ok_facts ho
    by_cases h9 : 9 < (bs (dWhole s.data.toList)).size
    · have HO : Hid (milV s.data.toList = (0, false)) := by unfold Hid milV; rw [bs_size] at h9; rw [decide_eq_false (by omega), Bool.and_false]; rfl
      rw [ho, RS_yes rfl] at HS
      clear ho hda hdf
      generalize dNeg s.data.toList = ng at *
      generalize bs (dWhole s.data.toList) = a at *
      generalize bs (dFrac s.data.toList) = f at *
      go_enter Tryd.func21, Tryd.ntmps21
      go_wp2_with fail
      refine (Calls.toExt (HS.out _)).mono ?_
      rintro e _ ⟨rfl, x, rfl⟩
      have hxw : w.heap.size ≤ x.1.heap.size := by have := x.2.size; (try simp at this); omega
      go_wp2_with fail
      go_ret2
      exact ⟨by rw [HO.out]; rfl, by (show Bel w _; (repeat (first | exact Bel.refl _ | refine Bel.ext ?_ _ | refine Bel.alloc ?_ _ | refine Bel.drewN ?_ _ | refine Bel.drew ?_ | refine Bel.setCell ?_ _ _ ?_ | exact Nat.le_refl _ | (simp; done) | omega | (simp <;> omega))))⟩
    · have h9' : (dWhole s.data.toList).length ≤ 9 := by rw [bs_size] at h9; omega
      have HO : Hid (milV s.data.toList = (if dNeg s.data.toList then -(mag s.data.toList : Int) else (mag s.data.toList : Int), true)) := by unfold Hid milV; rw [ho, decide_eq_true h9']; rfl
      have hml := mag_lt ho h9'
      have hcat : bs (dWhole s.data.toList) ++ bs (pad6 (dFrac s.data.toList)) = bs (dWhole s.data.toList ++ pad6 (dFrac s.data.toList)) := bs_append _ _
      have hpl : (bs (pad6 (dFrac s.data.toList))).size = 6 := by rw [bs_size]; unfold pad6; rw [List.length_append, List.length_replicate]; rw [bs_size] at hf; omega
      have hdp : allD (pad6 (dFrac s.data.toList)) = true := by unfold pad6; rw [allD_append, hdf]; simp [allD, isD]
      have HV := Lib.hid (fun w => rvalue_any (bs (dWhole s.data.toList) ++ bs (pad6 (dFrac s.data.toList))) w (by rw [ByteArray.size_append]; omega) (by rw [hcat, bs_data, allD_append, hda, hdp]; rfl))
      have hvv : valD (bs (dWhole s.data.toList) ++ bs (pad6 (dFrac s.data.toList))).data.toList = mag s.data.toList := by rw [hcat, bs_data]; exact mag_val ho
      rw [hvv] at HV
      have HST : Hid (∀ j, bs (dFrac s.data.toList ++ List.replicate j 48) ++ ⟨#[48]⟩ = bs (dFrac s.data.toList ++ List.replicate (j + 1) 48)) := fun j => by
        rw [List.replicate_succ', ← List.append_assoc, ← bs_append]; rfl
      have HSZ : Hid (∀ j, (bs (dFrac s.data.toList ++ List.replicate j 48)).size = (bs (dFrac s.data.toList)).size + j) := fun j => by
        rw [bs_size, bs_size, List.length_append, List.length_replicate]
      have HPD : Hid (∀ j, (bs (dFrac s.data.toList)).size + j = 6 → bs (dFrac s.data.toList ++ List.replicate j 48) = bs (pad6 (dFrac s.data.toList))) := fun j hj => by
        rw [bs_size] at hj; unfold pad6; rw [show 6 - (dFrac s.data.toList).length = j by omega]
      have HF0 : Hid (bs (dFrac s.data.toList ++ List.replicate 0 48) = bs (dFrac s.data.toList)) := by unfold Hid; rw [List.replicate_zero, List.append_nil]
      rw [ho, RS_yes rfl] at HS
      clear ho hda hdf hvv hdp hcat h9'
      generalize mag s.data.toList = mg at *
      generalize bs (pad6 (dFrac s.data.toList)) = pf at *
      generalize dNeg s.data.toList = ng at *
      generalize hFF : (fun j => bs (dFrac s.data.toList ++ List.replicate j 48)) = FF at *
      have hFj : ∀ j, bs (dFrac s.data.toList ++ List.replicate j 48) = FF j := fun j => by rw [← hFF]
      simp only [hFj] at HST HSZ HPD HF0
      clear hFF hFj
      generalize bs (dWhole s.data.toList) = a at *
      generalize bs (dFrac s.data.toList) = f at *
      cases ng with
      | false =>
        have HO2 : Hid (milV s.data.toList = (((mg : Int)), true)) := HO.out
        clear HO
        go_enter Tryd.func21, Tryd.ntmps21
        go_wp2_with fail
        refine (Calls.toExt (HS.out _)).mono ?_
        rintro e _ ⟨rfl, x, rfl⟩
        have hxw : w.heap.size ≤ x.1.heap.size := by have := x.2.size; (try simp at this); omega
        go_wp2_with fail
        go_loopw [] (fun wr => ∃ j : Nat, f.size + j ≤ 6 ∧ wr.cell? ⟨x.1.heap.size, 0, none⟩ = some (.bool false) ∧ wr.cell? ⟨x.1.heap.size, 1, none⟩ = some (.string a) ∧ wr.cell? ⟨x.1.heap.size, 2, none⟩ = some (.string (FF j)) ∧ wr.frozen? ⟨x.1.heap.size, 2, none⟩ = false ∧ Bel w wr) (fun wr => lackW x.1.heap.size wr)
        case atStart => exact ⟨0, by omega, by simp [go_sem], by simp [go_sem], by simp [go_sem, HF0.out], by simp [go_sem], by (show Bel w _; (repeat (first | exact Bel.refl _ | refine Bel.ext ?_ _ | refine Bel.alloc ?_ _ | refine Bel.drewN ?_ _ | refine Bel.drew ?_ | refine Bel.setCell ?_ _ _ ?_ | exact Nat.le_refl _ | (simp; done) | omega | (simp <;> omega))))⟩
        case round =>
          obtain ⟨j, hj, c0, c1, c2, fz, hbl⟩ := hrel
          have hsz := HSZ.out j
          have HBL := Lib.hid hbl
          clear hbl
          by_cases h6 : f.size + j = 6
          · rw [HPD.out j h6] at c2 hsz
            clear h6
            go_wp2_with fail
            refine (HV.out _).mono ?_
            rintro e _ ⟨rfl, rfl⟩
            go_wp2_with fail
            go_ret2
            exact ⟨by rw [HO2.out]; rfl, by (show Bel w _; (repeat (first | exact HBL.out | exact Bel.refl _ | refine Bel.ext ?_ _ | refine Bel.alloc ?_ _ | refine Bel.drewN ?_ _ | refine Bel.drew ?_ | refine Bel.setCell ?_ _ _ ?_ | exact Nat.le_refl _ | (simp; done) | omega | (simp <;> omega))))⟩
          · have hst := HST.out j
            have hsz2 := HSZ.out (j + 1)
            have hX6 : (FF j).size < 6 := by omega
            go_wp2_with fail
            go_roundw
            case rel =>
              refine ⟨j + 1, by omega, ?_, ?_, ?_, ?_, by (show Bel w _; (repeat (first | exact HBL.out | exact Bel.refl _ | refine Bel.ext ?_ _ | refine Bel.alloc ?_ _ | refine Bel.drewN ?_ _ | refine Bel.drew ?_ | refine Bel.setCell ?_ _ _ ?_ | exact Nat.le_refl _ | (simp; done) | omega | (simp <;> omega))))⟩
              · rw [World.cell?_setCell_other _ _ _ _ (by simp)]; exact c0
              · rw [World.cell?_setCell_other _ _ _ _ (by simp)]; exact c1
              · rw [World.cell?_setCell_same' _ _ _ (by rw [c2]; rfl)]
              · simp [World.frozen?_setCell, fz]
            case measure =>
              unfold lackW
              rw [World.cell?_setCell_same' _ _ _ (by rw [c2]; rfl), c2]
              show 6 - (FF (j + 1)).size < 6 - (FF j).size
              omega
      | true =>
        have HO2 : Hid (milV s.data.toList = ((-(mg : Int)), true)) := HO.out
        clear HO
        go_enter Tryd.func21, Tryd.ntmps21
        go_wp2_with fail
        refine (Calls.toExt (HS.out _)).mono ?_
        rintro e _ ⟨rfl, x, rfl⟩
        have hxw : w.heap.size ≤ x.1.heap.size := by have := x.2.size; (try simp at this); omega
        go_wp2_with fail
        go_loopw [] (fun wr => ∃ j : Nat, f.size + j ≤ 6 ∧ wr.cell? ⟨x.1.heap.size, 0, none⟩ = some (.bool true) ∧ wr.cell? ⟨x.1.heap.size, 1, none⟩ = some (.string a) ∧ wr.cell? ⟨x.1.heap.size, 2, none⟩ = some (.string (FF j)) ∧ wr.frozen? ⟨x.1.heap.size, 2, none⟩ = false ∧ Bel w wr) (fun wr => lackW x.1.heap.size wr)
        case atStart => exact ⟨0, by omega, by simp [go_sem], by simp [go_sem], by simp [go_sem, HF0.out], by simp [go_sem], by (show Bel w _; (repeat (first | exact Bel.refl _ | refine Bel.ext ?_ _ | refine Bel.alloc ?_ _ | refine Bel.drewN ?_ _ | refine Bel.drew ?_ | refine Bel.setCell ?_ _ _ ?_ | exact Nat.le_refl _ | (simp; done) | omega | (simp <;> omega))))⟩
        case round =>
          obtain ⟨j, hj, c0, c1, c2, fz, hbl⟩ := hrel
          have hsz := HSZ.out j
          have HBL := Lib.hid hbl
          clear hbl
          by_cases h6 : f.size + j = 6
          · rw [HPD.out j h6] at c2 hsz
            clear h6
            go_wp2_with fail
            refine (HV.out _).mono ?_
            rintro e _ ⟨rfl, rfl⟩
            go_wp2_with fail
            go_ret2
            exact ⟨by rw [HO2.out]; rfl, by (show Bel w _; (repeat (first | exact HBL.out | exact Bel.refl _ | refine Bel.ext ?_ _ | refine Bel.alloc ?_ _ | refine Bel.drewN ?_ _ | refine Bel.drew ?_ | refine Bel.setCell ?_ _ _ ?_ | exact Nat.le_refl _ | (simp; done) | omega | (simp <;> omega))))⟩
          · have hst := HST.out j
            have hsz2 := HSZ.out (j + 1)
            have hX6 : (FF j).size < 6 := by omega
            go_wp2_with fail
            go_roundw
            case rel =>
              refine ⟨j + 1, by omega, ?_, ?_, ?_, ?_, by (show Bel w _; (repeat (first | exact HBL.out | exact Bel.refl _ | refine Bel.ext ?_ _ | refine Bel.alloc ?_ _ | refine Bel.drewN ?_ _ | refine Bel.drew ?_ | refine Bel.setCell ?_ _ _ ?_ | exact Nat.le_refl _ | (simp; done) | omega | (simp <;> omega))))⟩
              · rw [World.cell?_setCell_other _ _ _ _ (by simp)]; exact c0
              · rw [World.cell?_setCell_other _ _ _ _ (by simp)]; exact c1
              · rw [World.cell?_setCell_same' _ _ _ (by rw [c2]; rfl)]
              · simp [World.frozen?_setCell, fz]
            case measure =>
              unfold lackW
              rw [World.cell?_setCell_same' _ _ _ (by rw [c2]; rfl), c2]
              show 6 - (FF (j + 1)).size < 6 - (FF j).size
              omega
end Go.Proofs.YtnnidhjmakpaeaaDoor
