/- Walks: the parts of a number, joined; Valid. -/
import Derived.Test.YtadhblppeaamlaaGreatDoorW6
import Derived.Test.YtadhblppeaamlaaGreatDoorW7
namespace Go.Proofs.YtadhblppeaamlaaGreatDoor
open Go.RowKit
attribute [local go_sem] Ext.cell Ext.frozen

theorem split_any (s : ByteArray) (w : World) (hs : s.size ≤ 1000) :
    Calls Tryz.prog 75 #[.string s] w fun e w' => e = .returned (.tuple #[.agg #[.bool (dNeg s.data.toList), .string (bs (dWhole s.data.toList)), .string (bs (dFrac s.data.toList))], .bool (dOk s.data.toList)]) ∧ Below w.heap.size w w' := by
  have hr := rest_size s
  have hw : (bs (dWhole s.data.toList)).size ≤ 1000 := by
    rw [bs_size]
    have : (dWhole s.data.toList).length ≤ (dRest s.data.toList).length := (List.takeWhile_sublist _).length_le
    rw [bs_size] at hr
    omega
  have hf : (bs (dFrac s.data.toList)).size ≤ 1000 := by
    rw [bs_size]
    unfold dFrac
    rw [List.length_drop]
    rw [bs_size] at hr
    omega
  exact split_gen s (bs (dWhole s.data.toList)) (bs (dFrac s.data.toList)) (dNeg s.data.toList) (dPoint s.data.toList) (dOk s.data.toList) (bs (dRest s.data.toList)) w
    (fun w => cutPrefix_any s w (by omega)) (fun w => cut_any (bs (dRest s.data.toList)) w (by omega)) (by omega) (by omega) rfl

theorem ext_whole (r : ByteArray) : r.extract 0 (tw r.data.toList) = bs (r.data.toList.takeWhile (· != 46)) := by
  apply ba_eq
  rw [ext_data, List.drop_zero, bs_data, take_tw]
theorem ext_frac (r : ByteArray) : r.extract (tw r.data.toList + 1) r.size = bs (r.data.toList.drop (tw r.data.toList + 1)) := by
  apply ba_eq
  rw [ext_data, List.take_of_length_le (by rw [size_len]; exact Nat.le_refl _), bs_data]

set_option maxHeartbeats 1000000 in
theorem rsplit_empty (s : ByteArray) (w : World) (h00 : ¬ 0 < s.size) :
    Calls Tryz.prog 66 #[.string s] w fun e w' => e = .returned (.tuple #[.agg #[.bool false, .string ⟨#[]⟩, .string ⟨#[]⟩], .bool false]) ∧ Below w.heap.size w w' := by
  have hx : s.extract 0 0 = ⟨#[]⟩ := by
    apply ba_eq; rw [ext_data]; rfl
  have HD1 : Hid (∀ w, Calls Tryz.prog 80 #[.string (⟨#[]⟩ ++ ⟨#[]⟩)] w fun e w' => e = .returned (.bool true) ∧ w = w') := fun w => rdigits_any _ w (by decide)
  have HD2 : Hid (∀ w, Calls Tryz.prog 80 #[.string ⟨#[]⟩] w fun e w' => e = .returned (.bool true) ∧ w = w') := fun w => rdigits_any _ w (by decide)
  go_enter Tryz.func66, Tryz.ntmps66
  go_wp2_with fail
  go_loop [5] (fun i => i = .int .i64 0) (fun _ => 0)
  case atStart => exact rfl
  case round =>
    subst hrel
    go_wp2_with fail
    first
      | ((with_reducible refine (HD1.out _).mono ?_); rintro e _ ⟨rfl, rfl⟩)
      | ((with_reducible refine (HD2.out _).mono ?_); rintro e _ ⟨rfl, rfl⟩)
    go_wp2_with fail
    refine bodyPost_ret (v := .tuple #[.agg #[.bool false, .string ⟨#[]⟩, .string ⟨#[]⟩], .bool false]) (by simp [results, Tryz.results66, go_sem]) rfl ⟨rfl, ?_⟩
    (show Bel w _; (repeat (first | exact Bel.refl _ | refine Bel.ext ?_ _ | refine Bel.alloc ?_ _ | refine Bel.drewN ?_ _ | refine Bel.drew ?_ | refine Bel.setCell ?_ _ _ ?_ | exact Nat.le_refl _ | (simp; done) | omega)))

theorem rsplit_wide (s : ByteArray) (w : World) (hs : s.size ≤ 9223372036854775807) :
    Calls Tryz.prog 66 #[.string s] w fun e w' => e = .returned (RS (dOk s.data.toList) (dNeg s.data.toList) (bs (dWhole s.data.toList)) (bs (dFrac s.data.toList))) ∧ Below w.heap.size w w' := by
  by_cases h0 : 0 < s.size
  · have hh := head_at h0
    by_cases h45 : s[0].toNat = 45
    · have hn : dNeg s.data.toList = true := by
        unfold dNeg; rw [hh, UInt8.toNat_inj.1 (show s[0].toNat = (45 : UInt8).toNat from h45)]; rfl
      have hr : s.extract 1 s.size = bs (dRest s.data.toList) := by
        apply ba_eq
        rw [ext_data, List.take_of_length_le (by rw [size_len]; exact Nat.le_refl _), bs_data, List.drop_one]
        unfold dRest; rw [hn]; rfl
      have hrs := rest_size s
      refine rsplit_true s (bs (dRest s.data.toList)) (bs (dWhole s.data.toList)) (bs (dFrac s.data.toList)) (dOk s.data.toList) w (by omega) hr h0 (by rw [beq_iff_eq]; omega) (ext_whole _) (ext_frac _) ?_ |>.mono fun e w' ⟨he, hb⟩ => ⟨by rw [he, hn], hb⟩
      unfold Hid dOk
      rw [hn, bs_size]
      rfl
    · have hn : dNeg s.data.toList = false := by
        unfold dNeg; rw [hh, beq_eq_false_iff_ne]
        intro e
        injection e with e
        exact h45 (by rw [e]; rfl)
      have hr : dRest s.data.toList = s.data.toList := by unfold dRest; rw [hn]; rfl
      have e1 : s.extract 0 (tw s.data.toList) = bs (dWhole s.data.toList) := by rw [ext_whole]; unfold dWhole; rw [hr]
      have e2 : s.extract (tw s.data.toList + 1) s.size = bs (dFrac s.data.toList) := by rw [ext_frac]; unfold dFrac dWhole; rw [hr]; rfl
      refine rsplit_false s (bs (dWhole s.data.toList)) (bs (dFrac s.data.toList)) (dOk s.data.toList) w (by omega) h0 (by rw [beq_eq_false_iff_ne]; omega) e1 e2 ?_ |>.mono fun e w' ⟨he, hb⟩ => ⟨by rw [he, hn], hb⟩
      unfold Hid dOk dPoint dWhole
      rw [hn, hr, size_len]
      rfl
  · have hl : s.data.toList = [] := List.length_eq_zero_iff.1 (by rw [size_len]; omega)
    have ho : dOk s.data.toList = false := by rw [hl]; rfl
    refine (rsplit_empty s w h0).mono fun e w' ⟨he, hb⟩ => ⟨by rw [he, RS_no ho], hb⟩
theorem rsplit_any (s : ByteArray) (w : World) (hs : s.size ≤ 1000) :
    Calls Tryz.prog 66 #[.string s] w fun e w' => e = .returned (RS (dOk s.data.toList) (dNeg s.data.toList) (bs (dWhole s.data.toList)) (bs (dFrac s.data.toList))) ∧ Below w.heap.size w w' := rsplit_wide s w (by omega)
theorem split_ok_facts {l : List UInt8} (h : dOk l = true) : (bs (dWhole l)).size ≤ 15 ∧ (bs (dFrac l)).size ≤ 6 ∧ allD (dWhole l) = true ∧ allD (dFrac l) = true ∧ 1 ≤ (bs (dWhole l)).size := by
  unfold dOk okW okF at h
  simp only [Bool.and_eq_true, decide_eq_true_eq] at h
  obtain ⟨⟨⟨⟨⟨h1, h2⟩, h3⟩, _⟩, ⟨_, h5⟩, h6⟩, _⟩ := h
  rw [bs_size, bs_size]
  exact ⟨h2, h5, h3, h6, h1⟩
end Go.Proofs.YtadhblppeaamlaaGreatDoor
