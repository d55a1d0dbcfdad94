/- Walks: the parts of a number, joined; Valid. -/
import Derived.Test.YtadhblppeaamlaaGreatDoorQ04
import Derived.Test.YtadhblppeaamlaaGreatDoorQ05
import Derived.Test.YtadhblppeaamlaaGreatDoorQ00
namespace Go.Proofs.YtadhblppeaamlaaGreatDoor
open Go.RowKit
attribute [local go_sem] Ext.cell Ext.frozen

theorem split_any (s : ByteArray) (w : World) (hs : s.size ≤ 1000) :
    Calls Tryz.prog 75 #[.string s] w fun e w' => e = .returned (.tuple #[.agg #[.bool (dNeg s.data.toList), .string (bs (dWhole s.data.toList)), .string (bs (dFrac s.data.toList))], .bool (dOk s.data.toList)]) ∧ Below w.heap.size w w' := by
  have hr := rest_size s
  have hw : (bs (dWhole s.data.toList)).size ≤ 1000 := by
    rw [bs_size]
    have : (dWhole s.data.toList).length ≤ (dRest s.data.toList).length := (List.takeWhile_sublist _).length_le
    rw [bs_size] at hr
    omega
  have hf : (bs (dFrac s.data.toList)).size ≤ 1000 := by
    rw [bs_size]
    unfold dFrac
    rw [List.length_drop]
    rw [bs_size] at hr
    omega
  exact split_gen s (bs (dWhole s.data.toList)) (bs (dFrac s.data.toList)) (dNeg s.data.toList) (dPoint s.data.toList) (dOk s.data.toList) (bs (dRest s.data.toList)) w
    (fun w => cutPrefix_any s w (by omega)) (fun w => cut_any (bs (dRest s.data.toList)) w (by omega)) (by omega) (by omega) rfl

theorem ext_whole (r : ByteArray) : r.extract 0 (tw r.data.toList) = bs (r.data.toList.takeWhile (· != 46)) := by
  apply ba_eq
  rw [ext_data, List.drop_zero, bs_data, take_tw]
theorem ext_frac (r : ByteArray) : r.extract (tw r.data.toList + 1) r.size = bs (r.data.toList.drop (tw r.data.toList + 1)) := by
  apply ba_eq
  rw [ext_data, List.take_of_length_le (by rw [size_len]; exact Nat.le_refl _), bs_data]

set_option maxHeartbeats 1000000 in
theorem rsplit_empty (s : ByteArray) (w : World) (h00 : ¬ 0 < s.size) :
    Calls Tryz.prog 66 #[.string s] w fun e w' => e = .returned (.tuple #[.agg #[.bool false, .string ⟨#[]⟩, .string ⟨#[]⟩], .bool false]) ∧ Below w.heap.size w w' := by
  have hx : s.extract 0 0 = ⟨#[]⟩ := by
    apply ba_eq; rw [ext_data]; rfl
  have HD1 : Hid (∀ w, Calls Tryz.prog 80 #[.string (⟨#[]⟩ ++ ⟨#[]⟩)] w fun e w' => e = .returned (.bool true) ∧ w = w') := fun w => rdigits_any _ w (by decide)
  have HD2 : Hid (∀ w, Calls Tryz.prog 80 #[.string ⟨#[]⟩] w fun e w' => e = .returned (.bool true) ∧ w = w') := fun w => rdigits_any _ w (by decide)
  go_enter Tryz.func66, Tryz.ntmps66
  go_wp2_with fail
  go_loop [5] (fun i => i = .int .i64 0) (fun _ => 0)
  case atStart => exact rfl
  case round =>
    subst hrel
    go_wp2_with fail
    first
      | ((with_reducible refine (HD1.out _).mono ?_); rintro e _ ⟨rfl, rfl⟩)
      | ((with_reducible refine (HD2.out _).mono ?_); rintro e _ ⟨rfl, rfl⟩)
    go_wp2_with fail
    refine bodyPost_ret (v := .tuple #[.agg #[.bool false, .string ⟨#[]⟩, .string ⟨#[]⟩], .bool false]) (by simp [results, Tryz.results66, go_sem]) rfl ⟨rfl, ?_⟩
    (show Bel w _; (repeat (first | exact Bel.refl _ | refine Bel.ext ?_ _ | refine Bel.alloc ?_ _ | refine Bel.drewN ?_ _ | refine Bel.drew ?_ | refine Bel.setCell ?_ _ _ ?_ | exact Nat.le_refl _ | (simp; done) | omega)))

theorem rsplit_wide (s : ByteArray) (w : World) (hs : s.size ≤ 9223372036854775807) :
    Calls Tryz.prog 66 #[.string s] w fun e w' => e = .returned (RS (dOk s.data.toList) (dNeg s.data.toList) (bs (dWhole s.data.toList)) (bs (dFrac s.data.toList))) ∧ Below w.heap.size w w' := by
  by_cases h0 : 0 < s.size
  · have hh := head_at h0
    by_cases h45 : s[0].toNat = 45
    · have hn : dNeg s.data.toList = true := by
        unfold dNeg; rw [hh, UInt8.toNat_inj.1 (show s[0].toNat = (45 : UInt8).toNat from h45)]; rfl
      have hr : s.extract 1 s.size = bs (dRest s.data.toList) := by
        apply ba_eq
        rw [ext_data, List.take_of_length_le (by rw [size_len]; exact Nat.le_refl _), bs_data, List.drop_one]
        unfold dRest; rw [hn]; rfl
      have hrs := rest_size s
      refine rsplit_true s (bs (dRest s.data.toList)) (bs (dWhole s.data.toList)) (bs (dFrac s.data.toList)) (dOk s.data.toList) w (by omega) hr h0 (by rw [beq_iff_eq]; omega) (ext_whole _) (ext_frac _) ?_ |>.mono fun e w' ⟨he, hb⟩ => ⟨by rw [he, hn], hb⟩
      unfold Hid dOk
      rw [hn, bs_size]
      rfl
    · have hn : dNeg s.data.toList = false := by
        unfold dNeg; rw [hh, beq_eq_false_iff_ne]
        intro e
        injection e with e
        exact h45 (by rw [e]; rfl)
      have hr : dRest s.data.toList = s.data.toList := by unfold dRest; rw [hn]; rfl
      have e1 : s.extract 0 (tw s.data.toList) = bs (dWhole s.data.toList) := by rw [ext_whole]; unfold dWhole; rw [hr]
      have e2 : s.extract (tw s.data.toList + 1) s.size = bs (dFrac s.data.toList) := by rw [ext_frac]; unfold dFrac dWhole; rw [hr]; rfl
      refine rsplit_false s (bs (dWhole s.data.toList)) (bs (dFrac s.data.toList)) (dOk s.data.toList) w (by omega) h0 (by rw [beq_eq_false_iff_ne]; omega) e1 e2 ?_ |>.mono fun e w' ⟨he, hb⟩ => ⟨by rw [he, hn], hb⟩
      unfold Hid dOk dPoint dWhole
      rw [hn, hr, size_len]
      rfl
  · have hl : s.data.toList = [] := List.length_eq_zero_iff.1 (by rw [size_len]; omega)
    have ho : dOk s.data.toList = false := by rw [hl]; rfl
    refine (rsplit_empty s w h0).mono fun e w' ⟨he, hb⟩ => ⟨by rw [he, RS_no ho], hb⟩
theorem rsplit_any (s : ByteArray) (w : World) (hs : s.size ≤ 1000) :
    Calls Tryz.prog 66 #[.string s] w fun e w' => e = .returned (RS (dOk s.data.toList) (dNeg s.data.toList) (bs (dWhole s.data.toList)) (bs (dFrac s.data.toList))) ∧ Below w.heap.size w w' := rsplit_wide s w (by omega)
theorem split_ok_facts {l : List UInt8} (h : dOk l = true) : (bs (dWhole l)).size ≤ 15 ∧ (bs (dFrac l)).size ≤ 6 ∧ allD (dWhole l) = true ∧ allD (dFrac l) = true ∧ 1 ≤ (bs (dWhole l)).size := by
  unfold dOk okW okF at h
  simp only [Bool.and_eq_true, decide_eq_true_eq] at h
  obtain ⟨⟨⟨⟨⟨h1, h2⟩, h3⟩, _⟩, ⟨_, h5⟩, h6⟩, _⟩ := h
  rw [bs_size, bs_size]
  exact ⟨h2, h5, h3, h6, h1⟩
end Go.Proofs.YtadhblppeaamlaaGreatDoor
/- Walks: Valid, Operand, Integer, Normal, permitted, checked. -/
namespace Go.Proofs.YtadhblppeaamlaaGreatDoor
open Go.RowKit
attribute [local go_sem] Ext.cell Ext.frozen
attribute [local go_sem ↓] Go.wp_at_zero Go.wp_at_succ

theorem valid_any (s : ByteArray) (w : World) (hs : s.size ≤ 1000) :
    Calls Tryz.prog 63 #[.string s] w fun e w' => e = .returned (.bool (dOk s.data.toList)) ∧ Below w.heap.size w w' := by
  have HS := Lib.hid (fun w => split_any s w hs)
  generalize dOk s.data.toList = ok at *
  generalize dNeg s.data.toList = n at *
  generalize bs (dWhole s.data.toList) = a at *
  generalize bs (dFrac s.data.toList) = f at *
  go_enter Tryz.func63, Tryz.ntmps63
  go_wp2_with fail
  refine (Calls.toExt (HS.out _)).mono ?_
  rintro e _ ⟨rfl, x, rfl⟩
  go_wp2_with fail
  go_ret
  exact ⟨rfl, by (show Bel w _; (repeat (first | exact Bel.refl _ | refine Bel.ext ?_ _ | refine Bel.alloc ?_ _ | refine Bel.drewN ?_ _ | refine Bel.drew ?_ | refine Bel.setCell ?_ _ _ ?_ | exact Nat.le_refl _ | (simp; done) | omega)))⟩

theorem rvalid_wide (s : ByteArray) (w : World) (hs : s.size ≤ 9223372036854775807) :
    Calls Tryz.prog 42 #[.string s] w fun e w' => e = .returned (.bool (dOk s.data.toList)) ∧ Below w.heap.size w w' := by
  have HS := Lib.hid (fun w => rsplit_wide s w hs)
  generalize dNeg s.data.toList = n at *
  generalize bs (dWhole s.data.toList) = a at *
  generalize bs (dFrac s.data.toList) = f at *
  cases ho : dOk s.data.toList with
  | false =>
    rw [ho, RS_no rfl] at HS
    clear ho
    go_enter Tryz.func42, Tryz.ntmps42
    go_wp2_with fail
    refine (Calls.toExt (HS.out _)).mono ?_
    rintro e _ ⟨rfl, x, rfl⟩
    go_wp2_with fail
    go_ret
    exact ⟨rfl, by (show Bel w _; (repeat (first | exact Bel.refl _ | refine Bel.ext ?_ _ | refine Bel.alloc ?_ _ | refine Bel.drewN ?_ _ | refine Bel.drew ?_ | refine Bel.setCell ?_ _ _ ?_ | exact Nat.le_refl _ | (simp; done) | omega)))⟩
  | true =>
    rw [ho, RS_yes rfl] at HS
    clear ho
    go_enter Tryz.func42, Tryz.ntmps42
    go_wp2_with fail
    refine (Calls.toExt (HS.out _)).mono ?_
    rintro e _ ⟨rfl, x, rfl⟩
    go_wp2_with fail
    go_ret
    exact ⟨rfl, by (show Bel w _; (repeat (first | exact Bel.refl _ | refine Bel.ext ?_ _ | refine Bel.alloc ?_ _ | refine Bel.drewN ?_ _ | refine Bel.drew ?_ | refine Bel.setCell ?_ _ _ ?_ | exact Nat.le_refl _ | (simp; done) | omega)))⟩

theorem rvalid_any (s : ByteArray) (w : World) (hs : s.size ≤ 1000) :
    Calls Tryz.prog 42 #[.string s] w fun e w' => e = .returned (.bool (dOk s.data.toList)) ∧ Below w.heap.size w w' := rvalid_wide s w (by omega)

set_option maxRecDepth 20000 in
set_option maxHeartbeats 8000000 in
theorem operand_any (s : ByteArray) (op : Int) (w : World) (hs : s.size ≤ 1000) :
    Calls Tryz.prog 94 #[.string s, .int .i64 op] w fun e w' => e = .returned (.tuple #[.int .i64 ((opV s.data.toList op).1 : Nat), .int .i64 ((opV s.data.toList op).2 : Nat)]) ∧ Below w.heap.size w w' := by
  have HS := Lib.hid (fun w => split_any s w hs)
  cases ho : dOk s.data.toList with
  | false =>
    have HO : Hid (opV s.data.toList op = (0, 1)) := by simp [opV, ho, Hid]
    rw [ho] at HS
    clear ho
    generalize dNeg s.data.toList = n at *
    generalize bs (dWhole s.data.toList) = a at *
    generalize bs (dFrac s.data.toList) = f at *
    go_enter Tryz.func94, Tryz.ntmps94
    go_wp2_with fail
    refine (Calls.toExt (HS.out _)).mono ?_
    rintro e _ ⟨rfl, x, rfl⟩
    go_wp2_with fail
    go_ret2
    exact ⟨by rw [HO.out]; rfl, by (show Bel w _; (repeat (first | exact Bel.refl _ | refine Bel.ext ?_ _ | refine Bel.alloc ?_ _ | refine Bel.drewN ?_ _ | refine Bel.drew ?_ | refine Bel.setCell ?_ _ _ ?_ | exact Nat.le_refl _ | (simp; done) | omega)))⟩
  | true =>
    obtain ⟨ha, hf, hda, hdf, _⟩ := split_ok_facts ho
    have HVA := Lib.hid (fun w => value_any (bs (dWhole s.data.toList)) w (by omega) hda)
    have HVF := Lib.hid (fun w => value_any (bs (dFrac s.data.toList)) w (by omega) hdf)
    have htl := trimZ_len (dFrac s.data.toList)
    have HVT := Lib.hid (fun w => value_any (bs (trimZ (dFrac s.data.toList))) w (by rw [bs_size] at hf ⊢; omega) (trimZ_allD hdf))
    have HT := Lib.hid (fun w => trimR0 (bs (dFrac s.data.toList)) w (by omega))
    have HZ := Lib.hid (fun w => zero_any (bs (dFrac s.data.toList)) w (by omega))
    simp only [bs_data] at HVA HVF HVT HT HZ
    have HN : Hid (trimZ (dFrac s.data.toList) = [] ↔ allZ (dFrac s.data.toList) = true) := trimZ_nil
    have HO : Hid (opV s.data.toList op = if op = 1 then (if allZ (dFrac s.data.toList) then (valD (dWhole s.data.toList), 0) else (0, 8))
      else if op = 2 then (valD (dWhole s.data.toList), 0) else if op = 3 then ((dFrac s.data.toList).length, 0) else if op = 4 then ((trimZ (dFrac s.data.toList)).length, 0)
      else if op = 5 then (valD (dFrac s.data.toList), 0) else if op = 6 then (valD (trimZ (dFrac s.data.toList)), 0) else (0, 1)) := by unfold Hid opV; rw [if_neg (by rw [ho]; simp)]
    rw [ho] at HS
    clear ho hda hdf htl
    generalize dNeg s.data.toList = n at *
    generalize valD (dWhole s.data.toList) = va at *
    generalize hlf : dFrac s.data.toList = lf at *
    have hfl : (bs lf).size = lf.length := bs_size _
    have hftl : (bs (trimZ lf)).size = (trimZ lf).length := bs_size _
    have HFL := Lib.hid hfl
    have HFTL := Lib.hid hftl
    have hte : (bs (trimZ lf)).toList = trimZ lf := bs_toList _
    have HTE := Lib.hid hte
    clear hfl hftl hte
    generalize bs (dWhole s.data.toList) = a at *
    generalize valD lf = vf at *
    generalize valD (trimZ lf) = vt at *
    generalize hfb : bs lf = f at *
    generalize htb : bs (trimZ lf) = tr at *
    clear hfb htb hlf
    have htr6 : tr.size ≤ 6 := by rw [HFTL.out]; have := trimZ_len lf; rw [← HFL.out] at this; omega
    go_enter Tryz.func94, Tryz.ntmps94
    go_wp2_with fail
    refine (Calls.toExt (HS.out _)).mono ?_
    rintro e _ ⟨rfl, x, rfl⟩
    have hz : w.heap.size < x.1.heap.size + 1 := by have := x.2.size; (try simp at this); omega
    go_wp2_with fail
    refine (HT.out _).mono ?_
    rintro e _ ⟨rfl, rfl⟩
    by_cases h1 : op = 1
    · subst h1
      cases hz0 : allZ lf with
      | true =>
        have he : tr.toList = [] := by rw [HTE.out]; exact HN.out.2 hz0
        have he2 : tr.toList.isEmpty = true := by rw [he]; rfl
        have HZ0 := Lib.hid hz0
        clear hz0
        go_wp2_with fail
        refine (Calls.toExt (HVA.out _)).mono ?_
        rintro e _ ⟨rfl, y, rfl⟩
        go_wp2_with fail
        go_ret2
        exact ⟨by rw [HO.out]; simp [HZ0.out], by (show Bel w _; (repeat (first | exact Bel.refl _ | refine Bel.ext ?_ _ | refine Bel.alloc ?_ _ | refine Bel.drewN ?_ _ | refine Bel.drew ?_ | refine Bel.setCell ?_ _ _ ?_ | exact Nat.le_refl _ | (simp; done) | omega)))⟩
      | false =>
        have he2 : tr.toList.isEmpty = false := by
          rw [HTE.out]
          cases hh : trimZ lf with
          | nil => have := HN.out.1 hh; rw [hz0] at this; cases this
          | cons c l => rfl
        have HZ0 := Lib.hid hz0
        clear hz0
        go_wp2_with fail
        go_ret2
        exact ⟨by rw [HO.out]; simp [HZ0.out], by (show Bel w _; (repeat (first | exact Bel.refl _ | refine Bel.ext ?_ _ | refine Bel.alloc ?_ _ | refine Bel.drewN ?_ _ | refine Bel.drew ?_ | refine Bel.setCell ?_ _ _ ?_ | exact Nat.le_refl _ | (simp; done) | omega)))⟩
    by_cases h2 : op = 2
    · subst h2
      clear h1
      go_wp2_with fail
      refine (Calls.toExt (HVA.out _)).mono ?_
      rintro e _ ⟨rfl, y, rfl⟩
      go_wp2_with fail
      go_ret2
      exact ⟨by rw [HO.out]; rfl, by (show Bel w _; (repeat (first | exact Bel.refl _ | refine Bel.ext ?_ _ | refine Bel.alloc ?_ _ | refine Bel.drewN ?_ _ | refine Bel.drew ?_ | refine Bel.setCell ?_ _ _ ?_ | exact Nat.le_refl _ | (simp; done) | omega)))⟩
    by_cases h3 : op = 3
    · subst h3
      clear h1
      go_wp2_with fail
      go_ret2
      exact ⟨by rw [HO.out]; simp [HFL.out], by (show Bel w _; (repeat (first | exact Bel.refl _ | refine Bel.ext ?_ _ | refine Bel.alloc ?_ _ | refine Bel.drewN ?_ _ | refine Bel.drew ?_ | refine Bel.setCell ?_ _ _ ?_ | exact Nat.le_refl _ | (simp; done) | omega)))⟩
    by_cases h4 : op = 4
    · subst h4
      clear h1
      go_wp2_with fail
      go_ret2
      exact ⟨by rw [HO.out]; simp [HFTL.out], by (show Bel w _; (repeat (first | exact Bel.refl _ | refine Bel.ext ?_ _ | refine Bel.alloc ?_ _ | refine Bel.drewN ?_ _ | refine Bel.drew ?_ | refine Bel.setCell ?_ _ _ ?_ | exact Nat.le_refl _ | (simp; done) | omega)))⟩
    by_cases h5 : op = 5
    · subst h5
      clear h1
      go_wp2_with fail
      refine (Calls.toExt (HVF.out _)).mono ?_
      rintro e _ ⟨rfl, y, rfl⟩
      go_wp2_with fail
      go_ret2
      exact ⟨by rw [HO.out]; rfl, by (show Bel w _; (repeat (first | exact Bel.refl _ | refine Bel.ext ?_ _ | refine Bel.alloc ?_ _ | refine Bel.drewN ?_ _ | refine Bel.drew ?_ | refine Bel.setCell ?_ _ _ ?_ | exact Nat.le_refl _ | (simp; done) | omega)))⟩
    by_cases h6 : op = 6
    · subst h6
      clear h1
      go_wp2_with fail
      refine (Calls.toExt (HVT.out _)).mono ?_
      rintro e _ ⟨rfl, y, rfl⟩
      go_wp2_with fail
      go_ret2
      exact ⟨by rw [HO.out]; rfl, by (show Bel w _; (repeat (first | exact Bel.refl _ | refine Bel.ext ?_ _ | refine Bel.alloc ?_ _ | refine Bel.drewN ?_ _ | refine Bel.drew ?_ | refine Bel.setCell ?_ _ _ ?_ | exact Nat.le_refl _ | (simp; done) | omega)))⟩
    have g1 : (op == 1) = false := by rw [beq_eq_false_iff_ne]; exact h1
    have g2 : (op == 2) = false := by rw [beq_eq_false_iff_ne]; exact h2
    have g3 : (op == 3) = false := by rw [beq_eq_false_iff_ne]; exact h3
    have g4 : (op == 4) = false := by rw [beq_eq_false_iff_ne]; exact h4
    have g5 : (op == 5) = false := by rw [beq_eq_false_iff_ne]; exact h5
    have g6 : (op == 6) = false := by rw [beq_eq_false_iff_ne]; exact h6
    have HO2 : Hid (opV s.data.toList op = (0, 1)) := by unfold Hid; rw [HO.out, if_neg h1, if_neg h2, if_neg h3, if_neg h4, if_neg h5, if_neg h6]
    clear h1 h2 h3 h4 h5 h6
    go_wp2_with fail
    go_ret2
    exact ⟨by rw [HO2.out]; rfl, by (show Bel w _; (repeat (first | exact Bel.refl _ | refine Bel.ext ?_ _ | refine Bel.alloc ?_ _ | refine Bel.drewN ?_ _ | refine Bel.drew ?_ | refine Bel.setCell ?_ _ _ ?_ | exact Nat.le_refl _ | (simp; done) | omega)))⟩

set_option maxRecDepth 20000 in
set_option maxHeartbeats 8000000 in
theorem roperand_any (s : ByteArray) (op : Int) (w : World) (hs : s.size ≤ 1000) :
    Calls Tryz.prog 96 #[.string s, .int .i64 op] w fun e w' => e = .returned (.tuple #[.int .i64 ((opV s.data.toList op).1 : Nat), .int .i64 ((opV s.data.toList op).2 : Nat)]) ∧ Below w.heap.size w w' := by
  have HS := Lib.hid (fun w => rsplit_any s w hs)
  cases ho : dOk s.data.toList with
  | false =>
    have HO : Hid (opV s.data.toList op = (0, 1)) := by simp [opV, ho, Hid]
    rw [ho, RS_no rfl] at HS
    clear ho
    generalize dNeg s.data.toList = n at *
    generalize bs (dWhole s.data.toList) = a at *
    generalize bs (dFrac s.data.toList) = f at *
    go_enter Tryz.func96, Tryz.ntmps96
    go_wp2_with fail
    refine (Calls.toExt (HS.out _)).mono ?_
    rintro e _ ⟨rfl, x, rfl⟩
    go_wp2_with fail
    go_ret2
    exact ⟨by rw [HO.out]; rfl, by (show Bel w _; (repeat (first | exact Bel.refl _ | refine Bel.ext ?_ _ | refine Bel.alloc ?_ _ | refine Bel.drewN ?_ _ | refine Bel.drew ?_ | refine Bel.setCell ?_ _ _ ?_ | exact Nat.le_refl _ | (simp; done) | omega)))⟩
  | true =>
    obtain ⟨ha, hf, hda, hdf, _⟩ := split_ok_facts ho
    have HVA := Lib.hid (fun w => rvalue_any (bs (dWhole s.data.toList)) w (by omega) hda)
    have HVF := Lib.hid (fun w => rvalue_any (bs (dFrac s.data.toList)) w (by omega) hdf)
    have htl := trimZ_len (dFrac s.data.toList)
    have HVT := Lib.hid (fun w => rvalue_any (bs (trimZ (dFrac s.data.toList))) w (by rw [bs_size] at hf ⊢; omega) (trimZ_allD hdf))
    have HT := Lib.hid (fun w => rtrim_any (bs (dFrac s.data.toList)) w (by omega))
    have HZ := Lib.hid (fun w => rzero_any (bs (dFrac s.data.toList)) w (by omega))
    simp only [bs_data] at HVA HVF HVT HT HZ
    have HN : Hid (trimZ (dFrac s.data.toList) = [] ↔ allZ (dFrac s.data.toList) = true) := trimZ_nil
    have HO : Hid (opV s.data.toList op = if op = 1 then (if allZ (dFrac s.data.toList) then (valD (dWhole s.data.toList), 0) else (0, 8))
      else if op = 2 then (valD (dWhole s.data.toList), 0) else if op = 3 then ((dFrac s.data.toList).length, 0) else if op = 4 then ((trimZ (dFrac s.data.toList)).length, 0)
      else if op = 5 then (valD (dFrac s.data.toList), 0) else if op = 6 then (valD (trimZ (dFrac s.data.toList)), 0) else (0, 1)) := by unfold Hid opV; rw [if_neg (by rw [ho]; simp)]
    rw [ho, RS_yes rfl] at HS
    clear ho hda hdf htl
    generalize dNeg s.data.toList = n at *
    generalize valD (dWhole s.data.toList) = va at *
    generalize hlf : dFrac s.data.toList = lf at *
    have hfl : (bs lf).size = lf.length := bs_size _
    have hftl : (bs (trimZ lf)).size = (trimZ lf).length := bs_size _
    have HFL := Lib.hid hfl
    have HFTL := Lib.hid hftl
    have hte : (bs (trimZ lf)).toList = trimZ lf := bs_toList _
    have HTE := Lib.hid hte
    clear hfl hftl hte
    generalize bs (dWhole s.data.toList) = a at *
    generalize valD lf = vf at *
    generalize valD (trimZ lf) = vt at *
    generalize hfb : bs lf = f at *
    generalize htb : bs (trimZ lf) = tr at *
    clear hfb htb hlf
    have htr6 : tr.size ≤ 6 := by rw [HFTL.out]; have := trimZ_len lf; rw [← HFL.out] at this; omega
    go_enter Tryz.func96, Tryz.ntmps96
    go_wp2_with fail
    refine (Calls.toExt (HS.out _)).mono ?_
    rintro e _ ⟨rfl, x, rfl⟩
    have hz : w.heap.size < x.1.heap.size + 1 := by have := x.2.size; (try simp at this); omega
    by_cases h1 : op = 1
    · subst h1
      cases hz0 : allZ lf with
      | true =>
        have HZ0 := Lib.hid hz0
        rw [hz0] at HZ
        clear hz0
        go_wp2_with fail
        refine (HZ.out _).mono ?_
        rintro e _ ⟨rfl, rfl⟩
        go_wp2_with fail
        refine (HVA.out _).mono ?_
        rintro e _ ⟨rfl, rfl⟩
        go_wp2_with fail
        go_ret2
        exact ⟨by rw [HO.out]; simp [HZ0.out], by (show Bel w _; (repeat (first | exact Bel.refl _ | refine Bel.ext ?_ _ | refine Bel.alloc ?_ _ | refine Bel.drewN ?_ _ | refine Bel.drew ?_ | refine Bel.setCell ?_ _ _ ?_ | exact Nat.le_refl _ | (simp; done) | omega)))⟩
      | false =>
        have HZ0 := Lib.hid hz0
        rw [hz0] at HZ
        clear hz0
        go_wp2_with fail
        refine (HZ.out _).mono ?_
        rintro e _ ⟨rfl, rfl⟩
        go_wp2_with fail
        go_ret2
        exact ⟨by rw [HO.out]; simp [HZ0.out], by (show Bel w _; (repeat (first | exact Bel.refl _ | refine Bel.ext ?_ _ | refine Bel.alloc ?_ _ | refine Bel.drewN ?_ _ | refine Bel.drew ?_ | refine Bel.setCell ?_ _ _ ?_ | exact Nat.le_refl _ | (simp; done) | omega)))⟩
    by_cases h2 : op = 2
    · subst h2
      clear h1
      go_wp2_with fail
      refine (HVA.out _).mono ?_
      rintro e _ ⟨rfl, rfl⟩
      go_wp2_with fail
      go_ret2
      exact ⟨by rw [HO.out]; rfl, by (show Bel w _; (repeat (first | exact Bel.refl _ | refine Bel.ext ?_ _ | refine Bel.alloc ?_ _ | refine Bel.drewN ?_ _ | refine Bel.drew ?_ | refine Bel.setCell ?_ _ _ ?_ | exact Nat.le_refl _ | (simp; done) | omega)))⟩
    by_cases h3 : op = 3
    · subst h3
      clear h1
      go_wp2_with fail
      go_ret2
      exact ⟨by rw [HO.out]; simp [HFL.out], by (show Bel w _; (repeat (first | exact Bel.refl _ | refine Bel.ext ?_ _ | refine Bel.alloc ?_ _ | refine Bel.drewN ?_ _ | refine Bel.drew ?_ | refine Bel.setCell ?_ _ _ ?_ | exact Nat.le_refl _ | (simp; done) | omega)))⟩
    by_cases h4 : op = 4
    · subst h4
      clear h1
      go_wp2_with fail
      refine (HT.out _).mono ?_
      rintro e _ ⟨rfl, rfl⟩
      go_wp2_with fail
      go_ret2
      exact ⟨by rw [HO.out]; simp [HFTL.out], by (show Bel w _; (repeat (first | exact Bel.refl _ | refine Bel.ext ?_ _ | refine Bel.alloc ?_ _ | refine Bel.drewN ?_ _ | refine Bel.drew ?_ | refine Bel.setCell ?_ _ _ ?_ | exact Nat.le_refl _ | (simp; done) | omega)))⟩
    by_cases h5 : op = 5
    · subst h5
      clear h1
      go_wp2_with fail
      refine (HVF.out _).mono ?_
      rintro e _ ⟨rfl, rfl⟩
      go_wp2_with fail
      go_ret2
      exact ⟨by rw [HO.out]; rfl, by (show Bel w _; (repeat (first | exact Bel.refl _ | refine Bel.ext ?_ _ | refine Bel.alloc ?_ _ | refine Bel.drewN ?_ _ | refine Bel.drew ?_ | refine Bel.setCell ?_ _ _ ?_ | exact Nat.le_refl _ | (simp; done) | omega)))⟩
    by_cases h6 : op = 6
    · subst h6
      clear h1
      go_wp2_with fail
      refine (HT.out _).mono ?_
      rintro e _ ⟨rfl, rfl⟩
      go_wp2_with fail
      refine (HVT.out _).mono ?_
      rintro e _ ⟨rfl, rfl⟩
      go_wp2_with fail
      go_ret2
      exact ⟨by rw [HO.out]; rfl, by (show Bel w _; (repeat (first | exact Bel.refl _ | refine Bel.ext ?_ _ | refine Bel.alloc ?_ _ | refine Bel.drewN ?_ _ | refine Bel.drew ?_ | refine Bel.setCell ?_ _ _ ?_ | exact Nat.le_refl _ | (simp; done) | omega)))⟩
    have g1 : (op == 1) = false := by rw [beq_eq_false_iff_ne]; exact h1
    have g2 : (op == 2) = false := by rw [beq_eq_false_iff_ne]; exact h2
    have g3 : (op == 3) = false := by rw [beq_eq_false_iff_ne]; exact h3
    have g4 : (op == 4) = false := by rw [beq_eq_false_iff_ne]; exact h4
    have g5 : (op == 5) = false := by rw [beq_eq_false_iff_ne]; exact h5
    have g6 : (op == 6) = false := by rw [beq_eq_false_iff_ne]; exact h6
    have HO2 : Hid (opV s.data.toList op = (0, 1)) := by unfold Hid; rw [HO.out, if_neg h1, if_neg h2, if_neg h3, if_neg h4, if_neg h5, if_neg h6]
    clear h1 h2 h3 h4 h5 h6
    go_wp2_with fail
    go_ret2
    exact ⟨by rw [HO2.out]; rfl, by (show Bel w _; (repeat (first | exact Bel.refl _ | refine Bel.ext ?_ _ | refine Bel.alloc ?_ _ | refine Bel.drewN ?_ _ | refine Bel.drew ?_ | refine Bel.setCell ?_ _ _ ?_ | exact Nat.le_refl _ | (simp; done) | omega)))⟩

end Go.Proofs.YtadhblppeaamlaaGreatDoor
