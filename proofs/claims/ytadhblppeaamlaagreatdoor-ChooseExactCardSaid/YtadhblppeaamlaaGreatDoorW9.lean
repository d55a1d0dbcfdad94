/- Walks: Valid, Operand, Integer, Normal, permitted, checked. -/
import Derived.Test.YtadhblppeaamlaaGreatDoorW8
import Derived.Test.YtadhblppeaamlaaGreatDoorPD
namespace Go.Proofs.YtadhblppeaamlaaGreatDoor
open Go.RowKit
attribute [local go_sem] Ext.cell Ext.frozen
attribute [local go_sem ↓] Go.wp_at_zero Go.wp_at_succ

theorem valid_any (s : ByteArray) (w : World) (hs : s.size ≤ 1000) :
    Calls Tryz.prog 63 #[.string s] w fun e w' => e = .returned (.bool (dOk s.data.toList)) ∧ Below w.heap.size w w' := by
  have HS := Lib.hid (fun w => split_any s w hs)
  generalize dOk s.data.toList = ok at *
  generalize dNeg s.data.toList = n at *
  generalize bs (dWhole s.data.toList) = a at *
  generalize bs (dFrac s.data.toList) = f at *
  go_enter Tryz.func63, Tryz.ntmps63
  go_wp2_with fail
  refine (Calls.toExt (HS.out _)).mono ?_
  rintro e _ ⟨rfl, x, rfl⟩
  go_wp2_with fail
  go_ret
  exact ⟨rfl, by (show Bel w _; (repeat (first | exact Bel.refl _ | refine Bel.ext ?_ _ | refine Bel.alloc ?_ _ | refine Bel.drewN ?_ _ | refine Bel.drew ?_ | refine Bel.setCell ?_ _ _ ?_ | exact Nat.le_refl _ | (simp; done) | omega)))⟩

theorem rvalid_wide (s : ByteArray) (w : World) (hs : s.size ≤ 9223372036854775807) :
    Calls Tryz.prog 42 #[.string s] w fun e w' => e = .returned (.bool (dOk s.data.toList)) ∧ Below w.heap.size w w' := by
  have HS := Lib.hid (fun w => rsplit_wide s w hs)
  generalize dNeg s.data.toList = n at *
  generalize bs (dWhole s.data.toList) = a at *
  generalize bs (dFrac s.data.toList) = f at *
  cases ho : dOk s.data.toList with
  | false =>
    rw [ho, RS_no rfl] at HS
    clear ho
    go_enter Tryz.func42, Tryz.ntmps42
    go_wp2_with fail
    refine (Calls.toExt (HS.out _)).mono ?_
    rintro e _ ⟨rfl, x, rfl⟩
    go_wp2_with fail
    go_ret
    exact ⟨rfl, by (show Bel w _; (repeat (first | exact Bel.refl _ | refine Bel.ext ?_ _ | refine Bel.alloc ?_ _ | refine Bel.drewN ?_ _ | refine Bel.drew ?_ | refine Bel.setCell ?_ _ _ ?_ | exact Nat.le_refl _ | (simp; done) | omega)))⟩
  | true =>
    rw [ho, RS_yes rfl] at HS
    clear ho
    go_enter Tryz.func42, Tryz.ntmps42
    go_wp2_with fail
    refine (Calls.toExt (HS.out _)).mono ?_
    rintro e _ ⟨rfl, x, rfl⟩
    go_wp2_with fail
    go_ret
    exact ⟨rfl, by (show Bel w _; (repeat (first | exact Bel.refl _ | refine Bel.ext ?_ _ | refine Bel.alloc ?_ _ | refine Bel.drewN ?_ _ | refine Bel.drew ?_ | refine Bel.setCell ?_ _ _ ?_ | exact Nat.le_refl _ | (simp; done) | omega)))⟩

theorem rvalid_any (s : ByteArray) (w : World) (hs : s.size ≤ 1000) :
    Calls Tryz.prog 42 #[.string s] w fun e w' => e = .returned (.bool (dOk s.data.toList)) ∧ Below w.heap.size w w' := rvalid_wide s w (by omega)

set_option maxRecDepth 20000 in
set_option maxHeartbeats 8000000 in
theorem operand_any (s : ByteArray) (op : Int) (w : World) (hs : s.size ≤ 1000) :
    Calls Tryz.prog 94 #[.string s, .int .i64 op] w fun e w' => e = .returned (.tuple #[.int .i64 ((opV s.data.toList op).1 : Nat), .int .i64 ((opV s.data.toList op).2 : Nat)]) ∧ Below w.heap.size w w' := by
  have HS := Lib.hid (fun w => split_any s w hs)
  cases ho : dOk s.data.toList with
  | false =>
    have HO : Hid (opV s.data.toList op = (0, 1)) := by simp [opV, ho, Hid]
    rw [ho] at HS
    clear ho
    generalize dNeg s.data.toList = n at *
    generalize bs (dWhole s.data.toList) = a at *
    generalize bs (dFrac s.data.toList) = f at *
    go_enter Tryz.func94, Tryz.ntmps94
    go_wp2_with fail
    refine (Calls.toExt (HS.out _)).mono ?_
    rintro e _ ⟨rfl, x, rfl⟩
    go_wp2_with fail
    go_ret2
    exact ⟨by rw [HO.out]; rfl, by (show Bel w _; (repeat (first | exact Bel.refl _ | refine Bel.ext ?_ _ | refine Bel.alloc ?_ _ | refine Bel.drewN ?_ _ | refine Bel.drew ?_ | refine Bel.setCell ?_ _ _ ?_ | exact Nat.le_refl _ | (simp; done) | omega)))⟩
  | true =>
    obtain ⟨ha, hf, hda, hdf, _⟩ := split_ok_facts ho
    have HVA := Lib.hid (fun w => value_any (bs (dWhole s.data.toList)) w (by omega) hda)
    have HVF := Lib.hid (fun w => value_any (bs (dFrac s.data.toList)) w (by omega) hdf)
    have htl := trimZ_len (dFrac s.data.toList)
    have HVT := Lib.hid (fun w => value_any (bs (trimZ (dFrac s.data.toList))) w (by rw [bs_size] at hf ⊢; omega) (trimZ_allD hdf))
    have HT := Lib.hid (fun w => trimR0 (bs (dFrac s.data.toList)) w (by omega))
    have HZ := Lib.hid (fun w => zero_any (bs (dFrac s.data.toList)) w (by omega))
    simp only [bs_data] at HVA HVF HVT HT HZ
    have HN : Hid (trimZ (dFrac s.data.toList) = [] ↔ allZ (dFrac s.data.toList) = true) := trimZ_nil
    have HO : Hid (opV s.data.toList op = if op = 1 then (if allZ (dFrac s.data.toList) then (valD (dWhole s.data.toList), 0) else (0, 8))
      else if op = 2 then (valD (dWhole s.data.toList), 0) else if op = 3 then ((dFrac s.data.toList).length, 0) else if op = 4 then ((trimZ (dFrac s.data.toList)).length, 0)
      else if op = 5 then (valD (dFrac s.data.toList), 0) else if op = 6 then (valD (trimZ (dFrac s.data.toList)), 0) else (0, 1)) := by unfold Hid opV; rw [if_neg (by rw [ho]; simp)]
    rw [ho] at HS
    clear ho hda hdf htl
    generalize dNeg s.data.toList = n at *
    generalize valD (dWhole s.data.toList) = va at *
    generalize hlf : dFrac s.data.toList = lf at *
    have hfl : (bs lf).size = lf.length := bs_size _
    have hftl : (bs (trimZ lf)).size = (trimZ lf).length := bs_size _
    have HFL := Lib.hid hfl
    have HFTL := Lib.hid hftl
    have hte : (bs (trimZ lf)).toList = trimZ lf := bs_toList _
    have HTE := Lib.hid hte
    clear hfl hftl hte
    generalize bs (dWhole s.data.toList) = a at *
    generalize valD lf = vf at *
    generalize valD (trimZ lf) = vt at *
    generalize hfb : bs lf = f at *
    generalize htb : bs (trimZ lf) = tr at *
    clear hfb htb hlf
    have htr6 : tr.size ≤ 6 := by rw [HFTL.out]; have := trimZ_len lf; rw [← HFL.out] at this; omega
    go_enter Tryz.func94, Tryz.ntmps94
    go_wp2_with fail
    refine (Calls.toExt (HS.out _)).mono ?_
    rintro e _ ⟨rfl, x, rfl⟩
    have hz : w.heap.size < x.1.heap.size + 1 := by have := x.2.size; (try simp at this); omega
    go_wp2_with fail
    refine (HT.out _).mono ?_
    rintro e _ ⟨rfl, rfl⟩
    by_cases h1 : op = 1
    · subst h1
      cases hz0 : allZ lf with
      | true =>
        have he : tr.toList = [] := by rw [HTE.out]; exact HN.out.2 hz0
        have he2 : tr.toList.isEmpty = true := by rw [he]; rfl
        have HZ0 := Lib.hid hz0
        clear hz0
        go_wp2_with fail
        refine (Calls.toExt (HVA.out _)).mono ?_
        rintro e _ ⟨rfl, y, rfl⟩
        go_wp2_with fail
        go_ret2
        exact ⟨by rw [HO.out]; simp [HZ0.out], by (show Bel w _; (repeat (first | exact Bel.refl _ | refine Bel.ext ?_ _ | refine Bel.alloc ?_ _ | refine Bel.drewN ?_ _ | refine Bel.drew ?_ | refine Bel.setCell ?_ _ _ ?_ | exact Nat.le_refl _ | (simp; done) | omega)))⟩
      | false =>
        have he2 : tr.toList.isEmpty = false := by
          rw [HTE.out]
          cases hh : trimZ lf with
          | nil => have := HN.out.1 hh; rw [hz0] at this; cases this
          | cons c l => rfl
        have HZ0 := Lib.hid hz0
        clear hz0
        go_wp2_with fail
        go_ret2
        exact ⟨by rw [HO.out]; simp [HZ0.out], by (show Bel w _; (repeat (first | exact Bel.refl _ | refine Bel.ext ?_ _ | refine Bel.alloc ?_ _ | refine Bel.drewN ?_ _ | refine Bel.drew ?_ | refine Bel.setCell ?_ _ _ ?_ | exact Nat.le_refl _ | (simp; done) | omega)))⟩
    by_cases h2 : op = 2
    · subst h2
      clear h1
      go_wp2_with fail
      refine (Calls.toExt (HVA.out _)).mono ?_
      rintro e _ ⟨rfl, y, rfl⟩
      go_wp2_with fail
      go_ret2
      exact ⟨by rw [HO.out]; rfl, by (show Bel w _; (repeat (first | exact Bel.refl _ | refine Bel.ext ?_ _ | refine Bel.alloc ?_ _ | refine Bel.drewN ?_ _ | refine Bel.drew ?_ | refine Bel.setCell ?_ _ _ ?_ | exact Nat.le_refl _ | (simp; done) | omega)))⟩
    by_cases h3 : op = 3
    · subst h3
      clear h1
      go_wp2_with fail
      go_ret2
      exact ⟨by rw [HO.out]; simp [HFL.out], by (show Bel w _; (repeat (first | exact Bel.refl _ | refine Bel.ext ?_ _ | refine Bel.alloc ?_ _ | refine Bel.drewN ?_ _ | refine Bel.drew ?_ | refine Bel.setCell ?_ _ _ ?_ | exact Nat.le_refl _ | (simp; done) | omega)))⟩
    by_cases h4 : op = 4
    · subst h4
      clear h1
      go_wp2_with fail
      go_ret2
      exact ⟨by rw [HO.out]; simp [HFTL.out], by (show Bel w _; (repeat (first | exact Bel.refl _ | refine Bel.ext ?_ _ | refine Bel.alloc ?_ _ | refine Bel.drewN ?_ _ | refine Bel.drew ?_ | refine Bel.setCell ?_ _ _ ?_ | exact Nat.le_refl _ | (simp; done) | omega)))⟩
    by_cases h5 : op = 5
    · subst h5
      clear h1
      go_wp2_with fail
      refine (Calls.toExt (HVF.out _)).mono ?_
      rintro e _ ⟨rfl, y, rfl⟩
      go_wp2_with fail
      go_ret2
      exact ⟨by rw [HO.out]; rfl, by (show Bel w _; (repeat (first | exact Bel.refl _ | refine Bel.ext ?_ _ | refine Bel.alloc ?_ _ | refine Bel.drewN ?_ _ | refine Bel.drew ?_ | refine Bel.setCell ?_ _ _ ?_ | exact Nat.le_refl _ | (simp; done) | omega)))⟩
    by_cases h6 : op = 6
    · subst h6
      clear h1
      go_wp2_with fail
      refine (Calls.toExt (HVT.out _)).mono ?_
      rintro e _ ⟨rfl, y, rfl⟩
      go_wp2_with fail
      go_ret2
      exact ⟨by rw [HO.out]; rfl, by (show Bel w _; (repeat (first | exact Bel.refl _ | refine Bel.ext ?_ _ | refine Bel.alloc ?_ _ | refine Bel.drewN ?_ _ | refine Bel.drew ?_ | refine Bel.setCell ?_ _ _ ?_ | exact Nat.le_refl _ | (simp; done) | omega)))⟩
    have g1 : (op == 1) = false := by rw [beq_eq_false_iff_ne]; exact h1
    have g2 : (op == 2) = false := by rw [beq_eq_false_iff_ne]; exact h2
    have g3 : (op == 3) = false := by rw [beq_eq_false_iff_ne]; exact h3
    have g4 : (op == 4) = false := by rw [beq_eq_false_iff_ne]; exact h4
    have g5 : (op == 5) = false := by rw [beq_eq_false_iff_ne]; exact h5
    have g6 : (op == 6) = false := by rw [beq_eq_false_iff_ne]; exact h6
    have HO2 : Hid (opV s.data.toList op = (0, 1)) := by unfold Hid; rw [HO.out, if_neg h1, if_neg h2, if_neg h3, if_neg h4, if_neg h5, if_neg h6]
    clear h1 h2 h3 h4 h5 h6
    go_wp2_with fail
    go_ret2
    exact ⟨by rw [HO2.out]; rfl, by (show Bel w _; (repeat (first | exact Bel.refl _ | refine Bel.ext ?_ _ | refine Bel.alloc ?_ _ | refine Bel.drewN ?_ _ | refine Bel.drew ?_ | refine Bel.setCell ?_ _ _ ?_ | exact Nat.le_refl _ | (simp; done) | omega)))⟩

set_option maxRecDepth 20000 in
set_option maxHeartbeats 8000000 in
theorem roperand_any (s : ByteArray) (op : Int) (w : World) (hs : s.size ≤ 1000) :
    Calls Tryz.prog 96 #[.string s, .int .i64 op] w fun e w' => e = .returned (.tuple #[.int .i64 ((opV s.data.toList op).1 : Nat), .int .i64 ((opV s.data.toList op).2 : Nat)]) ∧ Below w.heap.size w w' := by
  have HS := Lib.hid (fun w => rsplit_any s w hs)
  cases ho : dOk s.data.toList with
  | false =>
    have HO : Hid (opV s.data.toList op = (0, 1)) := by simp [opV, ho, Hid]
    rw [ho, RS_no rfl] at HS
    clear ho
    generalize dNeg s.data.toList = n at *
    generalize bs (dWhole s.data.toList) = a at *
    generalize bs (dFrac s.data.toList) = f at *
    go_enter Tryz.func96, Tryz.ntmps96
    go_wp2_with fail
    refine (Calls.toExt (HS.out _)).mono ?_
    rintro e _ ⟨rfl, x, rfl⟩
    go_wp2_with fail
    go_ret2
    exact ⟨by rw [HO.out]; rfl, by (show Bel w _; (repeat (first | exact Bel.refl _ | refine Bel.ext ?_ _ | refine Bel.alloc ?_ _ | refine Bel.drewN ?_ _ | refine Bel.drew ?_ | refine Bel.setCell ?_ _ _ ?_ | exact Nat.le_refl _ | (simp; done) | omega)))⟩
  | true =>
    obtain ⟨ha, hf, hda, hdf, _⟩ := split_ok_facts ho
    have HVA := Lib.hid (fun w => rvalue_any (bs (dWhole s.data.toList)) w (by omega) hda)
    have HVF := Lib.hid (fun w => rvalue_any (bs (dFrac s.data.toList)) w (by omega) hdf)
    have htl := trimZ_len (dFrac s.data.toList)
    have HVT := Lib.hid (fun w => rvalue_any (bs (trimZ (dFrac s.data.toList))) w (by rw [bs_size] at hf ⊢; omega) (trimZ_allD hdf))
    have HT := Lib.hid (fun w => rtrim_any (bs (dFrac s.data.toList)) w (by omega))
    have HZ := Lib.hid (fun w => rzero_any (bs (dFrac s.data.toList)) w (by omega))
    simp only [bs_data] at HVA HVF HVT HT HZ
    have HN : Hid (trimZ (dFrac s.data.toList) = [] ↔ allZ (dFrac s.data.toList) = true) := trimZ_nil
    have HO : Hid (opV s.data.toList op = if op = 1 then (if allZ (dFrac s.data.toList) then (valD (dWhole s.data.toList), 0) else (0, 8))
      else if op = 2 then (valD (dWhole s.data.toList), 0) else if op = 3 then ((dFrac s.data.toList).length, 0) else if op = 4 then ((trimZ (dFrac s.data.toList)).length, 0)
      else if op = 5 then (valD (dFrac s.data.toList), 0) else if op = 6 then (valD (trimZ (dFrac s.data.toList)), 0) else (0, 1)) := by unfold Hid opV; rw [if_neg (by rw [ho]; simp)]
    rw [ho, RS_yes rfl] at HS
    clear ho hda hdf htl
    generalize dNeg s.data.toList = n at *
    generalize valD (dWhole s.data.toList) = va at *
    generalize hlf : dFrac s.data.toList = lf at *
    have hfl : (bs lf).size = lf.length := bs_size _
    have hftl : (bs (trimZ lf)).size = (trimZ lf).length := bs_size _
    have HFL := Lib.hid hfl
    have HFTL := Lib.hid hftl
    have hte : (bs (trimZ lf)).toList = trimZ lf := bs_toList _
    have HTE := Lib.hid hte
    clear hfl hftl hte
    generalize bs (dWhole s.data.toList) = a at *
    generalize valD lf = vf at *
    generalize valD (trimZ lf) = vt at *
    generalize hfb : bs lf = f at *
    generalize htb : bs (trimZ lf) = tr at *
    clear hfb htb hlf
    have htr6 : tr.size ≤ 6 := by rw [HFTL.out]; have := trimZ_len lf; rw [← HFL.out] at this; omega
    go_enter Tryz.func96, Tryz.ntmps96
    go_wp2_with fail
    refine (Calls.toExt (HS.out _)).mono ?_
    rintro e _ ⟨rfl, x, rfl⟩
    have hz : w.heap.size < x.1.heap.size + 1 := by have := x.2.size; (try simp at this); omega
    by_cases h1 : op = 1
    · subst h1
      cases hz0 : allZ lf with
      | true =>
        have HZ0 := Lib.hid hz0
        rw [hz0] at HZ
        clear hz0
        go_wp2_with fail
        refine (HZ.out _).mono ?_
        rintro e _ ⟨rfl, rfl⟩
        go_wp2_with fail
        refine (HVA.out _).mono ?_
        rintro e _ ⟨rfl, rfl⟩
        go_wp2_with fail
        go_ret2
        exact ⟨by rw [HO.out]; simp [HZ0.out], by (show Bel w _; (repeat (first | exact Bel.refl _ | refine Bel.ext ?_ _ | refine Bel.alloc ?_ _ | refine Bel.drewN ?_ _ | refine Bel.drew ?_ | refine Bel.setCell ?_ _ _ ?_ | exact Nat.le_refl _ | (simp; done) | omega)))⟩
      | false =>
        have HZ0 := Lib.hid hz0
        rw [hz0] at HZ
        clear hz0
        go_wp2_with fail
        refine (HZ.out _).mono ?_
        rintro e _ ⟨rfl, rfl⟩
        go_wp2_with fail
        go_ret2
        exact ⟨by rw [HO.out]; simp [HZ0.out], by (show Bel w _; (repeat (first | exact Bel.refl _ | refine Bel.ext ?_ _ | refine Bel.alloc ?_ _ | refine Bel.drewN ?_ _ | refine Bel.drew ?_ | refine Bel.setCell ?_ _ _ ?_ | exact Nat.le_refl _ | (simp; done) | omega)))⟩
    by_cases h2 : op = 2
    · subst h2
      clear h1
      go_wp2_with fail
      refine (HVA.out _).mono ?_
      rintro e _ ⟨rfl, rfl⟩
      go_wp2_with fail
      go_ret2
      exact ⟨by rw [HO.out]; rfl, by (show Bel w _; (repeat (first | exact Bel.refl _ | refine Bel.ext ?_ _ | refine Bel.alloc ?_ _ | refine Bel.drewN ?_ _ | refine Bel.drew ?_ | refine Bel.setCell ?_ _ _ ?_ | exact Nat.le_refl _ | (simp; done) | omega)))⟩
    by_cases h3 : op = 3
    · subst h3
      clear h1
      go_wp2_with fail
      go_ret2
      exact ⟨by rw [HO.out]; simp [HFL.out], by (show Bel w _; (repeat (first | exact Bel.refl _ | refine Bel.ext ?_ _ | refine Bel.alloc ?_ _ | refine Bel.drewN ?_ _ | refine Bel.drew ?_ | refine Bel.setCell ?_ _ _ ?_ | exact Nat.le_refl _ | (simp; done) | omega)))⟩
    by_cases h4 : op = 4
    · subst h4
      clear h1
      go_wp2_with fail
      refine (HT.out _).mono ?_
      rintro e _ ⟨rfl, rfl⟩
      go_wp2_with fail
      go_ret2
      exact ⟨by rw [HO.out]; simp [HFTL.out], by (show Bel w _; (repeat (first | exact Bel.refl _ | refine Bel.ext ?_ _ | refine Bel.alloc ?_ _ | refine Bel.drewN ?_ _ | refine Bel.drew ?_ | refine Bel.setCell ?_ _ _ ?_ | exact Nat.le_refl _ | (simp; done) | omega)))⟩
    by_cases h5 : op = 5
    · subst h5
      clear h1
      go_wp2_with fail
      refine (HVF.out _).mono ?_
      rintro e _ ⟨rfl, rfl⟩
      go_wp2_with fail
      go_ret2
      exact ⟨by rw [HO.out]; rfl, by (show Bel w _; (repeat (first | exact Bel.refl _ | refine Bel.ext ?_ _ | refine Bel.alloc ?_ _ | refine Bel.drewN ?_ _ | refine Bel.drew ?_ | refine Bel.setCell ?_ _ _ ?_ | exact Nat.le_refl _ | (simp; done) | omega)))⟩
    by_cases h6 : op = 6
    · subst h6
      clear h1
      go_wp2_with fail
      refine (HT.out _).mono ?_
      rintro e _ ⟨rfl, rfl⟩
      go_wp2_with fail
      refine (HVT.out _).mono ?_
      rintro e _ ⟨rfl, rfl⟩
      go_wp2_with fail
      go_ret2
      exact ⟨by rw [HO.out]; rfl, by (show Bel w _; (repeat (first | exact Bel.refl _ | refine Bel.ext ?_ _ | refine Bel.alloc ?_ _ | refine Bel.drewN ?_ _ | refine Bel.drew ?_ | refine Bel.setCell ?_ _ _ ?_ | exact Nat.le_refl _ | (simp; done) | omega)))⟩
    have g1 : (op == 1) = false := by rw [beq_eq_false_iff_ne]; exact h1
    have g2 : (op == 2) = false := by rw [beq_eq_false_iff_ne]; exact h2
    have g3 : (op == 3) = false := by rw [beq_eq_false_iff_ne]; exact h3
    have g4 : (op == 4) = false := by rw [beq_eq_false_iff_ne]; exact h4
    have g5 : (op == 5) = false := by rw [beq_eq_false_iff_ne]; exact h5
    have g6 : (op == 6) = false := by rw [beq_eq_false_iff_ne]; exact h6
    have HO2 : Hid (opV s.data.toList op = (0, 1)) := by unfold Hid; rw [HO.out, if_neg h1, if_neg h2, if_neg h3, if_neg h4, if_neg h5, if_neg h6]
    clear h1 h2 h3 h4 h5 h6
    go_wp2_with fail
    go_ret2
    exact ⟨by rw [HO2.out]; rfl, by (show Bel w _; (repeat (first | exact Bel.refl _ | refine Bel.ext ?_ _ | refine Bel.alloc ?_ _ | refine Bel.drewN ?_ _ | refine Bel.drew ?_ | refine Bel.setCell ?_ _ _ ?_ | exact Nat.le_refl _ | (simp; done) | omega)))⟩

end Go.Proofs.YtadhblppeaamlaaGreatDoor
