/- Walks: whether a value is proper, in the program and in the reference. -/
import Derived.Test.YtadhblppeaamlaaGreatDoorQ01
import Derived.Test.YtadhblppeaamlaaGreatDoorQ06
namespace Go.Proofs.YtadhblppeaamlaaGreatDoor
open Go.RowKit
attribute [local go_sem] Ext.cell Ext.frozen
attribute [local go_sem ↓] Go.wp_at_zero Go.wp_at_succ

theorem ba_nil {s : ByteArray} (h : s.size = 0) : s = ⟨#[]⟩ := ByteArray.ext (Array.eq_empty_of_size_eq_zero h)
set_option maxRecDepth 20000 in
set_option maxHeartbeats 4000000 in
theorem vproper_any (x : Nat → Value) (v : Vl) (w : World) (h : ValC w x v) (hs : v.tx.size ≤ 1000) : Calls Tryz.prog 38 #[.agg #[x 0, x 1, x 2, x 3, x 4]] w fun e w' => e = .returned (.bool (properVl v)) ∧ Below w.heap.size w w' := by
  obtain ⟨x0, _, x1, x2, _, x3, ad, c, f, b, off, x4, _, _, _, _, _⟩ := h
  have HV := Lib.hid (fun W => valid_any v.tx W hs)
  rw [x0, x1, x2, x3, x4]
  clear x0 x1 x2 x3 x4
  obtain ⟨nm, ty, tx, dt, li⟩ := v
  simp only at HV ⊢
  obtain ⟨m, hm⟩ : ∃ m, li.length = m := ⟨_, rfl⟩
  rw [hm]
  have HM := Lib.hid hm
  clear hm hs
  by_cases h1 : ty = 1
  · subst h1
    by_cases hd0 : dt = 0
    · subst hd0
      by_cases hm0 : m = 0
      · subst hm0
        have HO : Hid (properVl ⟨nm, 1, tx, 0, li⟩ = true) := by unfold Hid properVl; simp [HM.out]
        generalize properVl ⟨nm, 1, tx, 0, li⟩ = q at *
        go_enter Tryz.func38, Tryz.ntmps38
        go_wp2_with (go_at_call 63; refine (Calls.toExt (HV.out _)).mono ?_; rintro e _ ⟨rfl, x1, rfl⟩; have hx1 : w.heap.size < x1.1.heap.size := (by have := x1.2.size; simp at this; omega))
        go_ret
        exact ⟨by rw [HO.out]; rfl, by show Bel w _; repeat (first | exact Bel.refl _ | refine Bel.drew ?_ | refine Bel.drewN ?_ _ | refine Bel.alloc ?_ _ | refine Bel.ext ?_ _)⟩
      · have em : ((m : Int) == 0) = false := by rw [beq_eq_false_iff_ne]; omega
        have HO : Hid (properVl ⟨nm, 1, tx, 0, li⟩ = false) := by unfold Hid properVl; simp [HM.out, hm0]
        generalize properVl ⟨nm, 1, tx, 0, li⟩ = q at *
        go_enter Tryz.func38, Tryz.ntmps38
        go_wp2_with (go_at_call 63; refine (Calls.toExt (HV.out _)).mono ?_; rintro e _ ⟨rfl, x1, rfl⟩; have hx1 : w.heap.size < x1.1.heap.size := (by have := x1.2.size; simp at this; omega))
        go_ret
        exact ⟨by rw [HO.out]; rfl, by show Bel w _; repeat (first | exact Bel.refl _ | refine Bel.drew ?_ | refine Bel.drewN ?_ _ | refine Bel.alloc ?_ _ | refine Bel.ext ?_ _)⟩
    · have ed : (dt == 0) = false := by rw [beq_eq_false_iff_ne]; exact hd0
      have HO : Hid (properVl ⟨nm, 1, tx, dt, li⟩ = false) := by unfold Hid properVl; simp [HM.out, hd0]
      generalize properVl ⟨nm, 1, tx, dt, li⟩ = q at *
      go_enter Tryz.func38, Tryz.ntmps38
      go_wp2_with (go_at_call 63; refine (Calls.toExt (HV.out _)).mono ?_; rintro e _ ⟨rfl, x1, rfl⟩; have hx1 : w.heap.size < x1.1.heap.size := (by have := x1.2.size; simp at this; omega))
      go_ret
      exact ⟨by rw [HO.out]; rfl, by show Bel w _; repeat (first | exact Bel.refl _ | refine Bel.drew ?_ | refine Bel.drewN ?_ _ | refine Bel.alloc ?_ _ | refine Bel.ext ?_ _)⟩
  by_cases h2 : ty = 2
  · subst h2
    cases hk : dOk tx.data.toList with
    | true =>
      rw [Hid, hk] at HV
      replace HV := Lib.hid HV
      by_cases hd0 : dt = 0
      · subst hd0
        by_cases hm0 : m = 0
        · subst hm0
          have HO : Hid (properVl ⟨nm, 2, tx, 0, li⟩ = true) := by unfold Hid properVl; simp [HM.out, hk]
          generalize properVl ⟨nm, 2, tx, 0, li⟩ = q at *
          go_enter Tryz.func38, Tryz.ntmps38
          go_wp2_with (go_at_call 63; refine (Calls.toExt (HV.out _)).mono ?_; rintro e _ ⟨rfl, x1, rfl⟩; have hx1 : w.heap.size < x1.1.heap.size := (by have := x1.2.size; simp at this; omega))
          go_ret
          exact ⟨by rw [HO.out]; rfl, by show Bel w _; repeat (first | exact Bel.refl _ | refine Bel.drew ?_ | refine Bel.drewN ?_ _ | refine Bel.alloc ?_ _ | refine Bel.ext ?_ _)⟩
        · have em : ((m : Int) == 0) = false := by rw [beq_eq_false_iff_ne]; omega
          have HO : Hid (properVl ⟨nm, 2, tx, 0, li⟩ = false) := by unfold Hid properVl; simp [HM.out, hk, hm0]
          generalize properVl ⟨nm, 2, tx, 0, li⟩ = q at *
          go_enter Tryz.func38, Tryz.ntmps38
          go_wp2_with (go_at_call 63; refine (Calls.toExt (HV.out _)).mono ?_; rintro e _ ⟨rfl, x1, rfl⟩; have hx1 : w.heap.size < x1.1.heap.size := (by have := x1.2.size; simp at this; omega))
          go_ret
          exact ⟨by rw [HO.out]; rfl, by show Bel w _; repeat (first | exact Bel.refl _ | refine Bel.drew ?_ | refine Bel.drewN ?_ _ | refine Bel.alloc ?_ _ | refine Bel.ext ?_ _)⟩
      · have ed : (dt == 0) = false := by rw [beq_eq_false_iff_ne]; exact hd0
        have HO : Hid (properVl ⟨nm, 2, tx, dt, li⟩ = false) := by unfold Hid properVl; simp [HM.out, hk, hd0]
        generalize properVl ⟨nm, 2, tx, dt, li⟩ = q at *
        go_enter Tryz.func38, Tryz.ntmps38
        go_wp2_with (go_at_call 63; refine (Calls.toExt (HV.out _)).mono ?_; rintro e _ ⟨rfl, x1, rfl⟩; have hx1 : w.heap.size < x1.1.heap.size := (by have := x1.2.size; simp at this; omega))
        go_ret
        exact ⟨by rw [HO.out]; rfl, by show Bel w _; repeat (first | exact Bel.refl _ | refine Bel.drew ?_ | refine Bel.drewN ?_ _ | refine Bel.alloc ?_ _ | refine Bel.ext ?_ _)⟩
    | false =>
      rw [Hid, hk] at HV
      replace HV := Lib.hid HV
      have HO : Hid (properVl ⟨nm, 2, tx, dt, li⟩ = false) := by unfold Hid properVl; simp [HM.out, hk]
      generalize properVl ⟨nm, 2, tx, dt, li⟩ = q at *
      go_enter Tryz.func38, Tryz.ntmps38
      go_wp2_with (go_at_call 63; refine (Calls.toExt (HV.out _)).mono ?_; rintro e _ ⟨rfl, x1, rfl⟩; have hx1 : w.heap.size < x1.1.heap.size := (by have := x1.2.size; simp at this; omega))
      go_ret
      exact ⟨by rw [HO.out]; rfl, by show Bel w _; repeat (first | exact Bel.refl _ | refine Bel.drew ?_ | refine Bel.drewN ?_ _ | refine Bel.alloc ?_ _ | refine Bel.ext ?_ _)⟩
  by_cases h3 : ty = 3
  · subst h3
    by_cases ht0 : tx.size = 0
    · obtain rfl : tx = (⟨#[]⟩ : ByteArray) := ba_nil ht0
      by_cases hm0 : m = 0
      · subst hm0
        have HO : Hid (properVl ⟨nm, 3, ⟨#[]⟩, dt, li⟩ = true) := by unfold Hid properVl; simp [HM.out] <;> rfl
        generalize properVl ⟨nm, 3, ⟨#[]⟩, dt, li⟩ = q at *
        go_enter Tryz.func38, Tryz.ntmps38
        go_wp2_with (go_at_call 63; refine (Calls.toExt (HV.out _)).mono ?_; rintro e _ ⟨rfl, x1, rfl⟩; have hx1 : w.heap.size < x1.1.heap.size := (by have := x1.2.size; simp at this; omega))
        go_ret
        exact ⟨by rw [HO.out]; rfl, by show Bel w _; repeat (first | exact Bel.refl _ | refine Bel.drew ?_ | refine Bel.drewN ?_ _ | refine Bel.alloc ?_ _ | refine Bel.ext ?_ _)⟩
      · have em : ((m : Int) == 0) = false := by rw [beq_eq_false_iff_ne]; omega
        have HO : Hid (properVl ⟨nm, 3, ⟨#[]⟩, dt, li⟩ = false) := by unfold Hid properVl; simp [HM.out, hm0]
        generalize properVl ⟨nm, 3, ⟨#[]⟩, dt, li⟩ = q at *
        go_enter Tryz.func38, Tryz.ntmps38
        go_wp2_with (go_at_call 63; refine (Calls.toExt (HV.out _)).mono ?_; rintro e _ ⟨rfl, x1, rfl⟩; have hx1 : w.heap.size < x1.1.heap.size := (by have := x1.2.size; simp at this; omega))
        go_ret
        exact ⟨by rw [HO.out]; rfl, by show Bel w _; repeat (first | exact Bel.refl _ | refine Bel.drew ?_ | refine Bel.drewN ?_ _ | refine Bel.alloc ?_ _ | refine Bel.ext ?_ _)⟩
    · have et : (tx.toList == []) = false := by rw [beq_eq_false_iff_ne]; intro e; exact ht0 (by rw [ByteArray.toList_eq] at e; rw [ByteArray.size, ← Array.length_toList, e]; rfl)
      have et2 : (tx.toList == (⟨#[]⟩ : ByteArray).toList) = false := by rw [← et, ByteArray.toList_eq ⟨#[]⟩]
      have HO : Hid (properVl ⟨nm, 3, tx, dt, li⟩ = false) := by unfold Hid properVl; simp [HM.out, ht0]
      generalize properVl ⟨nm, 3, tx, dt, li⟩ = q at *
      go_enter Tryz.func38, Tryz.ntmps38
      go_wp2_with (go_at_call 63; refine (Calls.toExt (HV.out _)).mono ?_; rintro e _ ⟨rfl, x1, rfl⟩; have hx1 : w.heap.size < x1.1.heap.size := (by have := x1.2.size; simp at this; omega))
      go_ret
      exact ⟨by rw [HO.out]; rfl, by show Bel w _; repeat (first | exact Bel.refl _ | refine Bel.drew ?_ | refine Bel.drewN ?_ _ | refine Bel.alloc ?_ _ | refine Bel.ext ?_ _)⟩
  by_cases h4 : ty = 4
  · subst h4
    by_cases ht0 : tx.size = 0
    · obtain rfl : tx = (⟨#[]⟩ : ByteArray) := ba_nil ht0
      by_cases hd0 : dt = 0
      · subst hd0
        have HO : Hid (properVl ⟨nm, 4, ⟨#[]⟩, 0, li⟩ = true) := by unfold Hid properVl; simp <;> rfl
        generalize properVl ⟨nm, 4, ⟨#[]⟩, 0, li⟩ = q at *
        go_enter Tryz.func38, Tryz.ntmps38
        go_wp2_with (go_at_call 63; refine (Calls.toExt (HV.out _)).mono ?_; rintro e _ ⟨rfl, x1, rfl⟩; have hx1 : w.heap.size < x1.1.heap.size := (by have := x1.2.size; simp at this; omega))
        go_ret
        exact ⟨by rw [HO.out]; rfl, by show Bel w _; repeat (first | exact Bel.refl _ | refine Bel.drew ?_ | refine Bel.drewN ?_ _ | refine Bel.alloc ?_ _ | refine Bel.ext ?_ _)⟩
      · have ed : (dt == 0) = false := by rw [beq_eq_false_iff_ne]; exact hd0
        have HO : Hid (properVl ⟨nm, 4, ⟨#[]⟩, dt, li⟩ = false) := by unfold Hid properVl; simp [hd0]
        generalize properVl ⟨nm, 4, ⟨#[]⟩, dt, li⟩ = q at *
        go_enter Tryz.func38, Tryz.ntmps38
        go_wp2_with (go_at_call 63; refine (Calls.toExt (HV.out _)).mono ?_; rintro e _ ⟨rfl, x1, rfl⟩; have hx1 : w.heap.size < x1.1.heap.size := (by have := x1.2.size; simp at this; omega))
        go_ret
        exact ⟨by rw [HO.out]; rfl, by show Bel w _; repeat (first | exact Bel.refl _ | refine Bel.drew ?_ | refine Bel.drewN ?_ _ | refine Bel.alloc ?_ _ | refine Bel.ext ?_ _)⟩
    · have et : (tx.toList == []) = false := by rw [beq_eq_false_iff_ne]; intro e; exact ht0 (by rw [ByteArray.toList_eq] at e; rw [ByteArray.size, ← Array.length_toList, e]; rfl)
      have et2 : (tx.toList == (⟨#[]⟩ : ByteArray).toList) = false := by rw [← et, ByteArray.toList_eq ⟨#[]⟩]
      have HO : Hid (properVl ⟨nm, 4, tx, dt, li⟩ = false) := by unfold Hid properVl; simp [ht0]
      generalize properVl ⟨nm, 4, tx, dt, li⟩ = q at *
      go_enter Tryz.func38, Tryz.ntmps38
      go_wp2_with (go_at_call 63; refine (Calls.toExt (HV.out _)).mono ?_; rintro e _ ⟨rfl, x1, rfl⟩; have hx1 : w.heap.size < x1.1.heap.size := (by have := x1.2.size; simp at this; omega))
      go_ret
      exact ⟨by rw [HO.out]; rfl, by show Bel w _; repeat (first | exact Bel.refl _ | refine Bel.drew ?_ | refine Bel.drewN ?_ _ | refine Bel.alloc ?_ _ | refine Bel.ext ?_ _)⟩
  have e1 : (ty == 1) = false := by rw [beq_eq_false_iff_ne]; exact h1
  have e2 : (ty == 2) = false := by rw [beq_eq_false_iff_ne]; exact h2
  have e3 : (ty == 3) = false := by rw [beq_eq_false_iff_ne]; exact h3
  have e4 : (ty == 4) = false := by rw [beq_eq_false_iff_ne]; exact h4
  by_cases h5 : ty < 1
  · have HO : Hid (properVl ⟨nm, ty, tx, dt, li⟩ = false) := by unfold Hid properVl; rw [if_neg h1, if_neg h2, if_neg h3, if_neg h4]
    generalize properVl ⟨nm, ty, tx, dt, li⟩ = q at *
    go_enter Tryz.func38, Tryz.ntmps38
    go_wp2_with (go_at_call 63; refine (Calls.toExt (HV.out _)).mono ?_; rintro e _ ⟨rfl, x1, rfl⟩; have hx1 : w.heap.size < x1.1.heap.size := (by have := x1.2.size; simp at this; omega))
    go_ret
    exact ⟨by rw [HO.out]; rfl, by show Bel w _; repeat (first | exact Bel.refl _ | refine Bel.drew ?_ | refine Bel.drewN ?_ _ | refine Bel.alloc ?_ _ | refine Bel.ext ?_ _)⟩
  · have h6 : 4 < ty := by omega
    have HO : Hid (properVl ⟨nm, ty, tx, dt, li⟩ = false) := by unfold Hid properVl; rw [if_neg h1, if_neg h2, if_neg h3, if_neg h4]
    generalize properVl ⟨nm, ty, tx, dt, li⟩ = q at *
    go_enter Tryz.func38, Tryz.ntmps38
    go_wp2_with (go_at_call 63; refine (Calls.toExt (HV.out _)).mono ?_; rintro e _ ⟨rfl, x1, rfl⟩; have hx1 : w.heap.size < x1.1.heap.size := (by have := x1.2.size; simp at this; omega))
    go_ret
    exact ⟨by rw [HO.out]; rfl, by show Bel w _; repeat (first | exact Bel.refl _ | refine Bel.drew ?_ | refine Bel.drewN ?_ _ | refine Bel.alloc ?_ _ | refine Bel.ext ?_ _)⟩
set_option maxRecDepth 20000 in
set_option maxHeartbeats 4000000 in
theorem rvproper_any (x : Nat → Value) (v : Vl) (w : World) (h : ValC w x v) (hs : v.tx.size ≤ 1000) : Calls Tryz.prog 59 #[.agg #[x 0, x 1, x 2, x 3, x 4]] w fun e w' => e = .returned (.bool (properVl v)) ∧ Below w.heap.size w w' := by
  obtain ⟨x0, _, x1, x2, _, x3, ad, c, f, b, off, x4, _, _, _, _, _⟩ := h
  have HV := Lib.hid (fun W => rvalid_any v.tx W hs)
  rw [x0, x1, x2, x3, x4]
  clear x0 x1 x2 x3 x4
  obtain ⟨nm, ty, tx, dt, li⟩ := v
  simp only at HV ⊢
  obtain ⟨m, hm⟩ : ∃ m, li.length = m := ⟨_, rfl⟩
  rw [hm]
  have HM := Lib.hid hm
  clear hm hs
  by_cases h1 : ty = 1
  · subst h1
    by_cases hd0 : dt = 0
    · subst hd0
      by_cases hm0 : m = 0
      · subst hm0
        have HO : Hid (properVl ⟨nm, 1, tx, 0, li⟩ = true) := by unfold Hid properVl; simp [HM.out]
        generalize properVl ⟨nm, 1, tx, 0, li⟩ = q at *
        go_enter Tryz.func59, Tryz.ntmps59
        go_wp2_with (go_at_call 42; refine (Calls.toExt (HV.out _)).mono ?_; rintro e _ ⟨rfl, x1, rfl⟩; have hx1 : w.heap.size < x1.1.heap.size := (by have := x1.2.size; simp at this; omega))
        go_ret
        exact ⟨by rw [HO.out]; rfl, by show Bel w _; repeat (first | exact Bel.refl _ | refine Bel.drew ?_ | refine Bel.drewN ?_ _ | refine Bel.alloc ?_ _ | refine Bel.ext ?_ _)⟩
      · have em : ((m : Int) == 0) = false := by rw [beq_eq_false_iff_ne]; omega
        have HO : Hid (properVl ⟨nm, 1, tx, 0, li⟩ = false) := by unfold Hid properVl; simp [HM.out, hm0]
        generalize properVl ⟨nm, 1, tx, 0, li⟩ = q at *
        go_enter Tryz.func59, Tryz.ntmps59
        go_wp2_with (go_at_call 42; refine (Calls.toExt (HV.out _)).mono ?_; rintro e _ ⟨rfl, x1, rfl⟩; have hx1 : w.heap.size < x1.1.heap.size := (by have := x1.2.size; simp at this; omega))
        go_ret
        exact ⟨by rw [HO.out]; rfl, by show Bel w _; repeat (first | exact Bel.refl _ | refine Bel.drew ?_ | refine Bel.drewN ?_ _ | refine Bel.alloc ?_ _ | refine Bel.ext ?_ _)⟩
    · have ed : (dt == 0) = false := by rw [beq_eq_false_iff_ne]; exact hd0
      have HO : Hid (properVl ⟨nm, 1, tx, dt, li⟩ = false) := by unfold Hid properVl; simp [HM.out, hd0]
      generalize properVl ⟨nm, 1, tx, dt, li⟩ = q at *
      go_enter Tryz.func59, Tryz.ntmps59
      go_wp2_with (go_at_call 42; refine (Calls.toExt (HV.out _)).mono ?_; rintro e _ ⟨rfl, x1, rfl⟩; have hx1 : w.heap.size < x1.1.heap.size := (by have := x1.2.size; simp at this; omega))
      go_ret
      exact ⟨by rw [HO.out]; rfl, by show Bel w _; repeat (first | exact Bel.refl _ | refine Bel.drew ?_ | refine Bel.drewN ?_ _ | refine Bel.alloc ?_ _ | refine Bel.ext ?_ _)⟩
  by_cases h2 : ty = 2
  · subst h2
    cases hk : dOk tx.data.toList with
    | true =>
      rw [Hid, hk] at HV
      replace HV := Lib.hid HV
      by_cases hd0 : dt = 0
      · subst hd0
        by_cases hm0 : m = 0
        · subst hm0
          have HO : Hid (properVl ⟨nm, 2, tx, 0, li⟩ = true) := by unfold Hid properVl; simp [HM.out, hk]
          generalize properVl ⟨nm, 2, tx, 0, li⟩ = q at *
          go_enter Tryz.func59, Tryz.ntmps59
          go_wp2_with (go_at_call 42; refine (Calls.toExt (HV.out _)).mono ?_; rintro e _ ⟨rfl, x1, rfl⟩; have hx1 : w.heap.size < x1.1.heap.size := (by have := x1.2.size; simp at this; omega))
          go_ret
          exact ⟨by rw [HO.out]; rfl, by show Bel w _; repeat (first | exact Bel.refl _ | refine Bel.drew ?_ | refine Bel.drewN ?_ _ | refine Bel.alloc ?_ _ | refine Bel.ext ?_ _)⟩
        · have em : ((m : Int) == 0) = false := by rw [beq_eq_false_iff_ne]; omega
          have HO : Hid (properVl ⟨nm, 2, tx, 0, li⟩ = false) := by unfold Hid properVl; simp [HM.out, hk, hm0]
          generalize properVl ⟨nm, 2, tx, 0, li⟩ = q at *
          go_enter Tryz.func59, Tryz.ntmps59
          go_wp2_with (go_at_call 42; refine (Calls.toExt (HV.out _)).mono ?_; rintro e _ ⟨rfl, x1, rfl⟩; have hx1 : w.heap.size < x1.1.heap.size := (by have := x1.2.size; simp at this; omega))
          go_ret
          exact ⟨by rw [HO.out]; rfl, by show Bel w _; repeat (first | exact Bel.refl _ | refine Bel.drew ?_ | refine Bel.drewN ?_ _ | refine Bel.alloc ?_ _ | refine Bel.ext ?_ _)⟩
      · have ed : (dt == 0) = false := by rw [beq_eq_false_iff_ne]; exact hd0
        have HO : Hid (properVl ⟨nm, 2, tx, dt, li⟩ = false) := by unfold Hid properVl; simp [HM.out, hk, hd0]
        generalize properVl ⟨nm, 2, tx, dt, li⟩ = q at *
        go_enter Tryz.func59, Tryz.ntmps59
        go_wp2_with (go_at_call 42; refine (Calls.toExt (HV.out _)).mono ?_; rintro e _ ⟨rfl, x1, rfl⟩; have hx1 : w.heap.size < x1.1.heap.size := (by have := x1.2.size; simp at this; omega))
        go_ret
        exact ⟨by rw [HO.out]; rfl, by show Bel w _; repeat (first | exact Bel.refl _ | refine Bel.drew ?_ | refine Bel.drewN ?_ _ | refine Bel.alloc ?_ _ | refine Bel.ext ?_ _)⟩
    | false =>
      rw [Hid, hk] at HV
      replace HV := Lib.hid HV
      have HO : Hid (properVl ⟨nm, 2, tx, dt, li⟩ = false) := by unfold Hid properVl; simp [HM.out, hk]
      generalize properVl ⟨nm, 2, tx, dt, li⟩ = q at *
      go_enter Tryz.func59, Tryz.ntmps59
      go_wp2_with (go_at_call 42; refine (Calls.toExt (HV.out _)).mono ?_; rintro e _ ⟨rfl, x1, rfl⟩; have hx1 : w.heap.size < x1.1.heap.size := (by have := x1.2.size; simp at this; omega))
      go_ret
      exact ⟨by rw [HO.out]; rfl, by show Bel w _; repeat (first | exact Bel.refl _ | refine Bel.drew ?_ | refine Bel.drewN ?_ _ | refine Bel.alloc ?_ _ | refine Bel.ext ?_ _)⟩
  by_cases h3 : ty = 3
  · subst h3
    by_cases ht0 : tx.size = 0
    · obtain rfl : tx = (⟨#[]⟩ : ByteArray) := ba_nil ht0
      by_cases hm0 : m = 0
      · subst hm0
        have HO : Hid (properVl ⟨nm, 3, ⟨#[]⟩, dt, li⟩ = true) := by unfold Hid properVl; simp [HM.out] <;> rfl
        generalize properVl ⟨nm, 3, ⟨#[]⟩, dt, li⟩ = q at *
        go_enter Tryz.func59, Tryz.ntmps59
        go_wp2_with (go_at_call 42; refine (Calls.toExt (HV.out _)).mono ?_; rintro e _ ⟨rfl, x1, rfl⟩; have hx1 : w.heap.size < x1.1.heap.size := (by have := x1.2.size; simp at this; omega))
        go_ret
        exact ⟨by rw [HO.out]; rfl, by show Bel w _; repeat (first | exact Bel.refl _ | refine Bel.drew ?_ | refine Bel.drewN ?_ _ | refine Bel.alloc ?_ _ | refine Bel.ext ?_ _)⟩
      · have em : ((m : Int) == 0) = false := by rw [beq_eq_false_iff_ne]; omega
        have HO : Hid (properVl ⟨nm, 3, ⟨#[]⟩, dt, li⟩ = false) := by unfold Hid properVl; simp [HM.out, hm0]
        generalize properVl ⟨nm, 3, ⟨#[]⟩, dt, li⟩ = q at *
        go_enter Tryz.func59, Tryz.ntmps59
        go_wp2_with (go_at_call 42; refine (Calls.toExt (HV.out _)).mono ?_; rintro e _ ⟨rfl, x1, rfl⟩; have hx1 : w.heap.size < x1.1.heap.size := (by have := x1.2.size; simp at this; omega))
        go_ret
        exact ⟨by rw [HO.out]; rfl, by show Bel w _; repeat (first | exact Bel.refl _ | refine Bel.drew ?_ | refine Bel.drewN ?_ _ | refine Bel.alloc ?_ _ | refine Bel.ext ?_ _)⟩
    · have et : (tx.toList == []) = false := by rw [beq_eq_false_iff_ne]; intro e; exact ht0 (by rw [ByteArray.toList_eq] at e; rw [ByteArray.size, ← Array.length_toList, e]; rfl)
      have et2 : (tx.toList == (⟨#[]⟩ : ByteArray).toList) = false := by rw [← et, ByteArray.toList_eq ⟨#[]⟩]
      have HO : Hid (properVl ⟨nm, 3, tx, dt, li⟩ = false) := by unfold Hid properVl; simp [HM.out, ht0]
      generalize properVl ⟨nm, 3, tx, dt, li⟩ = q at *
      go_enter Tryz.func59, Tryz.ntmps59
      go_wp2_with (go_at_call 42; refine (Calls.toExt (HV.out _)).mono ?_; rintro e _ ⟨rfl, x1, rfl⟩; have hx1 : w.heap.size < x1.1.heap.size := (by have := x1.2.size; simp at this; omega))
      go_ret
      exact ⟨by rw [HO.out]; rfl, by show Bel w _; repeat (first | exact Bel.refl _ | refine Bel.drew ?_ | refine Bel.drewN ?_ _ | refine Bel.alloc ?_ _ | refine Bel.ext ?_ _)⟩
  by_cases h4 : ty = 4
  · subst h4
    by_cases ht0 : tx.size = 0
    · obtain rfl : tx = (⟨#[]⟩ : ByteArray) := ba_nil ht0
      by_cases hd0 : dt = 0
      · subst hd0
        have HO : Hid (properVl ⟨nm, 4, ⟨#[]⟩, 0, li⟩ = true) := by unfold Hid properVl; simp <;> rfl
        generalize properVl ⟨nm, 4, ⟨#[]⟩, 0, li⟩ = q at *
        go_enter Tryz.func59, Tryz.ntmps59
        go_wp2_with (go_at_call 42; refine (Calls.toExt (HV.out _)).mono ?_; rintro e _ ⟨rfl, x1, rfl⟩; have hx1 : w.heap.size < x1.1.heap.size := (by have := x1.2.size; simp at this; omega))
        go_ret
        exact ⟨by rw [HO.out]; rfl, by show Bel w _; repeat (first | exact Bel.refl _ | refine Bel.drew ?_ | refine Bel.drewN ?_ _ | refine Bel.alloc ?_ _ | refine Bel.ext ?_ _)⟩
      · have ed : (dt == 0) = false := by rw [beq_eq_false_iff_ne]; exact hd0
        have HO : Hid (properVl ⟨nm, 4, ⟨#[]⟩, dt, li⟩ = false) := by unfold Hid properVl; simp [hd0]
        generalize properVl ⟨nm, 4, ⟨#[]⟩, dt, li⟩ = q at *
        go_enter Tryz.func59, Tryz.ntmps59
        go_wp2_with (go_at_call 42; refine (Calls.toExt (HV.out _)).mono ?_; rintro e _ ⟨rfl, x1, rfl⟩; have hx1 : w.heap.size < x1.1.heap.size := (by have := x1.2.size; simp at this; omega))
        go_ret
        exact ⟨by rw [HO.out]; rfl, by show Bel w _; repeat (first | exact Bel.refl _ | refine Bel.drew ?_ | refine Bel.drewN ?_ _ | refine Bel.alloc ?_ _ | refine Bel.ext ?_ _)⟩
    · have et : (tx.toList == []) = false := by rw [beq_eq_false_iff_ne]; intro e; exact ht0 (by rw [ByteArray.toList_eq] at e; rw [ByteArray.size, ← Array.length_toList, e]; rfl)
      have et2 : (tx.toList == (⟨#[]⟩ : ByteArray).toList) = false := by rw [← et, ByteArray.toList_eq ⟨#[]⟩]
      have HO : Hid (properVl ⟨nm, 4, tx, dt, li⟩ = false) := by unfold Hid properVl; simp [ht0]
      generalize properVl ⟨nm, 4, tx, dt, li⟩ = q at *
      go_enter Tryz.func59, Tryz.ntmps59
      go_wp2_with (go_at_call 42; refine (Calls.toExt (HV.out _)).mono ?_; rintro e _ ⟨rfl, x1, rfl⟩; have hx1 : w.heap.size < x1.1.heap.size := (by have := x1.2.size; simp at this; omega))
      go_ret
      exact ⟨by rw [HO.out]; rfl, by show Bel w _; repeat (first | exact Bel.refl _ | refine Bel.drew ?_ | refine Bel.drewN ?_ _ | refine Bel.alloc ?_ _ | refine Bel.ext ?_ _)⟩
  have e1 : (ty == 1) = false := by rw [beq_eq_false_iff_ne]; exact h1
  have e2 : (ty == 2) = false := by rw [beq_eq_false_iff_ne]; exact h2
  have e3 : (ty == 3) = false := by rw [beq_eq_false_iff_ne]; exact h3
  have e4 : (ty == 4) = false := by rw [beq_eq_false_iff_ne]; exact h4
  by_cases h5 : ty < 1
  · have HO : Hid (properVl ⟨nm, ty, tx, dt, li⟩ = false) := by unfold Hid properVl; rw [if_neg h1, if_neg h2, if_neg h3, if_neg h4]
    generalize properVl ⟨nm, ty, tx, dt, li⟩ = q at *
    go_enter Tryz.func59, Tryz.ntmps59
    go_wp2_with (go_at_call 42; refine (Calls.toExt (HV.out _)).mono ?_; rintro e _ ⟨rfl, x1, rfl⟩; have hx1 : w.heap.size < x1.1.heap.size := (by have := x1.2.size; simp at this; omega))
    go_ret
    exact ⟨by rw [HO.out]; rfl, by show Bel w _; repeat (first | exact Bel.refl _ | refine Bel.drew ?_ | refine Bel.drewN ?_ _ | refine Bel.alloc ?_ _ | refine Bel.ext ?_ _)⟩
  · have h6 : 4 < ty := by omega
    have HO : Hid (properVl ⟨nm, ty, tx, dt, li⟩ = false) := by unfold Hid properVl; rw [if_neg h1, if_neg h2, if_neg h3, if_neg h4]
    generalize properVl ⟨nm, ty, tx, dt, li⟩ = q at *
    go_enter Tryz.func59, Tryz.ntmps59
    go_wp2_with (go_at_call 42; refine (Calls.toExt (HV.out _)).mono ?_; rintro e _ ⟨rfl, x1, rfl⟩; have hx1 : w.heap.size < x1.1.heap.size := (by have := x1.2.size; simp at this; omega))
    go_ret
    exact ⟨by rw [HO.out]; rfl, by show Bel w _; repeat (first | exact Bel.refl _ | refine Bel.drew ?_ | refine Bel.drewN ?_ _ | refine Bel.alloc ?_ _ | refine Bel.ext ?_ _)⟩
end Go.Proofs.YtadhblppeaamlaaGreatDoor
