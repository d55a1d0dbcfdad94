/- Walks: the rules of a locale for a kind; whether a value is suitable. -/
import Derived.Test.YtadhblppeaamlaaGreatDoorQ07
import Derived.Test.YtadhblppeaamlaaGreatDoorQ01
import Derived.Deep.RegionHeld3
namespace Go.Proofs.YtadhblppeaamlaaGreatDoor
open Go.RowKit
attribute [local go_sem] Ext.cell Ext.frozen
attribute [local go_sem ↓] Go.wp_at_zero Go.wp_at_succ

/-- the rules for a kind, as a value -/
def valR (x : Nat → Value) (kind : Int) : Value := if kind = 7 then x 3 else if kind = 8 then x 4 else .slice none 0 0
theorem rules_at {x : Nat → Value} {a b : List (ByteArray × List (List Rel))} {w : World} (h : LocC w x a b) (kind : Int) : RulesAt w (valR x kind) (rulesV kind a b) := by
  unfold valR rulesV
  split
  · exact h.1
  · split
    · exact h.2
    · exact RulesAt.nil w
theorem crules_any (x : Nat → Value) (kind : Int) (w : World) : Calls Tryz.prog 26 #[.agg #[x 0, x 1, x 2, x 3, x 4, x 5, x 6, x 7, x 8, x 9, x 10, x 11, x 12, x 13, x 14, x 15], .int .i64 kind] w fun e w' => e = .returned (valR x kind) ∧ Below w.heap.size w w' := by
  by_cases h7 : kind = 7
  · have HO : Hid (valR x kind = x 3) := if_pos h7
    rw [HO.out]
    subst h7
    clear HO
    generalize x 0 = x0 at *
    generalize x 1 = x1 at *
    generalize x 2 = x2 at *
    generalize x 3 = x3 at *
    generalize x 4 = x4 at *
    generalize x 5 = x5 at *
    generalize x 6 = x6 at *
    generalize x 7 = x7 at *
    generalize x 8 = x8 at *
    generalize x 9 = x9 at *
    generalize x 10 = x10 at *
    generalize x 11 = x11 at *
    generalize x 12 = x12 at *
    generalize x 13 = x13 at *
    generalize x 14 = x14 at *
    generalize x 15 = x15 at *
    go_enter Tryz.func26, Tryz.ntmps26
    go_wp2_with fail
    go_ret
    exact ⟨rfl, by show Bel w _; repeat (first | exact Bel.refl _ | refine Bel.drew ?_ | refine Bel.drewN ?_ _ | refine Bel.alloc ?_ _ | refine Bel.ext ?_ _)⟩
  · by_cases h8 : kind = 8
    · have HO : Hid (valR x kind = x 4) := by unfold Hid valR; rw [if_neg h7, if_pos h8]
      rw [HO.out]
      subst h8
      clear HO
      generalize x 0 = x0 at *
      generalize x 1 = x1 at *
      generalize x 2 = x2 at *
      generalize x 3 = x3 at *
      generalize x 4 = x4 at *
      generalize x 5 = x5 at *
      generalize x 6 = x6 at *
      generalize x 7 = x7 at *
      generalize x 8 = x8 at *
      generalize x 9 = x9 at *
      generalize x 10 = x10 at *
      generalize x 11 = x11 at *
      generalize x 12 = x12 at *
      generalize x 13 = x13 at *
      generalize x 14 = x14 at *
      generalize x 15 = x15 at *
      go_enter Tryz.func26, Tryz.ntmps26
      go_wp2_with fail
      go_ret
      exact ⟨rfl, by show Bel w _; repeat (first | exact Bel.refl _ | refine Bel.drew ?_ | refine Bel.drewN ?_ _ | refine Bel.alloc ?_ _ | refine Bel.ext ?_ _)⟩
    · have HO : Hid (valR x kind = .slice none 0 0) := by unfold Hid valR; rw [if_neg h7, if_neg h8]
      rw [HO.out]
      have e7 : (kind == 7) = false := by rw [beq_eq_false_iff_ne]; exact h7
      have e8 : (kind == 8) = false := by rw [beq_eq_false_iff_ne]; exact h8
      clear HO h7 h8
      generalize x 0 = x0 at *
      generalize x 1 = x1 at *
      generalize x 2 = x2 at *
      generalize x 3 = x3 at *
      generalize x 4 = x4 at *
      generalize x 5 = x5 at *
      generalize x 6 = x6 at *
      generalize x 7 = x7 at *
      generalize x 8 = x8 at *
      generalize x 9 = x9 at *
      generalize x 10 = x10 at *
      generalize x 11 = x11 at *
      generalize x 12 = x12 at *
      generalize x 13 = x13 at *
      generalize x 14 = x14 at *
      generalize x 15 = x15 at *
      go_enter Tryz.func26, Tryz.ntmps26
      go_wp2_with fail
      go_ret
      exact ⟨rfl, by show Bel w _; repeat (first | exact Bel.refl _ | refine Bel.drew ?_ | refine Bel.drewN ?_ _ | refine Bel.alloc ?_ _ | refine Bel.ext ?_ _)⟩
theorem rcrules_any (x : Nat → Value) (kind : Int) (w : World) : Calls Tryz.prog 32 #[.agg #[x 0, x 1, x 2, x 3, x 4, x 5, x 6, x 7, x 8, x 9, x 10, x 11, x 12, x 13, x 14, x 15], .int .i64 kind] w fun e w' => e = .returned (valR x kind) ∧ Below w.heap.size w w' := by
  by_cases h7 : kind = 7
  · have HO : Hid (valR x kind = x 3) := if_pos h7
    rw [HO.out]
    subst h7
    clear HO
    generalize x 0 = x0 at *
    generalize x 1 = x1 at *
    generalize x 2 = x2 at *
    generalize x 3 = x3 at *
    generalize x 4 = x4 at *
    generalize x 5 = x5 at *
    generalize x 6 = x6 at *
    generalize x 7 = x7 at *
    generalize x 8 = x8 at *
    generalize x 9 = x9 at *
    generalize x 10 = x10 at *
    generalize x 11 = x11 at *
    generalize x 12 = x12 at *
    generalize x 13 = x13 at *
    generalize x 14 = x14 at *
    generalize x 15 = x15 at *
    go_enter Tryz.func32, Tryz.ntmps32
    go_wp2_with fail
    go_ret
    exact ⟨rfl, by show Bel w _; repeat (first | exact Bel.refl _ | refine Bel.drew ?_ | refine Bel.drewN ?_ _ | refine Bel.alloc ?_ _ | refine Bel.ext ?_ _)⟩
  · by_cases h8 : kind = 8
    · have HO : Hid (valR x kind = x 4) := by unfold Hid valR; rw [if_neg h7, if_pos h8]
      rw [HO.out]
      subst h8
      clear HO
      generalize x 0 = x0 at *
      generalize x 1 = x1 at *
      generalize x 2 = x2 at *
      generalize x 3 = x3 at *
      generalize x 4 = x4 at *
      generalize x 5 = x5 at *
      generalize x 6 = x6 at *
      generalize x 7 = x7 at *
      generalize x 8 = x8 at *
      generalize x 9 = x9 at *
      generalize x 10 = x10 at *
      generalize x 11 = x11 at *
      generalize x 12 = x12 at *
      generalize x 13 = x13 at *
      generalize x 14 = x14 at *
      generalize x 15 = x15 at *
      go_enter Tryz.func32, Tryz.ntmps32
      go_wp2_with fail
      go_ret
      exact ⟨rfl, by show Bel w _; repeat (first | exact Bel.refl _ | refine Bel.drew ?_ | refine Bel.drewN ?_ _ | refine Bel.alloc ?_ _ | refine Bel.ext ?_ _)⟩
    · have HO : Hid (valR x kind = .slice none 0 0) := by unfold Hid valR; rw [if_neg h7, if_neg h8]
      rw [HO.out]
      have e7 : (kind == 7) = false := by rw [beq_eq_false_iff_ne]; exact h7
      have e8 : (kind == 8) = false := by rw [beq_eq_false_iff_ne]; exact h8
      clear HO h7 h8
      generalize x 0 = x0 at *
      generalize x 1 = x1 at *
      generalize x 2 = x2 at *
      generalize x 3 = x3 at *
      generalize x 4 = x4 at *
      generalize x 5 = x5 at *
      generalize x 6 = x6 at *
      generalize x 7 = x7 at *
      generalize x 8 = x8 at *
      generalize x 9 = x9 at *
      generalize x 10 = x10 at *
      generalize x 11 = x11 at *
      generalize x 12 = x12 at *
      generalize x 13 = x13 at *
      generalize x 14 = x14 at *
      generalize x 15 = x15 at *
      go_enter Tryz.func32, Tryz.ntmps32
      go_wp2_with fail
      go_ret
      exact ⟨rfl, by show Bel w _; repeat (first | exact Bel.refl _ | refine Bel.drew ?_ | refine Bel.drewN ?_ _ | refine Bel.alloc ?_ _ | refine Bel.ext ?_ _)⟩
theorem suitable_any (x : Nat → Value) (kind : Int) (v : Vl) (w : World) (h : ValC w x v) (hs : v.tx.size ≤ 1000) : Calls Tryz.prog 27 #[.int .i64 kind, .agg #[x 0, x 1, x 2, x 3, x 4]] w fun e w' => e = .returned (.bool (suitV kind v)) ∧ Below w.heap.size w w' := by
  have HV : Hid (∀ W, Below w.heap.size w W → Calls Tryz.prog 38 #[.agg #[x 0, x 1, x 2, x 3, x 4]] W fun e w' => e = .returned (.bool (properVl v)) ∧ Below W.heap.size W w') := fun W hb => vproper_any x v W (h.below hb) hs
  have x1 := h.2.2.1
  clear h hs
  rw [x1]
  rw [Hid, x1] at HV
  replace HV := Lib.hid HV
  clear x1
  by_cases h9 : kind = 9
  · subst h9
    have HO2 : Hid (suitV 9 v = (properVl v && decide (v.ty = 1))) := rfl
    generalize suitV 9 v = q at *
    cases hp : properVl v with
    | false =>
      have HO : Hid (q = false) := by rw [Hid, HO2.out, hp]; rfl
      rw [Hid, hp] at HV
      replace HV := Lib.hid HV
      clear HO2 hp
      generalize v.ty = ty at *
      generalize x 0 = y0 at *
      generalize x 2 = y2 at *
      generalize x 3 = y3 at *
      generalize x 4 = y4 at *
      go_enter Tryz.func27, Tryz.ntmps27
      go_wp2_with fail
      refine (Calls.toExt (HV.out _ ((Below.refl _ _).alloc (Nat.le_refl _) _))).mono ?_
      rintro e _ ⟨rfl, x1, rfl⟩
      have hx1 : w.heap.size < x1.1.heap.size := by have := x1.2.size; simp at this; omega
      go_wp2_with fail
      go_ret
      exact ⟨by rw [HO.out]; rfl, by show Bel w _; repeat (first | exact Bel.refl _ | refine Bel.drew ?_ | refine Bel.drewN ?_ _ | refine Bel.alloc ?_ _ | refine Bel.ext ?_ _)⟩
    | true =>
      rw [Hid, hp] at HV HO2
      replace HV := Lib.hid HV
      by_cases ht : v.ty = 1
      · have HO : Hid (q = true) := by rw [Hid, HO2, ht]; rfl
        rw [ht]
        rw [Hid, ht] at HV
        replace HV := Lib.hid HV
        clear HO2 hp ht
        generalize x 0 = y0 at *
        generalize x 2 = y2 at *
        generalize x 3 = y3 at *
        generalize x 4 = y4 at *
        go_enter Tryz.func27, Tryz.ntmps27
        go_wp2_with fail
        refine (Calls.toExt (HV.out _ ((Below.refl _ _).alloc (Nat.le_refl _) _))).mono ?_
        rintro e _ ⟨rfl, x1, rfl⟩
        have hx1 : w.heap.size < x1.1.heap.size := by have := x1.2.size; simp at this; omega
        go_wp2_with fail
        go_ret
        exact ⟨by rw [HO.out]; rfl, by show Bel w _; repeat (first | exact Bel.refl _ | refine Bel.drew ?_ | refine Bel.drewN ?_ _ | refine Bel.alloc ?_ _ | refine Bel.ext ?_ _)⟩
      · have HO : Hid (q = false) := by rw [Hid, HO2, decide_eq_false ht]; rfl
        have et : (v.ty == 1) = false := by rw [beq_eq_false_iff_ne]; exact ht
        clear HO2 hp ht
        generalize v.ty = ty at *
        generalize x 0 = y0 at *
        generalize x 2 = y2 at *
        generalize x 3 = y3 at *
        generalize x 4 = y4 at *
        go_enter Tryz.func27, Tryz.ntmps27
        go_wp2_with fail
        refine (Calls.toExt (HV.out _ ((Below.refl _ _).alloc (Nat.le_refl _) _))).mono ?_
        rintro e _ ⟨rfl, x1, rfl⟩
        have hx1 : w.heap.size < x1.1.heap.size := by have := x1.2.size; simp at this; omega
        go_wp2_with fail
        go_ret
        exact ⟨by rw [HO.out]; rfl, by show Bel w _; repeat (first | exact Bel.refl _ | refine Bel.drew ?_ | refine Bel.drewN ?_ _ | refine Bel.alloc ?_ _ | refine Bel.ext ?_ _)⟩
  · have e9 : (kind == 9) = false := by rw [beq_eq_false_iff_ne]; exact h9
    have HO2 : Hid (suitV kind v = (properVl v && decide (v.ty = 2))) := by unfold Hid suitV; rw [if_neg h9]
    generalize suitV kind v = q at *
    cases hp : properVl v with
    | false =>
      have HO : Hid (q = false) := by rw [Hid, HO2.out, hp]; rfl
      rw [Hid, hp] at HV
      replace HV := Lib.hid HV
      clear HO2 hp
      generalize v.ty = ty at *
      generalize x 0 = y0 at *
      generalize x 2 = y2 at *
      generalize x 3 = y3 at *
      generalize x 4 = y4 at *
      go_enter Tryz.func27, Tryz.ntmps27
      go_wp2_with fail
      refine (Calls.toExt (HV.out _ ((Below.refl _ _).alloc (Nat.le_refl _) _))).mono ?_
      rintro e _ ⟨rfl, x1, rfl⟩
      have hx1 : w.heap.size < x1.1.heap.size := by have := x1.2.size; simp at this; omega
      go_wp2_with fail
      go_ret
      exact ⟨by rw [HO.out]; rfl, by show Bel w _; repeat (first | exact Bel.refl _ | refine Bel.drew ?_ | refine Bel.drewN ?_ _ | refine Bel.alloc ?_ _ | refine Bel.ext ?_ _)⟩
    | true =>
      rw [Hid, hp] at HV HO2
      replace HV := Lib.hid HV
      by_cases ht : v.ty = 2
      · have HO : Hid (q = true) := by rw [Hid, HO2, ht]; rfl
        rw [ht]
        rw [Hid, ht] at HV
        replace HV := Lib.hid HV
        clear HO2 hp ht
        generalize x 0 = y0 at *
        generalize x 2 = y2 at *
        generalize x 3 = y3 at *
        generalize x 4 = y4 at *
        go_enter Tryz.func27, Tryz.ntmps27
        go_wp2_with fail
        refine (Calls.toExt (HV.out _ ((Below.refl _ _).alloc (Nat.le_refl _) _))).mono ?_
        rintro e _ ⟨rfl, x1, rfl⟩
        have hx1 : w.heap.size < x1.1.heap.size := by have := x1.2.size; simp at this; omega
        go_wp2_with fail
        go_ret
        exact ⟨by rw [HO.out]; rfl, by show Bel w _; repeat (first | exact Bel.refl _ | refine Bel.drew ?_ | refine Bel.drewN ?_ _ | refine Bel.alloc ?_ _ | refine Bel.ext ?_ _)⟩
      · have HO : Hid (q = false) := by rw [Hid, HO2, decide_eq_false ht]; rfl
        have et : (v.ty == 2) = false := by rw [beq_eq_false_iff_ne]; exact ht
        clear HO2 hp ht
        generalize v.ty = ty at *
        generalize x 0 = y0 at *
        generalize x 2 = y2 at *
        generalize x 3 = y3 at *
        generalize x 4 = y4 at *
        go_enter Tryz.func27, Tryz.ntmps27
        go_wp2_with fail
        refine (Calls.toExt (HV.out _ ((Below.refl _ _).alloc (Nat.le_refl _) _))).mono ?_
        rintro e _ ⟨rfl, x1, rfl⟩
        have hx1 : w.heap.size < x1.1.heap.size := by have := x1.2.size; simp at this; omega
        go_wp2_with fail
        go_ret
        exact ⟨by rw [HO.out]; rfl, by show Bel w _; repeat (first | exact Bel.refl _ | refine Bel.drew ?_ | refine Bel.drewN ?_ _ | refine Bel.alloc ?_ _ | refine Bel.ext ?_ _)⟩
theorem rsuitable_any (x : Nat → Value) (kind : Int) (v : Vl) (w : World) (h : ValC w x v) (hs : v.tx.size ≤ 1000) : Calls Tryz.prog 33 #[.int .i64 kind, .agg #[x 0, x 1, x 2, x 3, x 4]] w fun e w' => e = .returned (.bool (suitV kind v)) ∧ Below w.heap.size w w' := by
  have HV : Hid (∀ W, Below w.heap.size w W → Calls Tryz.prog 59 #[.agg #[x 0, x 1, x 2, x 3, x 4]] W fun e w' => e = .returned (.bool (properVl v)) ∧ Below W.heap.size W w') := fun W hb => rvproper_any x v W (h.below hb) hs
  have x1 := h.2.2.1
  clear h hs
  rw [x1]
  rw [Hid, x1] at HV
  replace HV := Lib.hid HV
  clear x1
  by_cases h9 : kind = 9
  · subst h9
    have HO2 : Hid (suitV 9 v = (properVl v && decide (v.ty = 1))) := rfl
    generalize suitV 9 v = q at *
    cases hp : properVl v with
    | false =>
      have HO : Hid (q = false) := by rw [Hid, HO2.out, hp]; rfl
      rw [Hid, hp] at HV
      replace HV := Lib.hid HV
      clear HO2 hp
      generalize v.ty = ty at *
      generalize x 0 = y0 at *
      generalize x 2 = y2 at *
      generalize x 3 = y3 at *
      generalize x 4 = y4 at *
      go_enter Tryz.func33, Tryz.ntmps33
      go_wp2_with fail
      refine (Calls.toExt (HV.out _ ((Below.refl _ _).alloc (Nat.le_refl _) _))).mono ?_
      rintro e _ ⟨rfl, x1, rfl⟩
      have hx1 : w.heap.size < x1.1.heap.size := by have := x1.2.size; simp at this; omega
      go_wp2_with fail
      go_ret
      exact ⟨by rw [HO.out]; rfl, by show Bel w _; repeat (first | exact Bel.refl _ | refine Bel.drew ?_ | refine Bel.drewN ?_ _ | refine Bel.alloc ?_ _ | refine Bel.ext ?_ _)⟩
    | true =>
      rw [Hid, hp] at HV HO2
      replace HV := Lib.hid HV
      by_cases ht : v.ty = 1
      · have HO : Hid (q = true) := by rw [Hid, HO2, ht]; rfl
        rw [ht]
        rw [Hid, ht] at HV
        replace HV := Lib.hid HV
        clear HO2 hp ht
        generalize x 0 = y0 at *
        generalize x 2 = y2 at *
        generalize x 3 = y3 at *
        generalize x 4 = y4 at *
        go_enter Tryz.func33, Tryz.ntmps33
        go_wp2_with fail
        refine (Calls.toExt (HV.out _ ((Below.refl _ _).alloc (Nat.le_refl _) _))).mono ?_
        rintro e _ ⟨rfl, x1, rfl⟩
        have hx1 : w.heap.size < x1.1.heap.size := by have := x1.2.size; simp at this; omega
        go_wp2_with fail
        go_ret
        exact ⟨by rw [HO.out]; rfl, by show Bel w _; repeat (first | exact Bel.refl _ | refine Bel.drew ?_ | refine Bel.drewN ?_ _ | refine Bel.alloc ?_ _ | refine Bel.ext ?_ _)⟩
      · have HO : Hid (q = false) := by rw [Hid, HO2, decide_eq_false ht]; rfl
        have et : (v.ty == 1) = false := by rw [beq_eq_false_iff_ne]; exact ht
        clear HO2 hp ht
        generalize v.ty = ty at *
        generalize x 0 = y0 at *
        generalize x 2 = y2 at *
        generalize x 3 = y3 at *
        generalize x 4 = y4 at *
        go_enter Tryz.func33, Tryz.ntmps33
        go_wp2_with fail
        refine (Calls.toExt (HV.out _ ((Below.refl _ _).alloc (Nat.le_refl _) _))).mono ?_
        rintro e _ ⟨rfl, x1, rfl⟩
        have hx1 : w.heap.size < x1.1.heap.size := by have := x1.2.size; simp at this; omega
        go_wp2_with fail
        go_ret
        exact ⟨by rw [HO.out]; rfl, by show Bel w _; repeat (first | exact Bel.refl _ | refine Bel.drew ?_ | refine Bel.drewN ?_ _ | refine Bel.alloc ?_ _ | refine Bel.ext ?_ _)⟩
  · have e9 : (kind == 9) = false := by rw [beq_eq_false_iff_ne]; exact h9
    have HO2 : Hid (suitV kind v = (properVl v && decide (v.ty = 2))) := by unfold Hid suitV; rw [if_neg h9]
    generalize suitV kind v = q at *
    cases hp : properVl v with
    | false =>
      have HO : Hid (q = false) := by rw [Hid, HO2.out, hp]; rfl
      rw [Hid, hp] at HV
      replace HV := Lib.hid HV
      clear HO2 hp
      generalize v.ty = ty at *
      generalize x 0 = y0 at *
      generalize x 2 = y2 at *
      generalize x 3 = y3 at *
      generalize x 4 = y4 at *
      go_enter Tryz.func33, Tryz.ntmps33
      go_wp2_with fail
      refine (Calls.toExt (HV.out _ ((Below.refl _ _).alloc (Nat.le_refl _) _))).mono ?_
      rintro e _ ⟨rfl, x1, rfl⟩
      have hx1 : w.heap.size < x1.1.heap.size := by have := x1.2.size; simp at this; omega
      go_wp2_with fail
      go_ret
      exact ⟨by rw [HO.out]; rfl, by show Bel w _; repeat (first | exact Bel.refl _ | refine Bel.drew ?_ | refine Bel.drewN ?_ _ | refine Bel.alloc ?_ _ | refine Bel.ext ?_ _)⟩
    | true =>
      rw [Hid, hp] at HV HO2
      replace HV := Lib.hid HV
      by_cases ht : v.ty = 2
      · have HO : Hid (q = true) := by rw [Hid, HO2, ht]; rfl
        rw [ht]
        rw [Hid, ht] at HV
        replace HV := Lib.hid HV
        clear HO2 hp ht
        generalize x 0 = y0 at *
        generalize x 2 = y2 at *
        generalize x 3 = y3 at *
        generalize x 4 = y4 at *
        go_enter Tryz.func33, Tryz.ntmps33
        go_wp2_with fail
        refine (Calls.toExt (HV.out _ ((Below.refl _ _).alloc (Nat.le_refl _) _))).mono ?_
        rintro e _ ⟨rfl, x1, rfl⟩
        have hx1 : w.heap.size < x1.1.heap.size := by have := x1.2.size; simp at this; omega
        go_wp2_with fail
        go_ret
        exact ⟨by rw [HO.out]; rfl, by show Bel w _; repeat (first | exact Bel.refl _ | refine Bel.drew ?_ | refine Bel.drewN ?_ _ | refine Bel.alloc ?_ _ | refine Bel.ext ?_ _)⟩
      · have HO : Hid (q = false) := by rw [Hid, HO2, decide_eq_false ht]; rfl
        have et : (v.ty == 2) = false := by rw [beq_eq_false_iff_ne]; exact ht
        clear HO2 hp ht
        generalize v.ty = ty at *
        generalize x 0 = y0 at *
        generalize x 2 = y2 at *
        generalize x 3 = y3 at *
        generalize x 4 = y4 at *
        go_enter Tryz.func33, Tryz.ntmps33
        go_wp2_with fail
        refine (Calls.toExt (HV.out _ ((Below.refl _ _).alloc (Nat.le_refl _) _))).mono ?_
        rintro e _ ⟨rfl, x1, rfl⟩
        have hx1 : w.heap.size < x1.1.heap.size := by have := x1.2.size; simp at this; omega
        go_wp2_with fail
        go_ret
        exact ⟨by rw [HO.out]; rfl, by show Bel w _; repeat (first | exact Bel.refl _ | refine Bel.drew ?_ | refine Bel.drewN ?_ _ | refine Bel.alloc ?_ _ | refine Bel.ext ?_ _)⟩
theorem selection_any (kind : Int) (w : World) : Calls Tryz.prog 24 #[.int .i64 kind] w fun e w' => e = .returned (.bool (decide (7 ≤ kind ∧ kind ≤ 9))) ∧ w = w' := by
  by_cases h1 : 7 ≤ kind
  · by_cases h2 : kind ≤ 9
    · have HO : Hid (decide (7 ≤ kind ∧ kind ≤ 9) = true) := decide_eq_true ⟨h1, h2⟩
      rw [HO.out]
      go_enter Tryz.func24, Tryz.ntmps24
      go_wp2_with fail
      go_ret
      exact ⟨rfl, rfl⟩
    · have HO : Hid (decide (7 ≤ kind ∧ kind ≤ 9) = false) := decide_eq_false fun h => h2 h.2
      rw [HO.out]
      go_enter Tryz.func24, Tryz.ntmps24
      go_wp2_with fail
      go_ret
      exact ⟨rfl, rfl⟩
  · have HO : Hid (decide (7 ≤ kind ∧ kind ≤ 9) = false) := decide_eq_false fun h => h1 h.1
    rw [HO.out]
    go_enter Tryz.func24, Tryz.ntmps24
    go_wp2_with fail
    go_ret
    exact ⟨rfl, rfl⟩
theorem rselection_any (kind : Int) (w : World) : Calls Tryz.prog 30 #[.int .i64 kind] w fun e w' => e = .returned (.bool (decide (7 ≤ kind ∧ kind ≤ 9))) ∧ w = w' := by
  by_cases h7 : kind = 7
  · subst h7
    go_enter Tryz.func30, Tryz.ntmps30
    go_wp2_with fail
    go_ret
    exact ⟨by rfl, rfl⟩
  by_cases h8 : kind = 8
  · subst h8
    go_enter Tryz.func30, Tryz.ntmps30
    go_wp2_with fail
    go_ret
    exact ⟨by rfl, rfl⟩
  by_cases h9 : kind = 9
  · subst h9
    go_enter Tryz.func30, Tryz.ntmps30
    go_wp2_with fail
    go_ret
    exact ⟨by rfl, rfl⟩
  have e7 : (kind == 7) = false := by rw [beq_eq_false_iff_ne]; exact h7
  have e8 : (kind == 8) = false := by rw [beq_eq_false_iff_ne]; exact h8
  have e9 : (kind == 9) = false := by rw [beq_eq_false_iff_ne]; exact h9
  have HO : Hid (decide (7 ≤ kind ∧ kind ≤ 9) = false) := decide_eq_false (by omega)
  rw [HO.out]
  clear HO h7 h8 h9
  go_enter Tryz.func30, Tryz.ntmps30
  go_wp2_with fail
  go_ret
  exact ⟨rfl, rfl⟩
theorem rcounted_any (kind : Int) (w : World) : Calls Tryz.prog 41 #[.int .i64 kind] w fun e w' => e = .returned (.bool (decide (kind = 7 ∨ kind = 8))) ∧ w = w' := by
  by_cases h7 : kind = 7
  · subst h7
    go_enter Tryz.func41, Tryz.ntmps41
    go_wp2_with fail
    go_ret
    exact ⟨by rfl, rfl⟩
  by_cases h8 : kind = 8
  · subst h8
    go_enter Tryz.func41, Tryz.ntmps41
    go_wp2_with fail
    go_ret
    exact ⟨by rfl, rfl⟩
  have e7 : (kind == 7) = false := by rw [beq_eq_false_iff_ne]; exact h7
  have e8 : (kind == 8) = false := by rw [beq_eq_false_iff_ne]; exact h8
  have HO : Hid (decide (kind = 7 ∨ kind = 8) = false) := decide_eq_false (by omega)
  rw [HO.out]
  clear HO h7 h8
  go_enter Tryz.func41, Tryz.ntmps41
  go_wp2_with fail
  go_ret
  exact ⟨rfl, rfl⟩
end Go.Proofs.YtadhblppeaamlaaGreatDoor
/- Walks over a relation: which moduli are permitted, how great a span may be. -/
namespace Go.Proofs.YtadhblppeaamlaaGreatDoor
open Go.RowKit
attribute [local go_sem] Ext.cell Ext.frozen
attribute [local go_sem ↓] Go.wp_at_zero Go.wp_at_succ

/-- the world gets a name -/
theorem wp_at_worldT {P : Program} {c : Code} {Q : Exit → Act → World → Prop} {a : Act} {w : World} (h : ∀ W, W = w → c.wp P Q a W) : c.wp P Q a w := h w rfl
theorem great_any (op : Int) (w : World) : Calls Tryz.prog 85 #[.int .i64 op] w fun e w' => e = .returned (.int .i64 (greatV op)) ∧ w = w' := by
  by_cases h3 : op = 3
  · subst h3
    go_enter Tryz.func85, Tryz.ntmps85
    go_wp2_with fail
    go_ret
    exact ⟨rfl, rfl⟩
  · by_cases h4 : op = 4
    · subst h4
      go_enter Tryz.func85, Tryz.ntmps85
      go_wp2_with fail
      go_ret
      exact ⟨rfl, rfl⟩
    · have HO : Hid (greatV op = 100) := by unfold Hid greatV; rw [if_neg (by omega)]
      have e3 : (op == 3) = false := by simpa using h3
      have e4 : (op == 4) = false := by simpa using h4
      clear h3 h4
      go_enter Tryz.func85, Tryz.ntmps85
      go_wp2_with fail
      go_ret
      exact ⟨ret_int HO.out.symm, rfl⟩
theorem bound_any (op : Int) (w : World) : Calls Tryz.prog 88 #[.int .i64 op] w fun e w' => e = .returned (.int .i64 (greatV op)) ∧ w = w' := by
  by_cases h3 : op = 3
  · subst h3
    go_enter Tryz.func88, Tryz.ntmps88
    go_wp2_with fail
    go_ret
    exact ⟨rfl, rfl⟩
  · by_cases h4 : op = 4
    · subst h4
      go_enter Tryz.func88, Tryz.ntmps88
      go_wp2_with fail
      go_ret
      exact ⟨rfl, rfl⟩
    · have HO : Hid (greatV op = 100) := by unfold Hid greatV; rw [if_neg (by omega)]
      have e3 : (op == 3) = false := by simpa using h3
      have e4 : (op == 4) = false := by simpa using h4
      clear h3 h4
      go_enter Tryz.func88, Tryz.ntmps88
      go_wp2_with fail
      go_ret
      exact ⟨ret_int HO.out.symm, rfl⟩
def modsL : List Int := [2, 3, 4, 5, 6, 10, 20, 25, 50, 100]
/-- a block of integers of the call's own, as a slice -/
theorem sl_made (w : World) (l : List Value) (e : TypeId) (hl : l.length ≤ 9223372036854775807) : Sl (w.alloc (.cells l.toArray e)) (some ⟨w.heap.size, 0, none⟩) l.length l :=
  ⟨w.heap.size, 0, rfl, hl, fun _ => rfl, fun i hi => by simp [go_sem, List.getD, List.getElem?_eq_getElem hi]⟩
theorem perm_any (op md : Int) (w : World) : Calls Tryz.prog 84 #[.int .i64 op, .int .i64 md] w fun e w' => e = .returned (.bool (permV op md)) ∧ Below w.heap.size w w' := by
  by_cases h12 : op = 1 ∨ op = 2
  · have HO : Hid (permV op md = modsL.contains md) := by unfold Hid permV; rw [if_pos h12]; rfl
    have HC : Hid (∀ e, Calls Tryz.prog 98 #[.slice (some ⟨w.heap.size, 0, none⟩) 10 10, .int .i64 md] (w.alloc (.cells #[.int .i64 2, .int .i64 3, .int .i64 4, .int .i64 5, .int .i64 6, .int .i64 10, .int .i64 20, .int .i64 25, .int .i64 50, .int .i64 100] e)) fun e' w' => e' = .returned (.bool (modsL.contains md)) ∧ w.alloc (.cells #[.int .i64 2, .int .i64 3, .int .i64 4, .int .i64 5, .int .i64 6, .int .i64 10, .int .i64 20, .int .i64 25, .int .i64 50, .int .i64 100] e) = w') := fun e => contains_int _ 10 10 modsL md _ (sl_made w (ints modsL) e (by decide))
    generalize modsL.contains md = q at *
    rcases h12 with h | h
    all_goals
      subst h
      go_enter Tryz.func84, Tryz.ntmps84
      go_wp2_with (go_at_call 98; refine (HC.out _).mono ?_; rintro e _ ⟨rfl, rfl⟩)
      go_ret
      exact ⟨by rw [HO.out]; rfl, (Below.refl _ _).alloc (Nat.le_refl _) _⟩
  · by_cases h56 : op = 5 ∨ op = 6
    · have HO : Hid (permV op md = (md == 10 || md == 100)) := by
        unfold Hid permV
        rw [if_neg h12, if_pos h56]
        rw [Bool.eq_iff_iff]
        simp
      cases h10 : (md == 10)
      all_goals
        cases h100 : (md == 100)
        all_goals
          rw [Hid, h10, h100] at HO
          have HO := Lib.hid HO
          rcases h56 with h | h
          all_goals
            subst h
            go_enter Tryz.func84, Tryz.ntmps84
            go_wp2_with fail
            go_ret
            exact ⟨by rw [HO.out]; rfl, Below.refl _ _⟩
    · have HO : Hid (permV op md = false) := by unfold Hid permV; rw [if_neg h12, if_neg h56]
      have e1 : (op == 1) = false := by simpa using fun h => h12 (.inl h)
      have e2 : (op == 2) = false := by simpa using fun h => h12 (.inr h)
      have e5 : (op == 5) = false := by simpa using fun h => h56 (.inl h)
      have e6 : (op == 6) = false := by simpa using fun h => h56 (.inr h)
      clear h12 h56
      go_enter Tryz.func84, Tryz.ntmps84
      go_wp2_with fail
      go_ret
      exact ⟨by rw [HO.out]; rfl, Below.refl _ _⟩
end Go.Proofs.YtadhblppeaamlaaGreatDoor
