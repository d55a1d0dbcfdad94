/- Walks over a relation: which moduli are permitted, how great a span may be. -/
import Derived.Test.YtadhblppeaamlaaGreatDoorS4
import Derived.Deep.RegionHeld3
namespace Go.Proofs.YtadhblppeaamlaaGreatDoor
open Go.RowKit
attribute [local go_sem] Ext.cell Ext.frozen
attribute [local go_sem ↓] Go.wp_at_zero Go.wp_at_succ

/-- the world gets a name -/
theorem wp_at_worldT {P : Program} {c : Code} {Q : Exit → Act → World → Prop} {a : Act} {w : World} (h : ∀ W, W = w → c.wp P Q a W) : c.wp P Q a w := h w rfl
theorem great_any (op : Int) (w : World) : Calls Tryz.prog 85 #[.int .i64 op] w fun e w' => e = .returned (.int .i64 (greatV op)) ∧ w = w' := by
  by_cases h3 : op = 3
  · subst h3
    go_enter Tryz.func85, Tryz.ntmps85
    go_wp2_with fail
    go_ret
    exact ⟨rfl, rfl⟩
  · by_cases h4 : op = 4
    · subst h4
      go_enter Tryz.func85, Tryz.ntmps85
      go_wp2_with fail
      go_ret
      exact ⟨rfl, rfl⟩
    · have HO : Hid (greatV op = 100) := by unfold Hid greatV; rw [if_neg (by omega)]
      have e3 : (op == 3) = false := by simpa using h3
      have e4 : (op == 4) = false := by simpa using h4
      clear h3 h4
      go_enter Tryz.func85, Tryz.ntmps85
      go_wp2_with fail
      go_ret
      exact ⟨ret_int HO.out.symm, rfl⟩
theorem bound_any (op : Int) (w : World) : Calls Tryz.prog 88 #[.int .i64 op] w fun e w' => e = .returned (.int .i64 (greatV op)) ∧ w = w' := by
  by_cases h3 : op = 3
  · subst h3
    go_enter Tryz.func88, Tryz.ntmps88
    go_wp2_with fail
    go_ret
    exact ⟨rfl, rfl⟩
  · by_cases h4 : op = 4
    · subst h4
      go_enter Tryz.func88, Tryz.ntmps88
      go_wp2_with fail
      go_ret
      exact ⟨rfl, rfl⟩
    · have HO : Hid (greatV op = 100) := by unfold Hid greatV; rw [if_neg (by omega)]
      have e3 : (op == 3) = false := by simpa using h3
      have e4 : (op == 4) = false := by simpa using h4
      clear h3 h4
      go_enter Tryz.func88, Tryz.ntmps88
      go_wp2_with fail
      go_ret
      exact ⟨ret_int HO.out.symm, rfl⟩
def modsL : List Int := [2, 3, 4, 5, 6, 10, 20, 25, 50, 100]
/-- a block of integers of the call's own, as a slice -/
theorem sl_made (w : World) (l : List Value) (e : TypeId) (hl : l.length ≤ 9223372036854775807) : Sl (w.alloc (.cells l.toArray e)) (some ⟨w.heap.size, 0, none⟩) l.length l :=
  ⟨w.heap.size, 0, rfl, hl, fun _ => rfl, fun i hi => by simp [go_sem, List.getD, List.getElem?_eq_getElem hi]⟩
theorem perm_any (op md : Int) (w : World) : Calls Tryz.prog 84 #[.int .i64 op, .int .i64 md] w fun e w' => e = .returned (.bool (permV op md)) ∧ Below w.heap.size w w' := by
  by_cases h12 : op = 1 ∨ op = 2
  · have HO : Hid (permV op md = modsL.contains md) := by unfold Hid permV; rw [if_pos h12]; rfl
    have HC : Hid (∀ e, Calls Tryz.prog 98 #[.slice (some ⟨w.heap.size, 0, none⟩) 10 10, .int .i64 md] (w.alloc (.cells #[.int .i64 2, .int .i64 3, .int .i64 4, .int .i64 5, .int .i64 6, .int .i64 10, .int .i64 20, .int .i64 25, .int .i64 50, .int .i64 100] e)) fun e' w' => e' = .returned (.bool (modsL.contains md)) ∧ w.alloc (.cells #[.int .i64 2, .int .i64 3, .int .i64 4, .int .i64 5, .int .i64 6, .int .i64 10, .int .i64 20, .int .i64 25, .int .i64 50, .int .i64 100] e) = w') := fun e => contains_int _ 10 10 modsL md _ (sl_made w (ints modsL) e (by decide))
    generalize modsL.contains md = q at *
    rcases h12 with h | h
    all_goals
      subst h
      go_enter Tryz.func84, Tryz.ntmps84
      go_wp2_with (go_at_call 98; refine (HC.out _).mono ?_; rintro e _ ⟨rfl, rfl⟩)
      go_ret
      exact ⟨by rw [HO.out]; rfl, (Below.refl _ _).alloc (Nat.le_refl _) _⟩
  · by_cases h56 : op = 5 ∨ op = 6
    · have HO : Hid (permV op md = (md == 10 || md == 100)) := by
        unfold Hid permV
        rw [if_neg h12, if_pos h56]
        rw [Bool.eq_iff_iff]
        simp
      cases h10 : (md == 10)
      all_goals
        cases h100 : (md == 100)
        all_goals
          rw [Hid, h10, h100] at HO
          have HO := Lib.hid HO
          rcases h56 with h | h
          all_goals
            subst h
            go_enter Tryz.func84, Tryz.ntmps84
            go_wp2_with fail
            go_ret
            exact ⟨by rw [HO.out]; rfl, Below.refl _ _⟩
    · have HO : Hid (permV op md = false) := by unfold Hid permV; rw [if_neg h12, if_neg h56]
      have e1 : (op == 1) = false := by simpa using fun h => h12 (.inl h)
      have e2 : (op == 2) = false := by simpa using fun h => h12 (.inr h)
      have e5 : (op == 5) = false := by simpa using fun h => h56 (.inl h)
      have e6 : (op == 6) = false := by simpa using fun h => h56 (.inr h)
      clear h12 h56
      go_enter Tryz.func84, Tryz.ntmps84
      go_wp2_with fail
      go_ret
      exact ⟨by rw [HO.out]; rfl, Below.refl _ _⟩
end Go.Proofs.YtadhblppeaamlaaGreatDoor
