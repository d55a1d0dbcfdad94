/- Walks: items of a locale: the rules. -/
import Derived.Test.YtmleeodfmmpdgaaGreatDoorQ24
import Derived.BigRegion
namespace Go.Proofs.YtmleeodfmmpdgaaGreatDoor
open Go.RowKit
attribute [local go_sem] Ext.cell Ext.frozen
attribute [local go_sem ↓] Go.wp_at_zero Go.wp_at_succ
theorem tclasses_own (w : World) : Calls Tryz.prog 151 #[] w fun e w' => ∃ ad c, e = .returned (.slice ad 5 c) ∧ w'.ownsRow w.heap.size 9 1 (.slice ad 5 c) 5 (strs classL) ∧ Below w.heap.size w w' := by
  have HO := Lib.hid (own_literal w 9 1 5 (strs classL).toArray w.heap.size (Nat.le_refl _) (by decide) rfl)
  go_enter Tryz.func151, Tryz.ntmps151
  go_wp2_with fail
  go_ret
  exact ⟨_, _, rfl, HO.out, (Below.refl _ _).alloc (Nat.le_refl _) _⟩
theorem uclasses_any (w : World) : Calls Tryz.prog 163 #[] w fun e w' => ∃ ad n c, e = .returned (.slice ad n c) ∧ Sl w' ad n (strs unitL) ∧ Below w.heap.size w w' := by
  go_enter Tryz.func163, Tryz.ntmps163
  go_wp2_with fail
  refine (tclasses_own w).mono ?_
  rintro _ w1 ⟨ad, c, rfl, hown, hb⟩
  have HB := Lib.hid hb
  have hz := hb.size
  have HO := Lib.hid hown
  clear hown hb
  go_wp2_with (at_builtin; go_must (refine appStrT rfl _ _ rfl w.heap.size _ _ _ _ rfl HO.out _ _ rfl rfl (by unfold maxLen; omega) (by omega) hz ?_); intro ad6 c6 w4 hown4 hb4 hg4 hz4; have HO4 := Lib.hid hown4; have HB4 := Lib.hid hb4; clear hown4 hb4 hg4 hz4)
  go_ret
  exact ⟨_, _, _, rfl, Own.sl HO4.out, HB.out.trans HB4.out⟩
def rowTs : List TypeId := [51, 91, 94, 152, 130, 132, 134, 9]
def remM (b : Nat) (w : World) : Nat := match w.cell? ⟨b, 3, none⟩ with
  | some (.int .i64 0) => lenV ((w.cell? ⟨b, 0, none⟩).getD undef) + 1
  | _ => 0
theorem remM_ok {w : World} {b : Nat} {E : Int} {r : RS} (h : Rd w b E r) (he : r.e = 0) : remM b w = r.l.length + 1 := by
  obtain ⟨_, _, _, _, h1, _⟩ := h
  unfold remM
  rw [h1.cell 0, h1.cell 3]
  simp [he, lenV]
theorem remM_no {w : World} {b : Nat} {E : Int} {r : RS} (h : Rd w b E r) (he : r.e ≠ 0) : remM b w = 0 := by
  obtain ⟨_, _, _, _, h1, _⟩ := h
  unfold remM
  rw [h1.cell 0, h1.cell 3]
  simp only [List.getElem?_cons_zero, List.getElem?_cons_succ]
  split
  · rename_i h
    injection h with h
    injection h with _ h
    exact absurd h he
  · rfl

end Go.Proofs.YtmleeodfmmpdgaaGreatDoor
