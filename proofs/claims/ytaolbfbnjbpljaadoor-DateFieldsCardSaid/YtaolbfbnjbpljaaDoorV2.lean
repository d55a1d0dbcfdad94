/- Walks: fields of a skeleton, by the program. -/
import Derived.Test.YtaolbfbnjbpljaaDoorK
import Derived.Test.YtaolbfbnjbpljaaDoorR
import Derived.Test.YtaolbfbnjbpljaaDoorP1
import Derived.Test.YtaolbfbnjbpljaaDoorV1
import Derived.Test.YtaolbfbnjbpljaaDoorShelf
import Derived.Deep.DrawnRows
import Derived.WalkLawsBesides
namespace Go.Proofs.YtaolbfbnjbpljaaDoor
open Go.RowKit
attribute [local go_sem] Ext.cell Ext.frozen
attribute [local go_sem ↓] Go.wp_at_zero Go.wp_at_succ

theorem ret_string {a b : ByteArray} (h : a = b) : Ending.returned (.string a) = .returned (.string b) := by rw [h]
theorem wp_at_world {P : Program} {c : Code} {Q : Exit → Act → World → Prop} {a : Act} {w : World} (h : ∀ W, W = w → c.wp P Q a W) : c.wp P Q a w := h w rfl

theorem fld_has (s : ByteArray) : Lib.containsS ((fieldL.map bs).take 7) s = isFld s.data.toList := by
  unfold isFld
  rw [Bool.eq_iff_iff, Lib.containsS_iff, List.contains_iff_mem]
  rw [List.take_of_length_le (by decide), List.mem_map]
  constructor
  · rintro ⟨l, hl, rfl⟩; exact hl
  · intro h; exact ⟨_, h, rfl⟩
theorem field_any (s : ByteArray) (w : World) : Calls Tryd.prog 28 #[.string s] w fun e w' => e = .returned (.bool (isFld s.data.toList)) ∧ Below w.heap.size w w' := by
  have HC := Lib.hid (fun b w h => Tryd.slices_Contains_string b 0 7 7 (fieldL.map bs) s w (by decide) (by decide) h)
  rw [fld_has] at HC
  go_enter Tryd.func28, Tryd.ntmps28
  go_wp2_with fail
  refine (HC.out _ _ ?_).mono ?_
  · intro j hj
    have : j = 0 ∨ j = 1 ∨ j = 2 ∨ j = 3 ∨ j = 4 ∨ j = 5 ∨ j = 6 := by simp [fieldL] at hj; omega
    rcases this with h | h | h | h | h | h | h <;> subst h <;> simp [go_sem, fieldL, bs]
  rintro e _ ⟨rfl, rfl⟩
  go_wp2_with fail
  go_ret
  exact ⟨rfl, (Below.refl _ _).alloc (Nat.le_refl _) _⟩
end Go.Proofs.YtaolbfbnjbpljaaDoor
