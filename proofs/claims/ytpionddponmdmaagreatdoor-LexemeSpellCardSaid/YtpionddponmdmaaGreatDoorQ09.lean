/- Walks: whether a layout is valid, by the reference and by the program. -/
import Derived.Test.YtpionddponmdmaaGreatDoorQ08
import Derived.IntWalk
namespace Go.Proofs.YtpionddponmdmaaGreatDoor
open Go.RowKit
attribute [local go_sem] Ext.cell Ext.frozen
attribute [local go_sem ↓] Go.wp_at_zero Go.wp_at_succ
theorem okAt_lo {ps : List (Int × ByteArray)} {n : Int} {k : Nat} (h : (ps.getD k (0, .empty)).1 < 0) : okAt ps n k = false := by
  unfold okAt; rw [decide_eq_false (by omega)]; rfl
theorem okAt_hi {ps : List (Int × ByteArray)} {n : Int} {k : Nat} (h : n < (ps.getD k (0, .empty)).1 - 1) : okAt ps n k = false := by
  unfold okAt; rw [decide_eq_false (p := (ps.getD k (0, .empty)).1 - 1 ≤ n) (by omega), Bool.and_false]; rfl
theorem okAt_ord {ps : List (Int × ByteArray)} {n : Int} {j : Nat} (h : (ps.getD (j + 1) (0, .empty)).1 ≤ (ps.getD j (0, .empty)).1) : okAt ps n (j + 1) = false := by
  unfold okAt
  rw [decide_eq_false (p := j + 1 = 0) (by omega), Nat.add_sub_cancel, decide_eq_false (p := (ps.getD j (0, .empty)).1 < (ps.getD (j + 1) (0, .empty)).1) (by omega)]
  simp
theorem okAt_first {ps : List (Int × ByteArray)} {n : Int} (h1 : 0 ≤ (ps.getD 0 (0, .empty)).1) (h2 : (ps.getD 0 (0, .empty)).1 - 1 ≤ n) : okAt ps n 0 = true := by
  unfold okAt; rw [decide_eq_true h1, decide_eq_true h2]; rfl
theorem okAt_next {ps : List (Int × ByteArray)} {n : Int} {j : Nat} (h1 : 0 ≤ (ps.getD (j + 1) (0, .empty)).1) (h2 : (ps.getD (j + 1) (0, .empty)).1 - 1 ≤ n) (h3 : (ps.getD j (0, .empty)).1 < (ps.getD (j + 1) (0, .empty)).1) : okAt ps n (j + 1) = true := by
  unfold okAt; rw [decide_eq_true h1, decide_eq_true h2, Nat.add_sub_cancel, decide_eq_true h3]; simp
theorem validV_end {ps : List (Int × ByteArray)} {n : Int} (h : ∀ i, i < ps.length → okAt ps n i = true) : validV ps n = true := by
  unfold validV
  rw [List.all_eq_true]
  exact fun i hi => h i (List.mem_range.1 hi)

end Go.Proofs.YtpionddponmdmaaGreatDoor
/- Walks: the reference's Apply. -/
namespace Go.Proofs.YtpionddponmdmaaGreatDoor
open Go.RowKit
attribute [local go_sem] Ext.cell Ext.frozen
attribute [local go_sem ↓] Go.wp_at_zero Go.wp_at_succ

theorem validV_at {ps : List (Int × ByteArray)} {n : Int} (h : validV ps n = true) {i : Nat} (hi : i < ps.length) : 0 ≤ (ps.getD i (0, .empty)).1 ∧ (ps.getD i (0, .empty)).1 - 1 ≤ n := by
  have := validV_iff.1 h i hi
  exact ⟨this.1, this.2.1⟩
end Go.Proofs.YtpionddponmdmaaGreatDoor
