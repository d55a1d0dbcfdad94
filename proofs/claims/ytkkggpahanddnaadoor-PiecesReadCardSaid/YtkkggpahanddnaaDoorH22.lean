/- Walks: awake. -/
import Derived.Test.YtkkggpahanddnaaDoorH21
import Derived.Test.YtkkggpahanddnaaDoorH18
namespace Go.Proofs.YtkkggpahanddnaaDoor
open Go.RowKit
attribute [local go_sem] Ext.cell Ext.frozen
attribute [local go_sem ↓] Go.wp_at_zero Go.wp_at_succ

def awP : List (Int × ByteArray) := [(((2 : Nat) : Int), ⟨#[99]⟩), (((3 : Nat) : Int), ⟨#[10]⟩)]
theorem aw_diff : diffV (allV ⟨#[104]⟩ [⟨#[97]⟩, ⟨#[99]⟩] ⟨#[10]⟩) (allV ⟨#[104]⟩ [⟨#[97]⟩, ⟨#[98]⟩] ⟨#[]⟩) = awP := by decide +kernel
theorem aw_text : textV awP = [50, 32, 34, 99, 34, 32, 51, 32, 34, 92, 110, 34] := by decide +kernel
theorem sl_two {w : World} {B : Nat} {E : TypeId} {s t : ByteArray} (hb : w.heap[B]? = some (.cells #[.string s, .string t] E (0, 0))) : Sl w (some ⟨B, 0, none⟩) 2 (strs [s, t]) :=
  ⟨B, 0, ⟨rfl, by omega, fun _ => rfl, fun i hi => by
    have : i = 0 ∨ i = 1 := by omega
    rcases this with rfl | rfl <;> (rw [Nat.zero_add, row_cells hb]; rfl)⟩⟩
set_option maxRecDepth 20000 in
set_option maxHeartbeats 4000000 in
theorem awake_any (w : World) : Calls Tryd.prog 10 #[] w fun e w' => e = .returned (.bool true) ∧ Below w.heap.size w w' := by
  have HD : Hid (Calls Tryd.prog 12 #[.agg #[.string ⟨#[104]⟩, .slice (some ⟨w.heap.size, 0, none⟩) 2 2, .string ⟨#[10]⟩], .agg #[.string ⟨#[104]⟩, .slice (some ⟨w.heap.size + 1, 0, none⟩) 2 2, .string ⟨#[]⟩]] ((w.alloc (.cells #[.string ⟨#[97]⟩, .string ⟨#[99]⟩] 9)).alloc (.cells #[.string ⟨#[97]⟩, .string ⟨#[98]⟩] 9)) (DiffPost 66 ((w.alloc (.cells #[.string ⟨#[97]⟩, .string ⟨#[99]⟩] 9)).alloc (.cells #[.string ⟨#[97]⟩, .string ⟨#[98]⟩] 9)) awP)) := by
    have := pdiff_yes ⟨#[104]⟩ ⟨#[10]⟩ (some ⟨w.heap.size, 0, none⟩) 2 2 [⟨#[97]⟩, ⟨#[99]⟩] ⟨#[104]⟩ ⟨#[]⟩ (some ⟨w.heap.size + 1, 0, none⟩) 2 [⟨#[97]⟩, ⟨#[98]⟩] ((w.alloc (.cells #[.string ⟨#[97]⟩, .string ⟨#[99]⟩] 9)).alloc (.cells #[.string ⟨#[97]⟩, .string ⟨#[98]⟩] 9))
      (sl_two ((Below.heap_alloc _ _ _ (by simp)).trans (row_new _ _ _))) (sl_two (row_new2 _ _ _ _)) (by omega)
    rw [aw_diff] at this
    exact this
  have HT : Hid (∀ ad c w', Pc w' ad 2 awP → Calls Tryd.prog 31 #[.slice ad 2 c] w' fun e w'' => e = .returned (.string ⟨#[50, 32, 34, 99, 34, 32, 51, 32, 34, 92, 110, 34]⟩) ∧ Below w'.heap.size w' w'') := fun ad c w' hp => by
    have := text_any ad 2 c awP w' hp (by omega) (by unfold awP; intro p hp; simp at hp; rcases hp with rfl | rfl <;> decide)
      (by unfold awP; intro p hp; simp at hp; rcases hp with rfl | rfl; exact ItoaOk.small 2 (by omega) w'; exact ItoaOk.small 3 (by omega) w')
      (by
        unfold awP
        intro p hp
        simp at hp
        rcases hp with rfl | rfl
        · intro c hc; simp at hc; subst hc; exact BslOk.easy (.inl (by decide)) w'
        · intro c hc; simp at hc; subst hc; exact BslOk.easy (.inr (.inl rfl)) w')
    rw [aw_text] at this
    exact this
  go_enter Tryd.func10, Tryd.ntmps10
  go_wp2_with fail
  (with_reducible refine HD.out.mono ?_)
  rintro e w1 ⟨ad, c, rfl, hown, hb⟩
  have HB1 : Hid (Below w.heap.size w w1) := (((Below.refl _ _).alloc (Nat.le_refl _) _).alloc (by simp) _).trans (hb.mono (by simp; omega))
  have HT1 := Lib.hid (HT.out ad c w1 (own_pc hown))
  clear hown hb HT HD
  go_wp2_with fail
  refine HT1.out.mono ?_
  rintro e w2 ⟨rfl, hb2⟩
  have HB2 : Hid (Below w.heap.size w w2) := HB1.out.trans (hb2.mono HB1.out.size)
  clear hb2
  go_wp2_with fail
  go_ret
  exact ⟨rfl, HB2.out⟩
end Go.Proofs.YtkkggpahanddnaaDoor
