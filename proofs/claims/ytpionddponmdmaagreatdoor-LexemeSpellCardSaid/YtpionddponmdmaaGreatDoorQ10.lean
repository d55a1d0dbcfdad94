/- Walks: the program's documents: Clone, set, With. -/
import Derived.Test.YtpionddponmdmaaGreatDoorQ09
namespace Go.Proofs.YtpionddponmdmaaGreatDoor
open Go.RowKit
attribute [local go_sem] Ext.cell Ext.frozen
attribute [local go_sem ↓] Go.wp_at_zero Go.wp_at_succ

theorem own_none {w : World} {base : Nat} {E : TypeId} {size : Nat} {ad : Option Addr} {n c : Nat} {xs : List Value} (h : w.ownsRow base E size (.slice ad n c) n xs) : ad = none → c = 0 := by
  intro e
  subst e
  rcases h.2 with ⟨e, _⟩ | ⟨g, cap, cur, e, _⟩
  · exact (Value.slice.inj e).2.2
  · cases (Value.slice.inj e).1
theorem own_some {w : World} {base : Nat} {E : TypeId} {size : Nat} {ad : Option Addr} {n c : Nat} {xs : List Value} (h : w.ownsRow base E size (.slice ad n c) n xs) (ha : ad ≠ none) : ∃ g, ad = some ⟨g, 0, none⟩ ∧ base ≤ g ∧ g < w.heap.size := by
  rcases h.2 with ⟨e, _⟩ | ⟨g, cap, cur, e, h2, h3, _⟩
  · exact absurd (Value.slice.inj e).1 ha
  · exact ⟨g, (Value.slice.inj e).1, h2, (Array.getElem?_eq_some_iff.1 h3).1⟩
end Go.Proofs.YtpionddponmdmaaGreatDoor
/- Walks: the program's With and Apply. -/
namespace Go.Proofs.YtpionddponmdmaaGreatDoor
open Go.RowKit
attribute [local go_sem] Ext.cell Ext.frozen
attribute [local go_sem ↓] Go.wp_at_zero Go.wp_at_succ

end Go.Proofs.YtpionddponmdmaaGreatDoor
