/- Walks: the reference's layouts: Diff, Same, SameDocument. -/
import Derived.Test.YtpionddponmdmaaGreatDoorQ07
namespace Go.Proofs.YtpionddponmdmaaGreatDoor
open Go.RowKit
attribute [local go_sem] Ext.cell Ext.frozen
attribute [local go_sem ↓] Go.wp_at_zero Go.wp_at_succ

/-- a layout is answered -/
def DiffPost (E : TypeId) (w : World) (ps : List (Int × ByteArray)) (e : Ending) (w' : World) : Prop :=
  ∃ ad c, e = .returned (.tuple #[.slice ad ps.length c, .int .i64 0]) ∧ w'.ownsRow w.heap.size E 2 (.slice ad ps.length c) ps.length (pcCells ps) ∧ Below w.heap.size w w'
/-- two layouts are the same -/
def sameP (ps qs : List (Int × ByteArray)) : Bool := decide (ps = qs)
theorem getD_extP {a b : List (Int × ByteArray)} (hl : a.length = b.length) (h : ∀ i, i < a.length → a.getD i (0, .empty) = b.getD i (0, .empty)) : a = b := by
  apply List.ext_getElem hl
  intro i h1 h2
  have := h i h1
  simpa [List.getD, List.getElem?_eq_getElem h1, List.getElem?_eq_getElem h2] using this
end Go.Proofs.YtpionddponmdmaaGreatDoor
/- Walks: the reference's SameDocument, With, Valid, Apply. -/
namespace Go.Proofs.YtpionddponmdmaaGreatDoor
open Go.RowKit
attribute [local go_sem] Ext.cell Ext.frozen
attribute [local go_sem ↓] Go.wp_at_zero Go.wp_at_succ

/-- a document's box behind three stores -/
theorem doc_set {w : World} {B : Nat} {a b c : Value} {T : TypeId} (hk : w.heap[B]? = some (.cells #[a, b, c] T (0, 0))) (x y z : Value) :
    (((w.setCell ⟨B, 0, none⟩ x).setCell ⟨B, 1, none⟩ y).setCell ⟨B, 2, none⟩ z).cell? ⟨B, 0, none⟩ = some x ∧ (((w.setCell ⟨B, 0, none⟩ x).setCell ⟨B, 1, none⟩ y).setCell ⟨B, 2, none⟩ z).cell? ⟨B, 1, none⟩ = some y ∧
    (((w.setCell ⟨B, 0, none⟩ x).setCell ⟨B, 1, none⟩ y).setCell ⟨B, 2, none⟩ z).cell? ⟨B, 2, none⟩ = some z := by
  have kr := row_set (row_set (row_set hk 0 x) 1 y) 2 z
  exact ⟨(row_cells kr 0).trans rfl, (row_cells kr 1).trans rfl, (row_cells kr 2).trans rfl⟩
theorem below_set3 {base : Nat} {w W : World} {B : Nat} (h : Below base w W) (hB : base ≤ B) (x y z : Value) : Below base w (((W.setCell ⟨B, 0, none⟩ x).setCell ⟨B, 1, none⟩ y).setCell ⟨B, 2, none⟩ z) :=
  ((h.setCell (p := ⟨B, 0, none⟩) hB x).setCell (p := ⟨B, 1, none⟩) hB y).setCell (p := ⟨B, 2, none⟩) hB z
theorem own_set3 {w : World} {base : Nat} {E T : TypeId} {size : Nat} {v : Value} {n : Nat} {xs : List Value} {B : Nat} {cs : Array Value} (hown : w.ownsRow base E size v n xs) (hk : w.heap[B]? = some (.cells cs T (0, 0))) (hTe : T ≠ E) (x y z : Value) :
    (((w.setCell ⟨B, 0, none⟩ x).setCell ⟨B, 1, none⟩ y).setCell ⟨B, 2, none⟩ z).ownsRow base E size v n xs :=
  own_set (own_set (own_set hown hk hTe 0 x) (row_set hk 0 x) hTe 1 y) (row_set (row_set hk 0 x) 1 y) hTe 2 z
/-- a store into a row of the call's own -/
theorem own_store {w : World} {base : Nat} {E : TypeId} {g n c : Nat} {xs : List Value} (h : w.ownsRow base E 1 (.slice (some ⟨g, 0, none⟩) n c) n xs) (i : Nat) (hi : i < n) (v : Value) :
    (w.setCell ⟨g, i, none⟩ v).ownsRow base E 1 (.slice (some ⟨g, 0, none⟩) n c) n (xs.set i v) := by
  refine ⟨by rw [List.length_set]; exact h.1, ?_⟩
  rcases h.2 with ⟨h1, h2⟩ | ⟨g', cap, cur, h1, h2, h3, h4, h5, h6, h7⟩
  · omega
  · injection h1 with e1 e2 e3
    injection e1 with e1
    injection e1 with e1
    subst e1
    subst e3
    refine .inr ⟨g, c, cur.setIfInBounds i v, rfl, h2, row_set h3 i v, h4, h5, by simpa using h6, ?_⟩
    rw [← h7, Nat.mul_one, Array.toList_setIfInBounds, List.take_set]
/-- .. its cells -/
theorem own_cell {w : World} {base : Nat} {E : TypeId} {g n c : Nat} {xs : List Value} (h : w.ownsRow base E 1 (.slice (some ⟨g, 0, none⟩) n c) n xs) (i : Nat) (hi : i < n) : w.cell? ⟨g, i, none⟩ = some (xs.getD i undef) ∧ w.frozen? ⟨g, i, none⟩ = false := by
  obtain ⟨g', e, _, _, _, _, hs, cur, hc, _⟩ := own_parts h (by omega)
  injection e with e
  injection e with e
  subst e
  exact ⟨by have := hs.cell i hi; rwa [Nat.zero_add] at this, row_frozen hc i⟩
theorem own_slat {w : World} {base : Nat} {E : TypeId} {g n c : Nat} {xs : List Value} (h : w.ownsRow base E 1 (.slice (some ⟨g, 0, none⟩) n c) n xs) (hn : 0 < n) : SlAt w (some ⟨g, 0, none⟩) n xs g 0 := by
  obtain ⟨g', e, _, _, _, _, hs, _⟩ := own_parts h hn
  injection e with e
  injection e with e
  subst e
  exact hs
theorem strs_set (l : List ByteArray) (i : Nat) (s : ByteArray) : (strs l).set i (.string s) = strs (l.set i s) := by simp [strs]
/-- two documents are the same -/
def sameD (l m : List ByteArray) : Bool := decide (l = m)
/-- a document and an error are answered -/
def DocErr (w : World) (h : ByteArray) (xs : List ByteArray) (t : ByteArray) (e : Ending) (w' : World) : Prop :=
  ∃ ad c, e = .returned (.tuple #[.agg #[.string h, .slice ad xs.length c, .string t], .int .i64 0]) ∧ w'.ownsRow w.heap.size 9 1 (.slice ad xs.length c) xs.length (strs xs) ∧ (ad = none → c = 0) ∧ Below w.heap.size w w'
end Go.Proofs.YtpionddponmdmaaGreatDoor
