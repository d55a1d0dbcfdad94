/- Walks: documents from one package to the other; all pieces of a document. -/
import Derived.Test.YtpionddponmdmaaDoorQ01
import Derived.Test.YtpionddponmdmaaDoorQ02
namespace Go.Proofs.YtpionddponmdmaaDoor
open Go.RowKit
attribute [local go_sem] Ext.cell Ext.frozen
attribute [local go_sem ↓] Go.wp_at_zero Go.wp_at_succ

/-- a document is answered: its items in a row of the call's own -/
def DocPost (w : World) (h : ByteArray) (xs : List ByteArray) (t : ByteArray) (e : Ending) (w' : World) : Prop :=
  ∃ ad c, e = .returned (.agg #[.string h, .slice ad xs.length c, .string t]) ∧ w'.ownsRow w.heap.size 9 1 (.slice ad xs.length c) xs.length (strs xs) ∧ ad ≠ none ∧ Below w.heap.size w w'

/-- a slice of strings is answered, in a row of the call's own -/
def SlPost (w : World) (l : List ByteArray) (e : Ending) (w' : World) : Prop :=
  ∃ ad c, e = .returned (.slice ad l.length c) ∧ w'.ownsRow w.heap.size 9 1 (.slice ad l.length c) l.length (strs l) ∧ Below w.heap.size w w'

theorem all_end {w W w6 : World} {h t : ByteArray} {xs : List ByteArray} {n c6 : Nat} {ad6 : Option Addr} (hB : Below w.heap.size w W) (hB6 : Below W.heap.size W w6) (hz : w.heap.size ≤ W.heap.size) (hl : xs.length = n)
    (ho : w6.ownsRow W.heap.size 9 1 (.slice ad6 (1 + n + 1) c6) (1 + n + 1) ([.string h] ++ strs xs ++ strs [t])) : SlPost w (allV h xs t) (.returned (.slice ad6 (1 + n + 1) c6)) w6 := by
  have e : (allV h xs t).length = 1 + n + 1 := by rw [allV_len]; omega
  refine ⟨ad6, c6, by rw [e], ?_, hB.trans (hB6.mono hz)⟩
  rw [e]
  have e2 : strs (allV h xs t) = [.string h] ++ strs xs ++ strs [t] := by simp [allV, strs]
  rw [e2]
  exact Own.rebase ho hz
end Go.Proofs.YtpionddponmdmaaDoor
/- Walks: a document of pieces (the reference's Of). -/
namespace Go.Proofs.YtpionddponmdmaaDoor
open Go.RowKit
attribute [local go_sem] Ext.cell Ext.frozen
attribute [local go_sem ↓] Go.wp_at_zero Go.wp_at_succ

/-- a row of the call's own that holds something -/
theorem own_parts {w : World} {base : Nat} {E : TypeId} {ad : Option Addr} {n c : Nat} {xs : List Value} (h : w.ownsRow base E 1 (.slice ad n c) n xs) (hn : 0 < n) :
    ∃ g, ad = some ⟨g, 0, none⟩ ∧ base ≤ g ∧ g < w.heap.size ∧ n ≤ c ∧ c ≤ 9223372036854775807 ∧ SlAt w (some ⟨g, 0, none⟩) n xs g 0 ∧ (∃ cur : Array Value, w.heap[g]? = some (.cells cur E (0, 0)) ∧ c = cur.size ∧ cur.toList.take n = xs) := by
  have hl : xs.length = n := by have := h.1; omega
  obtain ⟨_, ⟨h1, h2⟩ | ⟨g, cap, cur, h1, h2, h3, h4, h5, h6, h7⟩⟩ := h
  · omega
  · injection h1 with e1 e2 e3
    subst e1
    subst e3
    have hg : g < w.heap.size := (Array.getElem?_eq_some_iff.1 h3).1
    refine ⟨g, rfl, h2, hg, h4, by unfold maxLen at h5; omega, ⟨hl, by unfold maxLen at h5; omega, fun _ => rfl, fun i hi => ?_⟩, cur, h3, by omega, by simpa using h7⟩
    have hi' : i < cur.size := by omega
    have hx : xs.getD i undef = cur[i] := by
      rw [← h7]
      simp only [List.getD, Nat.mul_one]
      rw [List.getElem?_take, if_pos hi]
      simp [hi']
    rw [hx]
    simp [World.cell?, h3, hi']
theorem slat_mid {w : World} {g k : Nat} {h t : ByteArray} {xs : List ByteArray} (hs : SlAt w (some ⟨g, 0, none⟩) (k + 1) (strs (allV h xs t)) g 0) (hl : xs.length + 1 = k) : Sl w (some ⟨g, 1, none⟩) (k - 1) (strs xs) :=
  ⟨g, 1, ⟨by rw [strs_length]; omega, by have := hs.max; omega, fun _ => rfl, fun i hi => by
    have := hs.cell (i + 1) (by omega)
    rw [strs_getD _ _ (by rw [allV_len]; omega), allV_mid _ _ _ (by omega)] at this
    rw [strs_getD _ _ (by omega), ← this]
    congr 2; omega⟩⟩
end Go.Proofs.YtpionddponmdmaaDoor
