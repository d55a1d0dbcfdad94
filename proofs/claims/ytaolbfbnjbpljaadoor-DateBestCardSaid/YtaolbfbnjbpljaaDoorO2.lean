/- How an argument that is a slice of date patterns is read. -/
import Derived.Test.YtaolbfbnjbpljaaDoorO
import Derived.Test.YtaolbfbnjbpljaaDoorV11
import Derived.Deep.SlicePairs
namespace Go.Proofs.YtaolbfbnjbpljaaDoor
open Go.ChangeShapes Go.WideShapes Go.ChangeAt Go.RowKit Go.Joins
theorem addr_of_cell {W : World} {a : Addr} {v : Value} (h : W.cell? (a.add (0 * 2)) = some v) : a = ⟨a.block, a.off, none⟩ := by
  have hs : a.spot = none := by simpa [Addr.add] using World.cell?_spot h
  cases a
  simp at hs
  simp [hs]
section
variable {H : Type} {enc : TypeId × Value → H} {w : World} {base : Nat} {spare : Nat → Bool} {held : Bool}
theorem PatAt.nil (w : World) : PatAt w none 0 [] 0 0 := ⟨rfl, Nat.zero_le _, fun h => absurd rfl h, fun _i hi => absurd hi (Nat.not_lt_zero _), fun _i hi => absurd hi (Nat.not_lt_zero _)⟩
/-- a slice of date patterns -/
theorem open_pats {fuel : Nat} {v : Value} {x : DataW H × List MemPlace} (h : DataW.trod enc Tryd.prog w base spare held fuel 35 [v] = some x) :
    ∃ ad n c ps b off, v = .slice ad n c ∧ PatAt w ad n ps b off ∧ (ad = none → c = 0) := by
  rcases Go.Deep.open_slice_pairs Tryd.underlying35 Tryd.underlying39 cellsPat rfl rfl (by kernel_rfl) (by kernel_rfl) h with ⟨hcs, _⟩ | ⟨a, len, cap, m, n, V0, V1, D0, D1, P0, P1, hcs, _, hl, hm, hmm, _, hf⟩
  · simp at hcs
    subst hcs
    exact ⟨none, 0, 0, [], 0, 0, rfl, PatAt.nil _, fun _ => rfl⟩
  · simp at hcs
    subst hcs
    have hlm : len ≤ m := by rw [hmm]; split <;> omega
    have hstr : ∀ i, i < len → ∃ p : List UInt8 × List UInt8, V0 i = .string (bs p.1) ∧ V1 i = .string (bs p.2) := fun i hi => by
      obtain ⟨_, _, g0, g1⟩ := hf i (by omega)
      obtain ⟨s0, e0, _, _⟩ := DataW.trod_string Tryd.underlying9 g0
      obtain ⟨s1, e1, _, _⟩ := DataW.trod_string Tryd.underlying9 g1
      exact ⟨(s0.data.toList, s1.data.toList), by have h := e0; injection h, by have h := e1; injection h⟩
    obtain ⟨q, hq⟩ := Go.Deep.choose_lt hstr
    have hgd : ∀ i, i < len → ((List.range len).map q).getD i ([], []) = q i := fun i hi => by simp [List.getD, hi]
    by_cases h0 : len = 0
    · subst h0
      exact ⟨some a, 0, cap, [], 0, 0, rfl, ⟨rfl, Nat.zero_le _, fun h => absurd rfl h, fun i hi => absurd hi (Nat.not_lt_zero _), fun i hi => absurd hi (Nat.not_lt_zero _)⟩, fun h => by cases h⟩
    · have ha := addr_of_cell (hf 0 (by omega)).1
      have had : ∀ j, a.add j = ⟨a.block, a.off + j, none⟩ := fun j => by
        conv => lhs; rw [ha]
        unfold Addr.add
        split
        · rename_i h; subst h; rfl
        · rfl
      refine ⟨some a, len, cap, (List.range len).map q, a.block, a.off, rfl, ⟨by simp, by unfold maxLen at hm; omega, fun _ => by rw [← ha], fun i hi => ?_, fun i hi => ?_⟩, fun h => by cases h⟩
      · rw [hgd i hi, ← (hq i hi).1, ← (hf i (by omega)).1, had]
      · rw [hgd i hi, ← (hq i hi).2, ← (hf i (by omega)).2.1, had]; rfl
end
end Go.Proofs.YtaolbfbnjbpljaaDoor
