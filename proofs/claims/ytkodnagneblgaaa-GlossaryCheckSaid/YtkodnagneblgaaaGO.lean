/- How the arguments of the laws are read. -/
import Derived.Test.YtkodnagneblgaaaG5
import Derived.ProofKit
import Derived.OpenShut
import Derived.ShutString
import Derived.ChangeOld
import Derived.SliceStrings
import Derived.Lib.SmallJoins
namespace Go.Proofs.Ytkodnagneblgaaa
open Go.ChangeShapes Go.WideShapes Go.ChangeAt Go.RowKit Go.Joins
open Go.ChangeMaps (open_string shut_string)
theorem own : ownKnob Try.prog.godebug = none := by kernel_rfl
theorem laidOut : laidOutB Try.prog = true := by kernel_rfl
theorem Sl.nil (w : World) : Sl w none 0 [] := ⟨0, 0, rfl, by omega, fun h => absurd rfl h, fun i hi => absurd hi (Nat.not_lt_zero _)⟩
section
variable {H : Type} {enc : TypeId × Value → H} {w : World} {base : Nat} {spare : Nat → Bool} {held : Bool}

theorem addr_of_cell {W : World} {a : Addr} {v : Value} (h : W.cell? (a.add 0) = some v) : a = ⟨a.block, a.off, none⟩ := by
  have hs : a.spot = none := by simpa [Addr.add] using World.cell?_spot h
  cases a
  simp at hs
  simp [hs]

theorem sl_of_row {W : World} {a : Addr} {len : Nat} {xs : List Value} (hl : xs.length = len) (hm : len ≤ maxLen) (hc : ∀ i, i < len → W.cell? (a.add i) = some (xs.getD i undef)) : Sl W (some a) len xs := by
  by_cases h0 : len = 0
  · subst h0
    exact ⟨0, 0, hl, by omega, fun h => absurd rfl h, fun i hi => absurd hi (Nat.not_lt_zero _)⟩
  · have ha := addr_of_cell (hc 0 (by omega))
    refine ⟨a.block, a.off, hl, by unfold maxLen at hm; omega, fun _ => by rw [← ha], fun i hi => ?_⟩
    have := hc i hi
    rw [ha] at this
    rw [← this]
    unfold Addr.add
    split
    · rename_i h; subst h; rfl
    · rfl

/-- a slice of strings -/
theorem open_str_sl {fuel : Nat} {v : Value} {x : DataW H × List MemPlace} (h : DataW.trod enc Try.prog w base spare held fuel 39 [v] = some x) :
    ∃ ad n c ss, v = .slice ad n c ∧ Sl w ad n (strs ss) ∧ ∀ s ∈ ss, s.size ≤ 9223372036854775807 := by
  rcases open_strings Try.underlying39 Try.underlying9 cellsStr h with ⟨hcs, _⟩ | ⟨a, len, cap, ss, hcs, _, hl, hm, hz, _, hcell, hwf⟩
  · simp at hcs
    subst hcs
    exact ⟨none, 0, 0, [], rfl, Sl.nil _, fun s hs => by cases hs⟩
  · simp at hcs
    subst hcs
    have hlz : len ≤ ss.length := by rw [hz]; split <;> omega
    refine ⟨some a, len, cap, ss.take len, rfl, sl_of_row ?_ (by omega) (fun i hi => ?_), fun s hs => ?_⟩
    · rw [strs_length, List.length_take]
      omega
    · rw [hcell i (by omega), strs_getD _ _ (by rw [List.length_take]; omega)]
      simp [List.getD, hi]
    · have := hwf s (List.mem_of_mem_take hs)
      unfold maxLen at this
      omega
end
end Go.Proofs.Ytkodnagneblgaaa
