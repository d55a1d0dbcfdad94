/- Plain: where a piece's text is cut, and its number; the cell that strings.Index reads. -/
import Derived.Test.YtkkggpahanddnaaDoorH36
import Derived.Test.YtkkggpahanddnaaDoorShelf2
namespace Go.Proofs.YtkkggpahanddnaaDoor
open Go.RowKit
theorem cut_at (ds r : List UInt8) (h : ∀ c ∈ ds, c ≠ 32) : Lib.cut (ds ++ 32 :: 34 :: r) [32, 34] = (ds, r, true) := by
  have e : Lib.index (ds ++ 32 :: 34 :: r) [32, 34] = (ds.length : Int) := by
    refine Lib.index_first (by simp) ?_ ?_
    · unfold Lib.occAt; rw [List.drop_left]; simp
    · intro j hj
      unfold Lib.occAt
      rw [List.drop_append_of_le_length (by omega), List.drop_eq_getElem_cons hj]
      have := h (ds[j]) (List.getElem_mem hj)
      simp only [List.cons_append, List.isPrefixOf, Bool.and_eq_false_imp]
      intro g
      exact absurd (beq_iff_eq.1 g).symm this
  unfold Lib.cut
  rw [e, if_pos (by omega), Int.toNat_natCast, List.take_left, ← List.drop_drop, List.drop_left]
  rfl
theorem itoa_le (n : Nat) (h : n ≤ 1001) : Lib.atoi (Lib.itoa (n : Int)) = some (n : Int) ∧ (Lib.itoa (n : Int)).all (· != 32) = true ∧ (Lib.itoa (n : Int)).length ≤ 4 := by
  have k : ∀ v : Fin 1002, Lib.atoi (Lib.itoa (v.1 : Int)) = some (v.1 : Int) ∧ (Lib.itoa (v.1 : Int)).all (· != 32) = true ∧ (Lib.itoa (v.1 : Int)).length ≤ 4 := by decide +kernel
  exact k ⟨n, by omega⟩
def MaxLen (w : World) : Prop := ∃ m, w.cell? ⟨1, 0, none⟩ = some (.int .i64 m)
theorem MaxLen.below {w w' : World} (h : MaxLen w) (hb : Below w.heap.size w w') : MaxLen w' := by
  obtain ⟨m, h⟩ := h
  exact ⟨m, (hb.cell (p := ⟨1, 0, none⟩) (World.block_lt_of_cell? w _ h)).trans h⟩
end Go.Proofs.YtkkggpahanddnaaDoor
