/- Plain: documents in pieces and their layouts. -/
import Derived.Test.YtmleeodfmmpdgaaGreatDoorQ00
import Derived.StillTail
import Derived.Deep.RegionHeld3
import Derived.Deep.AppendLies
import Derived.Deep.DrawnRows
import Derived.Laws.AppendOwnNone
namespace Go.Proofs.YtmleeodfmmpdgaaGreatDoor

end Go.Proofs.YtmleeodfmmpdgaaGreatDoor
/- A region that draws its order: first reads and calls that make memory at most, then a chain of any operations: one walk, in the order of the text. -/
namespace Go.Proofs.YtmleeodfmmpdgaaGreatDoor
open Go.RowKit

section
variable {P : Program} {ops : Array Oper} {md : Region.Mode} {C : World → Prop}

end
end Go.Proofs.YtmleeodfmmpdgaaGreatDoor
/- Slices of strings in regions that draw their order: one slice behind a row of the call's own. -/
namespace Go.Proofs.YtmleeodfmmpdgaaGreatDoor
open Go.RowKit
theorem wp_at_worldH {P : Program} {c : Code} {Q : Exit → Act → World → Prop} {a : Act} {w : World} (h : ∀ W, W = w → c.wp P Q a W) : c.wp P Q a w := h w rfl
/-- the cells of a block that is known whole -/
theorem row_cells {w : World} {B : Nat} {cs : Array Value} {t : TypeId} (hb : w.heap[B]? = some (.cells cs t (0, 0))) (j : Nat) : w.cell? ⟨B, j, none⟩ = cs[j]? := by
  simp [World.cell?, hb]
theorem row_frozen {w : World} {B : Nat} {cs : Array Value} {t : TypeId} (hb : w.heap[B]? = some (.cells cs t (0, 0))) (j : Nat) : w.frozen? ⟨B, j, none⟩ = false := by
  simp [World.frozen?, hb]
theorem row_new (w : World) (cs : Array Value) (t : TypeId) : (w.alloc (.cells cs t)).heap[w.heap.size]? = some (.cells cs t (0, 0)) := by show (w.heap.push _)[w.heap.size]? = _; simp
theorem row_new2 (w : World) (o : Obj) (cs : Array Value) (t : TypeId) : ((w.alloc o).alloc (.cells cs t)).heap[w.heap.size + 1]? = some (.cells cs t (0, 0)) := by
  have := row_new (w.alloc o) cs t
  rwa [World.size_alloc] at this
/-- .. behind a store -/
theorem row_set {w : World} {B : Nat} {cs : Array Value} {t : TypeId} (hb : w.heap[B]? = some (.cells cs t (0, 0))) (j : Nat) (v : Value) : (w.setCell ⟨B, j, none⟩ v).heap[B]? = some (.cells (cs.setIfInBounds j v) t (0, 0)) := by
  simp [World.setCell, Array.getElem?_modify, hb]
/-- a row of the call's own is another block than one of another type -/
theorem own_other {w : World} {base : Nat} {E T : TypeId} {size : Nat} {v : Value} {n : Nat} {xs : List Value} {b : Nat} {cs : Array Value} {fr : Nat × Nat} (hown : w.ownsRow base E size v n xs) (hb : w.heap[b]? = some (.cells cs T fr)) (hTe : T ≠ E) : v.ownBlock ≠ some b := by
  rcases hown.2 with ⟨rfl, _⟩ | ⟨g, cap, cur, rfl, _, hg, _⟩
  · simp [Value.ownBlock]
  · intro h
    simp only [Value.ownBlock, Option.some.injEq] at h
    subst h
    rw [hg] at hb
    simp only [Option.some.injEq, Obj.cells.injEq] at hb
    exact hTe hb.2.1.symm
theorem own_set {w : World} {base : Nat} {E T : TypeId} {size : Nat} {v : Value} {n : Nat} {xs : List Value} {b : Nat} {cs : Array Value} {fr : Nat × Nat} (hown : w.ownsRow base E size v n xs) (hb : w.heap[b]? = some (.cells cs T fr)) (hTe : T ≠ E) (j : Nat) (u : Value) : (w.setCell ⟨b, j, none⟩ u).ownsRow base E size v n xs :=
  hown.kept (row := some b) ⟨rfl, rfl, rfl, by simp [World.setCell], fun k _ hk => Below.heap_setCell _ _ _ _ (fun e => hk (by simp [e]))⟩ (Or.inr (own_other hown hb hTe))
end Go.Proofs.YtmleeodfmmpdgaaGreatDoor
/- Walks: documents from one package to the other; all pieces of a document. -/
namespace Go.Proofs.YtmleeodfmmpdgaaGreatDoor
open Go.RowKit
attribute [local go_sem] Ext.cell Ext.frozen
attribute [local go_sem ↓] Go.wp_at_zero Go.wp_at_succ

/-- a slice of strings is answered, in a row of the call's own -/
def SlPost (w : World) (l : List ByteArray) (e : Ending) (w' : World) : Prop :=
  ∃ ad c, e = .returned (.slice ad l.length c) ∧ w'.ownsRow w.heap.size 9 1 (.slice ad l.length c) l.length (strs l) ∧ Below w.heap.size w w'

end Go.Proofs.YtmleeodfmmpdgaaGreatDoor
/- Walks: a document of pieces (the reference's Of). -/
namespace Go.Proofs.YtmleeodfmmpdgaaGreatDoor
open Go.RowKit
attribute [local go_sem] Ext.cell Ext.frozen
attribute [local go_sem ↓] Go.wp_at_zero Go.wp_at_succ

end Go.Proofs.YtmleeodfmmpdgaaGreatDoor
/- Slices of pieces: how they lie; one piece behind a row of the call's own. -/
namespace Go.Proofs.YtmleeodfmmpdgaaGreatDoor
open Go.RowKit

/-- a slice of pieces -/
structure PcAt (w : World) (ad : Option Addr) (n : Nat) (ps : List (Int × ByteArray)) (b off : Nat) : Prop where
  len : ps.length = n
  max : n ≤ 9223372036854775807
  adr : n ≠ 0 → ad = some ⟨b, off, none⟩
  c0 : ∀ i (_h : i < n), w.cell? ⟨b, off + i * 2, none⟩ = some (.int .i64 (ps.getD i (0, .empty)).1)
  c1 : ∀ i (_h : i < n), w.cell? ⟨b, off + i * 2 + 1, none⟩ = some (.string (ps.getD i (0, .empty)).2)
theorem PcAt.block {w : World} {ad : Option Addr} {n : Nat} {ps} {b off : Nat} (h : PcAt w ad n ps b off) (hn : n ≠ 0) : b < w.heap.size :=
  World.block_lt_of_cell? w _ (h.c0 0 (by omega))
theorem PcAt.below {w w' : World} {ad : Option Addr} {n : Nat} {ps} {b off : Nat} (h : PcAt w ad n ps b off) (hb : Below w.heap.size w w') : PcAt w' ad n ps b off :=
  ⟨h.len, h.max, h.adr, fun i hi => by rw [hb.cell (p := ⟨b, off + i * 2, none⟩) (h.block (by omega))]; exact h.c0 i hi,
    fun i hi => by rw [hb.cell (p := ⟨b, off + i * 2 + 1, none⟩) (h.block (by omega))]; exact h.c1 i hi⟩
/-- .. from some place on -/
def Pc (w : World) (ad : Option Addr) (n : Nat) (ps : List (Int × ByteArray)) : Prop := ∃ b off, PcAt w ad n ps b off
theorem Pc.below {w w' : World} {ad : Option Addr} {n : Nat} {ps} (h : Pc w ad n ps) (hb : Below w.heap.size w w') : Pc w' ad n ps := by
  obtain ⟨b, off, h⟩ := h
  exact ⟨b, off, h.below hb⟩
theorem Pc.len {w : World} {ad : Option Addr} {n : Nat} {ps} (h : Pc w ad n ps) : ps.length = n := by obtain ⟨b, off, h⟩ := h; exact h.len
theorem Pc.max {w : World} {ad : Option Addr} {n : Nat} {ps} (h : Pc w ad n ps) : n ≤ 9223372036854775807 := by obtain ⟨b, off, h⟩ := h; exact h.max
theorem Pc.nil (w : World) (ad : Option Addr) : Pc w ad 0 [] := ⟨0, 0, ⟨rfl, Nat.zero_le _, fun h => absurd rfl h, fun _i hi => absurd hi (Nat.not_lt_zero _), fun _i hi => absurd hi (Nat.not_lt_zero _)⟩⟩
theorem PcAt.ix {P : Program} {w : World} {ad : Option Addr} {n : Nat} {ps} {b off : Nat} (h : PcAt w ad n ps b off) (T E : TypeId) (hT : P.underlying T = some (.slice E)) (hE : P.cellsOf E = 2) {i : Nat} (hi : i < n) (c : Nat) (W : World) :
    (Instr.indexAt T (.slice ad n c) (.int .i64 (i : Int))).run P W = .ok (.pointer (some ⟨b, off + i * 2, none⟩)) W := by
  rw [h.adr (by omega)]
  have hel : P.elem T = E := by simp [Program.elem, hT]
  rw [run_indexAt_slice W T _ n c .i64 i (by rw [hel]; exact hT), hel, if_pos (by omega)]
  have hs : (sizeOf E).run P W = .ok 2 W := by
    unfold Program.cellsOf at hE
    cases hi' : P.info? E with
    | none => simp [hi'] at hE
    | some q => simp [hi'] at hE; simp [sizeOf, typeInfo, hi', hE]
  rw [hs]
  simp [Result.andThen, Addr.add]
theorem own_form_k {w : World} {base : Nat} {E : TypeId} {size : Nat} {v : Value} {n : Nat} {xs : List Value} (h : w.ownsRow base E size v n xs) : ∃ ad c, v = .slice ad n c := by
  obtain ⟨_, ⟨rfl, rfl⟩ | ⟨g, cap, cur, rfl, _⟩⟩ := h
  · exact ⟨_, _, rfl⟩
  · exact ⟨_, _, rfl⟩
theorem own_below2 {w w' : World} {base : Nat} {E : TypeId} {size : Nat} {v : Value} {n : Nat} {xs : List Value} (h : w.ownsRow base E size v n xs) (hb : Below w.heap.size w w') : w'.ownsRow base E size v n xs := by
  refine ⟨h.1, ?_⟩
  rcases h.2 with h2 | ⟨g, cap, cur, h1, h2, h3, h4, h5, h6, h7⟩
  · exact .inl h2
  · exact .inr ⟨g, cap, cur, h1, h2, (hb.block g (Array.getElem?_eq_some_iff.1 h3).1).trans h3, h4, h5, h6, h7⟩
theorem below_drewN (w : World) (n : Nat) : Below w.heap.size w (w.drewN n) := ⟨rfl, rfl, rfl, Nat.le_refl _, fun _ _ => rfl⟩
end Go.Proofs.YtmleeodfmmpdgaaGreatDoor
/- Walks: the reference's documents: whether one is small, a piece, the body. -/
namespace Go.Proofs.YtmleeodfmmpdgaaGreatDoor
open Go.RowKit
attribute [local go_sem] Ext.cell Ext.frozen
attribute [local go_sem ↓] Go.wp_at_zero Go.wp_at_succ

theorem SlPost.sl {w w' : World} {l : List ByteArray} {ad : Option Addr} {c : Nat} (h : w'.ownsRow w.heap.size 9 1 (.slice ad l.length c) l.length (strs l)) : Sl w' ad l.length (strs l) := Own.sl h
end Go.Proofs.YtmleeodfmmpdgaaGreatDoor
/- Walks: pieces from one package to the other. -/
namespace Go.Proofs.YtmleeodfmmpdgaaGreatDoor
open Go.RowKit
attribute [local go_sem] Ext.cell Ext.frozen
attribute [local go_sem ↓] Go.wp_at_zero Go.wp_at_succ

end Go.Proofs.YtmleeodfmmpdgaaGreatDoor
