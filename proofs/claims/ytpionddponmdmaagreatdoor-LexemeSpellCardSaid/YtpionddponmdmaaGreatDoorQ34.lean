/- Walks: tokens from one package to the other. -/
import Derived.Test.YtpionddponmdmaaGreatDoorQ33
import Derived.Deep.QuietTactic
import Derived.BigQuiet
namespace Go.Proofs.YtpionddponmdmaaGreatDoor
open Go.RowKit
attribute [local go_sem] Ext.cell Ext.frozen
attribute [local go_sem ↓] Go.wp_at_zero Go.wp_at_succ
theorem infoRt : (Tryz.prog.info? 39).map (fun i => (i.zero, i.size, i.bytes)) = some (some (.agg #[.int .i64 0, .string .empty, .int .i64 0]), 3, 32) := by kernel_rfl
/-- append of one token to a row of the call's own -/
theorem wpList_app3 {P : Program} {ops : Array Oper} {rest : List Oper} {o : Oper} {a : Act} {Q : Exit → Act → World → Prop} {w : World} (t E : TypeId)
    (ht : P.underlying t = some (.slice E)) (i : TypeInfo) (z : Value) (hi : P.info? E = some i) (hz : i.zero = some z) (hsize : i.size = 3) (hby : i.bytes = 32) (hzs : z.cells.size = 3)
    (hgd : o.guard = none) (s x : Operand) (ho : o.op = .call { callee := .builtin .append, args := #[s, x], argTypes := #[t, t] })
    (base : Nat) (ad : Option Addr) (n c : Nat) (xs : List Value) (hs : a.eval s = .slice ad n c) (hown : w.ownsRow base E 3 (.slice ad n c) n xs)
    (y0 y1 y2 : Value) (E' : TypeId) (hx : a.eval x = .slice (some ⟨w.heap.size, 0, none⟩) 1 1) (h0 : y0.oneCell' = true) (h1 : y1.oneCell' = true) (h2 : y2.oneCell' = true)
    (hn : n ≤ 1000000000) (hbase : base ≤ w.heap.size)
    (h : ∀ ad' c' w', w'.ownsRow base E 3 (.slice ad' (n + 1) c') (n + 1) (xs ++ [y0, y1, y2]) → Below base w w' → w.grownBy w' (Value.ownBlock (.slice ad n c)) → w.heap.size < w'.heap.size →
      wpList P ops Q rest (a.put o.dst (.slice ad' (n + 1) c')) w') : wpList P ops Q (o :: rest) a (w.alloc (.cells #[y0, y1, y2] E')) := by
  refine wpList_append_own _ hgd s x t ho base E i z 3 32 ht hi hz hsize hby hzs (by omega) (.slice ad n c) n xs hs (World.ownsRow.alloc hown _) ⟨w.heap.size, 0, none⟩ 1 1 [y0, y1, y2] hx rfl (World.news_of_block (row_new w #[y0, y1, y2] E'))
    (by intro u hu; simp at hu; rcases hu with rfl | rfl | rfl <;> assumption) (by unfold maxLen; omega) (by omega) (by simp; omega) ?_
  intro v' w' g1 g2 _
  obtain ⟨ad', c', rfl⟩ := own_form_k g1
  have hlt := World.ownsRow.lt hown
  refine h ad' c' w' g1 ?_ ?_ (by have := g2.size; simp at this; omega)
  · exact ((Below.refl base w).alloc hbase _).grown g2 (by simp; omega) (fun k hk => (hlt k hk).1)
  · exact ⟨g2.os, g2.tape, g2.output, by have := g2.size; simp at this; omega, fun k hk hne => (g2.block k (by simp; omega) hne).trans (Below.heap_alloc _ _ _ hk)⟩
/-- tokens are answered, in a row of the call's own -/
def TkPost (E : TypeId) (w : World) (ps : List Nx) (e : Ending) (w' : World) : Prop :=
  ∃ ad c, e = .returned (.slice ad ps.length c) ∧ w'.ownsRow w.heap.size E 3 (.slice ad ps.length c) ps.length (tkCells ps) ∧ Below w.heap.size w w'
end Go.Proofs.YtpionddponmdmaaGreatDoor
/- Walk: the reference's Same of tokens. -/
namespace Go.Proofs.YtpionddponmdmaaGreatDoor
open Go.RowKit
attribute [local go_sem] Ext.cell Ext.frozen
attribute [local go_sem ↓] Go.wp_at_zero Go.wp_at_succ
/-- what is compared of a token: kind, text, and with places the offset -/
def keyT (pl : Bool) (x : Nx) : Nat × List UInt8 × Nat := (x.1.1, x.1.2.1, if pl then x.1.2.2 else 0)
def sameT (pl : Bool) (xs ys : List Nx) : Bool := decide (xs.map (keyT pl) = ys.map (keyT pl))
theorem getD_extT {pl : Bool} {a b : List Nx} (hl : a.length = b.length) (h : ∀ i, i < a.length → keyT pl (a.getD i (badN 0 0)) = keyT pl (b.getD i (badN 0 0))) : a.map (keyT pl) = b.map (keyT pl) := by
  apply List.ext_getElem (by simpa using hl)
  intro i h1 h2
  rw [List.length_map] at h1 h2
  have := h i h1
  simpa [List.getD, List.getElem?_eq_getElem h1, List.getElem?_eq_getElem h2] using this
theorem getD_keyT {pl : Bool} {a b : List Nx} {k : Nat} (h1 : k < a.length) (h2 : k < b.length) (h : keyT pl (a.getD k (badN 0 0)) ≠ keyT pl (b.getD k (badN 0 0))) : sameT pl a b = false :=
  decide_eq_false fun e => h (by
    have : (a.map (keyT pl))[k]? = (b.map (keyT pl))[k]? := by rw [e]
    simpa [List.getD, List.getElem?_eq_getElem h1, List.getElem?_eq_getElem h2] using this)
theorem cellsRt : Tryz.prog.cellsOf 39 = 3 := by kernel_rfl
end Go.Proofs.YtpionddponmdmaaGreatDoor
