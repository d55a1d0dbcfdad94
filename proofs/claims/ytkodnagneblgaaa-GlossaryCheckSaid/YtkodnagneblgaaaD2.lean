/- Walks: the comparison of two terms; how an index stands in memory. -/
import Derived.Test.YtkodnagneblgaaaD1
import Derived.Test.YtkodnagneblgaaaCA
namespace Go.Proofs.Ytkodnagneblgaaa
open Go.RowKit Go.Maps Go.Sort
attribute [local go_sem] Ext.cell Ext.frozen
attribute [local go_sem ↓] Go.wp_at_zero Go.wp_at_succ
/-- the lists of words of the terms: a row of slices, each a row of strings -/
structure WordsAt (w : World) (base : Nat) (v : Value) (svs : List Value) (lists : List (List ByteArray)) : Prop where
  row : w.ownsRow base 39 1 v svs.length svs
  len : svs.length = lists.length
  each : ∀ j, j < lists.length → StrR w base (svs.getD j undef) (lists.getD j [])
theorem WordsAt.form {w : World} {base : Nat} {v : Value} {svs : List Value} {lists : List (List ByteArray)} (h : WordsAt w base v svs lists) : ∃ ad c, v = .slice ad svs.length c := own_form h.row
theorem WordsAt.at_other {w w' : World} {base : Nat} {v : Value} {svs : List Value} {lists : List (List ByteArray)} (h : WordsAt w base v svs lists) {b : Nat} {E : TypeId} {s : Nat} {u : Value} {n : Nat} {xs : List Value} (hr : w.ownsRow b E s u n xs)
    (h1 : 39 ≠ E) (h2 : 9 ≠ E) (hg : w.grownBy w' u.ownBlock) : WordsAt w' base v svs lists :=
  ⟨own_other h.row hr h1 hg, h.len, fun j hj => own_other (h.each j hj) hr h2 hg⟩
theorem WordsAt.at_cells {w w' : World} {base : Nat} {v : Value} {svs : List Value} {lists : List (List ByteArray)} (h : WordsAt w base v svs lists) {k : Nat} {cur : Array Value} {T : TypeId} {fr : Nat × Nat} (hk : w.heap[k]? = some (.cells cur T fr))
    (h1 : T ≠ 39) (h2 : T ≠ 9) (hg : w.grownBy w' (some k)) : WordsAt w' base v svs lists :=
  ⟨own_kept_at h.row hk h1 hg, h.len, fun j hj => own_kept_at (h.each j hj) hk h2 hg⟩
theorem WordsAt.at_map {w w' : World} {base : Nat} {v : Value} {svs : List Value} {lists : List (List ByteArray)} (h : WordsAt w base v svs lists) {M n : Nat} {hd : ByteArray → Value} (hm : GM w M n hd) (hg : w.grownBy w' (some M)) : WordsAt w' base v svs lists :=
  ⟨own_kept_map h.row hm hg, h.len, fun j hj => own_kept_map (h.each j hj) hm hg⟩
theorem WordsAt.at_none {w w' : World} {base : Nat} {v : Value} {svs : List Value} {lists : List (List ByteArray)} (h : WordsAt w base v svs lists) (hg : w.grownBy w' none) : WordsAt w' base v svs lists :=
  ⟨own_kept_none h.row hg, h.len, fun j hj => own_kept_none (h.each j hj) hg⟩
theorem WordsAt.below {w w' : World} {base : Nat} {v : Value} {svs : List Value} {lists : List (List ByteArray)} (h : WordsAt w base v svs lists) (hb : Below w.heap.size w w') : WordsAt w' base v svs lists := h.at_none (grown_none hb)
/-- how many words a term has -/
def lnW (lists : List (List ByteArray)) (i : Nat) : Nat := (lists.getD i []).length
/-- the comparison reads the box and the words alone -/
theorem cmp_at (K xb base : Nat) (wv mv : Value) (svs : List Value) (lists : List (List ByteArray)) (hK : lists.length = K + 1) (w : World) (hbox : w.heap[xb]? = some (.cells #[wv, mv] 80 (0, 0))) (hw : WordsAt w base wv svs lists) (hl : ∀ i, lnW lists i ≤ 1000000000) (x y : Fin (K + 1)) :
    Calls Try.prog 51 (#[encI x, encI y] ++ #[.pointer (some ⟨xb, 0, none⟩)]) w fun e w' => e = .returned (.int .i64 ((lnW lists y.val : Int) - (lnW lists x.val : Int))) ∧ ∃ q, w' = w.drewN q := by
  obtain ⟨ad, c, rfl⟩ := hw.form
  obtain ⟨b, off, hsa⟩ := Own.sl hw.row
  have hls := hw.len
  have hx : x.val < svs.length := by have := x.isLt; omega
  have hy : y.val < svs.length := by have := y.isLt; omega
  have c0 : w.cell? ⟨xb, 0, none⟩ = some (.slice ad svs.length c) := by rw [Lib.cell_of_heap hbox]; rfl
  have cx := hsa.cell x.val hx
  have cy := hsa.cell y.val hy
  have ix := fun W => hsa.ix (c := c) 74 39 Try.underlying74 cellsStrs hx W
  have iy := fun W => hsa.ix (c := c) 74 39 Try.underlying74 cellsStrs hy W
  obtain ⟨ax, k1, ex⟩ := (hw.each x.val (by omega)).form
  obtain ⟨ay, k2, ey⟩ := (hw.each y.val (by omega)).form
  rw [ex] at cx
  rw [ey] at cy
  have lx : (lists.getD x.val []).length = lnW lists x.val := rfl
  have ly : (lists.getD y.val []).length = lnW lists y.val := rfl
  rw [lx] at cx
  rw [ly] at cy
  have bx := hl x.val
  have by' := hl y.val
  have hwr : IntKind.i64.wrap ((lnW lists y.val : Int) - (lnW lists x.val : Int)) = (lnW lists y.val : Int) - (lnW lists x.val : Int) := by rw [IntKind.wrap_i64]; omega
  clear hsa ex ey hw lx ly hl hbox
  generalize lnW lists x.val = nx at *
  generalize lnW lists y.val = ny at *
  generalize svs.length = m at *
  show Calls Try.prog 51 #[.int .i64 (x.val : Int), .int .i64 (y.val : Int), .pointer (some ⟨xb, 0, none⟩)] w _
  generalize x.val = i at *
  generalize y.val = k at *
  clear hK hls
  go_enter Try.func51, Try.ntmps51
  go_wp2_with fail
  go_quiet (fail)
  go_wp2_with fail
  go_ret
  exact ⟨rfl, nq, rfl⟩
end Go.Proofs.Ytkodnagneblgaaa
