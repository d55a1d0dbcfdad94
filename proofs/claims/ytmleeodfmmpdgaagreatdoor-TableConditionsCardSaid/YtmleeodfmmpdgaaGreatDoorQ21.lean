/- Walks: one more row, with its checks. -/
import Derived.Test.YtmleeodfmmpdgaaGreatDoorQ20
import Derived.Maps.AppendAt
import Derived.DeepKeys
import Derived.WalkArith
import Derived.Test.YtmleeodfmmpdgaaGreatDoorQ00
import Derived.Test.YtmleeodfmmpdgaaGreatDoorQ11
namespace Go.Proofs.YtmleeodfmmpdgaaGreatDoor
open Go.RowKit
attribute [local go_sem] Ext.cell Ext.frozen
attribute [local go_sem ↓] Go.wp_at_zero Go.wp_at_succ
section
variable {P : Program} {T E : TypeId} {z : Value} {sz bytes : Nat}
end
def growP (b : Nat) (v : Value) (k : Nat) : Bool := decide (k = b) || decide (v.ownBlock = some k)
def RS.add (p : Int) (dup full : Bool) (r : RS) : RS := if dup then r.failAt p 9 else if full then r.failAt p 6 else r

end Go.Proofs.YtmleeodfmmpdgaaGreatDoor
namespace Go.Proofs.YtmleeodfmmpdgaaGreatDoor
open Go.RowKit Go.Maps Go.Sort
attribute [local go_sem] Ext.cell Ext.frozen
attribute [local go_sem ↓] Go.wp_at_zero Go.wp_at_succ
set_option maxRecDepth 20000 in
set_option maxHeartbeats 4000000 in
theorem key_Up (a0 a1 a2 : ByteArray) (w : World) : Calls Tryz.prog 156 #[.agg #[.string a0, .string a1, .string a2]] w fun e w' => e = .returned (.agg #[.string a0, .string a1]) ∧ Below w.heap.size w w' := by
  go_enter Tryz.func156, Tryz.ntmps156
  go_wp2_with fail
  refine bodyPost_ret (results_cell_row rfl _ _ (w.heap.size + 1) 193 #[.string a0, .string a1] (0, 0) _ rfl ?_ Tryz.underlying193 rfl (by kernel_rfl)) rfl ?_
  · have := heap_alloc_new (w.alloc (.cells #[.string a0, .string a1, .string a2] 132)) (.cells #[.string a0, .string a1] 193)
    rwa [show (w.alloc (.cells #[.string a0, .string a1, .string a2] 132)).heap.size = w.heap.size + 1 by simp] at this
  · exact ⟨rfl, Bel.alloc (Bel.alloc (Bel.refl w) _) _⟩
theorem cellsStrP : Tryz.prog.cellsOf 9 = 1 := by kernel_rfl
theorem data_eq2 (a b : ByteArray) : a.data = b.data ↔ a = b := ⟨fun h => ByteArray.ext h, fun h => by rw [h]⟩
abbrev W6i (x : Int) : Prop := (Lit.int IntKind.i64 x).wf = true
theorem wf_of {a : Int} (h1 : -9223372036854775808 ≤ a) (h2 : a ≤ 9223372036854775807) : W6i a := WalkArith.wf_i64 (by omega)
theorem cellsAlP : Tryz.prog.cellsOf 61 = 2 := by kernel_rfl
set_option maxRecDepth 4000 in
theorem eq_AlP (x0 : ByteArray) (x1 : ByteArray) (y0 : ByteArray) (y1 : ByteArray) (w : World) (h0 : x0.size ≤ maxLen) (h1 : x1.size ≤ maxLen) (g0 : y0.size ≤ maxLen) (g1 : y1.size ≤ maxLen) : (Op.equalIn 10000 61 (.agg #[.string x0, .string x1]) (.agg #[.string y0, .string y1])).run Tryz.prog w = .ok (decide (x0 = y0 ∧ x1 = y1)) w := by
  have hf : ∀ (x0 : ByteArray) (x1 : ByteArray), (Value.agg #[.string x0, .string x1]).formed Tryz.prog 61 = true := fun x0 x1 => by simp [Value.formed, Tryz.underlying61, cellsAlP]
  have hl : ∀ (x0 : ByteArray) (x1 : ByteArray), x0.size ≤ maxLen → x1.size ≤ maxLen → Tryz.prog.keyLits 2 61 [.string x0, .string x1] = some [.string x0.data.toList, .string x1.data.toList] := fun x0 x1 h0 h1 => by simp [h0, h1, Program.keyLits, Tryz.underlying61, Tryz.underlying9, cellsAlP, cellsStrP]
  obtain ⟨r, e1, e2⟩ := run_equalIn_deep 9998 2 61 (by kernel_rfl) w 2 2 (.agg #[.string x0, .string x1]) (.agg #[.string y0, .string y1]) _ _ (hf x0 x1) (hf y0 y1) (hl x0 x1 h0 h1) (hl y0 y1 g0 g1)
  have : r = decide (x0 = y0 ∧ x1 = y1) := by
    rw [Bool.eq_iff_iff, e2, decide_eq_true_eq]
    simp [data_eq2]
  rw [← this]
  exact e1
end Go.Proofs.YtmleeodfmmpdgaaGreatDoor
namespace Go.Proofs.YtmleeodfmmpdgaaGreatDoor
open Go.RowKit
attribute [local go_sem] Ext.cell Ext.frozen
attribute [local go_sem ↓] Go.wp_at_zero Go.wp_at_succ
instance : Inhabited Rel := ⟨⟨0, 0, false, []⟩⟩
end Go.Proofs.YtmleeodfmmpdgaaGreatDoor
namespace Go.Proofs.YtmleeodfmmpdgaaGreatDoor
open Go.ChangeShapes Go.WideShapes Go.RowKit
section
variable {H : Type} {enc : TypeId × Value → H} {w : World} {base : Nat} {spare : Nat → Bool} {held : Bool}
theorem rz_bool {v : Value} (h : Rz enc w base spare held 4 [v]) : ∃ b, v = .bool b := by
  obtain ⟨n, x, h, _⟩ := h
  obtain ⟨b, e, _⟩ := DataW.trod_bool Tryz.underlying4 h
  injection e with e
  exact ⟨b, e⟩
theorem rz_cap {t e : TypeId} {ad : Option Addr} {n c : Nat} (ht : Tryz.prog.underlying t = some (.slice e)) (h : Rz enc w base spare held t [.slice ad n c]) : n ≤ c := by
  obtain ⟨fu, x, h, _⟩ := h
  rcases Go.Deep.open_slice ht h with ⟨hcs, _⟩ | ⟨a, len, cap, m, n', D, Pl, hcs, _, hl, _⟩
  · injection hcs with hcs
    injection hcs with h1 h2 h3
    omega
  · injection hcs with hcs
    injection hcs with h1 h2 h3
    omega
theorem rowsOf_of {α : Type} [Inhabited α] {t e : TypeId} {k : Nat} {v : Value} {C : World → (Nat → Value) → α → Prop} (ht : Tryz.prog.underlying t = some (.slice e)) (hk : Tryz.prog.cellsOf e = k) (hk0 : 0 < k) (hb : 1 ≤ Tryz.prog.bytesOf e) (h : Rz enc w base spare held t [v])
    (each : ∀ g : Nat → Value, Rz enc w base spare held e ((List.range k).map g) → ∃ x : α, C w g x) : ∃ l : List α, RowsOf k C w v l := by
  obtain ⟨ad, n, c, f, b, off, hv, hr, hc, hz, he⟩ := rz_rows ht hk hk0 h
  subst hv
  have hnc := rz_cap ht h
  obtain ⟨q, hq⟩ := Go.Deep.choose_lt (fun i hi => each (f i) (he i hi))
  have hl : ((List.range n).map q).length = n := by simp
  have hn : n ≤ 140737488351232 := by
    rw [show reachBytes = 140737488351232 from rfl] at hz
    exact Nat.le_trans (by have := Nat.mul_le_mul_left n hb; omega) hz
  refine ⟨(List.range n).map q, ad, c, f, b, off, by rw [hl], by rw [hl]; exact hr, hc, by rw [hl]; exact hnc, by rw [hl]; exact hn, fun i x hx => ?_⟩
  have hi : i < n := by
    have := (List.getElem?_eq_some_iff.1 hx).1
    rwa [hl] at this
  have hx2 : q i = x := by
    simp only [List.getElem?_map, List.getElem?_range hi, Option.map_some, Option.some.injEq] at hx
    exact hx
  rw [← hx2]
  exact hq i hi
theorem spans_of {v : Value} (h : Rz enc w base spare held 92 [v]) : ∃ l, RowsOf 2 SpanC w v l :=
  rowsOf_of Tryz.underlying92 (k := 2) (by kernel_rfl) (by omega) (of_decide_eq_true (by kernel_rfl)) h fun g hg => by
    obtain ⟨z0, e0, _⟩ := rz_int (enc := enc) (w := w) (base := base) (spare := spare) (held := held) (v := g 0) (by
      have this : Rz enc w base spare held 3 ((((List.range 2).map g).drop 0).take (Tryz.prog.cellsOf 3)) := (rz_field Tryz.underlying152 hg 0 _ rfl).2
      rw [show Tryz.prog.cellsOf 3 = 1 by kernel_rfl] at this
      exact this)
    obtain ⟨z1, e1, _⟩ := rz_int (enc := enc) (w := w) (base := base) (spare := spare) (held := held) (v := g 1) (by
      have this : Rz enc w base spare held 3 ((((List.range 2).map g).drop 1).take (Tryz.prog.cellsOf 3)) := (rz_field Tryz.underlying152 hg 1 _ rfl).2
      rw [show Tryz.prog.cellsOf 3 = 1 by kernel_rfl] at this
      exact this)
    exact ⟨(z0, z1), e0, e1⟩
theorem rels_of {v : Value} (h : Rz enc w base spare held 91 [v]) : ∃ l, RowsOf 4 RelC w v l :=
  rowsOf_of Tryz.underlying91 (k := 4) (by kernel_rfl) (by omega) (of_decide_eq_true (by kernel_rfl)) h fun g hg => by
    obtain ⟨z0, e0, _⟩ := rz_int (enc := enc) (w := w) (base := base) (spare := spare) (held := held) (v := g 0) (by
      have this : Rz enc w base spare held 3 ((((List.range 4).map g).drop 0).take (Tryz.prog.cellsOf 3)) := (rz_field Tryz.underlying94 hg 0 _ rfl).2
      rw [show Tryz.prog.cellsOf 3 = 1 by kernel_rfl] at this
      exact this)
    obtain ⟨z1, e1, _⟩ := rz_int (enc := enc) (w := w) (base := base) (spare := spare) (held := held) (v := g 1) (by
      have this : Rz enc w base spare held 3 ((((List.range 4).map g).drop 1).take (Tryz.prog.cellsOf 3)) := (rz_field Tryz.underlying94 hg 1 _ rfl).2
      rw [show Tryz.prog.cellsOf 3 = 1 by kernel_rfl] at this
      exact this)
    obtain ⟨b2, e2⟩ := rz_bool (enc := enc) (w := w) (base := base) (spare := spare) (held := held) (v := g 2) (by
      have this : Rz enc w base spare held 4 ((((List.range 4).map g).drop 2).take (Tryz.prog.cellsOf 4)) := (rz_field Tryz.underlying94 hg 2 _ rfl).2
      rw [show Tryz.prog.cellsOf 4 = 1 by kernel_rfl] at this
      exact this)
    obtain ⟨sp, e3⟩ := spans_of (enc := enc) (w := w) (base := base) (spare := spare) (held := held) (v := g 3) (by
      have this : Rz enc w base spare held 92 ((((List.range 4).map g).drop 3).take (Tryz.prog.cellsOf 92)) := (rz_field Tryz.underlying94 hg 3 _ rfl).2
      rw [show Tryz.prog.cellsOf 92 = 1 by kernel_rfl] at this
      exact this)
    exact ⟨⟨z0, z1, b2, sp⟩, e0, e1, e2, e3⟩
theorem conds_of {v : Value} (h : Rz enc w base spare held 48 [v]) : ∃ c, CondAt w v c :=
  rowsOf_of Tryz.underlying48 (k := 1) (by kernel_rfl) (by omega) (of_decide_eq_true (by kernel_rfl)) h fun g hg => rels_of (enc := enc) (w := w) (base := base) (spare := spare) (held := held) (v := g 0) hg
end
end Go.Proofs.YtmleeodfmmpdgaaGreatDoor
