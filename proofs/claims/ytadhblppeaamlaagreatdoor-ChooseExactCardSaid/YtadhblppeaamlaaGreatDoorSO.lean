/- How arguments that are a locale, a question, or a value are read. -/
import Derived.Test.YtadhblppeaamlaaGreatDoorHO
import Derived.Test.YtadhblppeaamlaaGreatDoorS2
namespace Go.Proofs.YtadhblppeaamlaaGreatDoor
open Go.ChangeShapes Go.WideShapes Go.RowKit
instance : Inhabited Rel := ⟨⟨0, 0, false, []⟩⟩
section
variable {H : Type} {enc : TypeId × Value → H} {w : World} {base : Nat} {spare : Nat → Bool} {held : Bool}
theorem rz_bool {v : Value} (h : Rz enc w base spare held 4 [v]) : ∃ b, v = .bool b := by
  obtain ⟨n, x, h, _⟩ := h
  obtain ⟨b, e, _⟩ := DataW.trod_bool Tryz.underlying4 h
  injection e with e
  exact ⟨b, e⟩
theorem rz_cap {t e : TypeId} {ad : Option Addr} {n c : Nat} (ht : Tryz.prog.underlying t = some (.slice e)) (h : Rz enc w base spare held t [.slice ad n c]) : n ≤ c := by
  obtain ⟨fu, x, h, _⟩ := h
  rcases Go.Deep.open_slice ht h with ⟨hcs, _⟩ | ⟨a, len, cap, m, n', D, Pl, hcs, _, hl, _⟩
  · injection hcs with hcs
    injection hcs with h1 h2 h3
    omega
  · injection hcs with hcs
    injection hcs with h1 h2 h3
    omega
theorem rowsOf_of {α : Type} [Inhabited α] {t e : TypeId} {k : Nat} {v : Value} {C : World → (Nat → Value) → α → Prop} (ht : Tryz.prog.underlying t = some (.slice e)) (hk : Tryz.prog.cellsOf e = k) (hk0 : 0 < k) (hb : 1 ≤ Tryz.prog.bytesOf e) (h : Rz enc w base spare held t [v])
    (each : ∀ g : Nat → Value, Rz enc w base spare held e ((List.range k).map g) → ∃ x : α, C w g x) : ∃ l : List α, RowsOf k C w v l := by
  obtain ⟨ad, n, c, f, b, off, hv, hr, hc, hz, he⟩ := rz_rows ht hk hk0 h
  subst hv
  have hnc := rz_cap ht h
  obtain ⟨q, hq⟩ := Go.Deep.choose_lt (fun i hi => each (f i) (he i hi))
  have hl : ((List.range n).map q).length = n := by simp
  have hn : n ≤ 140737488351232 := by
    rw [show reachBytes = 140737488351232 from rfl] at hz
    exact Nat.le_trans (by have := Nat.mul_le_mul_left n hb; omega) hz
  refine ⟨(List.range n).map q, ad, c, f, b, off, by rw [hl], by rw [hl]; exact hr, hc, by rw [hl]; exact hnc, by rw [hl]; exact hn, fun i x hx => ?_⟩
  have hi : i < n := by
    have := (List.getElem?_eq_some_iff.1 hx).1
    rwa [hl] at this
  have hx2 : q i = x := by
    simp only [List.getElem?_map, List.getElem?_range hi, Option.map_some, Option.some.injEq] at hx
    exact hx
  rw [← hx2]
  exact hq i hi
theorem spans_of {v : Value} (h : Rz enc w base spare held 91 [v]) : ∃ l, RowsOf 2 SpanC w v l :=
  rowsOf_of Tryz.underlying91 (k := 2) (by kernel_rfl) (by omega) (of_decide_eq_true (by kernel_rfl)) h fun g hg => by
    obtain ⟨z0, e0, _⟩ := rz_int (enc := enc) (w := w) (base := base) (spare := spare) (held := held) (v := g 0) (by
      have this : Rz enc w base spare held 3 ((((List.range 2).map g).drop 0).take (Tryz.prog.cellsOf 3)) := (rz_field Tryz.underlying90 hg 0 _ rfl).2
      rw [show Tryz.prog.cellsOf 3 = 1 by kernel_rfl] at this
      exact this)
    obtain ⟨z1, e1, _⟩ := rz_int (enc := enc) (w := w) (base := base) (spare := spare) (held := held) (v := g 1) (by
      have this : Rz enc w base spare held 3 ((((List.range 2).map g).drop 1).take (Tryz.prog.cellsOf 3)) := (rz_field Tryz.underlying90 hg 1 _ rfl).2
      rw [show Tryz.prog.cellsOf 3 = 1 by kernel_rfl] at this
      exact this)
    exact ⟨(z0, z1), e0, e1⟩
theorem rels_of {v : Value} (h : Rz enc w base spare held 94 [v]) : ∃ l, RowsOf 4 RelC w v l :=
  rowsOf_of Tryz.underlying94 (k := 4) (by kernel_rfl) (by omega) (of_decide_eq_true (by kernel_rfl)) h fun g hg => by
    obtain ⟨z0, e0, _⟩ := rz_int (enc := enc) (w := w) (base := base) (spare := spare) (held := held) (v := g 0) (by
      have this : Rz enc w base spare held 3 ((((List.range 4).map g).drop 0).take (Tryz.prog.cellsOf 3)) := (rz_field Tryz.underlying93 hg 0 _ rfl).2
      rw [show Tryz.prog.cellsOf 3 = 1 by kernel_rfl] at this
      exact this)
    obtain ⟨z1, e1, _⟩ := rz_int (enc := enc) (w := w) (base := base) (spare := spare) (held := held) (v := g 1) (by
      have this : Rz enc w base spare held 3 ((((List.range 4).map g).drop 1).take (Tryz.prog.cellsOf 3)) := (rz_field Tryz.underlying93 hg 1 _ rfl).2
      rw [show Tryz.prog.cellsOf 3 = 1 by kernel_rfl] at this
      exact this)
    obtain ⟨b2, e2⟩ := rz_bool (enc := enc) (w := w) (base := base) (spare := spare) (held := held) (v := g 2) (by
      have this : Rz enc w base spare held 4 ((((List.range 4).map g).drop 2).take (Tryz.prog.cellsOf 4)) := (rz_field Tryz.underlying93 hg 2 _ rfl).2
      rw [show Tryz.prog.cellsOf 4 = 1 by kernel_rfl] at this
      exact this)
    obtain ⟨sp, e3⟩ := spans_of (enc := enc) (w := w) (base := base) (spare := spare) (held := held) (v := g 3) (by
      have this : Rz enc w base spare held 91 ((((List.range 4).map g).drop 3).take (Tryz.prog.cellsOf 91)) := (rz_field Tryz.underlying93 hg 3 _ rfl).2
      rw [show Tryz.prog.cellsOf 91 = 1 by kernel_rfl] at this
      exact this)
    exact ⟨⟨z0, z1, b2, sp⟩, e0, e1, e2, e3⟩
theorem conds_of {v : Value} (h : Rz enc w base spare held 78 [v]) : ∃ c, CondAt w v c :=
  rowsOf_of Tryz.underlying78 (k := 1) (by kernel_rfl) (by omega) (of_decide_eq_true (by kernel_rfl)) h fun g hg => rels_of (enc := enc) (w := w) (base := base) (spare := spare) (held := held) (v := g 0) hg
theorem rules_of {v : Value} (h : Rz enc w base spare held 22 [v]) : ∃ l, RulesAt w v l :=
  rowsOf_of Tryz.underlying22 (k := 2) (by kernel_rfl) (by omega) (of_decide_eq_true (by kernel_rfl)) h fun g hg => by
    obtain ⟨s, e0, _⟩ := rz_string (enc := enc) (w := w) (base := base) (spare := spare) (held := held) (v := g 0) (by
      have this : Rz enc w base spare held 9 ((((List.range 2).map g).drop 0).take (Tryz.prog.cellsOf 9)) := (rz_field Tryz.underlying80 hg 0 _ rfl).2
      rw [show Tryz.prog.cellsOf 9 = 1 by kernel_rfl] at this
      exact this)
    obtain ⟨c, e1⟩ := conds_of (enc := enc) (w := w) (base := base) (spare := spare) (held := held) (v := g 1) (by
      have this : Rz enc w base spare held 78 ((((List.range 2).map g).drop 1).take (Tryz.prog.cellsOf 78)) := (rz_field Tryz.underlying80 hg 1 _ rfl).2
      rw [show Tryz.prog.cellsOf 78 = 1 by kernel_rfl] at this
      exact this)
    exact ⟨(s, c), e0, e1⟩
theorem strs_of {v : Value} (h : Rz enc w base spare held 28 [v]) : ∃ l, RowsOf 1 StrC w v l :=
  rowsOf_of Tryz.underlying28 (k := 1) (by kernel_rfl) (by omega) (of_decide_eq_true (by kernel_rfl)) h fun g hg => by
    obtain ⟨s, e0, hs⟩ := rz_string (enc := enc) (w := w) (base := base) (spare := spare) (held := held) (v := g 0) hg
    exact ⟨s, e0, hs⟩
/-- a value, by its five cells -/
theorem val_of {g : Nat → Value} (hg : Rz enc w base spare held 46 ((List.range 5).map g)) : ∃ v, ValC w g v := by
  obtain ⟨s0, e0, h0⟩ := rz_string (enc := enc) (w := w) (base := base) (spare := spare) (held := held) (v := g 0) (by
    have this : Rz enc w base spare held 9 ((((List.range 5).map g).drop 0).take (Tryz.prog.cellsOf 9)) := (rz_field Tryz.underlying46 hg 0 _ rfl).2
    rw [show Tryz.prog.cellsOf 9 = 1 by kernel_rfl] at this
    exact this)
  obtain ⟨z1, e1, _⟩ := rz_int (enc := enc) (w := w) (base := base) (spare := spare) (held := held) (v := g 1) (by
    have this : Rz enc w base spare held 3 ((((List.range 5).map g).drop 1).take (Tryz.prog.cellsOf 3)) := (rz_field Tryz.underlying46 hg 1 _ rfl).2
    rw [show Tryz.prog.cellsOf 3 = 1 by kernel_rfl] at this
    exact this)
  obtain ⟨s2, e2, h2⟩ := rz_string (enc := enc) (w := w) (base := base) (spare := spare) (held := held) (v := g 2) (by
    have this : Rz enc w base spare held 9 ((((List.range 5).map g).drop 2).take (Tryz.prog.cellsOf 9)) := (rz_field Tryz.underlying46 hg 2 _ rfl).2
    rw [show Tryz.prog.cellsOf 9 = 1 by kernel_rfl] at this
    exact this)
  obtain ⟨z3, e3, _⟩ := rz_int (enc := enc) (w := w) (base := base) (spare := spare) (held := held) (v := g 3) (by
    have this : Rz enc w base spare held 3 ((((List.range 5).map g).drop 3).take (Tryz.prog.cellsOf 3)) := (rz_field Tryz.underlying46 hg 3 _ rfl).2
    rw [show Tryz.prog.cellsOf 3 = 1 by kernel_rfl] at this
    exact this)
  obtain ⟨l, e4⟩ := strs_of (enc := enc) (w := w) (base := base) (spare := spare) (held := held) (v := g 4) (by
    have this : Rz enc w base spare held 28 ((((List.range 5).map g).drop 4).take (Tryz.prog.cellsOf 28)) := (rz_field Tryz.underlying46 hg 4 _ rfl).2
    rw [show Tryz.prog.cellsOf 28 = 1 by kernel_rfl] at this
    exact this)
  exact ⟨⟨s0, z1, s2, z3, l⟩, e0, h0, e1, e2, h2, e3, e4⟩
theorem val_cells {cs : List Value} (h : Rz enc w base spare held 46 cs) : ∃ (g : Nat → Value) (v : Vl), cs = [g 0, g 1, g 2, g 3, g 4] ∧ ValC w g v := by
  have hl : cs.length = 5 := (rz_field Tryz.underlying46 h 0 _ rfl).1.trans (by kernel_rfl)
  match cs, hl with
  | [x0, x1, x2, x3, x4], _ =>
    obtain ⟨v, hv⟩ := val_of (enc := enc) (w := w) (base := base) (spare := spare) (held := held) (g := fun i => ([x0, x1, x2, x3, x4] : List Value).getD i undef) h
    exact ⟨_, v, rfl, hv⟩
/-- a question: a kind, and keys -/
theorem quest_cells {cs : List Value} (h : Rz enc w base spare held 55 cs) : ∃ (z : Int) (v : Value) (l : List ByteArray), cs = [.int .i64 z, v] ∧ RowsOf 1 StrC w v l := by
  have hl : cs.length = 2 := (rz_field Tryz.underlying55 h 0 _ rfl).1.trans (by kernel_rfl)
  match cs, hl with
  | [x0, x1], _ =>
    obtain ⟨z0, e0, _⟩ := rz_int (enc := enc) (w := w) (base := base) (spare := spare) (held := held) (v := x0) (by
      have this : Rz enc w base spare held 3 ((([x0, x1] : List Value).drop 0).take (Tryz.prog.cellsOf 3)) := (rz_field Tryz.underlying55 h 0 _ rfl).2
      rw [show Tryz.prog.cellsOf 3 = 1 by kernel_rfl] at this
      exact this)
    obtain ⟨l, e1⟩ := strs_of (enc := enc) (w := w) (base := base) (spare := spare) (held := held) (v := x1) (by
      have this : Rz enc w base spare held 28 ((([x0, x1] : List Value).drop 1).take (Tryz.prog.cellsOf 28)) := (rz_field Tryz.underlying55 h 1 _ rfl).2
      rw [show Tryz.prog.cellsOf 28 = 1 by kernel_rfl] at this
      exact this)
    exact ⟨z0, x1, l, by rw [e0], e1⟩
/-- a locale, by its sixteen cells; its third and fourth are rules -/
theorem locr_cells {cs : List Value} (h : Rz enc w base spare held 30 cs) : ∃ (x : Nat → Value) (a b : List (ByteArray × List (List Rel))), cs = (List.range 16).map x ∧ LocC w x a b := by
  have hl : cs.length = 16 := (rz_field Tryz.underlying30 h 0 _ rfl).1.trans (by kernel_rfl)
  match cs, hl with
  | [x0, x1, x2, x3, x4, x5, x6, x7, x8, x9, x10, x11, x12, x13, x14, x15], _ =>
    obtain ⟨a, r3⟩ := rules_of (enc := enc) (w := w) (base := base) (spare := spare) (held := held) (v := x3) (by
      have this : Rz enc w base spare held 22 ((([x0, x1, x2, x3, x4, x5, x6, x7, x8, x9, x10, x11, x12, x13, x14, x15] : List Value).drop 3).take (Tryz.prog.cellsOf 22)) := (rz_field Tryz.underlying30 h 3 _ rfl).2
      rw [show Tryz.prog.cellsOf 22 = 1 by kernel_rfl] at this
      exact this)
    obtain ⟨b, r4⟩ := rules_of (enc := enc) (w := w) (base := base) (spare := spare) (held := held) (v := x4) (by
      have this : Rz enc w base spare held 22 ((([x0, x1, x2, x3, x4, x5, x6, x7, x8, x9, x10, x11, x12, x13, x14, x15] : List Value).drop 4).take (Tryz.prog.cellsOf 22)) := (rz_field Tryz.underlying30 h 4 _ rfl).2
      rw [show Tryz.prog.cellsOf 22 = 1 by kernel_rfl] at this
      exact this)
    exact ⟨fun i => ([x0, x1, x2, x3, x4, x5, x6, x7, x8, x9, x10, x11, x12, x13, x14, x15] : List Value).getD i undef, a, b, rfl, r3, r4⟩
end
end Go.Proofs.YtadhblppeaamlaaGreatDoor
