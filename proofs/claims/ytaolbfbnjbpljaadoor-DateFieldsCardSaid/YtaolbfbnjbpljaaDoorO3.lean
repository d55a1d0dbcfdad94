/- How an argument that is a locale is read. -/
import Derived.Test.YtaolbfbnjbpljaaDoorT1
import Derived.Deep.Slices
import Derived.ChangeArms
namespace Go.Proofs.YtaolbfbnjbpljaaDoor
open Go.ChangeShapes Go.WideShapes Go.RowKit
section
variable {H : Type} {enc : TypeId × Value → H} {w : World} {base : Nat} {spare : Nat → Bool} {held : Bool}
/-- a value that reads as data of a type -/
abbrev Rd (enc : TypeId × Value → H) (w : World) (base : Nat) (spare : Nat → Bool) (held : Bool) (t : TypeId) (cs : List Value) : Prop := ∃ n x, DataW.trod enc Tryd.prog w base spare held n t cs = some x
theorem spot_of_cell {W : World} {a : Addr} {v : Value} (h : W.cell? (a.add 0) = some v) : a = ⟨a.block, a.off, none⟩ := by
  have hs : a.spot = none := by simpa [Addr.add] using World.cell?_spot h
  cases a
  simp at hs
  simp [hs]
theorem rows_of {t e : TypeId} {k : Nat} {v : Value} (ht : Tryd.prog.underlying t = some (.slice e)) (hk : Tryd.prog.cellsOf e = k) (hk0 : 0 < k) (h : Rd enc w base spare held t [v]) :
    ∃ ad n c, ∃ f : Nat → Nat → Value, ∃ b off, v = .slice ad n c ∧ Rw w ad n k f b off ∧ (ad = none → c = 0) ∧ ∀ i, i < n → Rd enc w base spare held e ((List.range k).map (f i)) := by
  obtain ⟨fu, x, h⟩ := h
  rcases Go.Deep.open_slice ht h with ⟨hcs, _⟩ | ⟨a, len, cap, m, n, D, Pl, hcs, _, hl, hm, hmm, _, hf⟩
  · injection hcs with hcs
    subst hcs
    exact ⟨none, 0, 0, fun _ _ => undef, 0, 0, rfl, ⟨Nat.zero_le _, fun h => absurd rfl h, fun i j hi => absurd hi (Nat.not_lt_zero _)⟩, fun _ => rfl, fun i hi => absurd hi (Nat.not_lt_zero _)⟩
  · injection hcs with hcs
    subst hcs
    have hlm : len ≤ m := by rw [hmm]; split <;> omega
    rw [hk] at hf
    have each : ∀ i, i < len → ∃ g : Nat → Value, (∀ j, j < k → w.cell? (a.add (i * k + j)) = some (g j)) ∧ Rd enc w base spare held e ((List.range k).map g) := fun i hi => by
      obtain ⟨cs', h1, h2⟩ := hf i (by omega)
      obtain ⟨_, hlen, hcell⟩ := World.cells?_some h1
      have hc : (List.range k).map (fun j => cs'.getD j undef) = cs' := by
        apply List.ext_getElem
        · simp [hlen]
        · intro j h1 h2
          simp [List.getD, List.getElem?_eq_getElem h2]
      refine ⟨fun j => cs'.getD j undef, fun j hj => ?_, _, _, by rw [hc]; exact h2⟩
      have := hcell j hj
      rw [Go.Deep.add_add] at this
      rw [this]
      simp [List.getD, List.getElem?_eq_getElem (show j < cs'.length by omega)]
    obtain ⟨f, hf2⟩ := Go.Deep.choose_lt each
    by_cases h0 : len = 0
    · subst h0
      exact ⟨some a, 0, cap, f, 0, 0, rfl, ⟨Nat.zero_le _, fun h => absurd rfl h, fun i j hi => absurd hi (Nat.not_lt_zero _)⟩, fun h => (by cases h), fun i hi => absurd hi (Nat.not_lt_zero _)⟩
    · have ha := spot_of_cell (by have := (hf2 0 (by omega)).1 0 hk0; rwa [Nat.zero_mul, Nat.zero_add] at this)
      have had : ∀ j, a.add j = ⟨a.block, a.off + j, none⟩ := fun j => by
        conv => lhs; rw [ha]
        unfold Addr.add
        split
        · rename_i h; subst h; rfl
        · rfl
      refine ⟨some a, len, cap, f, a.block, a.off, rfl, ⟨by unfold maxLen at hm; omega, fun _ => by rw [← ha], fun i j hi hj => ?_⟩, fun h => (by cases h), fun i hi => (hf2 i hi).2⟩
      have := (hf2 i hi).1 j hj
      rw [had] at this
      rw [Nat.add_assoc]
      exact this
theorem rd_string {v : Value} (h : Rd enc w base spare held 9 [v]) : ∃ s, v = .string s := by
  obtain ⟨n, x, h⟩ := h
  obtain ⟨s, e, _⟩ := DataW.trod_string Tryd.underlying9 h
  injection e with e
  exact ⟨s, e⟩
theorem rd_int {v : Value} (h : Rd enc w base spare held 3 [v]) : ∃ z, v = .int .i64 z := by
  obtain ⟨n, x, h⟩ := h
  obtain ⟨z, e, _⟩ := DataW.trod_int Tryd.underlying3 h
  injection e with e
  exact ⟨z, e⟩
/-- a field of a struct -/
theorem rd_field {t : TypeId} {fs : Array Field} {cs : List Value} (ht : Tryd.prog.underlying t = some (.struct fs)) (h : Rd enc w base spare held t cs) (i : Nat) (f : Field) (hi : fs[i]? = some f) : cs.length = Tryd.prog.cellsOf t ∧ Rd enc w base spare held f.type ((cs.drop f.offset).take (Tryd.prog.cellsOf f.type)) := by
  obtain ⟨n, x, h⟩ := h
  obtain ⟨xs, m, _, _, hl, hx, hf⟩ := DataW.trod_struct ht h
  have := hf i f hi
  have hlt : i < xs.length := by rw [hx]; exact (Array.getElem?_eq_some_iff.1 hi).1
  rw [List.getElem?_eq_getElem hlt] at this
  exact ⟨hl, m, _, this⟩
theorem cStr : Tryd.prog.cellsOf 9 = 1 := by kernel_rfl
theorem strs1 {v : Value} (h : Rd enc w base spare held 23 [v]) : StrRows w 1 v := by
  obtain ⟨ad, n, c, f, b, off, hv, hr, _, he⟩ := rows_of Tryd.underlying23 cStr (by omega) h
  have each : ∀ i, i < n → ∃ s, f i 0 = .string s := fun i hi => rd_string (he i hi)
  obtain ⟨g, hg⟩ := Go.Deep.choose_lt each
  refine ⟨ad, n, c, fun i _ => g i, b, off, hv, ⟨hr.max, hr.adr, fun i j hi hj => ?_⟩⟩
  obtain rfl : j = 0 := by omega
  rw [hr.cell i 0 hi hj, hg i hi]
theorem strs5 {v : Value} (h : Rd enc w base spare held 49 [v]) : StrRows w 5 v := by
  obtain ⟨ad, n, c, f, b, off, hv, hr, _, he⟩ := rows_of Tryd.underlying49 (k := 5) (by kernel_rfl) (by omega) h
  have each : ∀ i, i < n → ∃ g : Nat → ByteArray, ∀ j, j < 5 → f i j = .string (g j) := fun i hi => by
    have e0 := rd_string (v := f i 0) (by
      have this : Rd enc w base spare held 9 ((((List.range 5).map (f i)).drop 0).take (Tryd.prog.cellsOf 9)) := (rd_field Tryd.underlying125 (he i hi) 0 _ rfl).2
      rw [cStr] at this
      exact this)
    have e1 := rd_string (v := f i 1) (by
      have this : Rd enc w base spare held 9 ((((List.range 5).map (f i)).drop 1).take (Tryd.prog.cellsOf 9)) := (rd_field Tryd.underlying125 (he i hi) 1 _ rfl).2
      rw [cStr] at this
      exact this)
    have e2 := rd_string (v := f i 2) (by
      have this : Rd enc w base spare held 9 ((((List.range 5).map (f i)).drop 2).take (Tryd.prog.cellsOf 9)) := (rd_field Tryd.underlying125 (he i hi) 2 _ rfl).2
      rw [cStr] at this
      exact this)
    have e3 := rd_string (v := f i 3) (by
      have this : Rd enc w base spare held 9 ((((List.range 5).map (f i)).drop 3).take (Tryd.prog.cellsOf 9)) := (rd_field Tryd.underlying125 (he i hi) 3 _ rfl).2
      rw [cStr] at this
      exact this)
    have e4 := rd_string (v := f i 4) (by
      have this : Rd enc w base spare held 9 ((((List.range 5).map (f i)).drop 4).take (Tryd.prog.cellsOf 9)) := (rd_field Tryd.underlying125 (he i hi) 4 _ rfl).2
      rw [cStr] at this
      exact this)
    exact Go.Deep.choose_lt (n := 5) (p := fun j s => f i j = .string s) (fun j hj => by
      have : j = 0 ∨ j = 1 ∨ j = 2 ∨ j = 3 ∨ j = 4 := by omega
      rcases this with rfl | rfl | rfl | rfl | rfl
      all_goals first | exact e0 | exact e1 | exact e2 | exact e3 | exact e4)
  obtain ⟨g, hg⟩ := Go.Deep.choose_lt each
  exact ⟨ad, n, c, g, b, off, hv, ⟨hr.max, hr.adr, fun i j hi hj => by rw [hr.cell i j hi hj, hg i hi j hj]⟩⟩
theorem strs3 {v : Value} (h : Rd enc w base spare held 50 [v]) : StrRows w 3 v := by
  obtain ⟨ad, n, c, f, b, off, hv, hr, _, he⟩ := rows_of Tryd.underlying50 (k := 3) (by kernel_rfl) (by omega) h
  have each : ∀ i, i < n → ∃ g : Nat → ByteArray, ∀ j, j < 3 → f i j = .string (g j) := fun i hi => by
    have e0 := rd_string (v := f i 0) (by
      have this : Rd enc w base spare held 9 ((((List.range 3).map (f i)).drop 0).take (Tryd.prog.cellsOf 9)) := (rd_field Tryd.underlying127 (he i hi) 0 _ rfl).2
      rw [cStr] at this
      exact this)
    have e1 := rd_string (v := f i 1) (by
      have this : Rd enc w base spare held 9 ((((List.range 3).map (f i)).drop 1).take (Tryd.prog.cellsOf 9)) := (rd_field Tryd.underlying127 (he i hi) 1 _ rfl).2
      rw [cStr] at this
      exact this)
    have e2 := rd_string (v := f i 2) (by
      have this : Rd enc w base spare held 9 ((((List.range 3).map (f i)).drop 2).take (Tryd.prog.cellsOf 9)) := (rd_field Tryd.underlying127 (he i hi) 2 _ rfl).2
      rw [cStr] at this
      exact this)
    exact Go.Deep.choose_lt (n := 3) (p := fun j s => f i j = .string s) (fun j hj => by
      have : j = 0 ∨ j = 1 ∨ j = 2 := by omega
      rcases this with rfl | rfl | rfl
      all_goals first | exact e0 | exact e1 | exact e2)
  obtain ⟨g, hg⟩ := Go.Deep.choose_lt each
  exact ⟨ad, n, c, g, b, off, hv, ⟨hr.max, hr.adr, fun i j hi hj => by rw [hr.cell i j hi hj, hg i hi j hj]⟩⟩
theorem strs2 {v : Value} (h : Rd enc w base spare held 35 [v]) : StrRows w 2 v := by
  obtain ⟨ad, n, c, f, b, off, hv, hr, _, he⟩ := rows_of Tryd.underlying35 (k := 2) (by kernel_rfl) (by omega) h
  have each : ∀ i, i < n → ∃ g : Nat → ByteArray, ∀ j, j < 2 → f i j = .string (g j) := fun i hi => by
    have e0 := rd_string (v := f i 0) (by
      have this : Rd enc w base spare held 9 ((((List.range 2).map (f i)).drop 0).take (Tryd.prog.cellsOf 9)) := (rd_field Tryd.underlying39 (he i hi) 0 _ rfl).2
      rw [cStr] at this
      exact this)
    have e1 := rd_string (v := f i 1) (by
      have this : Rd enc w base spare held 9 ((((List.range 2).map (f i)).drop 1).take (Tryd.prog.cellsOf 9)) := (rd_field Tryd.underlying39 (he i hi) 1 _ rfl).2
      rw [cStr] at this
      exact this)
    exact Go.Deep.choose_lt (n := 2) (p := fun j s => f i j = .string s) (fun j hj => by
      have : j = 0 ∨ j = 1 := by omega
      rcases this with rfl | rfl
      all_goals first | exact e0 | exact e1)
  obtain ⟨g, hg⟩ := Go.Deep.choose_lt each
  exact ⟨ad, n, c, g, b, off, hv, ⟨hr.max, hr.adr, fun i j hi hj => by rw [hr.cell i j hi hj, hg i hi j hj]⟩⟩
theorem rd_slice {t e : TypeId} {v : Value} (ht : Tryd.prog.underlying t = some (.slice e)) (h : Rd enc w base spare held t [v]) : ∃ a m c', v = .slice a m c' ∧ m ≤ 9223372036854775807 := by
  obtain ⟨fu, x, h⟩ := h
  rcases Go.Deep.open_slice ht h with ⟨hcs, _⟩ | ⟨a, len, cap, m, n, D, Pl, hcs, _, hl, hm, _⟩
  · injection hcs with hcs
    exact ⟨none, 0, 0, hcs, by omega⟩
  · injection hcs with hcs
    exact ⟨some a, len, cap, hcs, by unfold maxLen at hm; omega⟩
theorem rels {v : Value} (h : Rd enc w base spare held 119 [v]) : RelRows w v := by
  obtain ⟨ad, n, c, f, b, off, hv, hr, _, he⟩ := rows_of Tryd.underlying119 (k := 4) (by kernel_rfl) (by omega) h
  exact ⟨ad, n, c, f, b, off, hv, hr, fun i hi => rd_slice Tryd.underlying120 (by
    have this : Rd enc w base spare held 120 ((((List.range 4).map (f i)).drop 3).take (Tryd.prog.cellsOf 120)) := (rd_field Tryd.underlying122 (he i hi) 3 _ rfl).2
    rw [show Tryd.prog.cellsOf 120 = 1 by kernel_rfl] at this
    exact this)⟩
theorem conds {v : Value} (h : Rd enc w base spare held 83 [v]) : CondOk w v := by
  obtain ⟨ad, n, c, f, b, off, hv, hr, _, he⟩ := rows_of Tryd.underlying83 (k := 1) (by kernel_rfl) (by omega) h
  exact ⟨ad, n, c, f, b, off, hv, hr, fun i hi => rels (he i hi)⟩
theorem rules {v : Value} (h : Rd enc w base spare held 46 [v]) : RuleRows w v := by
  obtain ⟨ad, n, c, f, b, off, hv, hr, hc, he⟩ := rows_of Tryd.underlying46 (k := 2) (by kernel_rfl) (by omega) h
  refine ⟨ad, n, c, f, b, off, hv, hr, hc, fun i hi => ⟨rd_string (enc := enc) (w := w) (base := base) (spare := spare) (held := held) ?_, conds (enc := enc) (base := base) (spare := spare) (held := held) ?_⟩⟩
  · have this : Rd enc w base spare held 9 ((((List.range 2).map (f i)).drop 0).take (Tryd.prog.cellsOf 9)) := (rd_field Tryd.underlying85 (he i hi) 0 _ rfl).2
    rw [cStr] at this
    exact this
  · have this : Rd enc w base spare held 83 ((((List.range 2).map (f i)).drop 1).take (Tryd.prog.cellsOf 83)) := (rd_field Tryd.underlying85 (he i hi) 1 _ rfl).2
    rw [show Tryd.prog.cellsOf 83 = 1 by kernel_rfl] at this
    exact this
/-- a locale, by its sixteen cells -/
theorem loc_cells {cs : List Value} (h : Rd enc w base spare held 52 cs) : ∃ x : Nat → Value, cs = (List.range 16).map x ∧ LocOk w x := by
  have hl : cs.length = 16 := (rd_field Tryd.underlying52 h 0 _ rfl).1.trans (by kernel_rfl)
  match cs, hl with
  | [x0, x1, x2, x3, x4, x5, x6, x7, x8, x9, x10, x11, x12, x13, x14, x15], _ =>
    have s0 := rd_string (enc := enc) (w := w) (base := base) (spare := spare) (held := held) (v := x0) (by
      have this : Rd enc w base spare held 9 ((([x0, x1, x2, x3, x4, x5, x6, x7, x8, x9, x10, x11, x12, x13, x14, x15] : List Value).drop 0).take (Tryd.prog.cellsOf 9)) := (rd_field Tryd.underlying52 h 0 _ rfl).2
      rw [show Tryd.prog.cellsOf 9 = 1 by kernel_rfl] at this
      exact this)
    have s1 := rd_string (enc := enc) (w := w) (base := base) (spare := spare) (held := held) (v := x1) (by
      have this : Rd enc w base spare held 9 ((([x0, x1, x2, x3, x4, x5, x6, x7, x8, x9, x10, x11, x12, x13, x14, x15] : List Value).drop 1).take (Tryd.prog.cellsOf 9)) := (rd_field Tryd.underlying52 h 1 _ rfl).2
      rw [show Tryd.prog.cellsOf 9 = 1 by kernel_rfl] at this
      exact this)
    have s2 := rd_string (enc := enc) (w := w) (base := base) (spare := spare) (held := held) (v := x2) (by
      have this : Rd enc w base spare held 9 ((([x0, x1, x2, x3, x4, x5, x6, x7, x8, x9, x10, x11, x12, x13, x14, x15] : List Value).drop 2).take (Tryd.prog.cellsOf 9)) := (rd_field Tryd.underlying52 h 2 _ rfl).2
      rw [show Tryd.prog.cellsOf 9 = 1 by kernel_rfl] at this
      exact this)
    have r3 := rules (enc := enc) (w := w) (base := base) (spare := spare) (held := held) (v := x3) (by
      have this : Rd enc w base spare held 46 ((([x0, x1, x2, x3, x4, x5, x6, x7, x8, x9, x10, x11, x12, x13, x14, x15] : List Value).drop 3).take (Tryd.prog.cellsOf 46)) := (rd_field Tryd.underlying52 h 3 _ rfl).2
      rw [show Tryd.prog.cellsOf 46 = 1 by kernel_rfl] at this
      exact this)
    have r4 := rules (enc := enc) (w := w) (base := base) (spare := spare) (held := held) (v := x4) (by
      have this : Rd enc w base spare held 46 ((([x0, x1, x2, x3, x4, x5, x6, x7, x8, x9, x10, x11, x12, x13, x14, x15] : List Value).drop 4).take (Tryd.prog.cellsOf 46)) := (rd_field Tryd.underlying52 h 4 _ rfl).2
      rw [show Tryd.prog.cellsOf 46 = 1 by kernel_rfl] at this
      exact this)
    have l11 := strs5 (enc := enc) (w := w) (base := base) (spare := spare) (held := held) (v := x11) (by
      have this : Rd enc w base spare held 49 ((([x0, x1, x2, x3, x4, x5, x6, x7, x8, x9, x10, x11, x12, x13, x14, x15] : List Value).drop 11).take (Tryd.prog.cellsOf 49)) := (rd_field Tryd.underlying52 h 6 _ rfl).2
      rw [show Tryd.prog.cellsOf 49 = 1 by kernel_rfl] at this
      exact this)
    have u12 := strs3 (enc := enc) (w := w) (base := base) (spare := spare) (held := held) (v := x12) (by
      have this : Rd enc w base spare held 50 ((([x0, x1, x2, x3, x4, x5, x6, x7, x8, x9, x10, x11, x12, x13, x14, x15] : List Value).drop 12).take (Tryd.prog.cellsOf 50)) := (rd_field Tryd.underlying52 h 7 _ rfl).2
      rw [show Tryd.prog.cellsOf 50 = 1 by kernel_rfl] at this
      exact this)
    have d13 := strs2 (enc := enc) (w := w) (base := base) (spare := spare) (held := held) (v := x13) (by
      have this : Rd enc w base spare held 35 ((([x0, x1, x2, x3, x4, x5, x6, x7, x8, x9, x10, x11, x12, x13, x14, x15] : List Value).drop 13).take (Tryd.prog.cellsOf 35)) := (rd_field Tryd.underlying52 h 8 _ rfl).2
      rw [show Tryd.prog.cellsOf 35 = 1 by kernel_rfl] at this
      exact this)
    have m14 := strs1 (enc := enc) (w := w) (base := base) (spare := spare) (held := held) (v := x14) (by
      have this : Rd enc w base spare held 23 ((([x0, x1, x2, x3, x4, x5, x6, x7, x8, x9, x10, x11, x12, x13, x14, x15] : List Value).drop 14).take (Tryd.prog.cellsOf 23)) := (rd_field Tryd.underlying52 h 9 _ rfl).2
      rw [show Tryd.prog.cellsOf 23 = 1 by kernel_rfl] at this
      exact this)
    have m15 := strs1 (enc := enc) (w := w) (base := base) (spare := spare) (held := held) (v := x15) (by
      have this : Rd enc w base spare held 23 ((([x0, x1, x2, x3, x4, x5, x6, x7, x8, x9, x10, x11, x12, x13, x14, x15] : List Value).drop 15).take (Tryd.prog.cellsOf 23)) := (rd_field Tryd.underlying52 h 10 _ rfl).2
      rw [show Tryd.prog.cellsOf 23 = 1 by kernel_rfl] at this
      exact this)
    have hsy : Rd enc w base spare held 48 ([x5, x6, x7, x8, x9, x10] : List Value) := by
      have this : Rd enc w base spare held 48 ((([x0, x1, x2, x3, x4, x5, x6, x7, x8, x9, x10, x11, x12, x13, x14, x15] : List Value).drop 5).take (Tryd.prog.cellsOf 48)) := (rd_field Tryd.underlying52 h 5 _ rfl).2
      rw [show Tryd.prog.cellsOf 48 = 6 by kernel_rfl] at this
      exact this
    have s5 := rd_string (enc := enc) (w := w) (base := base) (spare := spare) (held := held) (v := x5) (by
      have this : Rd enc w base spare held 9 ((([x5, x6, x7, x8, x9, x10] : List Value).drop 0).take (Tryd.prog.cellsOf 9)) := (rd_field Tryd.underlying48 hsy 0 _ rfl).2
      rw [show Tryd.prog.cellsOf 9 = 1 by kernel_rfl] at this
      exact this)
    have s6 := rd_string (enc := enc) (w := w) (base := base) (spare := spare) (held := held) (v := x6) (by
      have this : Rd enc w base spare held 9 ((([x5, x6, x7, x8, x9, x10] : List Value).drop 1).take (Tryd.prog.cellsOf 9)) := (rd_field Tryd.underlying48 hsy 1 _ rfl).2
      rw [show Tryd.prog.cellsOf 9 = 1 by kernel_rfl] at this
      exact this)
    have s7 := rd_string (enc := enc) (w := w) (base := base) (spare := spare) (held := held) (v := x7) (by
      have this : Rd enc w base spare held 9 ((([x5, x6, x7, x8, x9, x10] : List Value).drop 2).take (Tryd.prog.cellsOf 9)) := (rd_field Tryd.underlying48 hsy 2 _ rfl).2
      rw [show Tryd.prog.cellsOf 9 = 1 by kernel_rfl] at this
      exact this)
    have s8 := rd_string (enc := enc) (w := w) (base := base) (spare := spare) (held := held) (v := x8) (by
      have this : Rd enc w base spare held 9 ((([x5, x6, x7, x8, x9, x10] : List Value).drop 3).take (Tryd.prog.cellsOf 9)) := (rd_field Tryd.underlying48 hsy 3 _ rfl).2
      rw [show Tryd.prog.cellsOf 9 = 1 by kernel_rfl] at this
      exact this)
    have i9 := rd_int (enc := enc) (w := w) (base := base) (spare := spare) (held := held) (v := x9) (by
      have this : Rd enc w base spare held 3 ((([x5, x6, x7, x8, x9, x10] : List Value).drop 4).take (Tryd.prog.cellsOf 3)) := (rd_field Tryd.underlying48 hsy 4 _ rfl).2
      rw [show Tryd.prog.cellsOf 3 = 1 by kernel_rfl] at this
      exact this)
    have i10 := rd_int (enc := enc) (w := w) (base := base) (spare := spare) (held := held) (v := x10) (by
      have this : Rd enc w base spare held 3 ((([x5, x6, x7, x8, x9, x10] : List Value).drop 5).take (Tryd.prog.cellsOf 3)) := (rd_field Tryd.underlying48 hsy 5 _ rfl).2
      rw [show Tryd.prog.cellsOf 3 = 1 by kernel_rfl] at this
      exact this)
    refine ⟨fun i => ([x0, x1, x2, x3, x4, x5, x6, x7, x8, x9, x10, x11, x12, x13, x14, x15] : List Value).getD i undef, rfl, ?_⟩
    exact ⟨s0, s1, s2, r3, r4, s5, s6, s7, s8, i9, i10, l11, u12, d13, m14, m15⟩
end
end Go.Proofs.YtaolbfbnjbpljaaDoor
