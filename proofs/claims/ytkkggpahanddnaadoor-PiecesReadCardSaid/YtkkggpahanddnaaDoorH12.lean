/- Walks: the program's documents: Clone, set, With. -/
import Derived.Test.YtkkggpahanddnaaDoorH11
namespace Go.Proofs.YtkkggpahanddnaaDoor
open Go.RowKit
attribute [local go_sem] Ext.cell Ext.frozen
attribute [local go_sem ↓] Go.wp_at_zero Go.wp_at_succ

theorem own_none {w : World} {base : Nat} {E : TypeId} {size : Nat} {ad : Option Addr} {n c : Nat} {xs : List Value} (h : w.ownsRow base E size (.slice ad n c) n xs) : ad = none → c = 0 := by
  intro e
  subst e
  rcases h.2 with ⟨e, _⟩ | ⟨g, cap, cur, e, _⟩
  · exact (Value.slice.inj e).2.2
  · cases (Value.slice.inj e).1
theorem own_some {w : World} {base : Nat} {E : TypeId} {size : Nat} {ad : Option Addr} {n c : Nat} {xs : List Value} (h : w.ownsRow base E size (.slice ad n c) n xs) (ha : ad ≠ none) : ∃ g, ad = some ⟨g, 0, none⟩ ∧ base ≤ g ∧ g < w.heap.size := by
  rcases h.2 with ⟨e, _⟩ | ⟨g, cap, cur, e, h2, h3, _⟩
  · exact absurd (Value.slice.inj e).1 ha
  · exact ⟨g, (Value.slice.inj e).1, h2, (Array.getElem?_eq_some_iff.1 h3).1⟩
set_option maxRecDepth 20000 in
set_option maxHeartbeats 4000000 in
theorem clone_any (A : Addr) (n c : Nat) (xs : List ByteArray) (w : World) (hx : Sl w (some A) n (strs xs)) (hr : n * 16 ≤ 140737488355328) :
    Calls Tryd.prog 35 #[.slice (some A) n c] w fun e w' => ∃ g c', e = .returned (.slice (some ⟨g, 0, none⟩) n c') ∧ w'.ownsRow w.heap.size 9 1 (.slice (some ⟨g, 0, none⟩) n c') n (strs xs) ∧ w.heap.size ≤ g ∧ g < w'.heap.size ∧ Below w.heap.size w w' := by
  have hl : xs.length = n := by have := hx.len; rwa [strs_length] at this
  have HX := Lib.hid hx
  have HL := Lib.hid hl
  have hnil := fun w => Lib.run_eql_slice_nil (P := Tryd.prog) w 22 9 (some A) n c 0 0 Tryd.underlying22
  simp only [Option.isNone_some] at hnil
  clear hx hl
  go_enter Tryd.func35, Tryd.ntmps35
  go_wp2_with (at_builtin; refine wpList_app_strs rfl _ _ rfl w.heap.size (some ⟨w.heap.size, 0, none⟩) 0 0 [] rfl (own_empty w 9) (some A) n c xs rfl (HX.out.alloc _) (fun h => by cases h) (by omega) (by simp) ?_; intro ad' c' w' hown hg hnn; have HO := Lib.hid hown; have HG := Lib.hid hg; have hzz := hg.size; clear hown hg)
  go_ret
  have h1 := HO.out
  rw [Nat.zero_add, List.nil_append] at h1
  have hb : Below w.heap.size w w' := ((Below.refl w.heap.size w).alloc (Nat.le_refl _) _).grown HG.out (by simp) (fun k hk => by simp [Value.ownBlock] at hk; omega)
  obtain ⟨g, rfl, hg1, hg2⟩ := own_some h1 (fun e => by have := hnn e; cases this)
  exact ⟨g, c', rfl, h1, hg1, hg2, hb⟩
theorem set_any_0 (B g n c : Nat) (h t s : ByteArray) (w : World) (hb : w.heap[B]? = some (.cells #[.string h, .slice (some ⟨g, 0, none⟩) n c, .string t] 31 (0, 0))) :
    Calls Tryd.prog 36 #[.pointer (some ⟨B, 0, none⟩), .int .i64 0, .string s] w fun e w' => e = .returned (.tuple #[]) ∧ w' = w.setCell ⟨B, 0, none⟩ (.string s) := by
  have c0 := row_cells hb 0
  have c1 := row_cells hb 1
  have c2 := row_cells hb 2
  have f0 := row_frozen hb 0
  have HB := Lib.hid hb
  clear hb
  go_enter Tryd.func36, Tryd.ntmps36
  go_wp2_with fail
  go_end0
  exact ⟨rfl, rfl⟩
theorem set_any_last (B g n c : Nat) (h t s : ByteArray) (w : World) (hn : n ≤ 1000000) (hb : w.heap[B]? = some (.cells #[.string h, .slice (some ⟨g, 0, none⟩) n c, .string t] 31 (0, 0))) :
    Calls Tryd.prog 36 #[.pointer (some ⟨B, 0, none⟩), .int .i64 ((n : Int) + 1), .string s] w fun e w' => e = .returned (.tuple #[]) ∧ w' = w.setCell ⟨B, 2, none⟩ (.string s) := by
  have c0 := row_cells hb 0
  have c1 := row_cells hb 1
  have c2 := row_cells hb 2
  have f2 := row_frozen hb 2
  have h0 : (((n : Int) + 1) == 0) = false := by simp; omega
  have h1 : ¬ ((n : Int) + 1) = 0 := by omega
  have HB := Lib.hid hb
  clear hb
  go_enter Tryd.func36, Tryd.ntmps36
  go_wp2_with fail
  go_end0
  exact ⟨rfl, rfl⟩
theorem set_any_mid (B g n c j : Nat) (h t s : ByteArray) (xs : List Value) (base : Nat) (w : World) (hn : n ≤ 1000000) (hj : j < n) (hb : w.heap[B]? = some (.cells #[.string h, .slice (some ⟨g, 0, none⟩) n c, .string t] 31 (0, 0)))
    (ho : w.ownsRow base 9 1 (.slice (some ⟨g, 0, none⟩) n c) n xs) :
    Calls Tryd.prog 36 #[.pointer (some ⟨B, 0, none⟩), .int .i64 ((j : Int) + 1), .string s] w fun e w' => e = .returned (.tuple #[]) ∧ w' = w.setCell ⟨g, j, none⟩ (.string s) := by
  have c0 := row_cells hb 0
  have c1 := row_cells hb 1
  have c2 := row_cells hb 2
  have h0 : (((j : Int) + 1) == 0) = false := by simp; omega
  have h1 : ¬ ((j : Int) + 1) = 0 := by omega
  have h2 : (((j : Int) + 1) == (n : Int) + 1) = false := by simp; omega
  have h3 : ¬ ((j : Int) = (n : Int)) := by omega
  have h4 : ¬ (j = n) := by omega
  obtain ⟨e1, e2⟩ := own_cell ho j hj
  have hix := fun W => (own_slat ho (by omega)).ix (c := c) 22 9 Tryd.underlying22 cellsS hj (W := W)
  simp only [Nat.zero_add] at hix
  have HB := Lib.hid hb
  clear hb ho
  go_enter Tryd.func36, Tryd.ntmps36
  go_wp2_with fail
  go_end0
  exact ⟨rfl, rfl⟩
/-- a variable that holds a document with a row of items of its own -/
def DocBox (w : World) (base B g c : Nat) (l : List ByteArray) : Prop :=
  ∃ h xs t, l = allV h xs t ∧ w.heap[B]? = some (.cells #[.string h, .slice (some ⟨g, 0, none⟩) xs.length c, .string t] 31 (0, 0)) ∧ w.ownsRow base 9 1 (.slice (some ⟨g, 0, none⟩) xs.length c) xs.length (strs xs)
theorem DocBox.lt {w : World} {base B g c : Nat} {l} (h : DocBox w base B g c l) : B < w.heap.size := by
  obtain ⟨_, _, _, _, hb, _⟩ := h
  exact (Array.getElem?_eq_some_iff.1 hb).1
theorem DocBox.row {w : World} {base B g c : Nat} {l} (h : DocBox w base B g c l) : base ≤ g ∧ g ≠ B := by
  obtain ⟨_, _, _, _, hb, ho⟩ := h
  obtain ⟨g', e, h1, _⟩ := own_some ho (fun e => by cases e)
  injection e with e
  injection e with e
  subst e
  have := own_other ho hb (by decide)
  exact ⟨h1, fun e => this (by rw [e]; rfl)⟩
theorem DocBox.below {w w' : World} {base B g c : Nat} {l} (h : DocBox w base B g c l) (hb : Below w.heap.size w w') : DocBox w' base B g c l := by
  have hB := h.lt
  obtain ⟨a, xs, t, e, h1, h2⟩ := h
  exact ⟨a, xs, t, e, (hb.block B hB).trans h1, Own.below h2 hb⟩
/-- what set does: one store, into the variable or its row -/
def SetPost (base B g c : Nat) (l : List ByteArray) (w : World) (e : Ending) (w' : World) : Prop :=
  e = .returned (.tuple #[]) ∧ DocBox w' base B g c l ∧ ∃ b o v, (b = B ∨ b = g) ∧ w' = w.setCell ⟨b, o, none⟩ v
theorem set_box (base B g c j : Nat) (l : List ByteArray) (s : ByteArray) (w : World) (h : DocBox w base B g c l) (hj : j < l.length) (hl : l.length ≤ 100000) :
    Calls Tryd.prog 36 #[.pointer (some ⟨B, 0, none⟩), .int .i64 (j : Int), .string s] w (SetPost base B g c (l.set j s) w) := by
  obtain ⟨a, xs, t, rfl, hb, ho⟩ := h
  rw [allV_len] at hj hl
  cases j with
  | zero =>
    refine (set_any_0 B g xs.length c a t s w hb).mono ?_
    rintro e w' ⟨rfl, rfl⟩
    exact ⟨rfl, ⟨s, xs, t, allV_set_0 .., row_set hb 0 _, own_set ho hb (by decide) 0 _⟩, _, _, _, .inl rfl, rfl⟩
  | succ j =>
    rw [show ((j + 1 : Nat) : Int) = (j : Int) + 1 by omega]
    by_cases hm : j < xs.length
    · refine (set_any_mid B g xs.length c j a t s (strs xs) base w (by omega) hm hb ho).mono ?_
      rintro e w' ⟨rfl, rfl⟩
      have hgB := (DocBox.row ⟨a, xs, t, rfl, hb, ho⟩).2
      refine ⟨rfl, ⟨a, xs.set j s, t, allV_set_mid a xs t s hm, ?_, ?_⟩, _, _, _, .inr rfl, rfl⟩
      · rw [List.length_set]
        exact (Below.heap_setCell w ⟨g, j, none⟩ _ B (by show B ≠ g; exact fun e => hgB e.symm)).trans hb
      · have := own_store ho j hm (.string s)
        rw [strs_set] at this
        rw [List.length_set]
        exact this
    · obtain rfl : j = xs.length := by omega
      refine (set_any_last B g xs.length c a t s w (by omega) hb).mono ?_
      rintro e w' ⟨rfl, rfl⟩
      exact ⟨rfl, ⟨a, xs, s, allV_set_last .., row_set hb 2 _, own_set ho hb (by decide) 2 _⟩, _, _, _, .inl rfl, rfl⟩
end Go.Proofs.YtkkggpahanddnaaDoor
