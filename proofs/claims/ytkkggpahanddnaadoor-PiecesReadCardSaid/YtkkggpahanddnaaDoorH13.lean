/- Walks: the program's With and Apply. -/
import Derived.Test.YtkkggpahanddnaaDoorH12
namespace Go.Proofs.YtkkggpahanddnaaDoor
open Go.RowKit
attribute [local go_sem] Ext.cell Ext.frozen
attribute [local go_sem ↓] Go.wp_at_zero Go.wp_at_succ

theorem SetPost.below {base B g c : Nat} {l : List ByteArray} {w w' w0 : World} {e : Ending} {b0 : Nat} (h : SetPost base B g c l w e w') (hb : Below b0 w0 w) (hB : b0 ≤ B) (hg : b0 ≤ g) : Below b0 w0 w' := by
  obtain ⟨_, _, b, o, v, hbo, rfl⟩ := h
  exact hb.setCell (p := ⟨b, o, none⟩) (by show b0 ≤ b; rcases hbo with rfl | rfl <;> assumption) v
theorem SetPost.block {base B g c : Nat} {l : List ByteArray} {w w' : World} {e : Ending} (h : SetPost base B g c l w e w') (k : Nat) (h1 : k ≠ B) (h2 : k ≠ g) : w'.heap[k]? = w.heap[k]? := by
  obtain ⟨_, _, b, o, v, hbo, rfl⟩ := h
  exact Below.heap_setCell w ⟨b, o, none⟩ v k (by show k ≠ b; rcases hbo with rfl | rfl <;> assumption)
set_option maxRecDepth 20000 in
set_option maxHeartbeats 4000000 in
theorem pwith_no (h t : ByteArray) (ad : Option Addr) (n c : Nat) (i : Int) (s : ByteArray) (w : World) (hn : n ≤ 100000) (hi : i < 0 ∨ (n : Int) + 2 ≤ i) :
    Calls Tryd.prog 19 #[.agg #[.string h, .slice ad n c, .string t], .int .i64 i, .string s] w fun e w' => e = .returned (.tuple #[.agg #[.string ⟨#[]⟩, .slice none 0 0, .string ⟨#[]⟩], .int .i64 2]) ∧ Below w.heap.size w w' := by
  by_cases h0 : i < 0
  · clear hi
    go_enter Tryd.func19, Tryd.ntmps19
    go_wp2_with fail
    exact bodyPost_ret (v := .tuple #[.agg #[.string ⟨#[]⟩, .slice none 0 0, .string ⟨#[]⟩], .int .i64 2]) (by simp [results, Tryd.f19, go_sem]) rfl ⟨rfl, ((Below.refl _ _).alloc (Nat.le_refl _) _).alloc (by simp) _⟩
  · have h2 : (n : Int) + 1 < i := by omega
    clear hi
    go_enter Tryd.func19, Tryd.ntmps19
    go_wp2_with fail
    exact bodyPost_ret (v := .tuple #[.agg #[.string ⟨#[]⟩, .slice none 0 0, .string ⟨#[]⟩], .int .i64 2]) (by simp [results, Tryd.f19, go_sem]) rfl ⟨rfl, ((Below.refl _ _).alloc (Nat.le_refl _) _).alloc (by simp) _⟩
set_option maxRecDepth 20000 in
set_option maxHeartbeats 4000000 in
theorem pwith_yes (h t : ByteArray) (A : Addr) (n c : Nat) (xs : List ByteArray) (i : Nat) (s : ByteArray) (h' : ByteArray) (xs' : List ByteArray) (t' : ByteArray) (w : World) (hx : Sl w (some A) n (strs xs)) (hn : n ≤ 10000) (hi : i < n + 2) (he : (allV h xs t).set i s = allV h' xs' t') :
    Calls Tryd.prog 19 #[.agg #[.string h, .slice (some A) n c, .string t], .int .i64 (i : Int), .string s] w (DocErr w h' xs' t') := by
  have hl : xs.length = n := by have := hx.len; rwa [strs_length] at this
  have HX := Lib.hid hx
  have HL := Lib.hid hl
  have HE := Lib.hid he
  have hgt : ¬ (n : Int) + 1 < (i : Int) := by omega
  have hgt2 : ¬ n + 1 < i := by omega
  clear hx hl he
  go_enter Tryd.func19, Tryd.ntmps19
  go_wp2_with fail
  refine (clone_any A n c xs _ ((HX.out.alloc _).alloc _) (by omega)).mono ?_
  rintro e w1 ⟨g, c1, rfl, hown, hg1, hg2, hb1⟩
  have k0 : w1.heap[w.heap.size]? = some (.cells #[.string h, .slice (some A) n c, .string t] 31 (0, 0)) := (hb1.block w.heap.size (by simp; omega)).trans ((Below.heap_alloc _ _ _ (by simp)).trans (row_new _ _ _))
  have kr : w1.heap[w.heap.size + 1]? = some (.cells #[.string ⟨#[]⟩, .slice none 0 0, .string ⟨#[]⟩] 31 (0, 0)) := (hb1.block (w.heap.size + 1) (by simp)).trans (row_new2 _ _ _ _)
  have q0 := row_cells k0 0
  have q1 := row_cells k0 1
  have q2 := row_cells k0 2
  have f1 := row_frozen k0 1
  have hgz : w.heap.size + 1 < g := by simp at hg1; omega
  have HBX : Hid (DocBox (w1.setCell ⟨w.heap.size, 1, none⟩ (.slice (some ⟨g, 0, none⟩) n c1)) w.heap.size w.heap.size g c1 (allV h xs t)) := by
    refine ⟨h, xs, t, rfl, ?_, ?_⟩
    · rw [HL.out]; exact row_set k0 1 _
    · rw [HL.out]; exact own_set (own_rebase hown (by simp; omega)) k0 (by decide) 1 _
  have HB1 : Hid (Below w.heap.size w (w1.setCell ⟨w.heap.size, 1, none⟩ (.slice (some ⟨g, 0, none⟩) n c1))) := ((((Below.refl _ _).alloc (Nat.le_refl _) _).alloc (by simp) _).trans (hb1.mono (by simp; omega))).setCell (p := ⟨w.heap.size, 1, none⟩) (Nat.le_refl _) _
  have HKR : Hid ((w1.setCell ⟨w.heap.size, 1, none⟩ (.slice (some ⟨g, 0, none⟩) n c1)).heap[w.heap.size + 1]? = some (.cells #[.string ⟨#[]⟩, .slice none 0 0, .string ⟨#[]⟩] 31 (0, 0))) := (Below.heap_setCell w1 ⟨w.heap.size, 1, none⟩ _ (w.heap.size + 1) (by show w.heap.size + 1 ≠ w.heap.size; omega)).trans kr
  clear hown hb1 k0 kr hg1 hg2
  go_wp2_with fail
  refine (set_box w.heap.size w.heap.size g c1 i (allV h xs t) s _ HBX.out (by rw [allV_len, HL.out]; exact hi) (by rw [allV_len, HL.out]; omega)).mono ?_
  intro e w2 hst
  have HST := Lib.hid hst
  obtain rfl := hst.1
  obtain ⟨a, xs2, t2, he2, hb2, ho2⟩ := hst.2.1
  rw [HE.out] at he2
  obtain ⟨rfl, rfl, rfl⟩ := allV_inj he2
  have g0 := row_cells hb2 0
  have g1 := row_cells hb2 1
  have g2 := row_cells hb2 2
  have kr2 := (hst.block (w.heap.size + 1) (by omega) (by omega)).trans HKR.out
  have r0 := row_cells kr2 0
  have r1 := row_cells kr2 1
  have r2 := row_cells kr2 2
  have z0 := row_frozen kr2 0
  have z1 := row_frozen kr2 1
  have z2 := row_frozen kr2 2
  have HB2 : Hid (Below w.heap.size w w2) := hst.below HB1.out (Nat.le_refl _) (by omega)
  have HK2 := Lib.hid kr2
  have HO2 := Lib.hid ho2
  clear hst hb2 ho2 kr2 q0 q1 q2 f1 he2
  go_wp2_with fail
  obtain ⟨y0, y1, y2⟩ := doc_set HK2.out (.string h') (.slice (some ⟨g, 0, none⟩) xs'.length c1) (.string t')
  exact bodyPost_ret (v := .tuple #[.agg #[.string h', .slice (some ⟨g, 0, none⟩) xs'.length c1, .string t'], .int .i64 0]) (by simp [results, Tryd.f19, go_sem, y0, y1, y2]) rfl ⟨some ⟨g, 0, none⟩, c1, rfl, own_set3 HO2.out HK2.out (by decide) _ _ _, fun e => (by cases e), below_set3 HB2.out (by omega) _ _ _⟩
end Go.Proofs.YtkkggpahanddnaaDoor
