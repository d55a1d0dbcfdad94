/- Walks: documents from one package to the other; all pieces of a document. -/
import Derived.Test.YtkkggpahanddnaaDoorH1
import Derived.Test.YtkkggpahanddnaaDoorH2
namespace Go.Proofs.YtkkggpahanddnaaDoor
open Go.RowKit
attribute [local go_sem] Ext.cell Ext.frozen
attribute [local go_sem ↓] Go.wp_at_zero Go.wp_at_succ

/-- a document is answered: its items in a row of the call's own -/
def DocPost (w : World) (h : ByteArray) (xs : List ByteArray) (t : ByteArray) (e : Ending) (w' : World) : Prop :=
  ∃ ad c, e = .returned (.agg #[.string h, .slice ad xs.length c, .string t]) ∧ w'.ownsRow w.heap.size 9 1 (.slice ad xs.length c) xs.length (strs xs) ∧ ad ≠ none ∧ Below w.heap.size w w'

/-- a slice of strings is answered, in a row of the call's own -/
def SlPost (w : World) (l : List ByteArray) (e : Ending) (w' : World) : Prop :=
  ∃ ad c, e = .returned (.slice ad l.length c) ∧ w'.ownsRow w.heap.size 9 1 (.slice ad l.length c) l.length (strs l) ∧ Below w.heap.size w w'

set_option maxRecDepth 20000 in
set_option maxHeartbeats 4000000 in
theorem from_any (h t : ByteArray) (ad : Option Addr) (n c : Nat) (w : World) :
    Calls Tryd.prog 24 #[.agg #[.string h, .slice ad n c, .string t]] w fun e w' => e = .returned (.agg #[.string h, .slice ad n c, .string t]) ∧ Below w.heap.size w w' := by
  go_enter Tryd.func24, Tryd.ntmps24
  go_wp2_with fail
  exact bodyPost_ret (v := .agg #[.string h, .slice ad n c, .string t]) (by simp [results, Tryd.f24, go_sem]) rfl ⟨rfl, (((Below.refl _ _).alloc (Nat.le_refl _) _).alloc (by simp) _)⟩
set_option maxRecDepth 20000 in
set_option maxHeartbeats 4000000 in
theorem own_any (h t : ByteArray) (ad : Option Addr) (n c : Nat) (xs : List ByteArray) (w : World) (hx : Sl w ad n (strs xs)) (hc : ad = none → c = 0) (hr : n * 16 ≤ 140737488355328) :
    Calls Tryd.prog 13 #[.agg #[.string h, .slice ad n c, .string t]] w (DocPost w h xs t) := by
  have hl : xs.length = n := by have := hx.len; rw [strs_length] at this; exact this
  have HX := Lib.hid hx
  have HC := Lib.hid hc
  have HL := Lib.hid hl
  clear hx hc hl
  go_enter Tryd.func13, Tryd.ntmps13
  go_wp2_with fail
  refine wp_at_worldH ?_
  intro W hW
  have hB : Hid (Below w.heap.size w W) := by rw [hW]; exact (((Below.refl _ _).alloc (Nat.le_refl _) _).alloc (by simp) _)
  have k0 : W.cell? ⟨w.heap.size, 0, none⟩ = some (.string h) := by rw [hW]; simp [go_sem]
  have k1 : W.cell? ⟨w.heap.size, 1, none⟩ = some (.slice ad n c) := by rw [hW]; simp [go_sem]
  have k2 : W.cell? ⟨w.heap.size, 2, none⟩ = some (.string t) := by rw [hW]; simp [go_sem]
  have kf : W.frozen? ⟨w.heap.size + 1, 0, none⟩ = false := by rw [hW]; simp [go_sem]
  have ks : W.heap[w.heap.size + 1]? = some (.cells #[.string { data := #[] }, .slice none 0 0, .string { data := #[] }] 31 (0, 0)) := by rw [hW]; exact row_new2 _ _ _ _
  have hz : w.heap.size + 1 < W.heap.size := by rw [hW]; simp
  clear hW
  go_region_held3 (fun w' => w'.cell? ⟨w.heap.size, 0, none⟩ = some (.string h) ∧ w'.cell? ⟨w.heap.size, 1, none⟩ = some (.slice ad n c) ∧ w'.cell? ⟨w.heap.size, 2, none⟩ = some (.string t)) (go_keep)
    ((refine step_app_strs (by rfl) _ _ (by rfl) W.heap.size (some ⟨W.heap.size, 0, none⟩) 0 0 [] (by rfl) (Own.below (own_empty W 9) (below_drew1 _)) ad n c xs (by rfl) (HX.out.below (show Bel w _ from Bel.drew (Bel.alloc hB.out _))) HC.out (by omega) (by simp <;> omega) ?_; intro ad' c' w' hown hg hnn; have hb5 := app_below hg; have e0 := (hb5.cell (p := ⟨w.heap.size, 0, none⟩) (by show w.heap.size < _; omega)).trans k0; have e1 := (hb5.cell (p := ⟨w.heap.size, 1, none⟩) (by show w.heap.size < _; omega)).trans k1; have e2 := (hb5.cell (p := ⟨w.heap.size, 2, none⟩) (by show w.heap.size < _; omega)).trans k2; have ks5 := (hb5.block (w.heap.size + 1) hz).trans ks; have c0 := row_cells ks5 0; have c1 := row_cells ks5 1; have c2 := row_cells ks5 2; have f0 := row_frozen ks5 0; have f1 := row_frozen ks5 1; have f2 := row_frozen ks5 2; have hz5 := hb5.size; have HB5 := Lib.hid hb5; have HK5 := Lib.hid ks5; have HO5 := Lib.hid hown; clear hown hg hb5 ks5))
  have kr := row_set (row_set (row_set HK5.out 0 (.string h)) 1 (.slice ad' n c')) 2 (.string t)
  have g0 := (row_cells kr 0).trans rfl
  have g1 := (row_cells kr 1).trans rfl
  have g2 := (row_cells kr 2).trans rfl
  have HRES : Hid (Below w.heap.size w (((w'.setCell ⟨w.heap.size + 1, 0, none⟩ (.string h)).setCell ⟨w.heap.size + 1, 1, none⟩ (.slice ad' n c')).setCell ⟨w.heap.size + 1, 2, none⟩ (.string t))) := by
    have h5 : Below w.heap.size w w' := hB.out.trans (HB5.out.mono (by omega))
    exact ((h5.setCell (p := ⟨w.heap.size + 1, 0, none⟩) (by show w.heap.size ≤ w.heap.size + 1; omega) _).setCell (p := ⟨w.heap.size + 1, 1, none⟩) (by show w.heap.size ≤ w.heap.size + 1; omega) _).setCell (p := ⟨w.heap.size + 1, 2, none⟩) (by show w.heap.size ≤ w.heap.size + 1; omega) _
  have HOW : Hid ((((w'.setCell ⟨w.heap.size + 1, 0, none⟩ (.string h)).setCell ⟨w.heap.size + 1, 1, none⟩ (.slice ad' n c')).setCell ⟨w.heap.size + 1, 2, none⟩ (.string t)).ownsRow w.heap.size 9 1 (.slice ad' n c') n (strs xs)) := by
    have h5 := HO5.out
    rw [Nat.zero_add, List.nil_append] at h5
    exact own_set (own_set (own_set (Own.rebase h5 (by omega)) HK5.out (by decide) 0 _) (row_set HK5.out 0 _) (by decide) 1 _) (row_set (row_set HK5.out 0 _) 1 _) (by decide) 2 _
  clear kr c0 c1 c2 f0 f1 f2 e0 e1 e2 k0 k1 k2 kf ks
  go_wp2_with fail
  refine bodyPost_ret (v := .agg #[.string h, .slice ad' n c', .string t]) (by simp [results, Tryd.f13, go_sem, g0, g1, g2]) rfl ?_
  rw [← HL.out] at HOW HRES ⊢
  exact ⟨ad', c', rfl, HOW.out, fun e => by (have := hnn e; cases this), HRES.out⟩
theorem all_end {w W w6 : World} {h t : ByteArray} {xs : List ByteArray} {n c6 : Nat} {ad6 : Option Addr} (hB : Below w.heap.size w W) (hB6 : Below W.heap.size W w6) (hz : w.heap.size ≤ W.heap.size) (hl : xs.length = n)
    (ho : w6.ownsRow W.heap.size 9 1 (.slice ad6 (1 + n + 1) c6) (1 + n + 1) ([.string h] ++ strs xs ++ strs [t])) : SlPost w (allV h xs t) (.returned (.slice ad6 (1 + n + 1) c6)) w6 := by
  have e : (allV h xs t).length = 1 + n + 1 := by rw [allV_len]; omega
  refine ⟨ad6, c6, by rw [e], ?_, hB.trans (hB6.mono hz)⟩
  rw [e]
  have e2 : strs (allV h xs t) = [.string h] ++ strs xs ++ strs [t] := by simp [allV, strs]
  rw [e2]
  exact Own.rebase ho hz
set_option maxRecDepth 20000 in
set_option maxHeartbeats 8000000 in
theorem all_any (h t : ByteArray) (ad : Option Addr) (n c : Nat) (xs : List ByteArray) (w : World) (hx : Sl w ad n (strs xs)) (hc : ad = none → c = 0) (hr : n * 16 ≤ 140737488351232) :
    Calls Tryd.prog 33 #[.agg #[.string h, .slice ad n c, .string t]] w (SlPost w (allV h xs t)) := by
  have hl : xs.length = n := by have := hx.len; rw [strs_length] at this; exact this
  have HX := Lib.hid hx
  have HC := Lib.hid hc
  have HL := Lib.hid hl
  clear hx hc hl
  go_enter Tryd.func33, Tryd.ntmps33
  go_wp2_with fail
  refine wp_at_worldH ?_
  intro W hW
  have hB : Hid (Below w.heap.size w W) := by rw [hW]; exact ((Below.refl _ _).alloc (Nat.le_refl _) _)
  have k0 : W.cell? ⟨w.heap.size, 0, none⟩ = some (.string h) := by rw [hW]; simp [go_sem]
  have k1 : W.cell? ⟨w.heap.size, 1, none⟩ = some (.slice ad n c) := by rw [hW]; simp [go_sem]
  have k2 : W.cell? ⟨w.heap.size, 2, none⟩ = some (.string t) := by rw [hW]; simp [go_sem]
  have hz : w.heap.size < W.heap.size := by rw [hW]; simp
  clear hW
  go_region_held3 (fun w' => w'.cell? ⟨w.heap.size, 0, none⟩ = some (.string h) ∧ w'.cell? ⟨w.heap.size, 1, none⟩ = some (.slice ad n c) ∧ w'.cell? ⟨w.heap.size, 2, none⟩ = some (.string t)) (go_keep)
    (first | (refine step_app_strs (by rfl) (.tmp 5) (.tmp 7) (by rfl) W.heap.size _ 1 1 [.string h] (by rfl) (own_one_d W 9 _) ad n c xs (by rfl) (HX.out.below (show Bel w _ from Bel.drew (Bel.alloc hB.out _))) HC.out (by omega) (by simp <;> omega) ?_; intro ad' c' w' hown hg hnn; have hb5 := app_below hg; have e0 := (hb5.cell (p := ⟨w.heap.size, 0, none⟩) hz).trans k0; have e1 := (hb5.cell (p := ⟨w.heap.size, 1, none⟩) hz).trans k1; have e2 := (hb5.cell (p := ⟨w.heap.size, 2, none⟩) hz).trans k2; have hz5 := hb5.size; have HB5 := Lib.hid hb5; have HO5 := Lib.hid hown; clear hown hg hb5) | (refine step_app_strs (by rfl) (.tmp 5) (.tmp 7) (by rfl) W.heap.size _ 1 1 [.string h] (by rfl) (own_one_a W 9 _ _) ad n c xs (by rfl) (HX.out.below (show Bel w _ from Bel.drew (Bel.alloc (Bel.alloc hB.out _) _))) HC.out (by omega) (by simp <;> omega) ?_; intro ad' c' w' hown hg hnn; have hb5 := app_below2 (Nat.le_refl _) hg; have e0 := (hb5.cell (p := ⟨w.heap.size, 0, none⟩) hz).trans k0; have e1 := (hb5.cell (p := ⟨w.heap.size, 1, none⟩) hz).trans k1; have e2 := (hb5.cell (p := ⟨w.heap.size, 2, none⟩) hz).trans k2; have hz5 := hb5.size; have HB5 := Lib.hid hb5; have HO5 := Lib.hid hown; have HS5 := Lib.hid (app_side hg); clear hown hg hb5) | (refine step_app_strs (by rfl) (.tmp 5) (.tmp 7) (by rfl) W.heap.size _ 1 1 [.string h] (by rfl) (own_one_b W 9 _ _) ad n c xs (by rfl) (HX.out.below (show Bel w _ from Bel.drew (Bel.alloc (Bel.alloc hB.out _) _))) HC.out (by omega) (by simp <;> omega) ?_; intro ad' c' w' hown hg hnn; have hb5 := app_below2 (by omega) hg; have e0 := (hb5.cell (p := ⟨w.heap.size, 0, none⟩) hz).trans k0; have e1 := (hb5.cell (p := ⟨w.heap.size, 1, none⟩) hz).trans k1; have e2 := (hb5.cell (p := ⟨w.heap.size, 2, none⟩) hz).trans k2; have hz5 := hb5.size; have HB5 := Lib.hid hb5; have HO5 := Lib.hid hown; have HS5 := Lib.hid (app_side2 hg); clear hown hg hb5) | (refine step_app_strs (by rfl) (.tmp 8) (.tmp 11) (by rfl) W.heap.size ad' (1 + n) c' ([.string h] ++ strs xs) (by rfl) (HO5.out) _ 1 1 [t] (by rfl) (sl_one HS5.out) (fun h => by cases h) (by omega) hz5 ?_; intro ad6 c6 w6 hown6 hg6 hnn6; have hb6 : Below W.heap.size W w6 := (HB5.out).grown hg6 hz5 (fun q hq => (World.ownsRow.lt HO5.out q hq).1); have e0 := (hb6.cell (p := ⟨w.heap.size, 0, none⟩) hz).trans k0; have e1 := (hb6.cell (p := ⟨w.heap.size, 1, none⟩) hz).trans k1; have e2 := (hb6.cell (p := ⟨w.heap.size, 2, none⟩) hz).trans k2; have HB6 := Lib.hid hb6; have HO6 := Lib.hid hown6; clear hown6 hg6 hb6) | (refine step_app_strs (by rfl) (.tmp 8) (.tmp 11) (by rfl) W.heap.size ad' (1 + n) c' ([.string h] ++ strs xs) (by rfl) (World.ownsRow.alloc HO5.out _) _ 1 1 [t] (by rfl) (sl_one (row_new _ _ _)) (fun h => by cases h) (by omega) (by simp; omega) ?_; intro ad6 c6 w6 hown6 hg6 hnn6; have hb6 : Below W.heap.size W w6 := (HB5.out.alloc hz5 _).grown hg6 (by simp; omega) (fun q hq => (World.ownsRow.lt HO5.out q hq).1); have e0 := (hb6.cell (p := ⟨w.heap.size, 0, none⟩) hz).trans k0; have e1 := (hb6.cell (p := ⟨w.heap.size, 1, none⟩) hz).trans k1; have e2 := (hb6.cell (p := ⟨w.heap.size, 2, none⟩) hz).trans k2; have HB6 := Lib.hid hb6; have HO6 := Lib.hid hown6; clear hown6 hg6 hb6))
  all_goals go_wp2_with fail
  all_goals go_ret
  all_goals exact all_end hB.out HB6.out (by omega) HL.out HO6.out
end Go.Proofs.YtkkggpahanddnaaDoor
