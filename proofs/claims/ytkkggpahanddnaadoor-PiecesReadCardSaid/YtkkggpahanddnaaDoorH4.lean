/- Walks: a document of pieces (the reference's Of). -/
import Derived.Test.YtkkggpahanddnaaDoorH3
namespace Go.Proofs.YtkkggpahanddnaaDoor
open Go.RowKit
attribute [local go_sem] Ext.cell Ext.frozen
attribute [local go_sem ↓] Go.wp_at_zero Go.wp_at_succ

/-- a row of the call's own that holds something -/
theorem own_parts {w : World} {base : Nat} {E : TypeId} {ad : Option Addr} {n c : Nat} {xs : List Value} (h : w.ownsRow base E 1 (.slice ad n c) n xs) (hn : 0 < n) :
    ∃ g, ad = some ⟨g, 0, none⟩ ∧ base ≤ g ∧ g < w.heap.size ∧ n ≤ c ∧ c ≤ 9223372036854775807 ∧ SlAt w (some ⟨g, 0, none⟩) n xs g 0 ∧ (∃ cur : Array Value, w.heap[g]? = some (.cells cur E (0, 0)) ∧ c = cur.size ∧ cur.toList.take n = xs) := by
  have hl : xs.length = n := by have := h.1; omega
  obtain ⟨_, ⟨h1, h2⟩ | ⟨g, cap, cur, h1, h2, h3, h4, h5, h6, h7⟩⟩ := h
  · omega
  · injection h1 with e1 e2 e3
    subst e1
    subst e3
    have hg : g < w.heap.size := (Array.getElem?_eq_some_iff.1 h3).1
    refine ⟨g, rfl, h2, hg, h4, by unfold maxLen at h5; omega, ⟨hl, by unfold maxLen at h5; omega, fun _ => rfl, fun i hi => ?_⟩, cur, h3, by omega, by simpa using h7⟩
    have hi' : i < cur.size := by omega
    have hx : xs.getD i undef = cur[i] := by
      rw [← h7]
      simp only [List.getD, Nat.mul_one]
      rw [List.getElem?_take, if_pos hi]
      simp [hi']
    rw [hx]
    simp [World.cell?, h3, hi']
theorem slat_mid {w : World} {g k : Nat} {h t : ByteArray} {xs : List ByteArray} (hs : SlAt w (some ⟨g, 0, none⟩) (k + 1) (strs (allV h xs t)) g 0) (hl : xs.length + 1 = k) : Sl w (some ⟨g, 1, none⟩) (k - 1) (strs xs) :=
  ⟨g, 1, ⟨by rw [strs_length]; omega, by have := hs.max; omega, fun _ => rfl, fun i hi => by
    have := hs.cell (i + 1) (by omega)
    rw [strs_getD _ _ (by rw [allV_len]; omega), allV_mid _ _ _ (by omega)] at this
    rw [strs_getD _ _ (by omega), ← this]
    congr 2; omega⟩⟩
set_option maxRecDepth 20000 in
set_option maxHeartbeats 8000000 in
theorem of_any (h t : ByteArray) (g k c : Nat) (xs : List ByteArray) (w : World) (hx : SlAt w (some ⟨g, 0, none⟩) (k + 1) (strs (allV h xs t)) g 0) (hl : xs.length + 1 = k) (hc : k + 1 ≤ c) (hcm : c ≤ 9223372036854775807) (hr : k * 16 ≤ 140737488355328) :
    Calls Tryd.prog 37 #[.slice (some ⟨g, 0, none⟩) (k + 1) c] w (DocPost w h xs t) := by
  have hg := hx.block (by omega)
  have h0 : w.cell? ⟨g, 0, none⟩ = some (.string h) := by
    have := hx.cell 0 (by omega)
    rwa [strs_getD _ _ (by rw [allV_len]; omega), allV_0, Nat.zero_add] at this
  have h1 : w.cell? ⟨g, k, none⟩ = some (.string t) := by
    have := hx.cell k (by omega)
    rw [strs_getD _ _ (by rw [allV_len]; omega)] at this
    rwa [show (allV h xs t).getD k .empty = t by rw [← hl]; exact allV_last h xs t, Nat.zero_add] at this
  have HM := Lib.hid (slat_mid hx hl)
  have HL := Lib.hid hl
  have hk1 : 1 ≤ k := by omega
  have hk2 : (1 : Int) ≤ (k : Int) := by omega
  have hk3 : (k : Int) < (c : Int) := by omega
  have hk4 : (k : Int) ≤ (c : Int) := by omega
  have hk5 : (0 : Int) ≤ (k : Int) := by omega
  have hk6 : (k : Int) < (k : Int) + 1 := by omega
  have hc1 : (1 : Int) < (c : Int) := by omega
  have hc2 : 1 < c := by omega
  have hc3 : ¬ c = 1 := by omega
  have hgn : ¬ g = w.heap.size := by omega
  have hgn2 : ¬ w.heap.size = g := by omega
  clear hx hl
  go_enter Tryd.func37, Tryd.ntmps37
  go_wp2_with fail
  refine wp_at_worldH ?_
  intro W hW
  have hB : Hid (Below w.heap.size w W) := by rw [hW]; exact ((Below.refl _ _).alloc (Nat.le_refl _) _)
  have k0 : W.cell? ⟨g, 0, none⟩ = some (.string h) := (hB.out.cell (p := ⟨g, 0, none⟩) hg).trans h0
  have k1 : W.cell? ⟨g, k, none⟩ = some (.string t) := (hB.out.cell (p := ⟨g, k, none⟩) hg).trans h1
  have ks : W.heap[w.heap.size]? = some (.cells #[.string { data := #[] }, .slice none 0 0, .string { data := #[] }] 24 (0, 0)) := by rw [hW]; exact row_new _ _ _
  have hz : w.heap.size < W.heap.size := by rw [hW]; simp
  have hgW : g < W.heap.size := by omega
  have HH := Lib.hid (show True from trivial)
  clear hW h0 h1
  go_region_held3 (fun w' => w'.cell? ⟨g, 0, none⟩ = some (.string h) ∧ w'.cell? ⟨g, k, none⟩ = some (.string t)) (go_keep)
    ((refine step_app_strs (by rfl) (.tmp 10) (.tmp 13) (by rfl) W.heap.size (some ⟨W.heap.size, 0, none⟩) 0 0 [] (by rfl) (Own.below (own_empty W 9) (below_drew1 _)) _ (k - 1) (c - 1) xs (by rfl) (HM.out.below (show Bel w _ from Bel.drew (Bel.alloc hB.out _))) (fun h => by cases h) (by omega) (by simp) ?_; intro ad' c' w' hown hg5 hnn; have hb5 := app_below hg5; have e0 := (hb5.cell (p := ⟨g, 0, none⟩) hgW).trans k0; have e1 := (hb5.cell (p := ⟨g, k, none⟩) hgW).trans k1; have ks5 := (hb5.block w.heap.size hz).trans ks; have c0 := row_cells ks5 0; have c1 := row_cells ks5 1; have c2 := row_cells ks5 2; have f0 := row_frozen ks5 0; have f1 := row_frozen ks5 1; have f2 := row_frozen ks5 2; have hz5 := hb5.size; have HB5 := Lib.hid hb5; have HK5 := Lib.hid ks5; have HO5 := Lib.hid hown; clear hown hg5 hb5 ks5))
  have kr := row_set (row_set (row_set HK5.out 0 (.string h)) 1 (.slice ad' (k - 1) c')) 2 (.string t)
  have g0 := (row_cells kr 0).trans rfl
  have g1 := (row_cells kr 1).trans rfl
  have g2 := (row_cells kr 2).trans rfl
  have HRES : Hid (Below w.heap.size w (((w'.setCell ⟨w.heap.size, 0, none⟩ (.string h)).setCell ⟨w.heap.size, 1, none⟩ (.slice ad' (k - 1) c')).setCell ⟨w.heap.size, 2, none⟩ (.string t))) := by
    have h5 : Below w.heap.size w w' := hB.out.trans (HB5.out.mono (by omega))
    exact ((h5.setCell (p := ⟨w.heap.size, 0, none⟩) (Nat.le_refl _) _).setCell (p := ⟨w.heap.size, 1, none⟩) (Nat.le_refl _) _).setCell (p := ⟨w.heap.size, 2, none⟩) (Nat.le_refl _) _
  have HOW : Hid ((((w'.setCell ⟨w.heap.size, 0, none⟩ (.string h)).setCell ⟨w.heap.size, 1, none⟩ (.slice ad' (k - 1) c')).setCell ⟨w.heap.size, 2, none⟩ (.string t)).ownsRow w.heap.size 9 1 (.slice ad' (k - 1) c') (k - 1) (strs xs)) := by
    have h5 := HO5.out
    rw [Nat.zero_add, List.nil_append] at h5
    exact own_set (own_set (own_set (Own.rebase h5 (by omega)) HK5.out (by decide) 0 _) (row_set HK5.out 0 _) (by decide) 1 _) (row_set (row_set HK5.out 0 _) 1 _) (by decide) 2 _
  clear kr c0 c1 c2 f0 f1 f2 e0 e1 k0 k1 ks
  go_wp2_with fail
  refine bodyPost_ret (v := .agg #[.string h, .slice ad' (k - 1) c', .string t]) (by simp [results, Tryd.f37, go_sem, g0, g1, g2]) rfl ?_
  have hxk : k - 1 = xs.length := by have := HL.out; omega
  rw [hxk] at HOW HRES ⊢
  exact ⟨ad', c', rfl, HOW.out, fun e => by (have := hnn e; cases this), HRES.out⟩
end Go.Proofs.YtkkggpahanddnaaDoor
