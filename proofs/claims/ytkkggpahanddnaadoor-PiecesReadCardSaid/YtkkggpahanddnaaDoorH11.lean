/- Walks: the reference's Apply. -/
import Derived.Test.YtkkggpahanddnaaDoorH10
namespace Go.Proofs.YtkkggpahanddnaaDoor
open Go.RowKit
attribute [local go_sem] Ext.cell Ext.frozen
attribute [local go_sem ↓] Go.wp_at_zero Go.wp_at_succ

theorem validV_at {ps : List (Int × ByteArray)} {n : Int} (h : validV ps n = true) {i : Nat} (hi : i < ps.length) : 0 ≤ (ps.getD i (0, .empty)).1 ∧ (ps.getD i (0, .empty)).1 - 1 ≤ n := by
  have := validV_iff.1 h i hi
  exact ⟨this.1, this.2.1⟩
set_option maxRecDepth 20000 in
set_option maxHeartbeats 4000000 in
theorem rapply_no (h t : ByteArray) (ad : Option Addr) (n c : Nat) (ad' : Option Addr) (m c' : Nat) (ps : List (Int × ByteArray)) (w : World) (hp : Pc w ad' m ps) (hbd : ∀ p ∈ ps, p.1 ≤ 9223372036854775807) (hv : validV ps (n : Int) = false) :
    Calls Tryd.prog 28 #[.agg #[.string h, .slice ad n c, .string t], .slice ad' m c'] w fun e w' => e = .returned (.tuple #[.agg #[.string ⟨#[]⟩, .slice none 0 0, .string ⟨#[]⟩], .int .i64 1]) ∧ Below w.heap.size w w' := by
  have HV : Hid (∀ w', Below w.heap.size w w' → Calls Tryd.prog 30 #[.slice ad' m c', .int .i64 (n : Int)] w' fun e w'' => e = .returned (.bool (validV ps (n : Int))) ∧ Below w'.heap.size w' w'') := fun w' g => rvalid_any ad' m c' ps (n : Int) w' (hp.below g) hbd
  rw [hv] at HV
  clear hp hbd hv
  go_enter Tryd.func28, Tryd.ntmps28
  go_wp2_with fail
  refine (HV.out _ (((Below.refl _ _).alloc (Nat.le_refl _) _).alloc (by simp) _)).mono ?_
  rintro e w1 ⟨rfl, hb⟩
  have ks := (hb.block (w.heap.size + 1) (by simp)).trans (row_new2 _ _ _ _)
  have g0 := row_cells ks 0
  have g1 := row_cells ks 1
  have g2 := row_cells ks 2
  have f0 := row_frozen ks 0
  have f1 := row_frozen ks 1
  have f2 := row_frozen ks 2
  have HB : Hid (Below w.heap.size w w1) := (((Below.refl _ _).alloc (Nat.le_refl _) _).alloc (by simp) _).trans (hb.mono (by simp; omega))
  have HK := Lib.hid ks
  clear hb ks
  go_wp2_with fail
  obtain ⟨q0, q1, q2⟩ := doc_set HK.out (.string ⟨#[]⟩) (.slice none 0 0) (.string ⟨#[]⟩)
  exact bodyPost_ret (v := .tuple #[.agg #[.string ⟨#[]⟩, .slice none 0 0, .string ⟨#[]⟩], .int .i64 1]) (by simp [results, Tryd.f28, go_sem, q0, q1, q2]) rfl ⟨rfl, below_set3 HB.out (by omega) _ _ _⟩
set_option maxRecDepth 20000 in
set_option maxHeartbeats 8000000 in
theorem rapply_yes (h t : ByteArray) (ad : Option Addr) (n c : Nat) (xs : List ByteArray) (ad' : Option Addr) (m c' : Nat) (ps : List (Int × ByteArray)) (h' : ByteArray) (xs' : List ByteArray) (t' : ByteArray) (w : World) (hx : Sl w ad n (strs xs)) (hc : ad = none → c = 0) (hn : n ≤ 100000)
    (hp : Pc w ad' m ps) (hbd : ∀ p ∈ ps, p.1 ≤ 9223372036854775807) (hv : validV ps (n : Int) = true) (he : applyV (allV h xs t) ps = allV h' xs' t') :
    Calls Tryd.prog 28 #[.agg #[.string h, .slice ad n c, .string t], .slice ad' m c'] w (DocErr w h' xs' t') := by
  have HV : Hid (∀ w', Below w.heap.size w w' → Calls Tryd.prog 30 #[.slice ad' m c', .int .i64 (n : Int)] w' fun e w'' => e = .returned (.bool (validV ps (n : Int))) ∧ Below w'.heap.size w' w'') := fun w' g => rvalid_any ad' m c' ps (n : Int) w' (hp.below g) hbd
  have HA : Hid (∀ w', Below w.heap.size w w' → Calls Tryd.prog 33 #[.agg #[.string h, .slice ad n c, .string t]] w' (SlPost w' (allV h xs t))) := fun w' g => all_any h t ad n c xs w' (hx.below g) hc (by omega)
  rw [hv] at HV
  have hnm := hp.max
  have HLP := Lib.hid hp.len
  obtain ⟨b, off, hp⟩ := hp
  have HP := Lib.hid hp
  have hll : (allV h xs t).length = n + 2 := by rw [allV_len]; have := hx.len; rw [strs_length] at this; omega
  have hxl : xs'.length + 2 = n + 2 := by have := congrArg List.length he; rw [applyV_len, allV_len h' xs' t'] at this; omega
  have HE := Lib.hid he
  have HVV := Lib.hid hv
  have HXL := Lib.hid hxl
  clear hx hc hp hbd hv he hxl
  generalize allV h xs t = l at *
  go_enter Tryd.func28, Tryd.ntmps28
  go_wp2_with fail
  refine (HV.out _ (((Below.refl _ _).alloc (Nat.le_refl _) _).alloc (by simp) _)).mono ?_
  rintro e w1 ⟨rfl, hb⟩
  have ks := (hb.block (w.heap.size + 1) (by simp)).trans (row_new2 _ _ _ _)
  have g0 : w1.cell? ⟨w.heap.size, 0, none⟩ = some (.string h) := (hb.cell (p := ⟨w.heap.size, 0, none⟩) (by simp; omega)).trans (by simp [go_sem])
  have g1 : w1.cell? ⟨w.heap.size, 1, none⟩ = some (.slice ad n c) := (hb.cell (p := ⟨w.heap.size, 1, none⟩) (by simp; omega)).trans (by simp [go_sem])
  have g2 : w1.cell? ⟨w.heap.size, 2, none⟩ = some (.string t) := (hb.cell (p := ⟨w.heap.size, 2, none⟩) (by simp; omega)).trans (by simp [go_sem])
  have HB : Hid (Below w.heap.size w w1) := (((Below.refl _ _).alloc (Nat.le_refl _) _).alloc (by simp) _).trans (hb.mono (by simp; omega))
  have HK := Lib.hid ks
  have hz1 : w.heap.size + 1 < w1.heap.size := by have := hb.size; simp at this; omega
  clear hb ks
  go_wp2_with fail
  refine (HA.out _ HB.out).mono ?_
  rintro e w2 ⟨ad2, c2, rfl, hown, hb2⟩
  obtain ⟨g, rfl, hbg, hg, hcl, hcm, hs, _⟩ := own_parts hown (by omega)
  have HO2 := Lib.hid hown
  have HB2 : Hid (Below w.heap.size w w2) := HB.out.trans (hb2.mono (by omega))
  have HK2 : Hid (w2.heap[w.heap.size + 1]? = some (.cells #[.string ⟨#[]⟩, .slice none 0 0, .string ⟨#[]⟩] 24 (0, 0))) := (hb2.block (w.heap.size + 1) hz1).trans HK.out
  have hix := fun (j : Nat) (hj : j < l.length) W => hs.ix (c := c2) (k := j) 22 9 Tryd.underlying22 cellsS hj (W := W)
  have HIX := Lib.hid hix
  rw [hll] at HO2 HIX hcl ⊢
  clear hown hb2 hs hix g0 g1 g2
  go_wp2_with fail
  go_loopw [7] (fun i wr => ∃ (k : Nat), i = .int .i64 (k : Int) ∧ k ≤ m ∧ wr.ownsRow w1.heap.size 9 1 (.slice (some ⟨g, 0, none⟩) (n + 2) c2) (n + 2) (strs (applyV l (ps.take k))) ∧ Below w.heap.size w wr ∧ wr.heap[w.heap.size + 1]? = some (.cells #[.string ⟨#[]⟩, .slice none 0 0, .string ⟨#[]⟩] 24 (0, 0))) (fun i _ => m - (intOf i).toNat)
  case atStart => exact ⟨0, rfl, Nat.zero_le _, HO2.out, HB2.out, HK2.out⟩
  case round =>
    obtain ⟨k, rfl, hkm, hown, hbl, hks⟩ := hrel
    have HOWN := Lib.hid hown
    have HBL := Lib.hid hbl
    have HKS := Lib.hid hks
    have hzr := hbl.size
    clear hown hbl hks
    by_cases hlt : k < m
    · have q := HP.out.below HBL.out
      have hixp := fun W => q.ix 33 58 Tryd.underlying33 cellsRc hlt c' W
      have h0 := q.c0 k hlt
      have h1 := q.c1 k hlt
      have hkl : k < ps.length := by rw [HLP.out]; exact hlt
      obtain ⟨v1, v2⟩ := validV_at HVV.out hkl
      have HST := Lib.hid (applyV_take_succ l ps k hkl)
      have hbk : b < w.heap.size := HP.out.block (by omega)
      have hbn1 : ¬ b = g := by omega
      have hbn2 : ¬ g = b := by omega
      clear q hkl
      generalize ps.getD k (0, .empty) = p at *
      obtain ⟨p0, p1⟩ := p
      simp only at h0 h1 v1 v2
      obtain ⟨j, rfl⟩ : ∃ j : Nat, p0 = (j : Int) := ⟨p0.toNat, by omega⟩
      have hj : j < n + 2 := by omega
      have hj1 : (j : Int) < (n : Int) + 2 := by omega
      have hj0 : (0 : Int) ≤ (j : Int) := by omega
      obtain ⟨e1, e2⟩ := own_cell HOWN.out j hj
      have hix := fun W => HIX.out j (by omega) W
      simp only [Nat.zero_add] at hix
      have HNX : Hid (((wr.setCell ⟨g, j, none⟩ (.string p1)).drew).ownsRow w1.heap.size 9 1 (.slice (some ⟨g, 0, none⟩) (n + 2) c2) (n + 2) (strs (applyV l (ps.take (k + 1))))) := by
        have := Own.below (own_store HOWN.out j hj (.string p1)) (below_drew1 _)
        rw [strs_set] at this
        unfold Hid
        rw [HST.out]
        exact this
      have HBX : Hid (Below w.heap.size w ((wr.setCell ⟨g, j, none⟩ (.string p1)).drew)) := (HBL.out.setCell (p := ⟨g, j, none⟩) (by show w.heap.size ≤ g; omega) _).drew
      have HKX : Hid (((wr.setCell ⟨g, j, none⟩ (.string p1)).drew).heap[w.heap.size + 1]? = some (.cells #[.string ⟨#[]⟩, .slice none 0 0, .string ⟨#[]⟩] 24 (0, 0))) := (Below.heap_setCell wr ⟨g, j, none⟩ _ (w.heap.size + 1) (by show w.heap.size + 1 ≠ g; omega)).trans HKS.out
      go_wp2_with fail
      go_region_held3 (fun w' => w'.cell? ⟨b, off + k * 2, none⟩ = some (.int .i64 (j : Int)) ∧ w'.cell? ⟨b, off + k * 2 + 1, none⟩ = some (.string p1)) (go_keep) (fail)
      go_wp2_with fail
      go_roundw
      case rel => exact ⟨k + 1, by go_num, by omega, HNX.out, HBX.out, HKX.out⟩
      case measure => simp [intOf]; omega
    · obtain rfl : k = m := by omega
      have HOE : Hid (wr.ownsRow w1.heap.size 9 1 (.slice (some ⟨g, 0, none⟩) (n + 1 + 1) c2) (n + 1 + 1) (strs (allV h' xs' t'))) := by
        have := HOWN.out
        rwa [List.take_of_length_le (by rw [HLP.out]; exact Nat.le_refl _), HE.out] at this
      go_wp2_with fail
      refine (of_any h' t' g (n + 1) c2 xs' _ (own_slat HOE.out (by omega)) (by have := HXL.out; omega) hcl hcm (by omega)).mono ?_
      rintro e w3 ⟨ad3, c3, rfl, hown3, hnn3, hb3⟩
      have hzw : w.heap.size + 1 < wr.heap.size := (Array.getElem?_eq_some_iff.1 HKS.out).1
      have ks3 := (hb3.block (w.heap.size + 1) hzw).trans HKS.out
      have g0 := row_cells ks3 0
      have g1 := row_cells ks3 1
      have g2 := row_cells ks3 2
      have f0 := row_frozen ks3 0
      have f1 := row_frozen ks3 1
      have f2 := row_frozen ks3 2
      have HB3 : Hid (Below w.heap.size w w3) := HBL.out.trans (hb3.mono (by omega))
      have HK3 := Lib.hid ks3
      have HO3 := Lib.hid hown3
      clear hown3 hb3 ks3
      go_wp2_with fail
      obtain ⟨q0, q1, q2⟩ := doc_set HK3.out (.string h') (.slice ad3 xs'.length c3) (.string t')
      exact bodyPost_ret (v := .tuple #[.agg #[.string h', .slice ad3 xs'.length c3, .string t'], .int .i64 0]) (by simp [results, Tryd.f28, go_sem, q0, q1, q2]) rfl ⟨ad3, c3, rfl, own_set3 (Own.rebase HO3.out (by omega)) HK3.out (by decide) _ _ _, fun e => absurd e hnn3, below_set3 HB3.out (by omega) _ _ _⟩
end Go.Proofs.YtkkggpahanddnaaDoor
