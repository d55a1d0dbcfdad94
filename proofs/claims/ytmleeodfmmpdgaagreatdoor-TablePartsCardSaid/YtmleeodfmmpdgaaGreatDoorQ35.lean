/- Walks: two texts with a line feed in between. -/
import Derived.Test.YtmleeodfmmpdgaaGreatDoorQ33
import Derived.Test.YtmleeodfmmpdgaaGreatDoorQ34
namespace Go.Proofs.YtmleeodfmmpdgaaGreatDoor
open Go.RowKit
attribute [local go_sem] Ext.cell Ext.frozen
attribute [local go_sem ↓] Go.wp_at_zero Go.wp_at_succ
theorem bs_join (a b : List UInt8) : bs a ++ ⟨#[10]⟩ ++ bs b = bs (a ++ 10 :: b) := by
  apply ByteArray.ext
  rw [ByteArray.data_append, ByteArray.data_append]
  simp [bs]
theorem RowsOf.len {α : Type} {k : Nat} {C : World → (Nat → Value) → α → Prop} {w : World} {v : Value} {l : List α} (h : RowsOf k C w v l) : l.length ≤ 140737488351232 := by
  obtain ⟨_, _, _, _, _, _, _, _, _, h, _⟩ := h
  exact h
theorem tbC_shape {w : World} {f : Nat → Value} {t : Tb} (h : TbC w f t) : ∃ a0 k0 a1 k1 a2 k2, f 0 = .slice a0 t.locs.length k0 ∧ f 1 = .slice a1 t.als.length k1 ∧ f 2 = .slice a2 t.near.length k2 := by
  obtain ⟨a0, k0, h0⟩ := h.c0.shape
  obtain ⟨a1, k1, h1⟩ := h.c1.shape
  obtain ⟨a2, k2, h2⟩ := h.c2.shape
  exact ⟨a0, k0, a1, k1, a2, k2, h0, h1, h2⟩
set_option maxRecDepth 20000 in
set_option maxHeartbeats 8000000 in
theorem parts_walk (a b : List UInt8) (w : World) (hM : MaxLen w) (hU : TabU w) (hab : a.length + b.length ≤ 9223372036854775807) : Calls Tryz.prog 4 #[.string (bs a), .string (bs b)] w fun e w' => e = .returned (.bool true) ∧ Below w.heap.size w w' := by
  have HAW := Lib.hid (fun W (k : Below w.heap.size w W) => awake12_any W (hM.below k) (hU.below k))
  have HPA := Lib.hid (fun (l : List UInt8) (hl : l.length ≤ 4010) W (k : Below w.heap.size w W) => tparse_any l (by omega) W (hM.below k) (hU.below k))
  have hla : (bs a).size = a.length := bs_size a
  have hlb : (bs b).size = b.length := bs_size b
  have hJ := bs_join a b
  clear hM hU
  by_cases hbig : 4000 < a.length + b.length
  · have hbig1 : 4000 < (bs a).size + (bs b).size := by omega
    have hbig2 : (4000 : Int) < ((bs a).size : Int) + ((bs b).size : Int) := by omega
    have hs1 : (bs a).size ≤ 9223372036854775807 := by omega
    have hs2 : (bs b).size ≤ 9223372036854775807 := by omega
    generalize bs a = S at *
    generalize bs b = T at *
    go_enter Tryz.func4, Tryz.ntmps4
    go_wp2_with fail
    refine (HAW.out _ (Below.refl _ _)).mono ?_
    rintro _ w1 ⟨rfl, hb1⟩
    have HB1 := Lib.hid hb1
    clear hb1
    go_wp2_with fail
    refine (HAW.out _ HB1.out).mono ?_
    rintro _ w2 ⟨rfl, hb2⟩
    have HB2 := Lib.hid (HB1.out.trans (hb2.mono HB1.out.size))
    clear hb2
    go_wp2_with fail
    go_ret
    exact ⟨rfl, HB2.out⟩
  · have HP1 := Lib.hid (HPA.out a (by omega))
    have HP2 := Lib.hid (HPA.out b (by omega))
    have HP3 := Lib.hid (HPA.out (a ++ 10 :: b) (by simp; omega))
    rw [← hJ] at HP3
    have hbig1 : ¬ (4000 < (bs a).size + (bs b).size) := by omega
    have hbig2 : ¬ ((4000 : Int) < ((bs a).size : Int) + ((bs b).size : Int)) := by omega
    have hs1 : (bs a).size ≤ 4000 := by omega
    have hs2 : (bs b).size ≤ 4000 := by omega
    have HLAW := Lib.hid (fun (h1 : (tParse a).2.2 = 0) (h2 : (tParse b).2.2 = 0) (h3 : FitT (tParse a).1 (tParse b).1) => tParse_parts (by omega) h1 h2 h3)
    have HWA := Lib.hid (tParse_wf a)
    have HWB := Lib.hid (tParse_wf b)
    have HWC := Lib.hid (tParse_wf (a ++ 10 :: b))
    clear HPA hla hlb hJ hbig
    generalize bs a = S at *
    generalize bs b = T at *
    generalize tParse (a ++ 10 :: b) = Z at *
    generalize tParse a = X at *
    generalize tParse b = Y at *
    obtain ⟨xt, xp, xe⟩ := X
    obtain ⟨yt, yp, ye⟩ := Y
    obtain ⟨zt, zp, ze⟩ := Z
    try simp only at HLAW
    try simp only at HWA
    try simp only at HWB
    try simp only at HWC
    unfold ParseP at HP1 HP2 HP3
    go_enter Tryz.func4, Tryz.ntmps4
    go_wp2_with fail
    refine (HAW.out _ (Below.refl _ _)).mono ?_
    rintro _ w1 ⟨rfl, hb1⟩
    have HB1 := Lib.hid hb1
    clear hb1 HAW
    go_wp2_with fail
    refine (HP1.out _ HB1.out).mono ?_
    rintro _ w2 ⟨f, rfl, htx, hb2⟩
    have HB2 := Lib.hid (HB1.out.trans (hb2.mono HB1.out.size))
    have HTX := Lib.hid (htx.sub (see_all _ _ _))
    obtain ⟨p0, k0, p1, k1, p2, k2, hf0, hf1, hf2⟩ := tbC_shape htx
    obtain ⟨nx0, hn⟩ : ∃ n, xt.locs.length = n := ⟨_, rfl⟩
    have hlnx0 : nx0 ≤ 140737488351232 := by rw [← hn]; exact HTX.out.c0.len
    have HNnx0 := Lib.hid hn
    rw [hn] at hf0
    clear hn
    obtain ⟨nx1, hn⟩ : ∃ n, xt.als.length = n := ⟨_, rfl⟩
    have hlnx1 : nx1 ≤ 140737488351232 := by rw [← hn]; exact HTX.out.c1.len
    have HNnx1 := Lib.hid hn
    rw [hn] at hf1
    clear hn
    obtain ⟨nx2, hn⟩ : ∃ n, xt.near.length = n := ⟨_, rfl⟩
    have hlnx2 : nx2 ≤ 140737488351232 := by rw [← hn]; exact HTX.out.c2.len
    have HNnx2 := Lib.hid hn
    rw [hn] at hf2
    clear hn
    rw [hf0, hf1, hf2]
    have HFf0 := Lib.hid hf0
    have HFf1 := Lib.hid hf1
    have HFf2 := Lib.hid hf2
    clear hf0 hf1 hf2
    clear hb2 htx HB1 HP1
    go_upto_region 4 with (fail)
    have HB3 := Lib.hid (HB2.out.alloc HB2.out.size (.cells #[.slice p0 nx0 k0, .slice p1 nx1 k1, .slice p2 nx2 k2] 27))
    have HXB := Lib.hid (Cel.new w2 [.slice p0 nx0 k0, .slice p1 nx1 k1, .slice p2 nx2 k2] 27)
    have HTX3 := Lib.hid (HTX.out.below (Bel.alloc (Bel.refl w2) (.cells #[.slice p0 nx0 k0, .slice p1 nx1 k1, .slice p2 nx2 k2] 27)))
    obtain ⟨XB, hXB⟩ : ∃ B, w2.heap.size = B := ⟨_, rfl⟩
    rw [hXB] at HXB
    clear HB2 HTX
    generalize w2.alloc (.cells #[.slice p0 nx0 k0, .slice p1 nx1 k1, .slice p2 nx2 k2] 27) = w3 at *
    go_wp2_with fail
    refine (HP2.out _ HB3.out).mono ?_
    rintro _ w4 ⟨g, rfl, hty, hb4⟩
    have HB4 := Lib.hid (HB3.out.trans (hb4.mono HB3.out.size))
    have HTX4 := Lib.hid (HTX3.out.below hb4)
    have HXB4 := Lib.hid (HXB.out.below hb4)
    have HTY := Lib.hid (hty.sub (see_all _ _ _))
    obtain ⟨q0, c0, q1, c1, q2, c2, hg0, hg1, hg2⟩ := tbC_shape hty
    obtain ⟨ny0, hn⟩ : ∃ n, yt.locs.length = n := ⟨_, rfl⟩
    have hlny0 : ny0 ≤ 140737488351232 := by rw [← hn]; exact HTY.out.c0.len
    have HNny0 := Lib.hid hn
    rw [hn] at hg0
    clear hn
    obtain ⟨ny1, hn⟩ : ∃ n, yt.als.length = n := ⟨_, rfl⟩
    have hlny1 : ny1 ≤ 140737488351232 := by rw [← hn]; exact HTY.out.c1.len
    have HNny1 := Lib.hid hn
    rw [hn] at hg1
    clear hn
    obtain ⟨ny2, hn⟩ : ∃ n, yt.near.length = n := ⟨_, rfl⟩
    have hlny2 : ny2 ≤ 140737488351232 := by rw [← hn]; exact HTY.out.c2.len
    have HNny2 := Lib.hid hn
    rw [hn] at hg2
    clear hn
    rw [hg0, hg1, hg2]
    have HFg0 := Lib.hid hg0
    have HFg1 := Lib.hid hg1
    have HFg2 := Lib.hid hg2
    clear hg0 hg1 hg2
    clear hb4 hty HB3 HP2 HXB HTX3
    go_upto_region 5 with (fail)
    have HB5 := Lib.hid (HB4.out.alloc HB4.out.size (.cells #[.slice q0 ny0 c0, .slice q1 ny1 c1, .slice q2 ny2 c2] 27))
    have HYB := Lib.hid (Cel.new w4 [.slice q0 ny0 c0, .slice q1 ny1 c1, .slice q2 ny2 c2] 27)
    have HXB5 := Lib.hid (HXB4.out.below (Bel.alloc (Bel.refl w4) (.cells #[.slice q0 ny0 c0, .slice q1 ny1 c1, .slice q2 ny2 c2] 27)))
    have HTX5 := Lib.hid (HTX4.out.below (Bel.alloc (Bel.refl w4) (.cells #[.slice q0 ny0 c0, .slice q1 ny1 c1, .slice q2 ny2 c2] 27)))
    have HTY5 := Lib.hid (HTY.out.below (Bel.alloc (Bel.refl w4) (.cells #[.slice q0 ny0 c0, .slice q1 ny1 c1, .slice q2 ny2 c2] 27)))
    obtain ⟨YB, hYB⟩ : ∃ B, w4.heap.size = B := ⟨_, rfl⟩
    rw [hYB] at HYB
    clear HB4 HTX4 HTY HXB4
    generalize w4.alloc (.cells #[.slice q0 ny0 c0, .slice q1 ny1 c1, .slice q2 ny2 c2] 27) = w5 at *
    have X0 := HXB5.out.cell 0
    have X1 := HXB5.out.cell 1
    have X2 := HXB5.out.cell 2
    have Y0 := HYB.out.cell 0
    have Y1 := HYB.out.cell 1
    have Y2 := HYB.out.cell 2
    simp only [List.getElem?_cons_zero, List.getElem?_cons_succ] at X0 X1 X2 Y0 Y1 Y2
    by_cases hxe : xe = 0
    · subst hxe
      by_cases hye : ye = 0
      · subst hye
        have n00 : ((0 : Int) != 0) = false := rfl
        by_cases h0 : (60 : Int) < (nx0 : Int) + (ny0 : Int)
        · go_wp2_with fail
          go_ret
          exact ⟨rfl, HB5.out⟩
        · by_cases h1 : (200 : Int) < (nx1 : Int) + (ny1 : Int)
          · go_wp2_with fail
            go_ret
            exact ⟨rfl, HB5.out⟩
          · by_cases h2 : (200 : Int) < (nx2 : Int) + (ny2 : Int)
            · go_wp2_with fail
              go_ret
              exact ⟨rfl, HB5.out⟩
            · have hz := HLAW.out rfl rfl ⟨by show xt.locs.length + yt.locs.length ≤ 60; rw [HNnx0.out, HNny0.out]; omega, by show xt.als.length + yt.als.length ≤ 200; rw [HNnx1.out, HNny1.out]; omega, by show xt.near.length + yt.near.length ≤ 200; rw [HNnx2.out, HNny2.out]; omega⟩
              injection hz with hz1 hz2
              injection hz2 with hz2 hz3
              subst hz1 hz2 hz3
              clear HLAW
              go_wp2_with fail
              refine (HP3.out _ HB5.out).mono ?_
              rintro _ w6 ⟨hh, rfl, htz, hb6⟩
              have HB6 := Lib.hid (HB5.out.trans (hb6.mono HB5.out.size))
              have HTX6 := Lib.hid (HTX5.out.below hb6)
              have HTY6 := Lib.hid (HTY5.out.below hb6)
              have HXB6 := Lib.hid (HXB5.out.below hb6)
              have HYB6 := Lib.hid (HYB.out.below hb6)
              have HTZ := Lib.hid (htz.sub (see_all _ _ _))
              obtain ⟨r0, d0, r1, d1, r2, d2, hh0, hh1, hh2⟩ := tbC_shape htz
              obtain ⟨xtl0, hl0⟩ : ∃ n, (catT xt yt).locs.length = n := ⟨_, rfl⟩
              obtain ⟨xtl1, hl1⟩ : ∃ n, (catT xt yt).als.length = n := ⟨_, rfl⟩
              obtain ⟨xtl2, hl2⟩ : ∃ n, (catT xt yt).near.length = n := ⟨_, rfl⟩
              rw [hl0] at hh0
              rw [hl1] at hh1
              rw [hl2] at hh2
              rw [hh0, hh1, hh2]
              have hh0 := Lib.hid hh0
              have hh1 := Lib.hid hh1
              have hh2 := Lib.hid hh2
              clear hb6 htz HB5 HP3 HXB5 HYB HTX5 HTY5 X0 X1 X2 Y0 Y1 Y2 hl0 hl1 hl2
              go_upto_region 8 with (fail)
              have HB7 := Lib.hid (HB6.out.alloc HB6.out.size (.cells #[.slice r0 xtl0 d0, .slice r1 xtl1 d1, .slice r2 xtl2 d2] 27))
              have HZB := Lib.hid (Cel.new w6 [.slice r0 xtl0 d0, .slice r1 xtl1 d1, .slice r2 xtl2 d2] 27)
              have HTX7 := Lib.hid (HTX6.out.below (Bel.alloc (Bel.refl w6) (.cells #[.slice r0 xtl0 d0, .slice r1 xtl1 d1, .slice r2 xtl2 d2] 27)))
              have HTY7 := Lib.hid (HTY6.out.below (Bel.alloc (Bel.refl w6) (.cells #[.slice r0 xtl0 d0, .slice r1 xtl1 d1, .slice r2 xtl2 d2] 27)))
              have HTZ7 := Lib.hid (HTZ.out.below (Bel.alloc (Bel.refl w6) (.cells #[.slice r0 xtl0 d0, .slice r1 xtl1 d1, .slice r2 xtl2 d2] 27)))
              have HXB7 := Lib.hid (HXB6.out.below (Bel.alloc (Bel.refl w6) (.cells #[.slice r0 xtl0 d0, .slice r1 xtl1 d1, .slice r2 xtl2 d2] 27)))
              have HYB7 := Lib.hid (HYB6.out.below (Bel.alloc (Bel.refl w6) (.cells #[.slice r0 xtl0 d0, .slice r1 xtl1 d1, .slice r2 xtl2 d2] 27)))
              obtain ⟨ZB, hZB⟩ : ∃ B, w6.heap.size = B := ⟨_, rfl⟩
              rw [hZB] at HZB
              clear HB6 HTX6 HTY6 HTZ HXB6 HYB6
              generalize w6.alloc (.cells #[.slice r0 xtl0 d0, .slice r1 xtl1 d1, .slice r2 xtl2 d2] 27) = w66 at *
              have HB6 := HB7
              have HTX6 := HTX7
              have HTY6 := HTY7
              have HTZ := HTZ7
              have HXB6 := HXB7
              have HYB6 := HYB7
              clear HB7 HTX7 HTY7 HTZ7 HXB7 HYB7
              refine wp_region_gen ?_
              intro A0 hA0
              have fa5 : A0.tmps.getD 5 undef = .pointer (some ⟨XB, 0, none⟩) := by rw [hA0]; rfl
              have fa8 : A0.tmps.getD 8 undef = .pointer (some ⟨YB, 0, none⟩) := by rw [hA0]; rfl
              have aS : A0.tmps.size = 112 := by rw [hA0]; rfl
              have HA0 := Lib.hid hA0
              clear hA0
              obtain ⟨fX0, bX0, oX0, rX0, zX0, lX0, CX0⟩ := HTX6.out.c0.atS HFf0.out
              obtain ⟨fY0, bY0, oY0, rY0, zY0, lY0, CY0⟩ := HTY6.out.c0.atS HFg0.out
              obtain ⟨fX1, bX1, oX1, rX1, zX1, lX1, CX1⟩ := HTX6.out.c1.atS HFf1.out
              obtain ⟨fY1, bY1, oY1, rY1, zY1, lY1, CY1⟩ := HTY6.out.c1.atS HFg1.out
              obtain ⟨fX2, bX2, oX2, rX2, zX2, lX2, CX2⟩ := HTX6.out.c2.atS HFf2.out
              obtain ⟨fY2, bY2, oY2, rY2, zY2, lY2, CY2⟩ := HTY6.out.c2.atS HFg2.out
              have X0 := HXB6.out.cell 0
              have Y0 := HYB6.out.cell 0
              have X1 := HXB6.out.cell 1
              have Y1 := HYB6.out.cell 1
              have X2 := HXB6.out.cell 2
              have Y2 := HYB6.out.cell 2
              simp only [List.getElem?_cons_zero, List.getElem?_cons_succ] at X0 X1 X2 Y0 Y1 Y2
              have hXl := HXB6.out.lt
              have hYl := HYB6.out.lt
              have oneX0 : ∀ i q, i < nx0 → q < 16 → (fX0 i q).oneCell' = true := fun i q hi hq => (CX0 i _ (List.getElem?_eq_getElem (by rw [← lX0]; exact hi))).one q hq
              have oneY0 : ∀ i q, i < ny0 → q < 16 → (fY0 i q).oneCell' = true := fun i q hi hq => (CY0 i _ (List.getElem?_eq_getElem (by rw [← lY0]; exact hi))).one q hq
              have oneX1 : ∀ i q, i < nx1 → q < 2 → (fX1 i q).oneCell' = true := fun i q hi hq => (CX1 i _ (List.getElem?_eq_getElem (by rw [← lX1]; exact hi))).one q hq
              have oneY1 : ∀ i q, i < ny1 → q < 2 → (fY1 i q).oneCell' = true := fun i q hi hq => (CY1 i _ (List.getElem?_eq_getElem (by rw [← lY1]; exact hi))).one q hq
              have oneX2 : ∀ i q, i < nx2 → q < 3 → (fX2 i q).oneCell' = true := fun i q hi hq => (CX2 i _ (List.getElem?_eq_getElem (by rw [← lX2]; exact hi))).one q hq
              have oneY2 : ∀ i q, i < ny2 → q < 3 → (fY2 i q).oneCell' = true := fun i q hi hq => (CY2 i _ (List.getElem?_eq_getElem (by rw [← lY2]; exact hi))).one q hq
              refine wp_region_inv (JP A0 [(1, 84, .pointer (some ⟨XB, 0, none⟩)), (2, 85, .slice p0 nx0 k0), (4, 87, .pointer (some ⟨YB, 0, none⟩)), (5, 88, .slice q0 ny0 c0), (8, 91, .pointer (some ⟨XB, 1, none⟩)), (9, 92, .slice p1 nx1 k1), (11, 94, .pointer (some ⟨YB, 1, none⟩)), (12, 95, .slice q1 ny1 c1), (15, 98, .pointer (some ⟨XB, 2, none⟩)), (16, 99, .slice p2 nx2 k2), (18, 101, .pointer (some ⟨YB, 2, none⟩)), (19, 102, .slice q2 ny2 c2)] w66 nx0 ny0 nx1 ny1 nx2 ny2 (flat 16 fX0 nx0) (flat 16 fY0 ny0) (flat 2 fX1 nx1) (flat 2 fY1 ny1) (flat 3 fX2 nx2) (flat 3 fY2 ny2)) (by kernel_rfl) (by kernel_rfl) (JP.start A0 aS _) ?_ ?_
              · refine ⟨?_, ?_, ?_, ?_, ?_, ?_, ?_, ?_, ?_, ?_, ?_, ?_, ?_, ?_, ?_, ?_, ?_, ?_, ?_, ?_, ?_, ?_, ?_, ?_, trivial⟩
                all_goals (intro L a w7 hL hi hp hJ; replace hL : L.size = 24 := hL; refine if_plain rfl ?_)
                · have h23 := hJ.lt hL (by omega) hi
                  have hR := hJ.2 h23
                  have hi' : L.getD 0 false = false := by rw [← getD_tfP L 0 (by omega)]; exact hi
                  refine wp_of_run (buildP 23 46 Tryz.underlying23 (by kernel_rfl) _ _ rfl _) ?_
                  exact JP.of (by omega) h23 (hR.made0 hL hi' (by simp))
                · have h23 := hJ.lt hL (by omega) hi
                  have hR := hJ.2 h23
                  have hi' : L.getD 1 false = false := by rw [← getD_tfP L 1 (by omega)]; exact hi
                  refine wp_field_run 27 _ 0 rfl (hR.fr.ev (by decide) fa5) (v := .pointer (some ⟨XB, 0, none⟩)) (by go_simp) ?_
                  exact JP.of (by omega) h23 (hR.det hL hi' (by omega) (by decide) (by decide) (by simp) (by decide) (by decide))
                · have h23 := hJ.lt hL (by omega) hi
                  have hR := hJ.2 h23
                  have hi' : L.getD 2 false = false := by rw [← getD_tfP L 2 (by omega)]; exact hi
                  have h1 := hR.tab.ev (i := 1) (d := 84) (v := .pointer (some ⟨XB, 0, none⟩)) (by simp) (hp ⟨1, .data⟩ (by simp) rfl)
                  have hc := (hR.bel.cell (p := ⟨XB, 0, none⟩) hXl).trans X0
                  refine wp_load_run 23 _ rfl h1 (v := .slice p0 nx0 k0) (by go_simp) ?_
                  exact JP.of (by omega) h23 (hR.det hL hi' (by omega) (by decide) (by decide) (by simp) (by decide) (by decide))
                · have h23 := hJ.lt hL (by omega) hi
                  have hR := hJ.2 h23
                  have hi' : L.getD 3 false = false := by rw [← getD_tfP L 3 (by omega)]; exact hi
                  have hp0 := hp ⟨0, .data⟩ (by simp) rfl
                  have h2 : a.eval (.tmp 85) = .slice p0 nx0 k0 := hR.tab.ev (i := 2) (d := 85) (by simp) (hp ⟨2, .data⟩ (by simp) rfl)
                  obtain ⟨ad5, c5, e5, hown5⟩ := hR.ch0.s0 hp0 hi'
                  refine wp_app_rows (.tmp 83) (.tmp 85) rfl Tryz.underlying23 infoLcT rfl (by omega) w66.heap.size ad5 0 c5 [] e5 hown5 p0 nx0 k0 fX0 bX0 oX0 h2 (rX0.below hR.bel) zX0 oneX0 (by unfold maxLen; omega) (by omega) hR.bel.size ?_
                  intro ad6 c6 w8 hown6 hg6
                  rw [Nat.zero_add, List.nil_append] at hown6
                  show JP A0 [(1, 84, .pointer (some ⟨XB, 0, none⟩)), (2, 85, .slice p0 nx0 k0), (4, 87, .pointer (some ⟨YB, 0, none⟩)), (5, 88, .slice q0 ny0 c0), (8, 91, .pointer (some ⟨XB, 1, none⟩)), (9, 92, .slice p1 nx1 k1), (11, 94, .pointer (some ⟨YB, 1, none⟩)), (12, 95, .slice q1 ny1 c1), (15, 98, .pointer (some ⟨XB, 2, none⟩)), (16, 99, .slice p2 nx2 k2), (18, 101, .pointer (some ⟨YB, 2, none⟩)), (19, 102, .slice q2 ny2 c2)] w66 nx0 ny0 nx1 ny1 nx2 ny2 (flat 16 fX0 nx0) (flat 16 fY0 ny0) (flat 2 fX1 nx1) (flat 2 fY1 ny1) (flat 3 fX2 nx2) (flat 3 fY2 ny2) (L.setIfInBounds 3 true) (a.put (some 86) (.slice ad6 (0 + nx0) c6)) w8
                  rw [Nat.zero_add]
                  exact JP.of (by omega) h23 (hR.app00 hL hi' hp0 (by simp) hown5 hown6 hg6)
                · have h23 := hJ.lt hL (by omega) hi
                  have hR := hJ.2 h23
                  have hi' : L.getD 4 false = false := by rw [← getD_tfP L 4 (by omega)]; exact hi
                  refine wp_field_run 27 _ 0 rfl (hR.fr.ev (by decide) fa8) (v := .pointer (some ⟨YB, 0, none⟩)) (by go_simp) ?_
                  exact JP.of (by omega) h23 (hR.det hL hi' (by omega) (by decide) (by decide) (by simp) (by decide) (by decide))
                · have h23 := hJ.lt hL (by omega) hi
                  have hR := hJ.2 h23
                  have hi' : L.getD 5 false = false := by rw [← getD_tfP L 5 (by omega)]; exact hi
                  have h1 := hR.tab.ev (i := 4) (d := 87) (v := .pointer (some ⟨YB, 0, none⟩)) (by simp) (hp ⟨4, .data⟩ (by simp) rfl)
                  have hc := (hR.bel.cell (p := ⟨YB, 0, none⟩) hYl).trans Y0
                  refine wp_load_run 23 _ rfl h1 (v := .slice q0 ny0 c0) (by go_simp) ?_
                  exact JP.of (by omega) h23 (hR.det hL hi' (by omega) (by decide) (by decide) (by simp) (by decide) (by decide))
                · have h23 := hJ.lt hL (by omega) hi
                  have hR := hJ.2 h23
                  have hi' : L.getD 6 false = false := by rw [← getD_tfP L 6 (by omega)]; exact hi
                  have hp0 := hp ⟨3, .data⟩ (by simp) rfl
                  have h2 : a.eval (.tmp 88) = .slice q0 ny0 c0 := hR.tab.ev (i := 5) (d := 88) (by simp) (hp ⟨5, .data⟩ (by simp) rfl)
                  obtain ⟨ad5, c5, e5, hown5⟩ := hR.ch0.s1 hp0 hi'
                  refine wp_app_rows (.tmp 86) (.tmp 88) rfl Tryz.underlying23 infoLcT rfl (by omega) w66.heap.size ad5 nx0 c5 (flat 16 fX0 nx0) e5 hown5 q0 ny0 c0 fY0 bY0 oY0 h2 (rY0.below hR.bel) zY0 oneY0 (by unfold maxLen; omega) (by omega) hR.bel.size ?_
                  intro ad6 c6 w8 hown6 hg6
                  exact JP.of (by omega) h23 (hR.app01 hL hi' hp0 (by simp) hown5 hown6 hg6)
                · have h23 := hJ.lt hL (by omega) hi
                  have hR := hJ.2 h23
                  have hi' : L.getD 7 false = false := by rw [← getD_tfP L 7 (by omega)]; exact hi
                  refine wp_of_run (buildP 24 61 Tryz.underlying24 (by kernel_rfl) _ _ rfl _) ?_
                  exact JP.of (by omega) h23 (hR.made1 hL hi' (by simp))
                · have h23 := hJ.lt hL (by omega) hi
                  have hR := hJ.2 h23
                  have hi' : L.getD 8 false = false := by rw [← getD_tfP L 8 (by omega)]; exact hi
                  refine wp_field_run 27 _ 1 rfl (hR.fr.ev (by decide) fa5) (v := .pointer (some ⟨XB, 1, none⟩)) (by go_simp) ?_
                  exact JP.of (by omega) h23 (hR.det hL hi' (by omega) (by decide) (by decide) (by simp) (by decide) (by decide))
                · have h23 := hJ.lt hL (by omega) hi
                  have hR := hJ.2 h23
                  have hi' : L.getD 9 false = false := by rw [← getD_tfP L 9 (by omega)]; exact hi
                  have h1 := hR.tab.ev (i := 8) (d := 91) (v := .pointer (some ⟨XB, 1, none⟩)) (by simp) (hp ⟨8, .data⟩ (by simp) rfl)
                  have hc := (hR.bel.cell (p := ⟨XB, 1, none⟩) hXl).trans X1
                  refine wp_load_run 24 _ rfl h1 (v := .slice p1 nx1 k1) (by go_simp) ?_
                  exact JP.of (by omega) h23 (hR.det hL hi' (by omega) (by decide) (by decide) (by simp) (by decide) (by decide))
                · have h23 := hJ.lt hL (by omega) hi
                  have hR := hJ.2 h23
                  have hi' : L.getD 10 false = false := by rw [← getD_tfP L 10 (by omega)]; exact hi
                  have hp0 := hp ⟨7, .data⟩ (by simp) rfl
                  have h2 : a.eval (.tmp 92) = .slice p1 nx1 k1 := hR.tab.ev (i := 9) (d := 92) (by simp) (hp ⟨9, .data⟩ (by simp) rfl)
                  obtain ⟨ad5, c5, e5, hown5⟩ := hR.ch1.s0 hp0 hi'
                  refine wp_app_rows (.tmp 90) (.tmp 92) rfl Tryz.underlying24 infoAlT rfl (by omega) w66.heap.size ad5 0 c5 [] e5 hown5 p1 nx1 k1 fX1 bX1 oX1 h2 (rX1.below hR.bel) zX1 oneX1 (by unfold maxLen; omega) (by omega) hR.bel.size ?_
                  intro ad6 c6 w8 hown6 hg6
                  rw [Nat.zero_add, List.nil_append] at hown6
                  show JP A0 [(1, 84, .pointer (some ⟨XB, 0, none⟩)), (2, 85, .slice p0 nx0 k0), (4, 87, .pointer (some ⟨YB, 0, none⟩)), (5, 88, .slice q0 ny0 c0), (8, 91, .pointer (some ⟨XB, 1, none⟩)), (9, 92, .slice p1 nx1 k1), (11, 94, .pointer (some ⟨YB, 1, none⟩)), (12, 95, .slice q1 ny1 c1), (15, 98, .pointer (some ⟨XB, 2, none⟩)), (16, 99, .slice p2 nx2 k2), (18, 101, .pointer (some ⟨YB, 2, none⟩)), (19, 102, .slice q2 ny2 c2)] w66 nx0 ny0 nx1 ny1 nx2 ny2 (flat 16 fX0 nx0) (flat 16 fY0 ny0) (flat 2 fX1 nx1) (flat 2 fY1 ny1) (flat 3 fX2 nx2) (flat 3 fY2 ny2) (L.setIfInBounds 10 true) (a.put (some 93) (.slice ad6 (0 + nx1) c6)) w8
                  rw [Nat.zero_add]
                  exact JP.of (by omega) h23 (hR.app10 hL hi' hp0 (by simp) hown5 hown6 hg6)
                · have h23 := hJ.lt hL (by omega) hi
                  have hR := hJ.2 h23
                  have hi' : L.getD 11 false = false := by rw [← getD_tfP L 11 (by omega)]; exact hi
                  refine wp_field_run 27 _ 1 rfl (hR.fr.ev (by decide) fa8) (v := .pointer (some ⟨YB, 1, none⟩)) (by go_simp) ?_
                  exact JP.of (by omega) h23 (hR.det hL hi' (by omega) (by decide) (by decide) (by simp) (by decide) (by decide))
                · have h23 := hJ.lt hL (by omega) hi
                  have hR := hJ.2 h23
                  have hi' : L.getD 12 false = false := by rw [← getD_tfP L 12 (by omega)]; exact hi
                  have h1 := hR.tab.ev (i := 11) (d := 94) (v := .pointer (some ⟨YB, 1, none⟩)) (by simp) (hp ⟨11, .data⟩ (by simp) rfl)
                  have hc := (hR.bel.cell (p := ⟨YB, 1, none⟩) hYl).trans Y1
                  refine wp_load_run 24 _ rfl h1 (v := .slice q1 ny1 c1) (by go_simp) ?_
                  exact JP.of (by omega) h23 (hR.det hL hi' (by omega) (by decide) (by decide) (by simp) (by decide) (by decide))
                · have h23 := hJ.lt hL (by omega) hi
                  have hR := hJ.2 h23
                  have hi' : L.getD 13 false = false := by rw [← getD_tfP L 13 (by omega)]; exact hi
                  have hp0 := hp ⟨10, .data⟩ (by simp) rfl
                  have h2 : a.eval (.tmp 95) = .slice q1 ny1 c1 := hR.tab.ev (i := 12) (d := 95) (by simp) (hp ⟨12, .data⟩ (by simp) rfl)
                  obtain ⟨ad5, c5, e5, hown5⟩ := hR.ch1.s1 hp0 hi'
                  refine wp_app_rows (.tmp 93) (.tmp 95) rfl Tryz.underlying24 infoAlT rfl (by omega) w66.heap.size ad5 nx1 c5 (flat 2 fX1 nx1) e5 hown5 q1 ny1 c1 fY1 bY1 oY1 h2 (rY1.below hR.bel) zY1 oneY1 (by unfold maxLen; omega) (by omega) hR.bel.size ?_
                  intro ad6 c6 w8 hown6 hg6
                  exact JP.of (by omega) h23 (hR.app11 hL hi' hp0 (by simp) hown5 hown6 hg6)
                · have h23 := hJ.lt hL (by omega) hi
                  have hR := hJ.2 h23
                  have hi' : L.getD 14 false = false := by rw [← getD_tfP L 14 (by omega)]; exact hi
                  refine wp_of_run (buildP 25 58 Tryz.underlying25 (by kernel_rfl) _ _ rfl _) ?_
                  exact JP.of (by omega) h23 (hR.made2 hL hi' (by simp))
                · have h23 := hJ.lt hL (by omega) hi
                  have hR := hJ.2 h23
                  have hi' : L.getD 15 false = false := by rw [← getD_tfP L 15 (by omega)]; exact hi
                  refine wp_field_run 27 _ 2 rfl (hR.fr.ev (by decide) fa5) (v := .pointer (some ⟨XB, 2, none⟩)) (by go_simp) ?_
                  exact JP.of (by omega) h23 (hR.det hL hi' (by omega) (by decide) (by decide) (by simp) (by decide) (by decide))
                · have h23 := hJ.lt hL (by omega) hi
                  have hR := hJ.2 h23
                  have hi' : L.getD 16 false = false := by rw [← getD_tfP L 16 (by omega)]; exact hi
                  have h1 := hR.tab.ev (i := 15) (d := 98) (v := .pointer (some ⟨XB, 2, none⟩)) (by simp) (hp ⟨15, .data⟩ (by simp) rfl)
                  have hc := (hR.bel.cell (p := ⟨XB, 2, none⟩) hXl).trans X2
                  refine wp_load_run 25 _ rfl h1 (v := .slice p2 nx2 k2) (by go_simp) ?_
                  exact JP.of (by omega) h23 (hR.det hL hi' (by omega) (by decide) (by decide) (by simp) (by decide) (by decide))
                · have h23 := hJ.lt hL (by omega) hi
                  have hR := hJ.2 h23
                  have hi' : L.getD 17 false = false := by rw [← getD_tfP L 17 (by omega)]; exact hi
                  have hp0 := hp ⟨14, .data⟩ (by simp) rfl
                  have h2 : a.eval (.tmp 99) = .slice p2 nx2 k2 := hR.tab.ev (i := 16) (d := 99) (by simp) (hp ⟨16, .data⟩ (by simp) rfl)
                  obtain ⟨ad5, c5, e5, hown5⟩ := hR.ch2.s0 hp0 hi'
                  refine wp_app_rows (.tmp 97) (.tmp 99) rfl Tryz.underlying25 infoNeT rfl (by omega) w66.heap.size ad5 0 c5 [] e5 hown5 p2 nx2 k2 fX2 bX2 oX2 h2 (rX2.below hR.bel) zX2 oneX2 (by unfold maxLen; omega) (by omega) hR.bel.size ?_
                  intro ad6 c6 w8 hown6 hg6
                  rw [Nat.zero_add, List.nil_append] at hown6
                  show JP A0 [(1, 84, .pointer (some ⟨XB, 0, none⟩)), (2, 85, .slice p0 nx0 k0), (4, 87, .pointer (some ⟨YB, 0, none⟩)), (5, 88, .slice q0 ny0 c0), (8, 91, .pointer (some ⟨XB, 1, none⟩)), (9, 92, .slice p1 nx1 k1), (11, 94, .pointer (some ⟨YB, 1, none⟩)), (12, 95, .slice q1 ny1 c1), (15, 98, .pointer (some ⟨XB, 2, none⟩)), (16, 99, .slice p2 nx2 k2), (18, 101, .pointer (some ⟨YB, 2, none⟩)), (19, 102, .slice q2 ny2 c2)] w66 nx0 ny0 nx1 ny1 nx2 ny2 (flat 16 fX0 nx0) (flat 16 fY0 ny0) (flat 2 fX1 nx1) (flat 2 fY1 ny1) (flat 3 fX2 nx2) (flat 3 fY2 ny2) (L.setIfInBounds 17 true) (a.put (some 100) (.slice ad6 (0 + nx2) c6)) w8
                  rw [Nat.zero_add]
                  exact JP.of (by omega) h23 (hR.app20 hL hi' hp0 (by simp) hown5 hown6 hg6)
                · have h23 := hJ.lt hL (by omega) hi
                  have hR := hJ.2 h23
                  have hi' : L.getD 18 false = false := by rw [← getD_tfP L 18 (by omega)]; exact hi
                  refine wp_field_run 27 _ 2 rfl (hR.fr.ev (by decide) fa8) (v := .pointer (some ⟨YB, 2, none⟩)) (by go_simp) ?_
                  exact JP.of (by omega) h23 (hR.det hL hi' (by omega) (by decide) (by decide) (by simp) (by decide) (by decide))
                · have h23 := hJ.lt hL (by omega) hi
                  have hR := hJ.2 h23
                  have hi' : L.getD 19 false = false := by rw [← getD_tfP L 19 (by omega)]; exact hi
                  have h1 := hR.tab.ev (i := 18) (d := 101) (v := .pointer (some ⟨YB, 2, none⟩)) (by simp) (hp ⟨18, .data⟩ (by simp) rfl)
                  have hc := (hR.bel.cell (p := ⟨YB, 2, none⟩) hYl).trans Y2
                  refine wp_load_run 25 _ rfl h1 (v := .slice q2 ny2 c2) (by go_simp) ?_
                  exact JP.of (by omega) h23 (hR.det hL hi' (by omega) (by decide) (by decide) (by simp) (by decide) (by decide))
                · have h23 := hJ.lt hL (by omega) hi
                  have hR := hJ.2 h23
                  have hi' : L.getD 20 false = false := by rw [← getD_tfP L 20 (by omega)]; exact hi
                  have hp0 := hp ⟨17, .data⟩ (by simp) rfl
                  have h2 : a.eval (.tmp 102) = .slice q2 ny2 c2 := hR.tab.ev (i := 19) (d := 102) (by simp) (hp ⟨19, .data⟩ (by simp) rfl)
                  obtain ⟨ad5, c5, e5, hown5⟩ := hR.ch2.s1 hp0 hi'
                  refine wp_app_rows (.tmp 100) (.tmp 102) rfl Tryz.underlying25 infoNeT rfl (by omega) w66.heap.size ad5 nx2 c5 (flat 3 fX2 nx2) e5 hown5 q2 ny2 c2 fY2 bY2 oY2 h2 (rY2.below hR.bel) zY2 oneY2 (by unfold maxLen; omega) (by omega) hR.bel.size ?_
                  intro ad6 c6 w8 hown6 hg6
                  exact JP.of (by omega) h23 (hR.app21 hL hi' hp0 (by simp) hown5 hown6 hg6)
                · have h23 := hJ.lt hL (by omega) hi
                  have hR := hJ.2 h23
                  have hi' : L.getD 21 false = false := by rw [← getD_tfP L 21 (by omega)]; exact hi
                  have g6 := hp ⟨6, .data⟩ (by simp) rfl
                  have g13 := hp ⟨13, .data⟩ (by simp) rfl
                  have g20 := hp ⟨20, .data⟩ (by simp) rfl
                  obtain ⟨u0, z0, e0, _⟩ := hR.ch0.s2 g6
                  obtain ⟨u1, z1, e1, _⟩ := hR.ch1.s2 g13
                  obtain ⟨u2, z2, e2, _⟩ := hR.ch2.s2 g20
                  have hB := hR.build hL g6 g13 g20 (by simp)
                  rw [e0, e1, e2] at hB
                  have v0 := e0
                  have v1 := e1
                  have v2 := e2
                  rw [Array.getD_eq_getD_getElem?] at v0 v1 v2
                  refine wp_of_run (v := .agg #[.slice u0 (nx0 + ny0) z0, .slice u1 (nx1 + ny1) z1, .slice u2 (nx2 + ny2) z2]) (w' := w7) (by
                    clear hJ hR hB hp e0 e1 e2
                    unfold execOp
                    go_simp) ?_
                  exact JP.of (by omega) h23 hB
                · have h23 := hJ.lt hL (by omega) hi
                  have hR := hJ.2 h23
                  have hi' : L.getD 22 false = false := by rw [← getD_tfP L 22 (by omega)]; exact hi
                  refine wp_alloc_run 27 rfl (w' := w7.alloc (.cells #[.slice none 0 0, .slice none 0 0, .slice none 0 0] 27)) (v := .pointer (some ⟨w7.heap.size, 0, none⟩)) (by go_simp) ?_
                  exact JP.of (by omega) h23 (hR.alloc hL hi' (by simp))
                · have hi' : L.getD 23 false = false := by rw [← getD_tfP L 23 (by omega)]; exact hi
                  have hR := hJ.2 hi'
                  have hall : ∀ i, i < 23 → L.getD i false = true := by
                    intro i hlt
                    rcases (by omega : i = 0 ∨ i = 1 ∨ i = 2 ∨ i = 3 ∨ i = 4 ∨ i = 5 ∨ i = 6 ∨ i = 7 ∨ i = 8 ∨ i = 9 ∨ i = 10 ∨ i = 11 ∨ i = 12 ∨ i = 13 ∨ i = 14 ∨ i = 15 ∨ i = 16 ∨ i = 17 ∨ i = 18 ∨ i = 19 ∨ i = 20 ∨ i = 21 ∨ i = 22) with e | e | e | e | e | e | e | e | e | e | e | e | e | e | e | e | e | e | e | e | e | e | e <;> subst e
                    · exact hp ⟨0, .phase⟩ (by simp) rfl
                    · exact hp ⟨1, .phase⟩ (by simp) rfl
                    · exact hp ⟨2, .phase⟩ (by simp) rfl
                    · exact hp ⟨3, .phase⟩ (by simp) rfl
                    · exact hp ⟨4, .phase⟩ (by simp) rfl
                    · exact hp ⟨5, .phase⟩ (by simp) rfl
                    · exact hp ⟨6, .phase⟩ (by simp) rfl
                    · exact hp ⟨7, .phase⟩ (by simp) rfl
                    · exact hp ⟨8, .phase⟩ (by simp) rfl
                    · exact hp ⟨9, .phase⟩ (by simp) rfl
                    · exact hp ⟨10, .phase⟩ (by simp) rfl
                    · exact hp ⟨11, .phase⟩ (by simp) rfl
                    · exact hp ⟨12, .phase⟩ (by simp) rfl
                    · exact hp ⟨13, .phase⟩ (by simp) rfl
                    · exact hp ⟨14, .phase⟩ (by simp) rfl
                    · exact hp ⟨15, .phase⟩ (by simp) rfl
                    · exact hp ⟨16, .phase⟩ (by simp) rfl
                    · exact hp ⟨17, .phase⟩ (by simp) rfl
                    · exact hp ⟨18, .phase⟩ (by simp) rfl
                    · exact hp ⟨19, .phase⟩ (by simp) rfl
                    · exact hp ⟨20, .phase⟩ (by simp) rfl
                    · exact hp ⟨21, .phase⟩ (by simp) rfl
                    · exact hp ⟨22, .phase⟩ (by simp) rfl
                  obtain ⟨B, a0, c0', a1, c1', a2, c2', eB, e104, hc, hE⟩ := hR.finish (hall 6 (by decide)) (hall 13 (by decide)) (hall 20 (by decide)) (hall 21 (by decide)) (hall 22 (by decide))
                  have b0 := hc.cell 0
                  have b1 := hc.cell 1
                  have b2 := hc.cell 2
                  have bf0 := hc.frz 0
                  have bf1 := hc.frz 1
                  have bf2 := hc.frz 2
                  simp only [List.getElem?_cons_zero, List.getElem?_cons_succ] at b0 b1 b2
                  refine wp_store_run 27 _ _ rfl (show a.eval (.tmp 14) = _ from eB) (show a.eval (.tmp 104) = _ from e104) (w' := ((w7.setCell ⟨B, 0, none⟩ (.slice a0 (nx0 + ny0) c0')).setCell ⟨B, 1, none⟩ (.slice a1 (nx1 + ny1) c1')).setCell ⟨B, 2, none⟩ (.slice a2 (nx2 + ny2) c2')) (by go_simp) ?_
                  refine ⟨fun _ => ⟨fun i hlt => ?_, hE⟩, fun e => ?_⟩
                  · rw [getD_set_other (by omega)]; exact hall i hlt
                  · rw [getD_set_same (by omega)] at e; cases e
              · intro L a w7 hdone hJ
                obtain ⟨_, hfr, hbel, B, a0, c0', a1, c1', a2, c2', eB, hcel, ho0, ho1, ho2⟩ := hJ.1 (hdone 23 (by decide))
                have ha := hfr.eq_puts [(83, a.tmps.getD 83 undef), (84, a.tmps.getD 84 undef), (85, a.tmps.getD 85 undef), (86, a.tmps.getD 86 undef), (87, a.tmps.getD 87 undef), (88, a.tmps.getD 88 undef), (89, a.tmps.getD 89 undef), (90, a.tmps.getD 90 undef), (91, a.tmps.getD 91 undef), (92, a.tmps.getD 92 undef), (93, a.tmps.getD 93 undef), (94, a.tmps.getD 94 undef), (95, a.tmps.getD 95 undef), (96, a.tmps.getD 96 undef), (97, a.tmps.getD 97 undef), (98, a.tmps.getD 98 undef), (99, a.tmps.getD 99 undef), (100, a.tmps.getD 100 undef), (101, a.tmps.getD 101 undef), (102, a.tmps.getD 102 undef), (103, a.tmps.getD 103 undef), (104, a.tmps.getD 104 undef), (14, .pointer (some ⟨B, 0, none⟩))] rfl (by decide) (by rw [aS]; decide) (by
                  intro x hx
                  simp only [List.mem_cons, List.not_mem_nil, or_false] at hx
                  rcases hx with rfl | rfl | rfl | rfl | rfl | rfl | rfl | rfl | rfl | rfl | rfl | rfl | rfl | rfl | rfl | rfl | rfl | rfl | rfl | rfl | rfl | rfl | rfl <;> first | rfl | exact eB)
                generalize a.tmps.getD 83 undef = m83 at ha
                generalize a.tmps.getD 84 undef = m84 at ha
                generalize a.tmps.getD 85 undef = m85 at ha
                generalize a.tmps.getD 86 undef = m86 at ha
                generalize a.tmps.getD 87 undef = m87 at ha
                generalize a.tmps.getD 88 undef = m88 at ha
                generalize a.tmps.getD 89 undef = m89 at ha
                generalize a.tmps.getD 90 undef = m90 at ha
                generalize a.tmps.getD 91 undef = m91 at ha
                generalize a.tmps.getD 92 undef = m92 at ha
                generalize a.tmps.getD 93 undef = m93 at ha
                generalize a.tmps.getD 94 undef = m94 at ha
                generalize a.tmps.getD 95 undef = m95 at ha
                generalize a.tmps.getD 96 undef = m96 at ha
                generalize a.tmps.getD 97 undef = m97 at ha
                generalize a.tmps.getD 98 undef = m98 at ha
                generalize a.tmps.getD 99 undef = m99 at ha
                generalize a.tmps.getD 100 undef = m100 at ha
                generalize a.tmps.getD 101 undef = m101 at ha
                generalize a.tmps.getD 102 undef = m102 at ha
                generalize a.tmps.getD 103 undef = m103 at ha
                generalize a.tmps.getD 104 undef = m104 at ha
                have HB8 := Lib.hid (HB6.out.trans (hbel.mono HB6.out.size))
                have HTU : Hid (TbC w7 (fun j => (#[.slice a0 (nx0 + ny0) c0', .slice a1 (nx1 + ny1) c1', .slice a2 (nx2 + ny2) c2'] : Array Value).getD j undef) (catT xt yt)) := ⟨rows_cat ho0 lX0 lY0 (fun i x hx => (CX0 i x hx).below hbel) (fun i x hx => (CY0 i x hx).below hbel) (by rw [List.length_append, ← lX0, ← lY0]; omega), rows_cat ho1 lX1 lY1 (fun i x hx => (CX1 i x hx).at) (fun i x hx => (CY1 i x hx).at) (by rw [List.length_append, ← lX1, ← lY1]; omega), rows_cat ho2 lX2 lY2 (fun i x hx => (CX2 i x hx).at) (fun i x hx => (CY2 i x hx).at) (by rw [List.length_append, ← lX2, ← lY2]; omega)⟩
                have HTZ8 := Lib.hid (HTZ.out.below hbel)
                have HCU := Lib.hid hcel
                have hZB := (hbel.cell (p := ⟨ZB, 0, none⟩) HZB.out.lt).trans (HZB.out.cell 0)
                have hZB1 := (hbel.cell (p := ⟨ZB, 1, none⟩) HZB.out.lt).trans (HZB.out.cell 1)
                have hZB2 := (hbel.cell (p := ⟨ZB, 2, none⟩) HZB.out.lt).trans (HZB.out.cell 2)
                have U0 := hcel.cell 0
                have U1 := hcel.cell 1
                have U2 := hcel.cell 2
                simp only [List.getElem?_cons_zero, List.getElem?_cons_succ] at hZB hZB1 hZB2 U0 U1 U2
                have HEQ : Hid (Calls Tryz.prog 13 #[.agg #[.slice r0 xtl0 d0, .slice r1 xtl1 d1, .slice r2 xtl2 d2], .agg #[.slice a0 (nx0 + ny0) c0', .slice a1 (nx1 + ny1) c1', .slice a2 (nx2 + ny2) c2']] w7 fun e w' => e = .returned (.bool true) ∧ Below w7.heap.size w7 w') := by
                  have := rEqual12_any (catT xt yt) (catT xt yt) _ _ w7 HTZ8.out HTU.out HWC.out HWC.out
                  rw [eqB_yes rfl, hh0.out, hh1.out, hh2.out] at this
                  exact this
                have hA := HA0.out
                clear hJ hfr hbel eB hdone hcel ho0 ho1 ho2 X0 X1 X2 Y0 Y1 Y2 fa5 fa8 aS
                clear CX0 CX1 CX2 CY0 CY1 CY2 oneX0 oneX1 oneX2 oneY0 oneY1 oneY2 rX0 rX1 rX2 rY0 rY1 rY2 lX0 lX1 lX2 lY0 lY1 lY2
                subst ha
                subst hA
                rw [show ∀ A : Act, puts [(83, m83), (84, m84), (85, m85), (86, m86), (87, m87), (88, m88), (89, m89), (90, m90), (91, m91), (92, m92), (93, m93), (94, m94), (95, m95), (96, m96), (97, m97), (98, m98), (99, m99), (100, m100), (101, m101), (102, m102), (103, m103), (104, m104), (14, .pointer (some ⟨B, 0, none⟩))] A = (((((((((((((((((((((((A.put (some 83) m83).put (some 84) m84).put (some 85) m85).put (some 86) m86).put (some 87) m87).put (some 88) m88).put (some 89) m89).put (some 90) m90).put (some 91) m91).put (some 92) m92).put (some 93) m93).put (some 94) m94).put (some 95) m95).put (some 96) m96).put (some 97) m97).put (some 98) m98).put (some 99) m99).put (some 100) m100).put (some 101) m101).put (some 102) m102).put (some 103) m103).put (some 104) m104).put (some 14) (.pointer (some ⟨B, 0, none⟩))) from fun _ => rfl]
                simp only [Act.put, List.setIfInBounds_toArray, List.set_cons_zero, List.set_cons_succ]
                go_wp2_with fail
                refine HEQ.out.mono ?_
                rintro _ w9 ⟨rfl, hb9⟩
                go_wp2_with fail
                go_ret
                exact ⟨rfl, HB8.out.trans (hb9.mono HB8.out.size)⟩
      · have hz : (ye != 0) = true := by simpa using hye
        have n00 : ((0 : Int) != 0) = false := rfl
        go_wp2_with fail
        go_ret
        exact ⟨rfl, HB5.out⟩
    · have hz : (xe != 0) = true := by simpa using hxe
      go_wp2_with fail
      go_ret
      exact ⟨rfl, HB5.out⟩
end Go.Proofs.YtmleeodfmmpdgaaGreatDoor
/- TableParts' walk, of any two strings. -/
namespace Go.Proofs.YtmleeodfmmpdgaaGreatDoor
open Go.RowKit
theorem tableParts_walk (s t : ByteArray) (w : World) (hs : s.size ≤ 140737488351232) (ht : t.size ≤ 140737488351232) (hM : MaxLen w) (hU : TabU w) : Calls Tryz.prog 4 #[.string s, .string t] w fun e w' => e = .returned (.bool true) ∧ Below w.heap.size w w' := by
  have h := parts_walk s.data.toList t.data.toList w hM hU (by rw [ba_len, ba_len]; omega)
  exact h
end Go.Proofs.YtmleeodfmmpdgaaGreatDoor
