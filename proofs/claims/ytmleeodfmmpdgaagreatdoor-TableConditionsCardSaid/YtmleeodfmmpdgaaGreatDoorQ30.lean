/- Walks: whether the patterns of a locale are valid. -/
import Derived.Test.YtmleeodfmmpdgaaGreatDoorQ29
namespace Go.Proofs.YtmleeodfmmpdgaaGreatDoor
open Go.RowKit
attribute [local go_sem] Ext.cell Ext.frozen
attribute [local go_sem ↓] Go.wp_at_zero Go.wp_at_succ
theorem dec_len (n k : Nat) (z : Int) (hz : (k : Int) = z) : decide (n ≤ k) = !decide (z < (n : Int)) := by
  subst hz
  by_cases h : n ≤ k
  · rw [decide_eq_true h, decide_eq_false (by omega)]; rfl
  · rw [decide_eq_false h, decide_eq_true (by omega)]; rfl
set_option maxRecDepth 20000 in
set_option maxHeartbeats 8000000 in
theorem tpatterns_any (x : Nat → Value) (y : Lc) (w : World) (h : LcC w x y) (hs : SmL y) (hU : TabU w) : Calls Tryz.prog 99 #[.agg #[x 0, x 1, x 2, x 3, x 4, x 5, x 6, x 7, x 8, x 9, x 10, x 11, x 12, x 13, x 14, x 15]] w fun e w' => e = .returned (.bool (okPat y)) ∧ Below w.heap.size w w' := by
  have HU11 : Hid (∀ W, Below w.heap.size w W → Calls Tryz.prog 153 #[x 11, .func (.func 154) #[] #[]] W fun e w' => e = .returned (.bool (uniqV (Lp.style) y.lists)) ∧ Below W.heap.size W w') := fun W hb => uniq_Lp (x 11) y.lists W (h.c11.map hb fun _ _ h => h.at) hs.li.1 hs.li.2
  have HE11 : Hid (∀ W, Below w.heap.size w W → Calls Tryz.prog 159 #[x 11, .func (.func 160) #[] #[]] W fun e w' => e = .returned (.bool (y.lists.all okLp)) ∧ Below W.heap.size W w') := fun W hb => all_Lp (x 11) y.lists W (h.c11.map hb fun _ _ h => h.at) hs.li.2 (hU.below hb)
  have HU12 : Hid (∀ W, Below w.heap.size w W → Calls Tryz.prog 155 #[x 12, .func (.func 156) #[] #[]] W fun e w' => e = .returned (.bool (uniqV (fun u : Up => (u.unit, u.cls)) y.units)) ∧ Below W.heap.size W w') := fun W hb => uniq_Up (x 12) y.units W (h.c12.map hb fun _ _ h => h.at) hs.un.1 hs.un.2
  have HE12 : Hid (∀ W, Below w.heap.size w W → Calls Tryz.prog 161 #[x 12, .func (.func 162) #[] #[]] W fun e w' => e = .returned (.bool (y.units.all okUp)) ∧ Below W.heap.size W w') := fun W hb => all_Up (x 12) y.units W (h.c12.map hb fun _ _ h => h.at) hs.un.2 (hU.below hb)
  have HU13 : Hid (∀ W, Below w.heap.size w W → Calls Tryz.prog 157 #[x 13, .func (.func 158) #[] #[]] W fun e w' => e = .returned (.bool (uniqV (Dp.skel) y.dates)) ∧ Below W.heap.size W w') := fun W hb => uniq_Dp (x 13) y.dates W (h.c13.map hb fun _ _ h => h.at) hs.dt.1 hs.dt.2
  have HE13 : Hid (∀ W, Below w.heap.size w W → Calls Tryz.prog 164 #[x 13, .func (.func 165) #[] #[]] W fun e w' => e = .returned (.bool (y.dates.all okDp)) ∧ Below W.heap.size W w') := fun W hb => all_Dp (x 13) y.dates W (h.c13.map hb fun _ _ h => h.at) hs.dt.2 (hU.below hb)
  have HO : Hid (okPat y = (!decide ((10 : Int) < (y.lists.length : Int)) && (!decide ((100 : Int) < (y.units.length : Int)) && (!decide ((30 : Int) < (y.dates.length : Int)) && (uniqV Lp.style y.lists && (uniqV (fun u : Up => (u.unit, u.cls)) y.units && (uniqV Dp.skel y.dates &&
    (y.lists.all okLp && (y.units.all okUp && y.dates.all okDp))))))))) := by
    rw [← dec_len y.lists.length 10 10 rfl, ← dec_len y.units.length 100 100 rfl, ← dec_len y.dates.length 30 30 rfl]
    rfl
  rw [HO.out]
  obtain ⟨ad11, k11, hv11⟩ := RowsOf.shape h.c11
  rw [Hid, hv11] at HU11 HE11
  replace HU11 := Lib.hid HU11
  replace HE11 := Lib.hid HE11
  have hm11 : y.lists.length ≤ 1000 := hs.li.1
  obtain ⟨ad12, k12, hv12⟩ := RowsOf.shape h.c12
  rw [Hid, hv12] at HU12 HE12
  replace HU12 := Lib.hid HU12
  replace HE12 := Lib.hid HE12
  have hm12 : y.units.length ≤ 1000 := hs.un.1
  obtain ⟨ad13, k13, hv13⟩ := RowsOf.shape h.c13
  rw [Hid, hv13] at HU13 HE13
  replace HU13 := Lib.hid HU13
  replace HE13 := Lib.hid HE13
  have hm13 : y.dates.length ≤ 1000 := hs.dt.1
  rw [hv11, hv12, hv13]
  clear h hs hU HO hv11 hv12 hv13
  generalize uniqV Lp.style y.lists = p1 at *
  generalize uniqV (fun u : Up => (u.unit, u.cls)) y.units = p2 at *
  generalize uniqV Dp.skel y.dates = p3 at *
  generalize y.lists.all okLp = q1 at *
  generalize y.units.all okUp = q2 at *
  generalize y.dates.all okDp = q3 at *
  generalize y.lists.length = n1 at *
  generalize y.units.length = n2 at *
  generalize y.dates.length = n3 at *
  generalize x 0 = u0 at *
  generalize x 1 = u1 at *
  generalize x 2 = u2 at *
  generalize x 3 = u3 at *
  generalize x 4 = u4 at *
  generalize x 5 = u5 at *
  generalize x 6 = u6 at *
  generalize x 7 = u7 at *
  generalize x 8 = u8 at *
  generalize x 9 = u9 at *
  generalize x 10 = u10 at *
  generalize x 14 = u14 at *
  generalize x 15 = u15 at *
  go_enter Tryz.func99, Tryz.ntmps99
  go_upto_region 1 with (fail)
  refine wp_at_worldF ?_
  intro wa hwa
  have HX : Hid (Cel wa w.heap.size 46 [u0, u1, u2, u3, u4, u5, u6, u7, u8, u9, u10, .slice ad11 n1 k11, .slice ad12 n2 k12, .slice ad13 n3 k13, u14, u15]) := by rw [hwa]; exact Cel.new w [u0, u1, u2, u3, u4, u5, u6, u7, u8, u9, u10, .slice ad11 n1 k11, .slice ad12 n2 k12, .slice ad13 n3 k13, u14, u15] 46
  have HB : Hid (Below w.heap.size w wa) := by rw [hwa]; exact (Below.refl _ _).alloc (Nat.le_refl _) _
  have hz := HB.out.size
  clear hwa
  have x11 := HX.out.cell 11
  have x12 := HX.out.cell 12
  have x13 := HX.out.cell 13
  have hlx := HX.out.lt
  simp only [List.getElem?_cons_zero, List.getElem?_cons_succ] at x11 x12 x13
  by_cases g1 : (10 : Int) < (n1 : Int)
  · have d_g1 := decide_eq_true g1
    go_wp2_with fail
    go_ret
    exact ⟨by simp [g1], HB.out⟩
  · have d_g1 := decide_eq_false g1
    by_cases g2 : (100 : Int) < (n2 : Int)
    · have d_g2 := decide_eq_true g2
      go_wp2_with fail
      go_ret
      exact ⟨by simp, HB.out⟩
    · have d_g2 := decide_eq_false g2
      by_cases g3 : (30 : Int) < (n3 : Int)
      · have d_g3 := decide_eq_true g3
        go_wp2_with fail
        go_ret
        exact ⟨by simp, HB.out⟩
      · have d_g3 := decide_eq_false g3
        go_wp2_with fail
        refine (HU11.out _ HB.out).mono ?_
        rintro e w2 ⟨rfl, hb⟩
        replace HX := Lib.hid (HX.out.below hb)
        replace HB := Lib.hid (HB.out.trans (hb.mono HB.out.size))
        clear hb hlx x11 x12 x13
        have x11 := HX.out.cell 11
        have x12 := HX.out.cell 12
        have x13 := HX.out.cell 13
        have hlx := HX.out.lt
        simp only [List.getElem?_cons_zero, List.getElem?_cons_succ] at x11 x12 x13
        cases p1 with
        | false =>
          go_wp2_with fail
          go_ret
          exact ⟨by simp, HB.out⟩
        | true =>
          go_wp2_with fail
          refine (HU12.out _ HB.out).mono ?_
          rintro e w3 ⟨rfl, hb⟩
          replace HX := Lib.hid (HX.out.below hb)
          replace HB := Lib.hid (HB.out.trans (hb.mono HB.out.size))
          clear hb hlx x11 x12 x13
          have x11 := HX.out.cell 11
          have x12 := HX.out.cell 12
          have x13 := HX.out.cell 13
          have hlx := HX.out.lt
          simp only [List.getElem?_cons_zero, List.getElem?_cons_succ] at x11 x12 x13
          cases p2 with
          | false =>
            go_wp2_with fail
            go_ret
            exact ⟨by simp, HB.out⟩
          | true =>
            go_wp2_with fail
            refine (HU13.out _ HB.out).mono ?_
            rintro e w4 ⟨rfl, hb⟩
            replace HX := Lib.hid (HX.out.below hb)
            replace HB := Lib.hid (HB.out.trans (hb.mono HB.out.size))
            clear hb hlx x11 x12 x13
            have x11 := HX.out.cell 11
            have x12 := HX.out.cell 12
            have x13 := HX.out.cell 13
            have hlx := HX.out.lt
            simp only [List.getElem?_cons_zero, List.getElem?_cons_succ] at x11 x12 x13
            cases p3 with
            | false =>
              go_wp2_with fail
              go_ret
              exact ⟨by simp, HB.out⟩
            | true =>
              go_wp2_with fail
              refine (HE11.out _ HB.out).mono ?_
              rintro e w5 ⟨rfl, hb⟩
              replace HX := Lib.hid (HX.out.below hb)
              replace HB := Lib.hid (HB.out.trans (hb.mono HB.out.size))
              clear hb hlx x11 x12 x13
              have x11 := HX.out.cell 11
              have x12 := HX.out.cell 12
              have x13 := HX.out.cell 13
              have hlx := HX.out.lt
              simp only [List.getElem?_cons_zero, List.getElem?_cons_succ] at x11 x12 x13
              cases q1 with
              | false =>
                go_wp2_with fail
                go_ret
                exact ⟨by simp, HB.out⟩
              | true =>
                go_wp2_with fail
                refine (HE12.out _ HB.out).mono ?_
                rintro e w6 ⟨rfl, hb⟩
                replace HX := Lib.hid (HX.out.below hb)
                replace HB := Lib.hid (HB.out.trans (hb.mono HB.out.size))
                clear hb hlx x11 x12 x13
                have x11 := HX.out.cell 11
                have x12 := HX.out.cell 12
                have x13 := HX.out.cell 13
                have hlx := HX.out.lt
                simp only [List.getElem?_cons_zero, List.getElem?_cons_succ] at x11 x12 x13
                cases q2 with
                | false =>
                  go_wp2_with fail
                  go_ret
                  exact ⟨by simp, HB.out⟩
                | true =>
                  go_wp2_with fail
                  refine (HE13.out _ HB.out).mono ?_
                  rintro e w7 ⟨rfl, hb⟩
                  replace HX := Lib.hid (HX.out.below hb)
                  replace HB := Lib.hid (HB.out.trans (hb.mono HB.out.size))
                  clear hb hlx x11 x12 x13
                  have x11 := HX.out.cell 11
                  have x12 := HX.out.cell 12
                  have x13 := HX.out.cell 13
                  have hlx := HX.out.lt
                  simp only [List.getElem?_cons_zero, List.getElem?_cons_succ] at x11 x12 x13
                  cases q3 with
                  | false =>
                    go_wp2_with fail
                    go_ret
                    exact ⟨by simp, HB.out⟩
                  | true =>
                    go_wp2_with fail
                    go_ret
                    exact ⟨by simp [g1, g2, g3], HB.out⟩
end Go.Proofs.YtmleeodfmmpdgaaGreatDoor
