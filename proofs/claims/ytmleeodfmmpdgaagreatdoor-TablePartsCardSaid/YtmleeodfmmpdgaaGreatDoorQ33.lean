/- Walks: the reference's equality of tables. -/
import Derived.Test.YtmleeodfmmpdgaaGreatDoorQ32
import Derived.Test.YtmleeodfmmpdgaaGreatDoorQ30
import Derived.Test.YtmleeodfmmpdgaaGreatDoorQ00
namespace Go.Proofs.YtmleeodfmmpdgaaGreatDoor
open Go.RowKit
attribute [local go_sem] Ext.cell Ext.frozen
attribute [local go_sem ↓] Go.wp_at_zero Go.wp_at_succ
theorem cellsLcV : Tryz.prog.cellsOf 46 = 16 := by kernel_rfl
theorem cellsAlV : Tryz.prog.cellsOf 61 = 2 := by kernel_rfl
theorem cellsNeV : Tryz.prog.cellsOf 58 = 3 := by kernel_rfl
def TbWf (t : Tb) : Prop := ∀ y ∈ t.locs, LcWf y
theorem TbWf.at {l : List Lc} (h : ∀ y ∈ l, LcWf y) {k : Nat} (hk : k < l.length) : LcWf (l.getD k default) := by
  rw [← getD_of l default hk]
  exact h _ (List.getElem_mem hk)
set_option maxRecDepth 20000 in
set_option maxHeartbeats 4000000 in
theorem rEqual12_any (a b : Tb) (f g : Nat → Value) (w : World) (ha : TbC w f a) (hb : TbC w g b) (hwa : TbWf a) (hwb : TbWf b) :
    Calls Tryz.prog 13 #[.agg #[f 0, f 1, f 2], .agg #[g 0, g 1, g 2]] w fun e w' => e = .returned (.bool (eqB a b)) ∧ Below w.heap.size w w' := by
  obtain ⟨a0, a1, a2⟩ := a
  obtain ⟨b0, b1, b2⟩ := b
  have HWA : Hid (∀ y ∈ a0, LcWf y) := hwa
  have HWB : Hid (∀ y ∈ b0, LcWf y) := hwb
  clear hwa hwb
  obtain ⟨ra0, ra1, ra2⟩ := ha
  obtain ⟨rb0, rb1, rb2⟩ := hb
  simp only at ra0 ra1 ra2 rb0 rb1 rb2
  obtain ⟨ada0, ca0, fa0, ba0, offa0, ta0, hra0, hna0, hca0, hma0, hCa0⟩ := ra0.opn
  obtain ⟨ada1, ca1, fa1, ba1, offa1, ta1, hra1, hna1, hca1, hma1, hCa1⟩ := ra1.opn
  obtain ⟨ada2, ca2, fa2, ba2, offa2, ta2, hra2, hna2, hca2, hma2, hCa2⟩ := ra2.opn
  obtain ⟨adb0, cb0, fb0, bb0, offb0, tb0, hrb0, hnb0, hcb0, hmb0, hCb0⟩ := rb0.opn
  obtain ⟨adb1, cb1, fb1, bb1, offb1, tb1, hrb1, hnb1, hcb1, hmb1, hCb1⟩ := rb1.opn
  obtain ⟨adb2, cb2, fb2, bb2, offb2, tb2, hrb2, hnb2, hcb2, hmb2, hCb2⟩ := rb2.opn
  rw [ta0, ta1, ta2, tb0, tb1, tb2]
  clear ta0 ra0 ta1 ra1 ta2 ra2 tb0 rb0 tb1 rb1 tb2 rb2
  have HNO0 : Hid (a0 ≠ b0 → eqB (⟨a0, a1, a2⟩ : Tb) (⟨b0, b1, b2⟩ : Tb) = false) := fun h => eqB_no (fun e => h (by injection e))
  have HNO1 : Hid (a1 ≠ b1 → eqB (⟨a0, a1, a2⟩ : Tb) (⟨b0, b1, b2⟩ : Tb) = false) := fun h => eqB_no (fun e => h (by injection e))
  have HNO2 : Hid (a2 ≠ b2 → eqB (⟨a0, a1, a2⟩ : Tb) (⟨b0, b1, b2⟩ : Tb) = false) := fun h => eqB_no (fun e => h (by injection e))
  have HYS : Hid ((a0 = b0 ∧ a1 = b1 ∧ a2 = b2) → eqB (⟨a0, a1, a2⟩ : Tb) (⟨b0, b1, b2⟩ : Tb) = true) := fun h1 => eqB_yes (by obtain ⟨rfl, rfl, rfl⟩ := h1; rfl)
  generalize eqB (⟨a0, a1, a2⟩ : Tb) (⟨b0, b1, b2⟩ : Tb) = res at *
  have HRa0 := Lib.hid hra0
  have HCa0 := Lib.hid hCa0
  obtain ⟨n0, hn⟩ : ∃ n, a0.length = n := ⟨_, rfl⟩
  have HLa0 := Lib.hid hn
  clear hra0 hCa0 hna0
  rw [hn] at HRa0 hca0 hma0 ⊢
  clear hn
  have HRb0 := Lib.hid hrb0
  have HCb0 := Lib.hid hCb0
  obtain ⟨nx0, hn⟩ : ∃ n, b0.length = n := ⟨_, rfl⟩
  have HLb0 := Lib.hid hn
  clear hrb0 hCb0 hnb0
  rw [hn] at HRb0 hcb0 hmb0 ⊢
  clear hn
  have HRa1 := Lib.hid hra1
  have HCa1 := Lib.hid hCa1
  obtain ⟨n1, hn⟩ : ∃ n, a1.length = n := ⟨_, rfl⟩
  have HLa1 := Lib.hid hn
  clear hra1 hCa1 hna1
  rw [hn] at HRa1 hca1 hma1 ⊢
  clear hn
  have HRb1 := Lib.hid hrb1
  have HCb1 := Lib.hid hCb1
  obtain ⟨nx1, hn⟩ : ∃ n, b1.length = n := ⟨_, rfl⟩
  have HLb1 := Lib.hid hn
  clear hrb1 hCb1 hnb1
  rw [hn] at HRb1 hcb1 hmb1 ⊢
  clear hn
  have HRa2 := Lib.hid hra2
  have HCa2 := Lib.hid hCa2
  obtain ⟨n2, hn⟩ : ∃ n, a2.length = n := ⟨_, rfl⟩
  have HLa2 := Lib.hid hn
  clear hra2 hCa2 hna2
  rw [hn] at HRa2 hca2 hma2 ⊢
  clear hn
  have HRb2 := Lib.hid hrb2
  have HCb2 := Lib.hid hCb2
  obtain ⟨nx2, hn⟩ : ∃ n, b2.length = n := ⟨_, rfl⟩
  have HLb2 := Lib.hid hn
  clear hrb2 hCb2 hnb2
  rw [hn] at HRb2 hcb2 hmb2 ⊢
  clear hn
  have HLE0 : Hid (n0 ≠ nx0 → res = false) := fun h => HNO0.out (fun e => h (by rw [← HLa0.out, ← HLb0.out, e]))
  have HLE1 : Hid (n1 ≠ nx1 → res = false) := fun h => HNO1.out (fun e => h (by rw [← HLa1.out, ← HLb1.out, e]))
  have HLE2 : Hid (n2 ≠ nx2 → res = false) := fun h => HNO2.out (fun e => h (by rw [← HLa2.out, ← HLb2.out, e]))
  have HB2 : Hid (Below w.heap.size w ((w.alloc (.cells #[.slice ada0 n0 ca0, .slice ada1 n1 ca1, .slice ada2 n2 ca2] 27)).alloc (.cells #[.slice adb0 nx0 cb0, .slice adb1 nx1 cb1, .slice adb2 nx2 cb2] 27))) := Bel.alloc (Bel.alloc (Bel.refl w) _) _
  have HX : Hid (Cel ((w.alloc (.cells #[.slice ada0 n0 ca0, .slice ada1 n1 ca1, .slice ada2 n2 ca2] 27)).alloc (.cells #[.slice adb0 nx0 cb0, .slice adb1 nx1 cb1, .slice adb2 nx2 cb2] 27)) w.heap.size 27 [.slice ada0 n0 ca0, .slice ada1 n1 ca1, .slice ada2 n2 ca2]) := (Cel.new w [.slice ada0 n0 ca0, .slice ada1 n1 ca1, .slice ada2 n2 ca2] 27).below (Bel.alloc (Bel.refl _) _)
  have HY : Hid (Cel ((w.alloc (.cells #[.slice ada0 n0 ca0, .slice ada1 n1 ca1, .slice ada2 n2 ca2] 27)).alloc (.cells #[.slice adb0 nx0 cb0, .slice adb1 nx1 cb1, .slice adb2 nx2 cb2] 27)) (w.heap.size + 1) 27 [.slice adb0 nx0 cb0, .slice adb1 nx1 cb1, .slice adb2 nx2 cb2]) := by
    have := Cel.new (w.alloc (.cells #[.slice ada0 n0 ca0, .slice ada1 n1 ca1, .slice ada2 n2 ca2] 27)) [.slice adb0 nx0 cb0, .slice adb1 nx1 cb1, .slice adb2 nx2 cb2] 27
    rwa [show (w.alloc (.cells #[.slice ada0 n0 ca0, .slice ada1 n1 ca1, .slice ada2 n2 ca2] 27)).heap.size = w.heap.size + 1 by simp] at this
  go_enter Tryz.func13, Tryz.ntmps13
  go_upto_region 1 with (fail)
  generalize (w.alloc (.cells #[.slice ada0 n0 ca0, .slice ada1 n1 ca1, .slice ada2 n2 ca2] 27)).alloc (.cells #[.slice adb0 nx0 cb0, .slice adb1 nx1 cb1, .slice adb2 nx2 cb2] 27) = w2 at *
  have x0 := HX.out.cell 0
  have y0 := HY.out.cell 0
  have x1 := HX.out.cell 1
  have y1 := HY.out.cell 1
  have x2 := HX.out.cell 2
  have y2 := HY.out.cell 2
  simp only [List.getElem?_cons_zero, List.getElem?_cons_succ] at x0 y0 x1 y1 x2 y2
  by_cases h0 : n0 = nx0
  · subst h0
    have l0 : ((n0 : Int) != (n0 : Int)) = false := by simp
    by_cases h1 : n1 = nx1
    · subst h1
      have l1 : ((n1 : Int) != (n1 : Int)) = false := by simp
      by_cases h2 : n2 = nx2
      · subst h2
        have l2 : ((n2 : Int) != (n2 : Int)) = false := by simp
        have HBZ : Hid (Below w2.heap.size w2 w2) := Below.refl _ _
        clear HLE0 HLE1 HLE2
        go_wp2_with fail
        skip
        go_loopw [5] (fun i wr => ∃ k : Nat, i = .int .i64 (k : Int) ∧ k ≤ n0 ∧ (∀ j, j < k → a0.getD j default = b0.getD j default) ∧ Below w2.heap.size w2 wr) (fun i _ => n0 - (intOf i).toNat)
        case atStart => exact ⟨0, rfl, Nat.zero_le _, fun i hi => absurd hi (Nat.not_lt_zero _), HBZ.out⟩
        case round =>
          obtain ⟨k, rfl, hkn, hal, hbl⟩ := hrel
          have HAL := Lib.hid hal
          have HBL := Lib.hid hbl
          have hzr := hbl.size
          have HBw := Lib.hid (HB2.out.trans (hbl.mono HB2.out.size))
          clear hal hbl
          have X3 := (HX.out.below HBL.out).cell 0
          have Y3 := (HY.out.below HBL.out).cell 0
          simp only [List.getElem?_cons_zero] at X3 Y3
          by_cases hlt : k < n0
          · have gA := HRa0.out.below HBw.out
            have gB := HRb0.out.below HBw.out
            have ixA := fun W => gA.ix (P := Tryz.prog) 23 46 Tryz.underlying23 cellsLcV (by decide) hlt ca0 W
            have ixB := fun W => gB.ix (P := Tryz.prog) 23 46 Tryz.underlying23 cellsLcV (by decide) hlt cb0 W
            have blA := gA.block (by omega) (by decide)
            have blB := gB.block (by omega) (by decide)
            have eA0 := gA.cell k 0 hlt (by decide)
            have eA1 := gA.cell k 1 hlt (by decide)
            have eA2 := gA.cell k 2 hlt (by decide)
            have eA3 := gA.cell k 3 hlt (by decide)
            have eA4 := gA.cell k 4 hlt (by decide)
            have eA5 := gA.cell k 5 hlt (by decide)
            have eA6 := gA.cell k 6 hlt (by decide)
            have eA7 := gA.cell k 7 hlt (by decide)
            have eA8 := gA.cell k 8 hlt (by decide)
            have eA9 := gA.cell k 9 hlt (by decide)
            have eA10 := gA.cell k 10 hlt (by decide)
            have eA11 := gA.cell k 11 hlt (by decide)
            have eA12 := gA.cell k 12 hlt (by decide)
            have eA13 := gA.cell k 13 hlt (by decide)
            have eA14 := gA.cell k 14 hlt (by decide)
            have eA15 := gA.cell k 15 hlt (by decide)
            have eB0 := gB.cell k 0 hlt (by decide)
            have eB1 := gB.cell k 1 hlt (by decide)
            have eB2 := gB.cell k 2 hlt (by decide)
            have eB3 := gB.cell k 3 hlt (by decide)
            have eB4 := gB.cell k 4 hlt (by decide)
            have eB5 := gB.cell k 5 hlt (by decide)
            have eB6 := gB.cell k 6 hlt (by decide)
            have eB7 := gB.cell k 7 hlt (by decide)
            have eB8 := gB.cell k 8 hlt (by decide)
            have eB9 := gB.cell k 9 hlt (by decide)
            have eB10 := gB.cell k 10 hlt (by decide)
            have eB11 := gB.cell k 11 hlt (by decide)
            have eB12 := gB.cell k 12 hlt (by decide)
            have eB13 := gB.cell k 13 hlt (by decide)
            have eB14 := gB.cell k 14 hlt (by decide)
            have eB15 := gB.cell k 15 hlt (by decide)
            clear gA gB
            simp only [Nat.add_zero] at eA0 eB0
            have hkA : k < a0.length := by rw [HLa0.out]; exact hlt
            have hkB : k < b0.length := by rw [HLb0.out]; exact hlt
            have HNX : Hid (a0.getD k default = b0.getD k default → ∀ j, j < k + 1 → a0.getD j default = b0.getD j default) := fun h j hj => by
              rcases Nat.lt_or_ge j k with h' | h'
              · exact HAL.out j h'
              · rw [show j = k by omega]; exact h
            have HNE : Hid (a0.getD k default ≠ b0.getD k default → res = false) := fun h => HNO0.out (getD_ne h)
            have hA := HCa0.out k hkA
            have hB := HCb0.out k hkB
            rw [getD_of a0 default hkA] at hA
            rw [getD_of b0 default hkB] at hB
            have hwA := TbWf.at HWA.out hkA
            have hwB := TbWf.at HWB.out hkB
            generalize a0.getD k default = x at *
            generalize b0.getD k default = y at *
            have HCALL : Hid (∀ W, Below wr.heap.size wr W → Calls Tryz.prog 30 #[.agg #[fa0 k 0, fa0 k 1, fa0 k 2, fa0 k 3, fa0 k 4, fa0 k 5, fa0 k 6, fa0 k 7, fa0 k 8, fa0 k 9, fa0 k 10, fa0 k 11, fa0 k 12, fa0 k 13, fa0 k 14, fa0 k 15], .agg #[fb0 k 0, fb0 k 1, fb0 k 2, fb0 k 3, fb0 k 4, fb0 k 5, fb0 k 6, fb0 k 7, fb0 k 8, fb0 k 9, fb0 k 10, fb0 k 11, fb0 k 12, fb0 k 13, fb0 k 14, fb0 k 15]] W fun e w' => e = .returned (.bool (eqB x y)) ∧ Below W.heap.size W w') := fun W hW =>
              rSameLocale_any x y (fa0 k) (fb0 k) W (hA.below (HBw.out.trans (hW.mono (Nat.le_trans HB2.out.size hzr)))) (hB.below (HBw.out.trans (hW.mono (Nat.le_trans HB2.out.size hzr)))) hwA hwB
            generalize fa0 k 0 = va0 at *
            generalize fa0 k 1 = va1 at *
            generalize fa0 k 2 = va2 at *
            generalize fa0 k 3 = va3 at *
            generalize fa0 k 4 = va4 at *
            generalize fa0 k 5 = va5 at *
            generalize fa0 k 6 = va6 at *
            generalize fa0 k 7 = va7 at *
            generalize fa0 k 8 = va8 at *
            generalize fa0 k 9 = va9 at *
            generalize fa0 k 10 = va10 at *
            generalize fa0 k 11 = va11 at *
            generalize fa0 k 12 = va12 at *
            generalize fa0 k 13 = va13 at *
            generalize fa0 k 14 = va14 at *
            generalize fa0 k 15 = va15 at *
            generalize fb0 k 0 = vb0 at *
            generalize fb0 k 1 = vb1 at *
            generalize fb0 k 2 = vb2 at *
            generalize fb0 k 3 = vb3 at *
            generalize fb0 k 4 = vb4 at *
            generalize fb0 k 5 = vb5 at *
            generalize fb0 k 6 = vb6 at *
            generalize fb0 k 7 = vb7 at *
            generalize fb0 k 8 = vb8 at *
            generalize fb0 k 9 = vb9 at *
            generalize fb0 k 10 = vb10 at *
            generalize fb0 k 11 = vb11 at *
            generalize fb0 k 12 = vb12 at *
            generalize fb0 k 13 = vb13 at *
            generalize fb0 k 14 = vb14 at *
            generalize fb0 k 15 = vb15 at *
            clear hwA hwB hA hB hkA hkB
            have HN1 : Hid (eqB x y = true → ∀ j, j < k + 1 → a0.getD j default = b0.getD j default) := fun h => HNX.out (eqB_iff.1 h)
            have HN0 : Hid (eqB x y = false → res = false) := fun h => HNE.out (fun e => by rw [eqB_yes e] at h; cases h)
            generalize eqB x y = ans at *
            clear HNX HNE
            have hX2 := HX.out.lt
            have hY2 := HY.out.lt
            have hXw : w.heap.size < wr.heap.size := by have := HBL.out.size; omega
            have hYw : w.heap.size + 1 < wr.heap.size := by have := HBL.out.size; omega
            go_wp2_with fail
            refine wp_region_ext (by kernel_rfl) (by kernel_rfl) ?_
            repeat (go_big_quiet_step ((go_at_call 30; refine Calls.ext (HCALL.out _ ?_); exact Subtype.property _)))
            refine wpQuiet_nil ?_
            intro _ hw'
            obtain ⟨X9, hw''⟩ := hw'
            subst hw''
            have HBE := Lib.hid (HBL.out.trans (X9.2.mono hzr))
            cases ans with
            | true =>
              have HN := Lib.hid (HN1.out rfl)
              go_wp2_with fail
              go_roundw
              case rel => exact ⟨k + 1, by go_num, by omega, HN.out, HBE.out⟩
              case measure => simp [intOf]; omega
            | false =>
              have HN := Lib.hid (HN0.out rfl)
              go_wp2_with fail
              go_ret
              exact ⟨by rw [HN.out]; rfl, HB2.out.trans (HBE.out.mono HB2.out.size)⟩
          · obtain rfl : k = n0 := by omega
            have HE0 : Hid (a0 = b0) := list_getD (by rw [HLa0.out, HLb0.out]) (fun j hj => HAL.out j (by rw [HLa0.out] at hj; exact hj))
            have HBZ := HBL
            obtain ⟨wz0, hwz⟩ : ∃ W, W = wr := ⟨_, rfl⟩
            rw [← hwz] at HBZ X3 Y3 ⊢
            clear HBw HBL HAL hwz hzr
            go_wp2_with fail
            clear X3 Y3
            go_loopw [6] (fun i wr => ∃ k : Nat, i = .int .i64 (k : Int) ∧ k ≤ n1 ∧ (∀ j, j < k → a1.getD j default = b1.getD j default) ∧ Below w2.heap.size w2 wr) (fun i _ => n1 - (intOf i).toNat)
            case atStart => exact ⟨0, rfl, Nat.zero_le _, fun i hi => absurd hi (Nat.not_lt_zero _), HBZ.out⟩
            case round =>
              obtain ⟨k, rfl, hkn, hal, hbl⟩ := hrel
              have HAL := Lib.hid hal
              have HBL := Lib.hid hbl
              have hzr := hbl.size
              have HBw := Lib.hid (HB2.out.trans (hbl.mono HB2.out.size))
              clear hal hbl
              have X3 := (HX.out.below HBL.out).cell 1
              have Y3 := (HY.out.below HBL.out).cell 1
              simp only [List.getElem?_cons_zero, List.getElem?_cons_succ] at X3 Y3
              by_cases hlt : k < n1
              · have gA := HRa1.out.below HBw.out
                have gB := HRb1.out.below HBw.out
                have ixA := fun W => gA.ix (P := Tryz.prog) 24 61 Tryz.underlying24 cellsAlV (by decide) hlt ca1 W
                have ixB := fun W => gB.ix (P := Tryz.prog) 24 61 Tryz.underlying24 cellsAlV (by decide) hlt cb1 W
                have blA := gA.block (by omega) (by decide)
                have blB := gB.block (by omega) (by decide)
                have eA0 := gA.cell k 0 hlt (by decide)
                have eA1 := gA.cell k 1 hlt (by decide)
                have eB0 := gB.cell k 0 hlt (by decide)
                have eB1 := gB.cell k 1 hlt (by decide)
                clear gA gB
                simp only [Nat.add_zero] at eA0 eB0
                have hkA : k < a1.length := by rw [HLa1.out]; exact hlt
                have hkB : k < b1.length := by rw [HLb1.out]; exact hlt
                have HNX : Hid (a1.getD k default = b1.getD k default → ∀ j, j < k + 1 → a1.getD j default = b1.getD j default) := fun h j hj => by
                  rcases Nat.lt_or_ge j k with h' | h'
                  · exact HAL.out j h'
                  · rw [show j = k by omega]; exact h
                have HNE : Hid (a1.getD k default ≠ b1.getD k default → res = false) := fun h => HNO1.out (getD_ne h)
                have hA := HCa1.out k hkA
                have hB := HCb1.out k hkB
                rw [getD_of a1 default hkA] at hA
                rw [getD_of b1 default hkB] at hB
                generalize a1.getD k default = x at *
                generalize b1.getD k default = y at *
                obtain ⟨x0, x1⟩ := x
                obtain ⟨y0, y1⟩ := y
                obtain ⟨⟨hA0, zA0⟩, ⟨hA1, zA1⟩⟩ := hA
                obtain ⟨⟨hB0, zB0⟩, ⟨hB1, zB1⟩⟩ := hB
                simp only at hA0 zA0 hB0 zB0 hA1 zA1 hB1 zB1
                rw [hA0] at eA0
                rw [hB0] at eB0
                rw [hA1] at eA1
                rw [hB1] at eB1
                have hq := fun W => eq_AlP x0 x1 y0 y1 W (szM zA0) (szM zA1) (szM zB0) (szM zB1)
                clear hkA hkB hA0 zA0 hB0 zB0 hA1 zA1 hB1 zB1
                by_cases hxy : x0 = y0 ∧ x1 = y1
                · rw [decide_eq_true hxy] at hq
                  have HN := Lib.hid (HNX.out (by obtain ⟨rfl, rfl⟩ := hxy; rfl))
                  clear HNX HNE hxy
                  go_wp2_with fail
                  go_quiet (fail)
                  go_wp2_with fail
                  go_roundw
                  case rel => exact ⟨k + 1, by go_num, by omega, HN.out, HBL.out.trans ((below_drewN _ _).mono hzr)⟩
                  case measure => simp [intOf]; omega
                · rw [decide_eq_false hxy] at hq
                  have HN := Lib.hid (HNE.out (fun e => hxy (by injection e with e0 e1; exact ⟨e0, e1⟩)))
                  clear HNX HNE hxy
                  go_wp2_with fail
                  go_quiet (fail)
                  go_wp2_with fail
                  go_ret
                  exact ⟨by rw [HN.out]; rfl, HBw.out.trans ((below_drewN _ _).mono (Nat.le_trans HB2.out.size hzr))⟩
              · obtain rfl : k = n1 := by omega
                have HE1 : Hid (a1 = b1) := list_getD (by rw [HLa1.out, HLb1.out]) (fun j hj => HAL.out j (by rw [HLa1.out] at hj; exact hj))
                have HBZ := HBL
                obtain ⟨wz1, hwz⟩ : ∃ W, W = wr := ⟨_, rfl⟩
                rw [← hwz] at HBZ X3 Y3 ⊢
                clear HBw HBL HAL hwz hzr
                go_wp2_with fail
                clear X3 Y3
                go_loopw [7] (fun i wr => ∃ k : Nat, i = .int .i64 (k : Int) ∧ k ≤ n2 ∧ (∀ j, j < k → a2.getD j default = b2.getD j default) ∧ Below w2.heap.size w2 wr) (fun i _ => n2 - (intOf i).toNat)
                case atStart => exact ⟨0, rfl, Nat.zero_le _, fun i hi => absurd hi (Nat.not_lt_zero _), HBZ.out⟩
                case round =>
                  obtain ⟨k, rfl, hkn, hal, hbl⟩ := hrel
                  have HAL := Lib.hid hal
                  have HBL := Lib.hid hbl
                  have hzr := hbl.size
                  have HBw := Lib.hid (HB2.out.trans (hbl.mono HB2.out.size))
                  clear hal hbl
                  have X3 := (HX.out.below HBL.out).cell 2
                  have Y3 := (HY.out.below HBL.out).cell 2
                  simp only [List.getElem?_cons_zero, List.getElem?_cons_succ] at X3 Y3
                  by_cases hlt : k < n2
                  · have gA := HRa2.out.below HBw.out
                    have gB := HRb2.out.below HBw.out
                    have ixA := fun W => gA.ix (P := Tryz.prog) 25 58 Tryz.underlying25 cellsNeV (by decide) hlt ca2 W
                    have ixB := fun W => gB.ix (P := Tryz.prog) 25 58 Tryz.underlying25 cellsNeV (by decide) hlt cb2 W
                    have blA := gA.block (by omega) (by decide)
                    have blB := gB.block (by omega) (by decide)
                    have eA0 := gA.cell k 0 hlt (by decide)
                    have eA1 := gA.cell k 1 hlt (by decide)
                    have eA2 := gA.cell k 2 hlt (by decide)
                    have eB0 := gB.cell k 0 hlt (by decide)
                    have eB1 := gB.cell k 1 hlt (by decide)
                    have eB2 := gB.cell k 2 hlt (by decide)
                    clear gA gB
                    simp only [Nat.add_zero] at eA0 eB0
                    have hkA : k < a2.length := by rw [HLa2.out]; exact hlt
                    have hkB : k < b2.length := by rw [HLb2.out]; exact hlt
                    have HNX : Hid (a2.getD k default = b2.getD k default → ∀ j, j < k + 1 → a2.getD j default = b2.getD j default) := fun h j hj => by
                      rcases Nat.lt_or_ge j k with h' | h'
                      · exact HAL.out j h'
                      · rw [show j = k by omega]; exact h
                    have HNE : Hid (a2.getD k default ≠ b2.getD k default → res = false) := fun h => HNO2.out (getD_ne h)
                    have hA := HCa2.out k hkA
                    have hB := HCb2.out k hkB
                    rw [getD_of a2 default hkA] at hA
                    rw [getD_of b2 default hkB] at hB
                    generalize a2.getD k default = x at *
                    generalize b2.getD k default = y at *
                    obtain ⟨x0, x1, x2⟩ := x
                    obtain ⟨y0, y1, y2⟩ := y
                    obtain ⟨⟨hA0, zA0⟩, ⟨hA1, zA1⟩, ⟨hA2, zA2⟩⟩ := hA
                    obtain ⟨⟨hB0, zB0⟩, ⟨hB1, zB1⟩, ⟨hB2, zB2⟩⟩ := hB
                    simp only at hA0 zA0 hB0 zB0 hA1 zA1 hB1 zB1 hA2 zA2 hB2 zB2
                    rw [hA0] at eA0
                    rw [hB0] at eB0
                    rw [hA1] at eA1
                    rw [hB1] at eB1
                    rw [hA2] at eA2
                    rw [hB2] at eB2
                    have hq := fun W => eq_NeP x0 x1 x2 y0 y1 y2 W (szM zA0) (szM zA1) (wf_of zA2.1 zA2.2) (szM zB0) (szM zB1) (wf_of zB2.1 zB2.2)
                    clear hkA hkB hA0 zA0 hB0 zB0 hA1 zA1 hB1 zB1 hA2 zA2 hB2 zB2
                    by_cases hxy : x0 = y0 ∧ x1 = y1 ∧ x2 = y2
                    · rw [decide_eq_true hxy] at hq
                      have HN := Lib.hid (HNX.out (by obtain ⟨rfl, rfl, rfl⟩ := hxy; rfl))
                      clear HNX HNE hxy
                      go_wp2_with fail
                      go_quiet (fail)
                      go_wp2_with fail
                      go_roundw
                      case rel => exact ⟨k + 1, by go_num, by omega, HN.out, HBL.out.trans ((below_drewN _ _).mono hzr)⟩
                      case measure => simp [intOf]; omega
                    · rw [decide_eq_false hxy] at hq
                      have HN := Lib.hid (HNE.out (fun e => hxy (by injection e with e0 e1 e2; exact ⟨e0, e1, e2⟩)))
                      clear HNX HNE hxy
                      go_wp2_with fail
                      go_quiet (fail)
                      go_wp2_with fail
                      go_ret
                      exact ⟨by rw [HN.out]; rfl, HBw.out.trans ((below_drewN _ _).mono (Nat.le_trans HB2.out.size hzr))⟩
                  · obtain rfl : k = n2 := by omega
                    have HE2 : Hid (a2 = b2) := list_getD (by rw [HLa2.out, HLb2.out]) (fun j hj => HAL.out j (by rw [HLa2.out] at hj; exact hj))
                    have HBZ := HBL
                    obtain ⟨wz2, hwz⟩ : ∃ W, W = wr := ⟨_, rfl⟩
                    rw [← hwz] at HBZ X3 Y3 ⊢
                    clear HBw HBL HAL hwz hzr
                    have HS := Lib.hid (HYS.out ⟨HE0.out, HE1.out, HE2.out⟩)
                    go_wp2_with fail
                    go_ret
                    exact ⟨by rw [HS.out]; rfl, HB2.out.trans (HBZ.out.mono HB2.out.size)⟩
      · have HN := Lib.hid (HLE2.out h2)
        have l2 : ((n2 : Int) != (nx2 : Int)) = true := by simp only [bne_iff_ne]; omega
        have l2' : ¬ ((n2 : Int) = (nx2 : Int)) := by omega
        go_wp2_with fail
        go_ret
        exact ⟨by rw [HN.out]; rfl, HB2.out⟩
    · have HN := Lib.hid (HLE1.out h1)
      have l1 : ((n1 : Int) != (nx1 : Int)) = true := by simp only [bne_iff_ne]; omega
      have l1' : ¬ ((n1 : Int) = (nx1 : Int)) := by omega
      go_wp2_with fail
      go_ret
      exact ⟨by rw [HN.out]; rfl, HB2.out⟩
  · have HN := Lib.hid (HLE0.out h0)
    have l0 : ((n0 : Int) != (nx0 : Int)) = true := by simp only [bne_iff_ne]; omega
    have l0' : ¬ ((n0 : Int) = (nx0 : Int)) := by omega
    go_wp2_with fail
    go_ret
    exact ⟨by rw [HN.out]; rfl, HB2.out⟩
end Go.Proofs.YtmleeodfmmpdgaaGreatDoor
/- Plain: the numbers of what is read lie in their range. -/
namespace Go.Proofs.YtmleeodfmmpdgaaGreatDoor
def NumOk (z : Int) : Prop := 0 ≤ z ∧ z ≤ 100000
theorem NumOk.w6 {z : Int} (h : NumOk z) : W6i z := wf_of (by have := h.1; omega) (by have := h.2; omega)
theorem NumOk.zero : NumOk 0 := ⟨Int.le_refl _, by decide⟩
theorem decC_le {t : List UInt8} (h : numC t = true) : NumOk (decC t : Int) := by
  have hb : ∀ c : UInt8, c.toNat - 48 ≤ 207 := fun c => by have := c.toNat_lt; omega
  refine ⟨Int.natCast_nonneg _, ?_⟩
  have : decC t ≤ 100000 := by
    match t, h with
    | [a], _ => have := hb a; simp [decC]; omega
    | [a, b], _ => have := hb a; have := hb b; simp [decC]; omega
    | [a, b, c], _ => have := hb a; have := hb b; have := hb c; simp [decC]; omega
    | a :: b :: c :: d :: r, h => simp [numC] at h
  omega
theorem number_ok (s : List UInt8) (chk : Int → Int) (p : CP) : NumOk (CP.number s chk p).1 := by
  unfold CP.number
  dsimp only
  by_cases hn : numC (tokI s p.pos) = true
  · rw [if_pos hn]
    by_cases he : (p.skip s).err = 0
    · rw [if_pos he]
      by_cases hc : chk (decC (tokI s p.pos)) = 0
      · rw [if_pos hc]; exact decC_le hn
      · rw [if_neg hc]; exact NumOk.zero
    · rw [if_neg he]; exact NumOk.zero
  · rw [if_neg hn, if_neg (CP.fail_e (by decide) _)]
    exact NumOk.zero
theorem span_ok (s : List UInt8) (op : Int) (n : Nat) (p : CP) : NumOk (CP.span s op n p).1.1 ∧ NumOk (CP.span s op n p).1.2 := by
  unfold CP.span
  dsimp only
  split
  · exact ⟨number_ok _ _ _, number_ok _ _ _⟩
  · exact ⟨number_ok _ _ _, number_ok _ _ _⟩
def SpOk (l : List (Int × Int)) : Prop := ∀ x ∈ l, W6i x.1 ∧ W6i x.2
theorem SpOk.snoc {l : List (Int × Int)} (h : SpOk l) {x : Int × Int} (hx : NumOk x.1 ∧ NumOk x.2) : SpOk (l ++ [x]) := fun y hy => by
  rcases List.mem_append.1 hy with g | g
  · exact h y g
  · rw [List.mem_singleton.1 g]; exact ⟨hx.1.w6, hx.2.w6⟩
theorem spans_ok (s : List UInt8) (op : Int) : ∀ (n : Nat) (l : List (Int × Int)) (p : CP), SpOk l → SpOk (CP.spans s op n l p).1
  | 0, _, _, h => h
  | n + 1, l, p, h => by
    rw [CP.spans]
    split
    · split
      · exact spans_ok s op n _ _ (h.snoc (span_ok s op _ p))
      · exact h.snoc (span_ok s op _ p)
    · exact h
theorem relation_wf (s : List UInt8) (p : CP) : RelWf (CP.relation s p).1 := by
  unfold RelWf CP.relation
  dsimp only
  generalize (6 : Nat) = n
  exact spans_ok s _ n [] _ fun x hx => by cases hx
theorem conj_wf (s : List UInt8) : ∀ (n : Nat) (l : List Rel) (p : CP), (∀ r ∈ l, RelWf r) → ∀ r ∈ (CP.conj s n l p).1, RelWf r
  | 0, _, _, h => h
  | n + 1, l, p, h => by
    have h1 : ∀ r ∈ l ++ [(CP.relation s p).1], RelWf r := fun r hr => by
      rcases List.mem_append.1 hr with g | g
      · exact h r g
      · rw [List.mem_singleton.1 g]; exact relation_wf s p
    rw [CP.conj]
    split
    · split
      · exact conj_wf s n _ _ h1
      · exact h1
    · exact h
theorem disj_wf (s : List UInt8) : ∀ (n : Nat) (l : List (List Rel)) (p : CP), CondWf l → CondWf (CP.disj s n l p).1
  | 0, _, _, h => h
  | n + 1, l, p, h => by
    have hC : ∀ k, ∀ r ∈ (CP.conj s k [] p).1, RelWf r := fun k => conj_wf s k [] p fun x hx => by cases hx
    have hC := hC 8
    have h1 : CondWf (l ++ [(CP.conj s 8 [] p).1]) := fun r hr => by
      rcases List.mem_append.1 hr with g | g
      · exact h r g
      · rw [List.mem_singleton.1 g]; exact hC
    rw [CP.disj]
    split
    · split
      · exact disj_wf s n _ _ h1
      · exact h1
    · exact h
theorem condParse_wf (s : List UInt8) : CondWf (condParse s).1 := by
  have h : ∀ n, CondWf (CP.disj s n [] ⟨0, 0, 0⟩).1 := fun n => disj_wf s n [] _ fun x hx => by cases hx
  have h := h 8
  unfold condParse
  generalize CP.disj s 8 [] ⟨0, 0, 0⟩ = d at *
  dsimp only
  generalize (if (d.2.skip s).pos < s.length then (d.2.skip s).fail 3 else d.2.skip s) = q
  by_cases he : q.err = 0
  · rw [if_pos he]; exact h
  · rw [if_neg he]; exact fun x hx => by cases hx
theorem cond_wf (E : Int) (r : RS) : CondWf (r.cond E).1 := by
  unfold RS.cond
  split
  · exact condParse_wf _
  · intro x hx
    cases hx
theorem RulesWf.snoc {l : List (ByteArray × List (List Rel))} (h : RulesWf l) {x : ByteArray × List (List Rel)} (hx : CondWf x.2) : RulesWf (l ++ [x]) := fun y hy => by
  rcases List.mem_append.1 hy with g | g
  · exact h y g
  · rw [List.mem_singleton.1 g]; exact hx
theorem itN_wf (E p : Int) {y : Lc} (r : RS) (h : LcWf y) : ∀ i, LcWf (itN i E p y r).1
  | 0 => ⟨h.card, h.ord⟩
  | 1 => ⟨h.card.snoc (cond_wf E _), h.ord⟩
  | 2 => ⟨h.card, h.ord.snoc (cond_wf E _)⟩
  | 3 => ⟨h.card, h.ord⟩
  | 4 => ⟨h.card, h.ord⟩
  | 5 => ⟨h.card, h.ord⟩
  | 6 => ⟨h.card, h.ord⟩
  | 7 => ⟨h.card, h.ord⟩
  | _ + 8 => ⟨h.card, h.ord⟩
theorem tItem_wf (E : Int) {y : Lc} (r : RS) (h : LcWf y) : LcWf (tItem E y r).1 := by
  unfold tItem
  split
  · exact h
  · exact itN_wf E _ _ h _
theorem tItems_wf (E : Int) : ∀ (n : Nat) {y : Lc} (r : RS), LcWf y → LcWf (tItems E n y r).1
  | 0, _, _, h => h
  | n + 1, y, r, h => by
    rw [tItems]
    split
    · exact tItems_wf E n _ (tItem_wf E r h)
    · exact h
theorem tLocale_wf (E : Int) (r : RS) : LcWf (tLocale E r).1 := tItems_wf E _ _ ⟨(fun x hx => by cases hx), (fun x hx => by cases hx)⟩
theorem tPart_wf (E : Int) {t : Tb} (r : RS) (h : TbWf t) : TbWf (tPart E t r).1 := by
  unfold tPart
  dsimp only
  split
  · intro y hy
    rcases List.mem_append.1 hy with g | g
    · exact h y g
    · rw [List.mem_singleton.1 g]; exact tLocale_wf E _
  · split
    · exact h
    · split
      · exact h
      · exact h
theorem tParts_wf (E : Int) : ∀ (n : Nat) {t : Tb} (r : RS), TbWf t → TbWf (tParts E n t r).1
  | 0, _, _, h => h
  | n + 1, t, r, h => by
    rw [tParts]
    split
    · exact tParts_wf E n _ (tPart_wf E r h)
    · exact h
theorem tb0_wf : TbWf tb0 := fun y hy => by cases hy
theorem tParse_wf (l : List UInt8) : TbWf (tParse l).1 := by
  unfold tParse
  split
  · exact tb0_wf
  · split
    · unfold tRead
      dsimp only
      split
      · exact tParts_wf _ _ _ tb0_wf
      · exact tb0_wf
    · exact tb0_wf
end Go.Proofs.YtmleeodfmmpdgaaGreatDoor
/- Plain and walk: the example of the document. -/
namespace Go.Proofs.YtmleeodfmmpdgaaGreatDoor
open Go.RowKit
attribute [local go_sem] Ext.cell Ext.frozen
attribute [local go_sem ↓] Go.wp_at_zero Go.wp_at_succ
def aw12 : List UInt8 := [97, 108, 105, 97, 115, 32, 105, 119, 32, 104, 101, 59]
theorem aw12_pos : posV aw12 0 = 0 ∧ posV aw12 1 = 6 ∧ posV aw12 2 = 9 ∧ posV aw12 3 = 11 ∧ posV aw12 4 = 12 := by decide +kernel
theorem aw12_items : itemV aw12 0 = ((1, [97, 108, 105, 97, 115], 0), 5, 0, 0) ∧ itemV aw12 1 = ((1, [105, 119], 6), 2, 0, 0) ∧ itemV aw12 2 = ((1, [104, 101], 9), 2, 0, 0) ∧ itemV aw12 3 = ((3, [59], 11), 1, 0, 0) := by decide +kernel
theorem aw12_run : runM aw12 = 4 := by
  obtain ⟨p0, p1, p2, p3, p4⟩ := aw12_pos
  obtain ⟨i0, i1, i2, i3⟩ := aw12_items
  refine run_unique (runM_ok aw12).1 (fun k hk => ?_) (by rw [p4]; decide)
  match k, hk with
  | 0, _ => exact ⟨by rw [p0]; decide, by rw [i0]⟩
  | 1, _ => exact ⟨by rw [p1]; decide, by rw [i1]⟩
  | 2, _ => exact ⟨by rw [p2]; decide, by rw [i2]⟩
  | 3, _ => exact ⟨by rw [p3]; decide, by rw [i3]⟩
theorem aw12_toks : toksV aw12 = ([(1, [97, 108, 105, 97, 115], 0), (1, [105, 119], 6), (1, [104, 101], 9), (3, [59], 11)], 0, 0) := by
  obtain ⟨i0, i1, i2, i3⟩ := aw12_items
  have hu : upto (itemV aw12) 4 = [itemV aw12 0, itemV aw12 1, itemV aw12 2, itemV aw12 3] := rfl
  unfold toksV
  rw [aw12_run, if_pos]
  · rw [hu, i0, i1, i2, i3]
    rfl
  · rw [allOk_iff]
    intro k hk
    match k, hk with
    | 0, _ => rw [i0]
    | 1, _ => rw [i1]
    | 2, _ => rw [i2]
    | 3, _ => rw [i3]
theorem aw12_parse : tParse aw12 = (⟨[], [⟨bs [105, 119], bs [104, 101]⟩], []⟩, 0, 0) := by
  unfold tParse
  rw [if_neg (by decide), aw12_toks]
  rfl
theorem RowsOf.shape {α : Type} {k : Nat} {C : World → (Nat → Value) → α → Prop} {w : World} {v : Value} {l : List α} (h : RowsOf k C w v l) : ∃ ad c, v = .slice ad l.length c := by
  obtain ⟨ad, c, _, _, _, h, _⟩ := h
  exact ⟨ad, c, h⟩
theorem one_al {w : World} {v : Value} {a : Al} (h : RowsOf 2 AlC w v [a]) : ∃ ad c b off, v = .slice ad 1 c ∧ (∀ W, (Instr.indexAt 24 (.slice ad 1 c) (.int .i64 0)).run Tryz.prog W = .ok (.pointer (some ⟨b, off, none⟩)) W) ∧ w.cell? ⟨b, off, none⟩ = some (.string a.fro) ∧ w.cell? ⟨b, off + 1, none⟩ = some (.string a.dst) := by
  obtain ⟨ad, c, f, b, off, rfl, hr, _, _, _, hC⟩ := h.opn
  have h0 := hC 0 (by simp)
  have hi := hr.ix (P := Tryz.prog) 24 61 Tryz.underlying24 cellsAlV (by decide) (i := 0) (by simp) c
  have e0 := hr.cell 0 0 (by simp) (by decide)
  have e1 := hr.cell 0 1 (by simp) (by decide)
  rw [h0.c0.1] at e0
  rw [h0.c1.1] at e1
  simp only [Nat.zero_mul, Nat.add_zero] at hi e0 e1
  exact ⟨ad, c, b, off, rfl, hi, e0, e1⟩
set_option maxRecDepth 20000 in
set_option maxHeartbeats 4000000 in
theorem awake12_any (w : World) (hM : MaxLen w) (hU : TabU w) : Calls Tryz.prog 10 #[] w fun e w' => e = .returned (.bool true) ∧ Below w.heap.size w w' := by
  have HP : Hid (Calls Tryz.prog 11 #[.string ⟨#[97, 108, 105, 97, 115, 32, 105, 119, 32, 104, 101, 59]⟩] w (ParseP w (tParse aw12))) := tparse_any aw12 (by decide) w hM hU
  rw [aw12_parse] at HP
  unfold ParseP at HP
  have hq := fun W => eq_AlP ⟨#[105, 119]⟩ ⟨#[104, 101]⟩ ⟨#[105, 119]⟩ ⟨#[104, 101]⟩ W (by decide) (by decide) (by decide) (by decide)
  rw [decide_eq_true (by exact ⟨rfl, rfl⟩)] at hq
  clear hM hU
  go_enter Tryz.func10, Tryz.ntmps10
  go_wp2_with fail
  refine HP.out.mono ?_
  rintro e w1 ⟨f, rfl, ht, hb⟩
  obtain ⟨ad, c, b, off, h1, hix, e0, e1⟩ := one_al ht.c1
  have e0 := (see_all _ _ _) _ _ e0
  have e1 := (see_all _ _ _) _ _ e1
  replace e0 : w1.cell? ⟨b, off, none⟩ = some (.string ⟨#[105, 119]⟩) := e0
  replace e1 : w1.cell? ⟨b, off + 1, none⟩ = some (.string ⟨#[104, 101]⟩) := e1
  have hbl := World.block_lt_of_cell? w1 _ e0
  replace hbl : b < w1.heap.size := hbl
  obtain ⟨a0, k0, h0⟩ := ht.c0.shape
  obtain ⟨a2, k2, h2⟩ := ht.c2.shape
  simp only [List.length_nil] at h0 h2
  rw [h0, h1, h2]
  have HB := Lib.hid hb
  clear ht h0 h1 h2 hb
  go_wp2_with fail
  go_ret
  exact ⟨rfl, HB.out.alloc HB.out.size _⟩
end Go.Proofs.YtmleeodfmmpdgaaGreatDoor
/- A region that draws its order, by an invariant: what holds of the slots and of the world when some of its operations have been carried out. -/
namespace Go.Proofs.YtmleeodfmmpdgaaGreatDoor
open Go.RowKit

section
variable {P : Program} {ops : Array Oper} {Q : Exit → Act → World → Prop}

/-- every operation, once those that it waits for are done, keeps J -/
def StepsOk (P : Program) (ops : Array Oper) (Q : Exit → Act → World → Prop) (J : Array Bool → Act → World → Prop) : Nat → List Oper → Prop
  | _, [] => True
  | i, o :: r => (∀ L a w, L.size = ops.size → L.getD i true = false → (∀ e ∈ o.after, Region.binds .any e = true → L.getD e.on false = true) → J L a w →
      if Region.wanted o (yielded ops a.tmps) = true then o.wp P a w (J (L.setIfInBounds i true)) Q else J (L.setIfInBounds i true) (a.put o.dst undef) w) ∧ StepsOk P ops Q J (i + 1) r

theorem StepsOk.at {J : Array Bool → Act → World → Prop} : ∀ (l : List Oper) (k : Nat), StepsOk P ops Q J k l → ∀ (i : Nat) (o : Oper), l[i]? = some o → ∀ L a w, L.size = ops.size → L.getD (k + i) true = false →
    (∀ e ∈ o.after, Region.binds .any e = true → L.getD e.on false = true) → J L a w →
    if Region.wanted o (yielded ops a.tmps) = true then o.wp P a w (J (L.setIfInBounds (k + i) true)) Q else J (L.setIfInBounds (k + i) true) (a.put o.dst undef) w
  | [], _, _, i, o, h => by simp at h
  | o' :: r, k, hs, 0, o, h => by
    simp at h
    subst h
    exact hs.1
  | o' :: r, k, hs, i + 1, o, h => by
    have := StepsOk.at r (k + 1) hs.2 i o (by simpa using h)
    rwa [show k + 1 + i = k + (i + 1) by omega] at this

/-- every edge leads to an earlier operation -/
def downB (ops : List Oper) : Nat → Bool
  | 0 => true
  | n + 1 => downB ops n && (match ops[n]? with | some o => o.after.toList.all (fun e => !Region.binds .any e || decide (e.on < n)) | none => true)

theorem downB_spec {l : List Oper} : ∀ {n : Nat}, downB l n = true → ∀ i o, i < n → l[i]? = some o → ∀ e ∈ o.after, Region.binds .any e = true → e.on < i
  | 0, _, i, _, h, _ => by omega
  | n + 1, hd, i, o, h, ho => by
    simp only [downB, Bool.and_eq_true] at hd
    by_cases e : i = n
    · subst e
      have h2 := hd.2
      rw [ho] at h2
      simp only [List.all_eq_true, Bool.or_eq_true, decide_eq_true_eq] at h2
      intro e he hb
      rcases h2 e (by simpa using he) with h3 | h3
      · rw [hb] at h3; cases h3
      · exact h3
    · exact downB_spec hd.1 i o (by omega) ho

theorem ready_of_open {l : List Oper} (hd : downB l l.length = true) {L : Array Bool} (hL : L.size = l.length) (h : ∃ i, i < l.length ∧ L.getD i true = false) : Region.ready .any l.toArray L ≠ [] := by
  intro h0
  have key : ∀ n i, i < n → i < l.length → L.getD i true = true := by
    intro n
    induction n with
    | zero => intro i hi; omega
    | succ n ih =>
      intro i hi hl
      by_cases hin : i < n
      · exact ih i hin hl
      · cases hb : L.getD i true with
        | true => rfl
        | false =>
          have hm : i ∈ Region.ready .any l.toArray L := by
            rw [mem_ready]
            refine ⟨hb, l[i], by simp [hl], fun e he hbd => ?_⟩
            have := downB_spec hd i l[i] hl (by simp [hl]) e he hbd
            have h2 := ih e.on (by omega) (by omega)
            have h3 : e.on < L.size := by omega
            simp only [Array.getD, h3, dif_pos] at h2 ⊢
            exact h2
          rw [h0] at hm
          cases hm
  obtain ⟨i, hi, hb⟩ := h
  rw [key (i + 1) i (by omega) hi] at hb
  cases hb

theorem count_set : ∀ (l : List Bool) (i : Nat), l[i]? = some false → ((l.set i true).filter (· == false)).length + 1 = (l.filter (· == false)).length
  | [], i, h => by simp at h
  | x :: l, 0, h => by
    simp at h
    subst h
    simp
  | x :: l, i + 1, h => by
    have := count_set l i (by simpa using h)
    cases x <;> simp [List.set_cons_succ] at this ⊢ <;> omega

theorem wpAny_of_inv {l : List Oper} (hd : downB l l.length = true) {J : Array Bool → Act → World → Prop} (hs : StepsOk P l.toArray Q J 0 l)
    (hend : ∀ L a w, (∀ i, i < l.length → L.getD i false = true) → J L a w → Q .normal a w) : ∀ (fuel : Nat) (L : Array Bool) (a : Act) (w : World), L.size = l.length → (L.toList.filter (· == false)).length ≤ fuel → J L a w →
    wpAny P .any l.toArray Q fuel L a w := by
  have done : ∀ (L : Array Bool) (a : Act) (w : World), L.size = l.length → Region.ready .any l.toArray L = [] → J L a w → Q .normal a w := by
    intro L a w hL hr hJ
    refine hend L a w (fun i hi => ?_) hJ
    have h1 : L.getD i true = true := by
      cases hb : L.getD i true with
      | true => rfl
      | false => exact absurd hr (ready_of_open hd hL ⟨i, hi, hb⟩)
    have h3 : i < L.size := by omega
    simp only [Array.getD, h3, dif_pos] at h1 ⊢
    exact h1
  intro fuel
  induction fuel with
  | zero =>
    intro L a w hL hf hJ
    have hr : Region.ready .any l.toArray L = [] := by
      apply List.eq_nil_iff_forall_not_mem.2
      intro i hi
      have h1 := (mem_ready.1 hi).1
      have h2 : i < L.size := by
        rcases Nat.lt_or_ge i L.size with h | h
        · exact h
        · simp [Array.getD, Nat.not_lt.2 h] at h1
      simp only [Array.getD, h2, dif_pos] at h1
      have h3 : false ∈ L.toList.filter (· == false) := by
        rw [List.mem_filter]
        refine ⟨?_, rfl⟩
        have : L[i] ∈ L.toList := Array.getElem_mem_toList h2
        have h1' : L[i] = false := h1
        rwa [h1'] at this
      have := List.length_pos_of_mem h3
      omega
    exact ⟨hr, done L a w hL hr hJ⟩
  | succ fuel ih =>
    intro L a w hL hf hJ
    refine ⟨fun hr => done L a w hL hr hJ, fun i hi => ?_⟩
    obtain ⟨h1, o, ho, hp⟩ := mem_ready.1 hi
    have h2 : i < L.size := by
      rcases Nat.lt_or_ge i L.size with h | h
      · exact h
      · simp [Array.getD, Nat.not_lt.2 h] at h1
    have hlt : i < l.length := by omega
    have hstep := StepsOk.at l 0 hs i o (by simpa using ho) L a w (by simpa using hL) (by simpa using h1) hp hJ
    rw [Nat.zero_add] at hstep
    have hcount : ((L.setIfInBounds i true).toList.filter (· == false)).length ≤ fuel := by
      have hLi : L[i] = false := by simpa [Array.getD, h2] using h1
      have := count_set L.toList i (by simp [h2, hLi])
      rw [Array.toList_setIfInBounds]
      omega
    have hsz : (L.setIfInBounds i true).size = l.length := by simpa using hL
    unfold wpOp
    simp only [ho]
    split
    · rename_i hw
      rw [if_pos hw] at hstep
      exact .inl (Oper.wp_mono (fun a' w' hJ' => ih _ a' w' hsz hcount hJ') hstep)
    · rename_i hw
      rw [if_neg hw] at hstep
      exact ih _ _ _ hsz hcount hstep

/-- a agrees with a0 outside the slots ds -/
structure Fr (a0 a : Act) (ds : List Nat) : Prop where
  defers : a.defers = a0.defers
  size : a.tmps.size = a0.tmps.size
  rest : ∀ t, t ∉ ds → a.tmps.getD t undef = a0.tmps.getD t undef

/-- (operation, slot, value): the slot holds the value once the operation is done -/
def Tab (T : List (Nat × Nat × Value)) (L : Array Bool) (a : Act) : Prop := ∀ x ∈ T, L.getD x.1 false = true → a.tmps.getD x.2.1 undef = x.2.2

theorem getD_put_same {a : Act} {d : Nat} {v : Value} (h : d < a.tmps.size) : (a.put (some d) v).tmps.getD d undef = v := by
  simp [Act.put, h]
theorem getD_put_other {a : Act} {d t : Nat} {v : Value} (h : d ≠ t) : (a.put (some d) v).tmps.getD t undef = a.tmps.getD t undef := by
  simp [Act.put, Array.getD_eq_getD_getElem?, h]
theorem Fr.put {a0 a : Act} {ds : List Nat} (h : Fr a0 a ds) {d : Nat} (hd : d ∈ ds) (v : Value) : Fr a0 (a.put (some d) v) ds :=
  ⟨h.defers, by simpa [Act.put] using h.size, fun t ht => by rw [getD_put_other (fun e => ht (by rw [← e]; exact hd))]; exact h.rest t ht⟩
theorem Tab.put {T : List (Nat × Nat × Value)} {L : Array Bool} {a : Act} (h : Tab T L a) {i d : Nat} {v : Value} (hd : d < a.tmps.size) (_hi : i < L.size) (hT : ∀ x ∈ T, (x.1 = i ↔ x.2.1 = d) ∧ (x.1 = i → x.2.2 = v)) :
    Tab T (L.setIfInBounds i true) (a.put (some d) v) := by
  intro x hx hL
  by_cases e : x.1 = i
  · rw [((hT x hx).1.1 e), getD_put_same hd, (hT x hx).2 e]
  · rw [getD_put_other (fun e' => e ((hT x hx).1.2 e'.symm))]
    refine h x hx ?_
    have : L.getD x.1 false = (L.setIfInBounds i true).getD x.1 false := by
      simp [Array.getD_eq_getD_getElem?, Ne.symm e]
    rw [this]
    exact hL
/-- an operation without a slot -/
theorem Tab.skip {T : List (Nat × Nat × Value)} {L : Array Bool} {a : Act} (h : Tab T L a) {i : Nat} (hT : ∀ x ∈ T, x.1 ≠ i) : Tab T (L.setIfInBounds i true) a := by
  intro x hx hL
  refine h x hx ?_
  have : L.getD x.1 false = (L.setIfInBounds i true).getD x.1 false := by
    simp [Array.getD_eq_getD_getElem?, Ne.symm (hT x hx)]
  rw [this]
  exact hL
theorem getD_set_other {L : Array Bool} {i k : Nat} (h : i ≠ k) : (L.setIfInBounds i true).getD k false = L.getD k false := by
  simp [Array.getD_eq_getD_getElem?, h]
theorem getD_set_same {L : Array Bool} {i : Nat} (h : i < L.size) : (L.setIfInBounds i true).getD i false = true := by
  simp [h]
theorem wp_of_run {o : Oper} {a : Act} {w w' : World} {v : Value} {K : Act → World → Prop} (h : (execOp a.eval o).run P w = .ok (.value v) w') (hK : K (a.put o.dst v) w') : o.wp P a w K Q := by
  unfold Oper.wp
  rw [h]
  exact hK

theorem wp_region_gen {c : Code} {a : Act} {w : World} (h : ∀ A0, A0 = a → c.wp P Q A0 w) : c.wp P Q a w := h a rfl

theorem act_ext {a b : Act} (h1 : a.defers = b.defers) (h2 : a.tmps.size = b.tmps.size) (h3 : ∀ t, a.tmps.getD t undef = b.tmps.getD t undef) : a = b := by
  cases a
  cases b
  simp only at h1 h2 h3
  subst h1
  congr 1
  apply Array.ext h2
  intro i hi1 hi2
  have := h3 i
  simpa [Array.getD, hi1, hi2] using this

def puts (l : List (Nat × Value)) (a : Act) : Act := l.foldl (fun A x => A.put (some x.1) x.2) a

theorem puts_defers : ∀ (l : List (Nat × Value)) (a : Act), (puts l a).defers = a.defers
  | [], _ => rfl
  | x :: l, a => puts_defers l (a.put (some x.1) x.2)
theorem puts_size : ∀ (l : List (Nat × Value)) (a : Act), (puts l a).tmps.size = a.tmps.size
  | [], _ => rfl
  | x :: l, a => (puts_size l (a.put (some x.1) x.2)).trans (by simp [Act.put])
theorem puts_other : ∀ (l : List (Nat × Value)) (a : Act) (t : Nat), (∀ x ∈ l, x.1 ≠ t) → (puts l a).tmps.getD t undef = a.tmps.getD t undef
  | [], _, _, _ => rfl
  | x :: l, a, t, h => (puts_other l (a.put (some x.1) x.2) t (fun y hy => h y (by simp [hy]))).trans (getD_put_other (h x (by simp)))
theorem puts_same : ∀ (l : List (Nat × Value)) (a : Act), (l.map (·.1)).Nodup → (∀ x ∈ l, x.1 < a.tmps.size) → ∀ x ∈ l, (puts l a).tmps.getD x.1 undef = x.2
  | [], _, _, _, x, hx => by cases hx
  | y :: l, a, hn, hlt, x, hx => by
    simp only [List.map_cons, List.nodup_cons] at hn
    rcases List.mem_cons.1 hx with e | e
    · subst e
      exact (puts_other l (a.put (some x.1) x.2) x.1 (fun z hz e => hn.1 (by rw [← e]; exact List.mem_map_of_mem hz))).trans (getD_put_same (hlt x (by simp)))
    · exact puts_same l (a.put (some y.1) y.2) hn.2 (fun z hz => by simpa [Act.put] using hlt z (by simp [hz])) x e

theorem Fr.eq_puts {A0 a : Act} {ds : List Nat} (h : Fr A0 a ds) (l : List (Nat × Value)) (hl : l.map (·.1) = ds) (hn : ds.Nodup) (hlt : ∀ d ∈ ds, d < A0.tmps.size) (hv : ∀ x ∈ l, a.tmps.getD x.1 undef = x.2) : a = puts l A0 := by
  subst hl
  refine act_ext (by rw [h.defers, puts_defers]) (by rw [h.size, puts_size]) (fun t => ?_)
  by_cases ht : t ∈ l.map (·.1)
  · obtain ⟨x, hx, rfl⟩ := List.mem_map.1 ht
    rw [hv x hx, puts_same l A0 hn (fun z hz => hlt _ (List.mem_map_of_mem hz)) x hx]
  · rw [h.rest t ht, puts_other l A0 t (fun x hx e => ht (by rw [← e]; exact List.mem_map_of_mem hx))]

theorem Fr.ev {A0 a : Act} {ds : List Nat} (h : Fr A0 a ds) {t : Nat} {v : Value} (ht : t ∉ ds) (hv : A0.tmps.getD t undef = v) : a.eval (.tmp t) = v := (h.rest t ht).trans hv
theorem Tab.ev {T : List (Nat × Nat × Value)} {L : Array Bool} {a : Act} (h : Tab T L a) {i d : Nat} {v : Value} (hx : (i, d, v) ∈ T) (hL : L.getD i false = true) : a.eval (.tmp d) = v := h _ hx hL

theorem if_plain {o : Oper} {y : Nat → Option Bool} {X Y : Prop} (hg : o.guard = none) (h : X) : if Region.wanted o y = true then X else Y := by
  rw [if_pos (by simp [Region.wanted, hg])]
  exact h
theorem wp_load_run {o : Oper} {a : Act} {w : World} {K : Act → World → Prop} (ty : TypeId) (x : Operand) (ho : o.op = .load ty x) {p v : Value} (hx : a.eval x = p) (hl : (Instr.loadAt ty p).run P w = .ok v w) (hK : K (a.put o.dst v) w) : o.wp P a w K Q := by
  refine wp_of_run (v := v) (w' := w) ?_ hK
  unfold execOp
  simp [ho, hx, hl]
theorem wp_store_run {o : Oper} {a : Act} {w w' : World} {K : Act → World → Prop} (ty : TypeId) (x y : Operand) (ho : o.op = .store ty x y) {p v : Value} (hx : a.eval x = p) (hy : a.eval y = v) (hl : (Instr.storeAt ty p v).run P w = .ok () w') (hK : K (a.put o.dst undef) w') : o.wp P a w K Q := by
  unfold Oper.wp execOp
  simp only [ho, hx, hy, Sem.run_bind, Sem.run_pure, hl, Result.andThen_ok]
  exact hK
theorem wp_alloc_run {o : Oper} {a : Act} {w w' : World} {K : Act → World → Prop} (ty : TypeId) (ho : o.op = .alloc ty) {v : Value} (hl : (Instr.alloc ty true (.tuple #[])).run P w = .ok v w') (hK : K (a.put o.dst v) w') : o.wp P a w K Q := by
  refine wp_of_run (v := v) (w' := w') ?_ hK
  unfold execOp
  simp [ho, hl]

theorem wp_field_run {o : Oper} {a : Act} {w : World} {K : Act → World → Prop} (ty : TypeId) (x : Operand) (n : Nat) (ho : o.op = .fieldAddr ty x n) {p v : Value} (hx : a.eval x = p) (hl : (Instr.fieldAt ty p n).run P w = .ok v w) (hK : K (a.put o.dst v) w) : o.wp P a w K Q := by
  refine wp_of_run (v := v) (w' := w) ?_ hK
  unfold execOp
  simp [ho, hx, hl]

theorem wp_region_inv {id : Nat} {l : List Oper} {a : Act} {w : World} (J : Array Bool → Act → World → Prop) (hm : P.follows .mixedOrders = true) (hd : downB l l.length = true)
    (h0 : J (Array.replicate l.length false) a w.drew) (hs : StepsOk P l.toArray Q J 0 l)
    (hend : ∀ L a w, (∀ i, i < l.length → L.getD i false = true) → J L a w → Q .normal a w) : (Code.region id l.toArray true).wp P Q a w := by
  refine wp_region_any hm ?_
  refine wpAny_of_inv hd hs hend _ _ _ _ (by simp) ?_ h0
  have := List.length_filter_le (· == false) (Array.replicate l.toArray.size false).toList
  simp at this ⊢
end
end Go.Proofs.YtmleeodfmmpdgaaGreatDoor
