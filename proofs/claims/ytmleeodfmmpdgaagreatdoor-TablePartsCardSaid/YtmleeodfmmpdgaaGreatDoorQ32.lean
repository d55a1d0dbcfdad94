/- Walks: the reference's equality of locales. -/
import Derived.Test.YtmleeodfmmpdgaaGreatDoorQ31
namespace Go.Proofs.YtmleeodfmmpdgaaGreatDoor
open Go.RowKit
attribute [local go_sem] Ext.cell Ext.frozen
attribute [local go_sem ↓] Go.wp_at_zero Go.wp_at_succ
theorem cellsLpU : Tryz.prog.cellsOf 130 = 5 := by kernel_rfl
theorem cellsUpU : Tryz.prog.cellsOf 132 = 3 := by kernel_rfl
theorem cellsDpU : Tryz.prog.cellsOf 134 = 2 := by kernel_rfl
structure LcWf (y : Lc) : Prop where
  card : RulesWf y.card
  ord : RulesWf y.ord
theorem szM {s : ByteArray} (h : s.size ≤ 140737488351232) : s.size ≤ maxLen := by unfold maxLen; omega
set_option maxRecDepth 20000 in
set_option maxHeartbeats 4000000 in
theorem rSameLocale_any (a b : Lc) (f g : Nat → Value) (w : World) (ha : LcC w f a) (hb : LcC w g b) (hwa : LcWf a) (hwb : LcWf b) :
    Calls Tryz.prog 30 #[.agg #[f 0, f 1, f 2, f 3, f 4, f 5, f 6, f 7, f 8, f 9, f 10, f 11, f 12, f 13, f 14, f 15], .agg #[g 0, g 1, g 2, g 3, g 4, g 5, g 6, g 7, g 8, g 9, g 10, g 11, g 12, g 13, g 14, g 15]] w fun e w' => e = .returned (.bool (eqB a b)) ∧ Below w.heap.size w w' := by
  obtain ⟨a0, a1, a2, a3, a4, a5, a6, a7, a8, a9, a10, a11, a12, a13, a14, a15⟩ := a
  obtain ⟨b0, b1, b2, b3, b4, b5, b6, b7, b8, b9, b10, b11, b12, b13, b14, b15⟩ := b
  obtain ⟨wa3, wa4⟩ := hwa
  obtain ⟨wb3, wb4⟩ := hwb
  simp only at wa3 wa4 wb3 wb4
  obtain ⟨⟨ta0, sa0⟩, ⟨ta1, sa1⟩, ⟨ta2, sa2⟩, ra3, ra4, ⟨ta5, sa5⟩, ⟨ta6, sa6⟩, ⟨ta7, sa7⟩, ⟨ta8, sa8⟩, ⟨ta9, sa9⟩, ⟨ta10, sa10⟩, ra11, ra12, ra13, ra14, ra15⟩ := ha
  obtain ⟨ada11, ca11, fa11, ba11, offa11, ta11, hra11, hna11, hca11, hma11, hCa11⟩ := ra11.opn
  obtain ⟨ada12, ca12, fa12, ba12, offa12, ta12, hra12, hna12, hca12, hma12, hCa12⟩ := ra12.opn
  obtain ⟨ada13, ca13, fa13, ba13, offa13, ta13, hra13, hna13, hca13, hma13, hCa13⟩ := ra13.opn
  simp only at ta0 ta1 ta2 ta5 ta6 ta7 ta8 ta9 ta10 ta11 ta12 ta13 sa0 sa1 sa2 sa5 sa6 sa7 sa8 sa9 sa10
  rw [ta0, ta1, ta2, ta5, ta6, ta7, ta8, ta9, ta10, ta11, ta12, ta13]
  generalize f 3 = Va3 at *
  generalize f 4 = Va4 at *
  generalize f 14 = Va14 at *
  generalize f 15 = Va15 at *
  clear ta0 ta1 ta2 ta5 ta6 ta7 ta8 ta9 ta10 ta11 ta12 ta13 ra11 ra12 ra13
  obtain ⟨⟨tb0, sb0⟩, ⟨tb1, sb1⟩, ⟨tb2, sb2⟩, rb3, rb4, ⟨tb5, sb5⟩, ⟨tb6, sb6⟩, ⟨tb7, sb7⟩, ⟨tb8, sb8⟩, ⟨tb9, sb9⟩, ⟨tb10, sb10⟩, rb11, rb12, rb13, rb14, rb15⟩ := hb
  obtain ⟨adb11, cb11, fb11, bb11, offb11, tb11, hrb11, hnb11, hcb11, hmb11, hCb11⟩ := rb11.opn
  obtain ⟨adb12, cb12, fb12, bb12, offb12, tb12, hrb12, hnb12, hcb12, hmb12, hCb12⟩ := rb12.opn
  obtain ⟨adb13, cb13, fb13, bb13, offb13, tb13, hrb13, hnb13, hcb13, hmb13, hCb13⟩ := rb13.opn
  simp only at tb0 tb1 tb2 tb5 tb6 tb7 tb8 tb9 tb10 tb11 tb12 tb13 sb0 sb1 sb2 sb5 sb6 sb7 sb8 sb9 sb10
  rw [tb0, tb1, tb2, tb5, tb6, tb7, tb8, tb9, tb10, tb11, tb12, tb13]
  generalize g 3 = Vb3 at *
  generalize g 4 = Vb4 at *
  generalize g 14 = Vb14 at *
  generalize g 15 = Vb15 at *
  clear tb0 tb1 tb2 tb5 tb6 tb7 tb8 tb9 tb10 tb11 tb12 tb13 rb11 rb12 rb13
  simp only at ra3 ra4 ra14 ra15 rb3 rb4 rb14 rb15
  have HQ3 := Lib.hid (fun W (k : Below w.heap.size w W) => rsameRules_any a3 b3 _ _ W (ra3.below k) (rb3.below k) wa3 wb3)
  have HQ4 := Lib.hid (fun W (k : Below w.heap.size w W) => rsameRules_any a4 b4 _ _ W (ra4.below k) (rb4.below k) wa4 wb4)
  have HQ14 := Lib.hid (fun W (k : Below w.heap.size w W) => rsameTexts_any a14 b14 _ _ W (ra14.map k fun _ _ h => h) (rb14.map k fun _ _ h => h))
  have HQ15 := Lib.hid (fun W (k : Below w.heap.size w W) => rsameTexts_any a15 b15 _ _ W (ra15.map k fun _ _ h => h) (rb15.map k fun _ _ h => h))
  clear ra3 ra4 ra14 ra15 rb3 rb4 rb14 rb15 wa3 wa4 wb3 wb4
  have HNO0 : Hid (a0 ≠ b0 → eqB (⟨a0, a1, a2, a3, a4, a5, a6, a7, a8, a9, a10, a11, a12, a13, a14, a15⟩ : Lc) (⟨b0, b1, b2, b3, b4, b5, b6, b7, b8, b9, b10, b11, b12, b13, b14, b15⟩ : Lc) = false) := fun h => eqB_no (fun e => h (by injection e))
  have HNO1 : Hid (a1 ≠ b1 → eqB (⟨a0, a1, a2, a3, a4, a5, a6, a7, a8, a9, a10, a11, a12, a13, a14, a15⟩ : Lc) (⟨b0, b1, b2, b3, b4, b5, b6, b7, b8, b9, b10, b11, b12, b13, b14, b15⟩ : Lc) = false) := fun h => eqB_no (fun e => h (by injection e))
  have HNO2 : Hid (a2 ≠ b2 → eqB (⟨a0, a1, a2, a3, a4, a5, a6, a7, a8, a9, a10, a11, a12, a13, a14, a15⟩ : Lc) (⟨b0, b1, b2, b3, b4, b5, b6, b7, b8, b9, b10, b11, b12, b13, b14, b15⟩ : Lc) = false) := fun h => eqB_no (fun e => h (by injection e))
  have HNO11 : Hid (a11 ≠ b11 → eqB (⟨a0, a1, a2, a3, a4, a5, a6, a7, a8, a9, a10, a11, a12, a13, a14, a15⟩ : Lc) (⟨b0, b1, b2, b3, b4, b5, b6, b7, b8, b9, b10, b11, b12, b13, b14, b15⟩ : Lc) = false) := fun h => eqB_no (fun e => h (by injection e))
  have HNO12 : Hid (a12 ≠ b12 → eqB (⟨a0, a1, a2, a3, a4, a5, a6, a7, a8, a9, a10, a11, a12, a13, a14, a15⟩ : Lc) (⟨b0, b1, b2, b3, b4, b5, b6, b7, b8, b9, b10, b11, b12, b13, b14, b15⟩ : Lc) = false) := fun h => eqB_no (fun e => h (by injection e))
  have HNO13 : Hid (a13 ≠ b13 → eqB (⟨a0, a1, a2, a3, a4, a5, a6, a7, a8, a9, a10, a11, a12, a13, a14, a15⟩ : Lc) (⟨b0, b1, b2, b3, b4, b5, b6, b7, b8, b9, b10, b11, b12, b13, b14, b15⟩ : Lc) = false) := fun h => eqB_no (fun e => h (by injection e))
  have HNE3 : Hid (eqB a3 b3 = false → eqB (⟨a0, a1, a2, a3, a4, a5, a6, a7, a8, a9, a10, a11, a12, a13, a14, a15⟩ : Lc) (⟨b0, b1, b2, b3, b4, b5, b6, b7, b8, b9, b10, b11, b12, b13, b14, b15⟩ : Lc) = false) := fun h => eqB_no (fun e => by rw [eqB_yes (show a3 = b3 by injection e)] at h; cases h)
  have HNE4 : Hid (eqB a4 b4 = false → eqB (⟨a0, a1, a2, a3, a4, a5, a6, a7, a8, a9, a10, a11, a12, a13, a14, a15⟩ : Lc) (⟨b0, b1, b2, b3, b4, b5, b6, b7, b8, b9, b10, b11, b12, b13, b14, b15⟩ : Lc) = false) := fun h => eqB_no (fun e => by rw [eqB_yes (show a4 = b4 by injection e)] at h; cases h)
  have HNE14 : Hid (eqB a14 b14 = false → eqB (⟨a0, a1, a2, a3, a4, a5, a6, a7, a8, a9, a10, a11, a12, a13, a14, a15⟩ : Lc) (⟨b0, b1, b2, b3, b4, b5, b6, b7, b8, b9, b10, b11, b12, b13, b14, b15⟩ : Lc) = false) := fun h => eqB_no (fun e => by rw [eqB_yes (show a14 = b14 by injection e)] at h; cases h)
  have HNE15 : Hid (eqB a15 b15 = false → eqB (⟨a0, a1, a2, a3, a4, a5, a6, a7, a8, a9, a10, a11, a12, a13, a14, a15⟩ : Lc) (⟨b0, b1, b2, b3, b4, b5, b6, b7, b8, b9, b10, b11, b12, b13, b14, b15⟩ : Lc) = false) := fun h => eqB_no (fun e => by rw [eqB_yes (show a15 = b15 by injection e)] at h; cases h)
  have HNOS : Hid (¬ (a5 = b5 ∧ a6 = b6 ∧ a7 = b7 ∧ a8 = b8 ∧ a9 = b9 ∧ a10 = b10) → eqB (⟨a0, a1, a2, a3, a4, a5, a6, a7, a8, a9, a10, a11, a12, a13, a14, a15⟩ : Lc) (⟨b0, b1, b2, b3, b4, b5, b6, b7, b8, b9, b10, b11, b12, b13, b14, b15⟩ : Lc) = false) := fun h => eqB_no (fun e => h (by injection e with e0 e1 e2 e3 e4 e5 e6 e7 e8 e9 e10; exact ⟨e5, e6, e7, e8, e9, e10⟩))
  have HYS : Hid ((a0 = b0 ∧ a1 = b1 ∧ a2 = b2) → (a5 = b5 ∧ a6 = b6 ∧ a7 = b7 ∧ a8 = b8 ∧ a9 = b9 ∧ a10 = b10) → (a11 = b11 ∧ a12 = b12 ∧ a13 = b13) → eqB a3 b3 = true → eqB a4 b4 = true → eqB a14 b14 = true → eqB a15 b15 = true → eqB (⟨a0, a1, a2, a3, a4, a5, a6, a7, a8, a9, a10, a11, a12, a13, a14, a15⟩ : Lc) (⟨b0, b1, b2, b3, b4, b5, b6, b7, b8, b9, b10, b11, b12, b13, b14, b15⟩ : Lc) = true) := fun h1 h2 h3 h4 h5 h6 h7 => eqB_yes (by
    obtain ⟨rfl, rfl, rfl⟩ := h1
    obtain ⟨rfl, rfl, rfl, rfl, rfl, rfl⟩ := h2
    obtain ⟨rfl, rfl, rfl⟩ := h3
    rw [eqB_iff.1 h4, eqB_iff.1 h5, eqB_iff.1 h6, eqB_iff.1 h7])
  generalize eqB (⟨a0, a1, a2, a3, a4, a5, a6, a7, a8, a9, a10, a11, a12, a13, a14, a15⟩ : Lc) (⟨b0, b1, b2, b3, b4, b5, b6, b7, b8, b9, b10, b11, b12, b13, b14, b15⟩ : Lc) = res at *
  have hqs := fun W => eq_SymP a5 a6 a7 a8 a9 a10 b5 b6 b7 b8 b9 b10 W (szM sa5) (szM sa6) (szM sa7) (szM sa8) (wf_of sa9.1 sa9.2) (wf_of sa10.1 sa10.2) (szM sb5) (szM sb6) (szM sb7) (szM sb8) (wf_of sb9.1 sb9.2) (wf_of sb10.1 sb10.2)
  clear sa0 sa1 sa2 sa5 sa6 sa7 sa8 sa9 sa10 sb0 sb1 sb2 sb5 sb6 sb7 sb8 sb9 sb10
  have HRa11 := Lib.hid hra11
  have HCa11 := Lib.hid hCa11
  obtain ⟨n11, hn⟩ : ∃ n, a11.length = n := ⟨_, rfl⟩
  have HLa11 := Lib.hid hn
  clear hra11 hCa11 hna11
  rw [hn] at HRa11 hca11 hma11 ⊢
  clear hn
  have HRb11 := Lib.hid hrb11
  have HCb11 := Lib.hid hCb11
  obtain ⟨nx11, hn⟩ : ∃ n, b11.length = n := ⟨_, rfl⟩
  have HLb11 := Lib.hid hn
  clear hrb11 hCb11 hnb11
  rw [hn] at HRb11 hcb11 hmb11 ⊢
  clear hn
  have HRa12 := Lib.hid hra12
  have HCa12 := Lib.hid hCa12
  obtain ⟨n12, hn⟩ : ∃ n, a12.length = n := ⟨_, rfl⟩
  have HLa12 := Lib.hid hn
  clear hra12 hCa12 hna12
  rw [hn] at HRa12 hca12 hma12 ⊢
  clear hn
  have HRb12 := Lib.hid hrb12
  have HCb12 := Lib.hid hCb12
  obtain ⟨nx12, hn⟩ : ∃ n, b12.length = n := ⟨_, rfl⟩
  have HLb12 := Lib.hid hn
  clear hrb12 hCb12 hnb12
  rw [hn] at HRb12 hcb12 hmb12 ⊢
  clear hn
  have HRa13 := Lib.hid hra13
  have HCa13 := Lib.hid hCa13
  obtain ⟨n13, hn⟩ : ∃ n, a13.length = n := ⟨_, rfl⟩
  have HLa13 := Lib.hid hn
  clear hra13 hCa13 hna13
  rw [hn] at HRa13 hca13 hma13 ⊢
  clear hn
  have HRb13 := Lib.hid hrb13
  have HCb13 := Lib.hid hCb13
  obtain ⟨nx13, hn⟩ : ∃ n, b13.length = n := ⟨_, rfl⟩
  have HLb13 := Lib.hid hn
  clear hrb13 hCb13 hnb13
  rw [hn] at HRb13 hcb13 hmb13 ⊢
  clear hn
  have HLE11 : Hid (n11 ≠ nx11 → res = false) := fun h => HNO11.out (fun e => h (by rw [← HLa11.out, ← HLb11.out, e]))
  have HLE12 : Hid (n12 ≠ nx12 → res = false) := fun h => HNO12.out (fun e => h (by rw [← HLa12.out, ← HLb12.out, e]))
  have HLE13 : Hid (n13 ≠ nx13 → res = false) := fun h => HNO13.out (fun e => h (by rw [← HLa13.out, ← HLb13.out, e]))
  have HB2 : Hid (Below w.heap.size w ((w.alloc (.cells #[.string a0, .string a1, .string a2, Va3, Va4, .string a5, .string a6, .string a7, .string a8, .int .i64 a9, .int .i64 a10, .slice ada11 n11 ca11, .slice ada12 n12 ca12, .slice ada13 n13 ca13, Va14, Va15] 46)).alloc (.cells #[.string b0, .string b1, .string b2, Vb3, Vb4, .string b5, .string b6, .string b7, .string b8, .int .i64 b9, .int .i64 b10, .slice adb11 nx11 cb11, .slice adb12 nx12 cb12, .slice adb13 nx13 cb13, Vb14, Vb15] 46))) := Bel.alloc (Bel.alloc (Bel.refl w) _) _
  have HX : Hid (Cel ((w.alloc (.cells #[.string a0, .string a1, .string a2, Va3, Va4, .string a5, .string a6, .string a7, .string a8, .int .i64 a9, .int .i64 a10, .slice ada11 n11 ca11, .slice ada12 n12 ca12, .slice ada13 n13 ca13, Va14, Va15] 46)).alloc (.cells #[.string b0, .string b1, .string b2, Vb3, Vb4, .string b5, .string b6, .string b7, .string b8, .int .i64 b9, .int .i64 b10, .slice adb11 nx11 cb11, .slice adb12 nx12 cb12, .slice adb13 nx13 cb13, Vb14, Vb15] 46)) w.heap.size 46 [.string a0, .string a1, .string a2, Va3, Va4, .string a5, .string a6, .string a7, .string a8, .int .i64 a9, .int .i64 a10, .slice ada11 n11 ca11, .slice ada12 n12 ca12, .slice ada13 n13 ca13, Va14, Va15]) := (Cel.new w [.string a0, .string a1, .string a2, Va3, Va4, .string a5, .string a6, .string a7, .string a8, .int .i64 a9, .int .i64 a10, .slice ada11 n11 ca11, .slice ada12 n12 ca12, .slice ada13 n13 ca13, Va14, Va15] 46).below (Bel.alloc (Bel.refl _) _)
  have HY : Hid (Cel ((w.alloc (.cells #[.string a0, .string a1, .string a2, Va3, Va4, .string a5, .string a6, .string a7, .string a8, .int .i64 a9, .int .i64 a10, .slice ada11 n11 ca11, .slice ada12 n12 ca12, .slice ada13 n13 ca13, Va14, Va15] 46)).alloc (.cells #[.string b0, .string b1, .string b2, Vb3, Vb4, .string b5, .string b6, .string b7, .string b8, .int .i64 b9, .int .i64 b10, .slice adb11 nx11 cb11, .slice adb12 nx12 cb12, .slice adb13 nx13 cb13, Vb14, Vb15] 46)) (w.heap.size + 1) 46 [.string b0, .string b1, .string b2, Vb3, Vb4, .string b5, .string b6, .string b7, .string b8, .int .i64 b9, .int .i64 b10, .slice adb11 nx11 cb11, .slice adb12 nx12 cb12, .slice adb13 nx13 cb13, Vb14, Vb15]) := by
    have := Cel.new (w.alloc (.cells #[.string a0, .string a1, .string a2, Va3, Va4, .string a5, .string a6, .string a7, .string a8, .int .i64 a9, .int .i64 a10, .slice ada11 n11 ca11, .slice ada12 n12 ca12, .slice ada13 n13 ca13, Va14, Va15] 46)) [.string b0, .string b1, .string b2, Vb3, Vb4, .string b5, .string b6, .string b7, .string b8, .int .i64 b9, .int .i64 b10, .slice adb11 nx11 cb11, .slice adb12 nx12 cb12, .slice adb13 nx13 cb13, Vb14, Vb15] 46
    rwa [show (w.alloc (.cells #[.string a0, .string a1, .string a2, Va3, Va4, .string a5, .string a6, .string a7, .string a8, .int .i64 a9, .int .i64 a10, .slice ada11 n11 ca11, .slice ada12 n12 ca12, .slice ada13 n13 ca13, Va14, Va15] 46)).heap.size = w.heap.size + 1 by simp] at this
  go_enter Tryz.func30, Tryz.ntmps30
  go_upto_region 1 with (fail)
  generalize (w.alloc (.cells #[.string a0, .string a1, .string a2, Va3, Va4, .string a5, .string a6, .string a7, .string a8, .int .i64 a9, .int .i64 a10, .slice ada11 n11 ca11, .slice ada12 n12 ca12, .slice ada13 n13 ca13, Va14, Va15] 46)).alloc (.cells #[.string b0, .string b1, .string b2, Vb3, Vb4, .string b5, .string b6, .string b7, .string b8, .int .i64 b9, .int .i64 b10, .slice adb11 nx11 cb11, .slice adb12 nx12 cb12, .slice adb13 nx13 cb13, Vb14, Vb15] 46) = w2 at *
  have HQ3 : Hid (∀ W, Below w2.heap.size w2 W → _) := fun W k => HQ3.out W (HB2.out.trans (k.mono HB2.out.size))
  have HQ4 : Hid (∀ W, Below w2.heap.size w2 W → _) := fun W k => HQ4.out W (HB2.out.trans (k.mono HB2.out.size))
  have HQ14 : Hid (∀ W, Below w2.heap.size w2 W → _) := fun W k => HQ14.out W (HB2.out.trans (k.mono HB2.out.size))
  have HQ15 : Hid (∀ W, Below w2.heap.size w2 W → _) := fun W k => HQ15.out W (HB2.out.trans (k.mono HB2.out.size))
  have x0 := HX.out.cell 0
  have y0 := HY.out.cell 0
  have x1 := HX.out.cell 1
  have y1 := HY.out.cell 1
  have x2 := HX.out.cell 2
  have y2 := HY.out.cell 2
  have x5 := HX.out.cell 5
  have y5 := HY.out.cell 5
  have x6 := HX.out.cell 6
  have y6 := HY.out.cell 6
  have x7 := HX.out.cell 7
  have y7 := HY.out.cell 7
  have x8 := HX.out.cell 8
  have y8 := HY.out.cell 8
  have x9 := HX.out.cell 9
  have y9 := HY.out.cell 9
  have x10 := HX.out.cell 10
  have y10 := HY.out.cell 10
  have x11 := HX.out.cell 11
  have y11 := HY.out.cell 11
  have x12 := HX.out.cell 12
  have y12 := HY.out.cell 12
  have x13 := HX.out.cell 13
  have y13 := HY.out.cell 13
  simp only [List.getElem?_cons_zero, List.getElem?_cons_succ] at x0 y0 x1 y1 x2 y2 x5 y5 x6 y6 x7 y7 x8 y8 x9 y9 x10 y10 x11 y11 x12 y12 x13 y13
  by_cases h0 : a0 = b0
  · subst h0
    have m0 : (a0.toList != a0.toList) = false := by simp
    by_cases h1 : a1 = b1
    · subst h1
      have m1 : (a1.toList != a1.toList) = false := by simp
      by_cases h2 : a2 = b2
      · subst h2
        have m2 : (a2.toList != a2.toList) = false := by simp
        by_cases hsym : a5 = b5 ∧ a6 = b6 ∧ a7 = b7 ∧ a8 = b8 ∧ a9 = b9 ∧ a10 = b10
        · rw [decide_eq_true hsym] at hqs
          by_cases h11 : n11 = nx11
          · subst h11
            have l11 : ((n11 : Int) != (n11 : Int)) = false := by simp
            by_cases h12 : n12 = nx12
            · subst h12
              have l12 : ((n12 : Int) != (n12 : Int)) = false := by simp
              by_cases h13 : n13 = nx13
              · subst h13
                have l13 : ((n13 : Int) != (n13 : Int)) = false := by simp
                have HYE3 : Hid ((a11 = b11 ∧ a12 = b12 ∧ a13 = b13) → eqB a3 b3 = true → eqB a4 b4 = true → eqB a14 b14 = true → eqB a15 b15 = true → res = true) := HYS.out ⟨rfl, rfl, rfl⟩ hsym
                have HBZ : Hid (Below w2.heap.size w2 w2) := Below.refl _ _
                clear HYS HLE11 HLE12 HLE13
                go_wp2_with fail
                skip
                go_loopw [5] (fun i wr => ∃ k : Nat, i = .int .i64 (k : Int) ∧ k ≤ n11 ∧ (∀ j, j < k → a11.getD j default = b11.getD j default) ∧ Below w2.heap.size w2 wr) (fun i _ => n11 - (intOf i).toNat)
                case atStart => exact ⟨0, rfl, Nat.zero_le _, fun i hi => absurd hi (Nat.not_lt_zero _), HBZ.out⟩
                case round =>
                  obtain ⟨k, rfl, hkn, hal, hbl⟩ := hrel
                  have HAL := Lib.hid hal
                  have HBL := Lib.hid hbl
                  have hzr := hbl.size
                  have HBw := Lib.hid (HB2.out.trans (hbl.mono HB2.out.size))
                  clear hal hbl
                  have X3 := (HX.out.below HBL.out).cell 11
                  have Y3 := (HY.out.below HBL.out).cell 11
                  simp only [List.getElem?_cons_zero, List.getElem?_cons_succ] at X3 Y3
                  by_cases hlt : k < n11
                  · have gA := HRa11.out.below HBw.out
                    have gB := HRb11.out.below HBw.out
                    have ixA := fun W => gA.ix (P := Tryz.prog) 41 130 Tryz.underlying41 cellsLpU (by decide) hlt ca11 W
                    have ixB := fun W => gB.ix (P := Tryz.prog) 41 130 Tryz.underlying41 cellsLpU (by decide) hlt cb11 W
                    have eA0 := gA.cell k 0 hlt (by decide)
                    have eA1 := gA.cell k 1 hlt (by decide)
                    have eA2 := gA.cell k 2 hlt (by decide)
                    have eA3 := gA.cell k 3 hlt (by decide)
                    have eA4 := gA.cell k 4 hlt (by decide)
                    have eB0 := gB.cell k 0 hlt (by decide)
                    have eB1 := gB.cell k 1 hlt (by decide)
                    have eB2 := gB.cell k 2 hlt (by decide)
                    have eB3 := gB.cell k 3 hlt (by decide)
                    have eB4 := gB.cell k 4 hlt (by decide)
                    clear gA gB
                    have hkA : k < a11.length := by rw [HLa11.out]; exact hlt
                    have hkB : k < b11.length := by rw [HLb11.out]; exact hlt
                    have HNX : Hid (a11.getD k default = b11.getD k default → ∀ j, j < k + 1 → a11.getD j default = b11.getD j default) := fun h j hj => by
                      rcases Nat.lt_or_ge j k with h' | h'
                      · exact HAL.out j h'
                      · rw [show j = k by omega]; exact h
                    have HNE : Hid (a11.getD k default ≠ b11.getD k default → res = false) := fun h => HNO11.out (getD_ne h)
                    have hA := HCa11.out k hkA
                    have hB := HCb11.out k hkB
                    rw [getD_of a11 default hkA] at hA
                    rw [getD_of b11 default hkB] at hB
                    generalize a11.getD k default = x at *
                    generalize b11.getD k default = y at *
                    obtain ⟨x0, x1, x2, x3, x4⟩ := x
                    obtain ⟨y0, y1, y2, y3, y4⟩ := y
                    obtain ⟨⟨hA0, zA0⟩, ⟨hA1, zA1⟩, ⟨hA2, zA2⟩, ⟨hA3, zA3⟩, ⟨hA4, zA4⟩⟩ := hA
                    obtain ⟨⟨hB0, zB0⟩, ⟨hB1, zB1⟩, ⟨hB2, zB2⟩, ⟨hB3, zB3⟩, ⟨hB4, zB4⟩⟩ := hB
                    simp only at hA0 zA0 hB0 zB0 hA1 zA1 hB1 zB1 hA2 zA2 hB2 zB2 hA3 zA3 hB3 zB3 hA4 zA4 hB4 zB4
                    rw [hA0] at eA0
                    rw [hB0] at eB0
                    rw [hA1] at eA1
                    rw [hB1] at eB1
                    rw [hA2] at eA2
                    rw [hB2] at eB2
                    rw [hA3] at eA3
                    rw [hB3] at eB3
                    rw [hA4] at eA4
                    rw [hB4] at eB4
                    simp only [Nat.add_zero] at eA0 eB0
                    have hq := fun W => eq_LpP x0 x1 x2 x3 x4 y0 y1 y2 y3 y4 W (szM zA0) (szM zA1) (szM zA2) (szM zA3) (szM zA4) (szM zB0) (szM zB1) (szM zB2) (szM zB3) (szM zB4)
                    clear hkA hkB hA0 zA0 hB0 zB0 hA1 zA1 hB1 zB1 hA2 zA2 hB2 zB2 hA3 zA3 hB3 zB3 hA4 zA4 hB4 zB4
                    by_cases hxy : x0 = y0 ∧ x1 = y1 ∧ x2 = y2 ∧ x3 = y3 ∧ x4 = y4
                    · rw [decide_eq_true hxy] at hq
                      have HN := Lib.hid (HNX.out (by obtain ⟨rfl, rfl, rfl, rfl, rfl⟩ := hxy; rfl))
                      clear HNX HNE hxy
                      go_wp2_with fail
                      go_quiet (fail)
                      go_wp2_with fail
                      go_roundw
                      case rel => exact ⟨k + 1, by go_num, by omega, HN.out, HBL.out.trans ((below_drewN _ _).mono hzr)⟩
                      case measure => simp [intOf]; omega
                    · rw [decide_eq_false hxy] at hq
                      have HN := Lib.hid (HNE.out (fun e => hxy (by injection e with e0 e1 e2 e3 e4; exact ⟨e0, e1, e2, e3, e4⟩)))
                      clear HNX HNE hxy
                      go_wp2_with fail
                      go_quiet (fail)
                      go_wp2_with fail
                      go_ret
                      exact ⟨by rw [HN.out]; rfl, HBw.out.trans ((below_drewN _ _).mono (Nat.le_trans HB2.out.size hzr))⟩
                  · obtain rfl : k = n11 := by omega
                    have HE11 : Hid (a11 = b11) := list_getD (by rw [HLa11.out, HLb11.out]) (fun j hj => HAL.out j (by rw [HLa11.out] at hj; exact hj))
                    have HBZ := HBL
                    obtain ⟨wz11, hwz⟩ : ∃ W, W = wr := ⟨_, rfl⟩
                    rw [← hwz] at HBZ X3 Y3 ⊢
                    clear HBw HBL HAL hwz hzr
                    go_wp2_with fail
                    clear X3 Y3
                    go_loopw [6] (fun i wr => ∃ k : Nat, i = .int .i64 (k : Int) ∧ k ≤ n12 ∧ (∀ j, j < k → a12.getD j default = b12.getD j default) ∧ Below w2.heap.size w2 wr) (fun i _ => n12 - (intOf i).toNat)
                    case atStart => exact ⟨0, rfl, Nat.zero_le _, fun i hi => absurd hi (Nat.not_lt_zero _), HBZ.out⟩
                    case round =>
                      obtain ⟨k, rfl, hkn, hal, hbl⟩ := hrel
                      have HAL := Lib.hid hal
                      have HBL := Lib.hid hbl
                      have hzr := hbl.size
                      have HBw := Lib.hid (HB2.out.trans (hbl.mono HB2.out.size))
                      clear hal hbl
                      have X3 := (HX.out.below HBL.out).cell 12
                      have Y3 := (HY.out.below HBL.out).cell 12
                      simp only [List.getElem?_cons_zero, List.getElem?_cons_succ] at X3 Y3
                      by_cases hlt : k < n12
                      · have gA := HRa12.out.below HBw.out
                        have gB := HRb12.out.below HBw.out
                        have ixA := fun W => gA.ix (P := Tryz.prog) 42 132 Tryz.underlying42 cellsUpU (by decide) hlt ca12 W
                        have ixB := fun W => gB.ix (P := Tryz.prog) 42 132 Tryz.underlying42 cellsUpU (by decide) hlt cb12 W
                        have eA0 := gA.cell k 0 hlt (by decide)
                        have eA1 := gA.cell k 1 hlt (by decide)
                        have eA2 := gA.cell k 2 hlt (by decide)
                        have eB0 := gB.cell k 0 hlt (by decide)
                        have eB1 := gB.cell k 1 hlt (by decide)
                        have eB2 := gB.cell k 2 hlt (by decide)
                        clear gA gB
                        have hkA : k < a12.length := by rw [HLa12.out]; exact hlt
                        have hkB : k < b12.length := by rw [HLb12.out]; exact hlt
                        have HNX : Hid (a12.getD k default = b12.getD k default → ∀ j, j < k + 1 → a12.getD j default = b12.getD j default) := fun h j hj => by
                          rcases Nat.lt_or_ge j k with h' | h'
                          · exact HAL.out j h'
                          · rw [show j = k by omega]; exact h
                        have HNE : Hid (a12.getD k default ≠ b12.getD k default → res = false) := fun h => HNO12.out (getD_ne h)
                        have hA := HCa12.out k hkA
                        have hB := HCb12.out k hkB
                        rw [getD_of a12 default hkA] at hA
                        rw [getD_of b12 default hkB] at hB
                        generalize a12.getD k default = x at *
                        generalize b12.getD k default = y at *
                        obtain ⟨x0, x1, x2⟩ := x
                        obtain ⟨y0, y1, y2⟩ := y
                        obtain ⟨⟨hA0, zA0⟩, ⟨hA1, zA1⟩, ⟨hA2, zA2⟩⟩ := hA
                        obtain ⟨⟨hB0, zB0⟩, ⟨hB1, zB1⟩, ⟨hB2, zB2⟩⟩ := hB
                        simp only at hA0 zA0 hB0 zB0 hA1 zA1 hB1 zB1 hA2 zA2 hB2 zB2
                        rw [hA0] at eA0
                        rw [hB0] at eB0
                        rw [hA1] at eA1
                        rw [hB1] at eB1
                        rw [hA2] at eA2
                        rw [hB2] at eB2
                        simp only [Nat.add_zero] at eA0 eB0
                        have hq := fun W => eq_UpP x0 x1 x2 y0 y1 y2 W (szM zA0) (szM zA1) (szM zA2) (szM zB0) (szM zB1) (szM zB2)
                        clear hkA hkB hA0 zA0 hB0 zB0 hA1 zA1 hB1 zB1 hA2 zA2 hB2 zB2
                        by_cases hxy : x0 = y0 ∧ x1 = y1 ∧ x2 = y2
                        · rw [decide_eq_true hxy] at hq
                          have HN := Lib.hid (HNX.out (by obtain ⟨rfl, rfl, rfl⟩ := hxy; rfl))
                          clear HNX HNE hxy
                          go_wp2_with fail
                          go_quiet (fail)
                          go_wp2_with fail
                          go_roundw
                          case rel => exact ⟨k + 1, by go_num, by omega, HN.out, HBL.out.trans ((below_drewN _ _).mono hzr)⟩
                          case measure => simp [intOf]; omega
                        · rw [decide_eq_false hxy] at hq
                          have HN := Lib.hid (HNE.out (fun e => hxy (by injection e with e0 e1 e2; exact ⟨e0, e1, e2⟩)))
                          clear HNX HNE hxy
                          go_wp2_with fail
                          go_quiet (fail)
                          go_wp2_with fail
                          go_ret
                          exact ⟨by rw [HN.out]; rfl, HBw.out.trans ((below_drewN _ _).mono (Nat.le_trans HB2.out.size hzr))⟩
                      · obtain rfl : k = n12 := by omega
                        have HE12 : Hid (a12 = b12) := list_getD (by rw [HLa12.out, HLb12.out]) (fun j hj => HAL.out j (by rw [HLa12.out] at hj; exact hj))
                        have HBZ := HBL
                        obtain ⟨wz12, hwz⟩ : ∃ W, W = wr := ⟨_, rfl⟩
                        rw [← hwz] at HBZ X3 Y3 ⊢
                        clear HBw HBL HAL hwz hzr
                        go_wp2_with fail
                        clear X3 Y3
                        go_loopw [7] (fun i wr => ∃ k : Nat, i = .int .i64 (k : Int) ∧ k ≤ n13 ∧ (∀ j, j < k → a13.getD j default = b13.getD j default) ∧ Below w2.heap.size w2 wr) (fun i _ => n13 - (intOf i).toNat)
                        case atStart => exact ⟨0, rfl, Nat.zero_le _, fun i hi => absurd hi (Nat.not_lt_zero _), HBZ.out⟩
                        case round =>
                          obtain ⟨k, rfl, hkn, hal, hbl⟩ := hrel
                          have HAL := Lib.hid hal
                          have HBL := Lib.hid hbl
                          have hzr := hbl.size
                          have HBw := Lib.hid (HB2.out.trans (hbl.mono HB2.out.size))
                          clear hal hbl
                          have X3 := (HX.out.below HBL.out).cell 13
                          have Y3 := (HY.out.below HBL.out).cell 13
                          simp only [List.getElem?_cons_zero, List.getElem?_cons_succ] at X3 Y3
                          by_cases hlt : k < n13
                          · have gA := HRa13.out.below HBw.out
                            have gB := HRb13.out.below HBw.out
                            have ixA := fun W => gA.ix (P := Tryz.prog) 43 134 Tryz.underlying43 cellsDpU (by decide) hlt ca13 W
                            have ixB := fun W => gB.ix (P := Tryz.prog) 43 134 Tryz.underlying43 cellsDpU (by decide) hlt cb13 W
                            have eA0 := gA.cell k 0 hlt (by decide)
                            have eA1 := gA.cell k 1 hlt (by decide)
                            have eB0 := gB.cell k 0 hlt (by decide)
                            have eB1 := gB.cell k 1 hlt (by decide)
                            clear gA gB
                            have hkA : k < a13.length := by rw [HLa13.out]; exact hlt
                            have hkB : k < b13.length := by rw [HLb13.out]; exact hlt
                            have HNX : Hid (a13.getD k default = b13.getD k default → ∀ j, j < k + 1 → a13.getD j default = b13.getD j default) := fun h j hj => by
                              rcases Nat.lt_or_ge j k with h' | h'
                              · exact HAL.out j h'
                              · rw [show j = k by omega]; exact h
                            have HNE : Hid (a13.getD k default ≠ b13.getD k default → res = false) := fun h => HNO13.out (getD_ne h)
                            have hA := HCa13.out k hkA
                            have hB := HCb13.out k hkB
                            rw [getD_of a13 default hkA] at hA
                            rw [getD_of b13 default hkB] at hB
                            generalize a13.getD k default = x at *
                            generalize b13.getD k default = y at *
                            obtain ⟨x0, x1⟩ := x
                            obtain ⟨y0, y1⟩ := y
                            obtain ⟨⟨hA0, zA0⟩, ⟨hA1, zA1⟩⟩ := hA
                            obtain ⟨⟨hB0, zB0⟩, ⟨hB1, zB1⟩⟩ := hB
                            simp only at hA0 zA0 hB0 zB0 hA1 zA1 hB1 zB1
                            rw [hA0] at eA0
                            rw [hB0] at eB0
                            rw [hA1] at eA1
                            rw [hB1] at eB1
                            simp only [Nat.add_zero] at eA0 eB0
                            have hq := fun W => eq_DpP x0 x1 y0 y1 W (szM zA0) (szM zA1) (szM zB0) (szM zB1)
                            clear hkA hkB hA0 zA0 hB0 zB0 hA1 zA1 hB1 zB1
                            by_cases hxy : x0 = y0 ∧ x1 = y1
                            · rw [decide_eq_true hxy] at hq
                              have HN := Lib.hid (HNX.out (by obtain ⟨rfl, rfl⟩ := hxy; rfl))
                              clear HNX HNE hxy
                              go_wp2_with fail
                              go_quiet (fail)
                              go_wp2_with fail
                              go_roundw
                              case rel => exact ⟨k + 1, by go_num, by omega, HN.out, HBL.out.trans ((below_drewN _ _).mono hzr)⟩
                              case measure => simp [intOf]; omega
                            · rw [decide_eq_false hxy] at hq
                              have HN := Lib.hid (HNE.out (fun e => hxy (by injection e with e0 e1; exact ⟨e0, e1⟩)))
                              clear HNX HNE hxy
                              go_wp2_with fail
                              go_quiet (fail)
                              go_wp2_with fail
                              go_ret
                              exact ⟨by rw [HN.out]; rfl, HBw.out.trans ((below_drewN _ _).mono (Nat.le_trans HB2.out.size hzr))⟩
                          · obtain rfl : k = n13 := by omega
                            have HE13 : Hid (a13 = b13) := list_getD (by rw [HLa13.out, HLb13.out]) (fun j hj => HAL.out j (by rw [HLa13.out] at hj; exact hj))
                            have HBZ := HBL
                            obtain ⟨wz13, hwz⟩ : ∃ W, W = wr := ⟨_, rfl⟩
                            rw [← hwz] at HBZ X3 Y3 ⊢
                            clear HBw HBL HAL hwz hzr
                            have X3 := (HX.out.below HBZ.out).cell 3
                            have X4 := (HX.out.below HBZ.out).cell 4
                            have X14 := (HX.out.below HBZ.out).cell 14
                            have X15 := (HX.out.below HBZ.out).cell 15
                            have Y3 := (HY.out.below HBZ.out).cell 3
                            have Y4 := (HY.out.below HBZ.out).cell 4
                            have Y14 := (HY.out.below HBZ.out).cell 14
                            have Y15 := (HY.out.below HBZ.out).cell 15
                            simp only [List.getElem?_cons_zero, List.getElem?_cons_succ] at X3 X4 X14 X15 Y3 Y4 Y14 Y15
                            go_wp2_with fail
                            refine (HQ3.out _ HBZ.out).mono ?_
                            rintro _ wq3 ⟨rfl, hb3⟩
                            have HB3 := Lib.hid (HBZ.out.trans (hb3.mono HBZ.out.size))
                            have HNE := HNE3
                            have HYE := HYE3
                            clear HNE3 HYE3
                            generalize eqB a3 b3 = q3 at *
                            cases q3 with
                            | false =>
                              have HN := Lib.hid (HNE.out rfl)
                              go_wp2_with fail
                              go_ret
                              exact ⟨by rw [HN.out]; rfl, HB2.out.trans (HB3.out.mono HB2.out.size)⟩
                            | true =>
                              clear HNE X3 Y3
                              have X4 := (HX.out.below HB3.out).cell 4
                              have Y4 := (HY.out.below HB3.out).cell 4
                              simp only [List.getElem?_cons_zero, List.getElem?_cons_succ] at X4 Y4
                              go_wp2_with fail
                              refine (HQ4.out _ HB3.out).mono ?_
                              rintro _ wq4 ⟨rfl, hb4⟩
                              have HB4 := Lib.hid (HB3.out.trans (hb4.mono HB3.out.size))
                              generalize eqB a4 b4 = q4 at *
                              cases q4 with
                              | false =>
                                have HN := Lib.hid (HNE4.out rfl)
                                go_wp2_with fail
                                go_ret
                                exact ⟨by rw [HN.out]; rfl, HB2.out.trans (HB4.out.mono HB2.out.size)⟩
                              | true =>
                                have X14 := (HX.out.below HB4.out).cell 14
                                have Y14 := (HY.out.below HB4.out).cell 14
                                simp only [List.getElem?_cons_zero, List.getElem?_cons_succ] at X14 Y14
                                go_wp2_with fail
                                refine (HQ14.out _ HB4.out).mono ?_
                                rintro _ wq14 ⟨rfl, hb14⟩
                                have HB14 := Lib.hid (HB4.out.trans (hb14.mono HB4.out.size))
                                generalize eqB a14 b14 = q14 at *
                                cases q14 with
                                | false =>
                                  have HN := Lib.hid (HNE14.out rfl)
                                  go_wp2_with fail
                                  go_ret
                                  exact ⟨by rw [HN.out]; rfl, HB2.out.trans (HB14.out.mono HB2.out.size)⟩
                                | true =>
                                  have X15 := (HX.out.below HB14.out).cell 15
                                  have Y15 := (HY.out.below HB14.out).cell 15
                                  simp only [List.getElem?_cons_zero, List.getElem?_cons_succ] at X15 Y15
                                  go_wp2_with fail
                                  refine (HQ15.out _ HB14.out).mono ?_
                                  rintro _ wq15 ⟨rfl, hb15⟩
                                  have HB15 := Lib.hid (HB14.out.trans (hb15.mono HB14.out.size))
                                  have HS : Hid (eqB a15 b15 = res) := by
                                    unfold Hid
                                    cases hq : eqB a15 b15 with
                                    | true => exact (HYE.out ⟨HE11.out, HE12.out, HE13.out⟩ (by first | rfl | trivial) (by first | rfl | trivial) (by first | rfl | trivial) hq).symm
                                    | false => exact (HNE15.out hq).symm
                                  rw [HS.out]
                                  go_wp2_with fail
                                  go_ret
                                  exact ⟨rfl, HB2.out.trans (HB15.out.mono HB2.out.size)⟩
              · have HN := Lib.hid (HLE13.out h13)
                have l13 : ((n13 : Int) != (nx13 : Int)) = true := by simp only [bne_iff_ne]; omega
                have l13' : ¬ ((n13 : Int) = (nx13 : Int)) := by omega
                go_wp2_with fail
                go_ret
                exact ⟨by rw [HN.out]; rfl, HB2.out⟩
            · have HN := Lib.hid (HLE12.out h12)
              have l12 : ((n12 : Int) != (nx12 : Int)) = true := by simp only [bne_iff_ne]; omega
              have l12' : ¬ ((n12 : Int) = (nx12 : Int)) := by omega
              go_wp2_with fail
              go_ret
              exact ⟨by rw [HN.out]; rfl, HB2.out⟩
          · have HN := Lib.hid (HLE11.out h11)
            have l11 : ((n11 : Int) != (nx11 : Int)) = true := by simp only [bne_iff_ne]; omega
            have l11' : ¬ ((n11 : Int) = (nx11 : Int)) := by omega
            go_wp2_with fail
            go_ret
            exact ⟨by rw [HN.out]; rfl, HB2.out⟩
        · rw [decide_eq_false hsym] at hqs
          have HN := Lib.hid (HNOS.out hsym)
          go_wp2_with fail
          go_ret
          exact ⟨by rw [HN.out]; rfl, HB2.out⟩
      · have HN := Lib.hid (HNO2.out h2)
        have hd1 : (a2.toList == b2.toList) = false := by rw [dec_toList, decide_eq_false h2]
        have hd2 : (a2.toList != b2.toList) = true := by unfold bne; rw [hd1]; rfl
        go_wp2_with fail
        go_ret
        exact ⟨by rw [HN.out]; rfl, HB2.out⟩
    · have HN := Lib.hid (HNO1.out h1)
      have hd1 : (a1.toList == b1.toList) = false := by rw [dec_toList, decide_eq_false h1]
      have hd2 : (a1.toList != b1.toList) = true := by unfold bne; rw [hd1]; rfl
      go_wp2_with fail
      go_ret
      exact ⟨by rw [HN.out]; rfl, HB2.out⟩
  · have HN := Lib.hid (HNO0.out h0)
    have hd1 : (a0.toList == b0.toList) = false := by rw [dec_toList, decide_eq_false h0]
    have hd2 : (a0.toList != b0.toList) = true := by unfold bne; rw [hd1]; rfl
    go_wp2_with fail
    go_ret
    exact ⟨by rw [HN.out]; rfl, HB2.out⟩
end Go.Proofs.YtmleeodfmmpdgaaGreatDoor
