/- Walk: a locale's text, by the program. -/
import Derived.Test.YtmleeodfmmpdgaaGreatDoorQ29
import Derived.Deep.DeepCutAuto
import Derived.Test.YtmleeodfmmpdgaaGreatDoorQ30
namespace Go.Proofs.YtmleeodfmmpdgaaGreatDoor
open Go.RowKit
attribute [local go_sem] Ext.cell Ext.frozen
attribute [local go_sem ↓] Go.wp_at_zero Go.wp_at_succ
set_option maxRecDepth 20000 in
set_option maxHeartbeats 8000000 in
theorem plocale_any (w0 : World) (b : Nat) (t : List UInt8) (x : Nat → Value) (y : Lc) (w : World) (h : LcC w0 x y) (hs : SmL y) (hf : LocF y) (h0 : Below w0.heap.size w0 w) (hp : PB w0.heap.size b t w) (ht : t.length ≤ 400000000000) (hT : TabTen w0) (hD : TabDeB w0) :
    Calls Tryz.prog 32 #[.pointer (some ⟨b, 0, none⟩), .agg #[x 0, x 1, x 2, x 3, x 4, x 5, x 6, x 7, x 8, x 9, x 10, x 11, x 12, x 13, x 14, x 15]] w fun e w' => e = .returned (.tuple #[]) ∧ PB w0.heap.size b (t ++ locT y) w' ∧ Below w0.heap.size w w' ∧ Oth b w w' := by
  have HCA : Hid (∀ A cl T wx, LS w0 w b A cl T wx → A ≠ b → T.length ≤ 500000000000 → Calls Tryz.prog 80 #[.pointer (some ⟨b, 0, none⟩), .string ⟨#[99, 97, 114, 100, 105, 110, 97, 108]⟩, x 3] wx fun e w' => e = .returned (.tuple #[]) ∧ LS w0 w b A cl (T ++ rulesT [99, 97, 114, 100, 105, 110, 97, 108] y.card) w') := fun A cl T wx g hA hz => g.rules hA ⟨#[99, 97, 114, 100, 105, 110, 97, 108]⟩ (x 3) y.card h.c3 hf.card hs.ca.1 (fun r hr => (hs.ca.2 r hr).2) (by decide) hz hT hD
  have HOR : Hid (∀ A cl T wx, LS w0 w b A cl T wx → A ≠ b → T.length ≤ 500000000000 → Calls Tryz.prog 80 #[.pointer (some ⟨b, 0, none⟩), .string ⟨#[111, 114, 100, 105, 110, 97, 108]⟩, x 4] wx fun e w' => e = .returned (.tuple #[]) ∧ LS w0 w b A cl (T ++ rulesT [111, 114, 100, 105, 110, 97, 108] y.ord) w') := fun A cl T wx g hA hz => g.rules hA ⟨#[111, 114, 100, 105, 110, 97, 108]⟩ (x 4) y.ord h.c4 hf.ord hs.od.1 (fun r hr => (hs.od.2 r hr).2) (by decide) hz hT hD
  have HMO : Hid (∀ A cl T wx, LS w0 w b A cl T wx → A ≠ b → T.length ≤ 500000000000 → Calls Tryz.prog 82 #[.pointer (some ⟨b, 0, none⟩), .slice (some ⟨wx.heap.size, 0, none⟩) 1 1, x 14] (wx.alloc (.cells #[.string ⟨#[109, 111, 110, 116, 104, 115]⟩] 9)) fun e w' => e = .returned (.tuple #[]) ∧ LS w0 w b A cl (T ++ itemT [[109, 111, 110, 116, 104, 115]] y.months) w') := fun A cl T wx g hA hz => g.names hA [⟨#[109, 111, 110, 116, 104, 115]⟩] _ rfl (by simp) (by simp) wx.heap.size rfl (x 14) y.months h.c14 hs.mo.1 hs.mo.2 hD (by
    have := itemT_le [[109, 111, 110, 116, 104, 115]] y.months (fun x hx => by rw [List.mem_singleton.1 hx]; decide) hf.monthsX
    have := hf.months
    simp only [List.length_cons, List.length_nil] at *
    exact Nat.le_trans ‹_› (by omega)) (by omega)
  have HDA : Hid (∀ A cl T wx, LS w0 w b A cl T wx → A ≠ b → T.length ≤ 500000000000 → Calls Tryz.prog 82 #[.pointer (some ⟨b, 0, none⟩), .slice (some ⟨wx.heap.size, 0, none⟩) 1 1, x 15] (wx.alloc (.cells #[.string ⟨#[100, 97, 121, 115]⟩] 9)) fun e w' => e = .returned (.tuple #[]) ∧ LS w0 w b A cl (T ++ itemT [[100, 97, 121, 115]] y.days) w') := fun A cl T wx g hA hz => g.names hA [⟨#[100, 97, 121, 115]⟩] _ rfl (by simp) (by simp) wx.heap.size rfl (x 15) y.days h.c15 hs.da.1 hs.da.2 hD (by
    have := itemT_le [[100, 97, 121, 115]] y.days (fun x hx => by rw [List.mem_singleton.1 hx]; decide) hf.daysX
    have := hf.days
    simp only [List.length_cons, List.length_nil] at *
    exact Nat.le_trans ‹_› (by omega)) (by omega)
  have l1 := headT_le hf
  have l2 := dirT_le hf
  have l3 := rulesT_le hf.card [99, 97, 114, 100, 105, 110, 97, 108] (by decide)
  have l4 := rulesT_le hf.ord [111, 114, 100, 105, 110, 97, 108] (by decide)
  have hcl : y.card.length ≤ 1000 := hs.ca.1
  have hol : y.ord.length ≤ 1000 := hs.od.1
  replace l3 : (rulesT [99, 97, 114, 100, 105, 110, 97, 108] y.card).length ≤ 160000000 := Nat.le_trans l3 (by omega)
  replace l4 : (rulesT [111, 114, 100, 105, 110, 97, 108] y.ord).length ≤ 160000000 := Nat.le_trans l4 (by omega)
  have hnz : y.tag.size ≤ 40 := (okW_le hf.tag).2
  have hpz : y.par.size ≤ 40 := by
    rcases hf.par with e | e
    · rw [e]; decide
    · exact (okW_le e).2
  have hdz : y.dir.size ≤ 3 := dirU_le hf.dir
  obtain ⟨ad11, k11, f11, b11, o11, hv11, hr11, _, _, _, hf11⟩ := RowsOf.opn h.c11
  have HR11 := Lib.hid hr11
  have HF11 := Lib.hid hf11
  obtain ⟨ad12, k12, f12, b12, o12, hv12, hr12, _, _, _, hf12⟩ := RowsOf.opn h.c12
  have HR12 := Lib.hid hr12
  have HF12 := Lib.hid hf12
  obtain ⟨ad13, k13, f13, b13, o13, hv13, hr13, _, _, _, hf13⟩ := RowsOf.opn h.c13
  have HR13 := Lib.hid hr13
  have HF13 := Lib.hid hf13
  obtain ⟨ad14, k14, hv14⟩ := RowsOf.shape h.c14
  obtain ⟨ad15, k15, hv15⟩ := RowsOf.shape h.c15
  rw [Hid, hv14] at HMO
  rw [Hid, hv15] at HDA
  replace HMO := Lib.hid HMO
  replace HDA := Lib.hid HDA
  rw [h.c0.1, h.c1.1, h.c2.1, h.c5.1, h.c6.1, h.c7.1, h.c8.1, h.c9.1, h.c10.1, hv11, hv12, hv13, hv14, hv15]
  have HLF := Lib.hid hf
  have HSM := Lib.hid hs
  have HDD := Lib.hid hD
  have HTT := Lib.hid hT
  have HT1 : Hid (headT y = ((⟨#[108, 111, 99, 97, 108, 101, 32]⟩ : ByteArray) ++ y.tag).data.toList ++ (if y.par = .empty then [] else ((⟨#[32, 112, 97, 114, 101, 110, 116, 32]⟩ : ByteArray) ++ y.par).data.toList) ++ [32, 123, 10]) := by
    unfold Hid headT
    rw [ByteArray.data_append, ByteArray.data_append, Array.toList_append, Array.toList_append]
  have HT2 : Hid (dirT y = if y.dir = .empty then [] else lineT [9] ([⟨#[100, 105, 114, 101, 99, 116, 105, 111, 110]⟩, y.dir].map (·.data.toList))) := rfl
  have HLO : Hid (locT y = headT y ++ (dirT y ++ rulesT [99, 97, 114, 100, 105, 110, 97, 108] y.card ++ rulesT [111, 114, 100, 105, 110, 97, 108] y.ord ++ (if symZ y then [] else symT y) ++ y.lists.flatMap lpT ++ y.units.flatMap upT ++ y.dates.flatMap dpT ++ (if y.months = [] then [] else itemT [[109, 111, 110, 116, 104, 115]] y.months) ++ (if y.days = [] then [] else itemT [[100, 97, 121, 115]] y.days)) ++ [125, 10]) := rfl
  generalize locT y = LY at *
  have HP := Lib.hid hp
  have H0 := Lib.hid h0
  have hbw := hp.lt
  clear h hs hf hT hD hp h0 hr11 hf11 hr12 hf12 hr13 hf13 hv11 hv12 hv13 hv14 hv15
  generalize rulesT [99, 97, 114, 100, 105, 110, 97, 108] y.card = T3 at *
  generalize rulesT [111, 114, 100, 105, 110, 97, 108] y.ord = T4 at *
  generalize headT y = T1 at *
  generalize dirT y = T2 at *
  generalize y.tag = a0 at *
  generalize y.par = a1 at *
  generalize y.dir = a2 at *
  obtain ⟨A, hA⟩ : ∃ A, w.heap.size = A := ⟨_, rfl⟩
  have hAb : A ≠ b := by omega
  have zl : (⟨#[108, 111, 99, 97, 108, 101, 32]⟩ : ByteArray).size = 7 := rfl
  have zp : (⟨#[32, 112, 97, 114, 101, 110, 116, 32]⟩ : ByteArray).size = 8 := rfl
  have a1x := fun w => run_string_add_sum (P := Tryz.prog) (w := w) (⟨#[108, 111, 99, 97, 108, 101, 32]⟩ : ByteArray) a0 (by omega)
  have a2x := fun w => run_string_add_sum (P := Tryz.prog) (w := w) (⟨#[32, 112, 97, 114, 101, 110, 116, 32]⟩ : ByteArray) a1 (by omega)
  go_enter Tryz.func32, Tryz.ntmps32
  go_wp2_with fail
  refine wp_at_worldF ?_
  intro wa hwa
  have HL : Hid (LS w0 w b A [.string a0, .string a1, .string a2, x 3, x 4, .string y.dec, .string y.grp, .string y.mi, .string y.pct, .int .i64 y.pri, .int .i64 y.sec, .slice ad11 y.lists.length k11, .slice ad12 y.units.length k12, .slice ad13 y.dates.length k13, .slice ad14 y.months.length k14, .slice ad15 y.days.length k15] (t) wa) := by
    have hb1 : Below w.heap.size w wa := by rw [hwa]; exact (Below.refl _ _).alloc (Nat.le_refl _) _
    refine ⟨HP.out.kept hb1, by rw [hwa, ← hA]; exact Cel.new w [.string a0, .string a1, .string a2, x 3, x 4, .string y.dec, .string y.grp, .string y.mi, .string y.pct, .int .i64 y.pri, .int .i64 y.sec, .slice ad11 y.lists.length k11, .slice ad12 y.units.length k12, .slice ad13 y.dates.length k13, .slice ad14 y.months.length k14, .slice ad15 y.days.length k15] 46, hb1.mono H0.out.size, Oth.below hb1, H0.out.trans (hb1.mono H0.out.size)⟩
  clear hwa HP H0
  have x0 := HL.out.cel.cell 0
  simp only [List.getElem?_cons_zero] at x0
  have hlx := HL.out.cel.lt
  refine wp_region_held_drew (S := (fun w' => w'.cell? ⟨A, 0, none⟩ = some (.string a0))) (by kernel_rfl) ?_ (fun hHeld => ?_)
  · go_keep
  refine wpAnyH_take (i := 0) (v := ?_) rfl (by kernel_rfl) (by kernel_rfl) (by kernel_rfl) (fun _ _ _ h => h) (Or.inl ⟨by kernel_rfl, ?_⟩) hHeld ?_
  rotate_left
  · (intro wx hSw; (try dsimp only at hSw); go_simp; try with_reducible rfl)
  refine wpAnyH_take (i := 1) (v := ?_) rfl (by kernel_rfl) (by kernel_rfl) (by kernel_rfl) (fun _ _ _ h => h) (Or.inl ⟨by kernel_rfl, ?_⟩) hHeld ?_
  rotate_left
  · (intro wx hSw; (try dsimp only at hSw); go_simp; try with_reducible rfl)
  refine wpAnyH_take (i := 2) (v := ?_) rfl (by kernel_rfl) (by kernel_rfl) (by kernel_rfl) (fun _ _ _ h => h) (Or.inl ⟨by kernel_rfl, ?_⟩) hHeld ?_
  rotate_left
  · (intro wx hSw; (try dsimp only at hSw); go_simp; try with_reducible rfl)
  refine wpAnyH_take (i := 3) (v := ?_) rfl (by kernel_rfl) (by kernel_rfl) (by kernel_rfl) (fun _ _ _ h => h) (Or.inl ⟨by kernel_rfl, ?_⟩) hHeld ?_
  rotate_left
  · (intro wx hSw; (try dsimp only at hSw); go_simp; try with_reducible rfl)
  refine wpAnyH_take (i := 4) (v := ?_) rfl (by kernel_rfl) (by kernel_rfl) (by kernel_rfl) (fun _ _ _ h => h) (Or.inl ⟨by kernel_rfl, ?_⟩) hHeld ?_
  rotate_left
  · (intro wx hSw; (try dsimp only at hSw); go_simp; try with_reducible rfl)
  refine wpAnyH_take (i := 5) (v := ?_) rfl (by kernel_rfl) (by kernel_rfl) (by kernel_rfl) (fun _ _ _ h => h) (Or.inl ⟨by kernel_rfl, ?_⟩) hHeld ?_
  rotate_left
  · (intro wx hSw; (try dsimp only at hSw); go_simp; try with_reducible rfl)
  simp only [Act.put, List.getElem_toArray, List.getElem_cons_succ, List.getElem_cons_zero, List.setIfInBounds_toArray, List.set_cons_zero, List.set_cons_succ]
  replace HL := Lib.hid HL.out.drew
  refine wpAnyH_ready (rs := [6]) (by kernel_rfl) (by simp) ?_
  refine AllReadyH.cons rfl (fun K hK => ?_) AllReadyH.nil
  go_simp
  refine (HL.out.write hAb ((⟨#[108, 111, 99, 97, 108, 101, 32]⟩ : ByteArray) ++ a0) (by rw [ByteArray.size_append]; show _ + _ ≠ 0; omega) (by rw [ByteArray.size_append]; omega) (by first | omega | (simp only [List.length_append, sz_data, ByteArray.size_append, List.length_cons, List.length_nil]; omega))).mono ?_
  rintro e w2 ⟨rfl, hl⟩
  replace HL : Hid (LS w0 w b A [.string a0, .string a1, .string a2, x 3, x 4, .string y.dec, .string y.grp, .string y.mi, .string y.pct, .int .i64 y.pri, .int .i64 y.sec, .slice ad11 y.lists.length k11, .slice ad12 y.units.length k12, .slice ad13 y.dates.length k13, .slice ad14 y.months.length k14, .slice ad15 y.days.length k15] (t ++ ((⟨#[108, 111, 99, 97, 108, 101, 32]⟩ : ByteArray) ++ a0).data.toList) w2) := hl
  clear hl
  replace x0 := HL.out.cel.cell 0
  simp only [List.getElem?_cons_zero] at x0
  go_simp
  clear hHeld
  refine hK.out _ _ ?_ (fun hHeld => ?_)
  · exact x0
  clear hK K
  refine wpAnyH_done (by kernel_rfl) ?_ _
  clear hHeld
  clear hlx x0
  have x1 := HL.out.cel.cell 1
  simp only [List.getElem?_cons_zero, List.getElem?_cons_succ] at x1
  have hlx := HL.out.cel.lt
  go_upto_if 21 with (fail)
  go_cut [] (fun wx => LS w0 w b A [.string a0, .string a1, .string a2, x 3, x 4, .string y.dec, .string y.grp, .string y.mi, .string y.pct, .int .i64 y.pri, .int .i64 y.sec, .slice ad11 y.lists.length k11, .slice ad12 y.units.length k12, .slice ad13 y.dates.length k13, .slice ad14 y.months.length k14, .slice ad15 y.days.length k15] (t ++ ((⟨#[108, 111, 99, 97, 108, 101, 32]⟩ : ByteArray) ++ a0).data.toList ++ (if a1 = .empty then [] else ((⟨#[32, 112, 97, 114, 101, 110, 116, 32]⟩ : ByteArray) ++ a1).data.toList)) wx)
  case first =>
    by_cases e0 : a1 = .empty
    · have d_e0 := str_empty e0
      have i_e0 := str_empty2 e0
      have l_e0 := List.isEmpty_iff.1 i_e0
      have He0 := Lib.hid e0
      clear e0
      rw [i_e0]
      go_wp2_with fail
      go_meet
      rw [if_pos He0.out, List.append_nil]
      exact HL.out
    · have d_e0 := str_full e0
      have i_e0 := str_full2 e0
      have l_e0 := List.isEmpty_eq_false_iff.1 i_e0
      have He0 := Lib.hid e0
      clear e0
      rw [i_e0]
      go_wp2_with fail
      refine wp_region_held_drew (S := (fun w' => w'.cell? ⟨A, 1, none⟩ = some (.string a1))) (by kernel_rfl) ?_ (fun hHeld => ?_)
      · go_keep
      refine wpAnyH_take (i := 0) (v := ?_) rfl (by kernel_rfl) (by kernel_rfl) (by kernel_rfl) (fun _ _ _ h => h) (Or.inl ⟨by kernel_rfl, ?_⟩) hHeld ?_
      rotate_left
      · (intro wx hSw; (try dsimp only at hSw); go_simp; try with_reducible rfl)
      refine wpAnyH_take (i := 1) (v := ?_) rfl (by kernel_rfl) (by kernel_rfl) (by kernel_rfl) (fun _ _ _ h => h) (Or.inl ⟨by kernel_rfl, ?_⟩) hHeld ?_
      rotate_left
      · (intro wx hSw; (try dsimp only at hSw); go_simp; try with_reducible rfl)
      refine wpAnyH_take (i := 2) (v := ?_) rfl (by kernel_rfl) (by kernel_rfl) (by kernel_rfl) (fun _ _ _ h => h) (Or.inl ⟨by kernel_rfl, ?_⟩) hHeld ?_
      rotate_left
      · (intro wx hSw; (try dsimp only at hSw); go_simp; try with_reducible rfl)
      refine wpAnyH_take (i := 3) (v := ?_) rfl (by kernel_rfl) (by kernel_rfl) (by kernel_rfl) (fun _ _ _ h => h) (Or.inl ⟨by kernel_rfl, ?_⟩) hHeld ?_
      rotate_left
      · (intro wx hSw; (try dsimp only at hSw); go_simp; try with_reducible rfl)
      refine wpAnyH_take (i := 4) (v := ?_) rfl (by kernel_rfl) (by kernel_rfl) (by kernel_rfl) (fun _ _ _ h => h) (Or.inl ⟨by kernel_rfl, ?_⟩) hHeld ?_
      rotate_left
      · (intro wx hSw; (try dsimp only at hSw); go_simp; try with_reducible rfl)
      refine wpAnyH_take (i := 5) (v := ?_) rfl (by kernel_rfl) (by kernel_rfl) (by kernel_rfl) (fun _ _ _ h => h) (Or.inl ⟨by kernel_rfl, ?_⟩) hHeld ?_
      rotate_left
      · (intro wx hSw; (try dsimp only at hSw); go_simp; try with_reducible rfl)
      simp only [Act.put, List.getElem_toArray, List.getElem_cons_succ, List.getElem_cons_zero, List.setIfInBounds_toArray, List.set_cons_zero, List.set_cons_succ]
      replace HL := Lib.hid HL.out.drew
      refine wpAnyH_ready (rs := [6]) (by kernel_rfl) (by simp) ?_
      refine AllReadyH.cons rfl (fun K hK => ?_) AllReadyH.nil
      go_simp
      refine (HL.out.write hAb ((⟨#[32, 112, 97, 114, 101, 110, 116, 32]⟩ : ByteArray) ++ a1) (by rw [ByteArray.size_append]; show _ + _ ≠ 0; omega) (by rw [ByteArray.size_append]; omega) (by first | omega | (simp only [List.length_append, sz_data, ByteArray.size_append]; omega))).mono ?_
      rintro e w3 ⟨rfl, hl⟩
      replace HL : Hid (LS w0 w b A [.string a0, .string a1, .string a2, x 3, x 4, .string y.dec, .string y.grp, .string y.mi, .string y.pct, .int .i64 y.pri, .int .i64 y.sec, .slice ad11 y.lists.length k11, .slice ad12 y.units.length k12, .slice ad13 y.dates.length k13, .slice ad14 y.months.length k14, .slice ad15 y.days.length k15] (t ++ ((⟨#[108, 111, 99, 97, 108, 101, 32]⟩ : ByteArray) ++ a0).data.toList ++ ((⟨#[32, 112, 97, 114, 101, 110, 116, 32]⟩ : ByteArray) ++ a1).data.toList) w3) := hl
      clear hl
      replace x1 := HL.out.cel.cell 1
      simp only [List.getElem?_cons_zero, List.getElem?_cons_succ] at x1
      go_simp
      clear hHeld
      refine hK.out _ _ ?_ (fun hHeld => ?_)
      · exact x1
      clear hK K
      refine wpAnyH_done (by kernel_rfl) ?_ _
      clear hHeld
      go_wp2_with fail
      go_meet
      rw [if_neg He0.out]
      exact HL.out
  case rest =>
    clear hlx x1
    replace HL := Lib.hid hcut
    clear hcut
    have hlt : (((⟨#[108, 111, 99, 97, 108, 101, 32]⟩ : ByteArray) ++ a0).data.toList ++ (if a1 = .empty then [] else ((⟨#[32, 112, 97, 114, 101, 110, 116, 32]⟩ : ByteArray) ++ a1).data.toList)).length ≤ 100 := by
      have := HT1.out
      have h2 := congrArg List.length this
      simp only [List.length_append, List.length_cons, List.length_nil] at h2 ⊢
      omega
    rw [Hid, List.append_assoc] at HL
    replace HL := Lib.hid HL
    generalize ((⟨#[108, 111, 99, 97, 108, 101, 32]⟩ : ByteArray) ++ a0).data.toList ++ (if a1 = .empty then [] else ((⟨#[32, 112, 97, 114, 101, 110, 116, 32]⟩ : ByteArray) ++ a1).data.toList) = TH at *
    go_wp2_with fail
    refine (HL.out.write hAb ⟨#[32, 123, 10]⟩ (by decide) (by decide) (by rw [List.length_append]; omega)).mono ?_
    rintro e w4 ⟨rfl, hl⟩
    replace HL : Hid (LS w0 w b A [.string a0, .string a1, .string a2, x 3, x 4, .string y.dec, .string y.grp, .string y.mi, .string y.pct, .int .i64 y.pri, .int .i64 y.sec, .slice ad11 y.lists.length k11, .slice ad12 y.units.length k12, .slice ad13 y.dates.length k13, .slice ad14 y.months.length k14, .slice ad15 y.days.length k15] (t ++ TH ++ [32, 123, 10]) w4) := hl
    clear hl
    rw [Hid, List.append_assoc, ← HT1.out] at HL
    replace HL := Lib.hid HL
    clear HT1 hlt
    have x2 := HL.out.cel.cell 2
    simp only [List.getElem?_cons_zero, List.getElem?_cons_succ] at x2
    have hlx := HL.out.cel.lt
    go_upto_if 35 with (fail)
    go_cut [] (fun wx => LS w0 w b A [.string a0, .string a1, .string a2, x 3, x 4, .string y.dec, .string y.grp, .string y.mi, .string y.pct, .int .i64 y.pri, .int .i64 y.sec, .slice ad11 y.lists.length k11, .slice ad12 y.units.length k12, .slice ad13 y.dates.length k13, .slice ad14 y.months.length k14, .slice ad15 y.days.length k15] (t ++ T1 ++ T2) wx)
    case first =>
      by_cases e1 : a2 = .empty
      · have d_e1 := str_empty e1
        have i_e1 := str_empty2 e1
        have l_e1 := List.isEmpty_iff.1 i_e1
        have He1 := Lib.hid e1
        clear e1
        rw [i_e1]
        have ht2 := HT2.out
        rw [if_pos He1.out] at ht2
        have HT2e := Lib.hid ht2
        clear ht2
        go_wp2_with fail
        go_meet
        rw [HT2e.out, List.append_nil]
        exact HL.out
      · have d_e1 := str_full e1
        have i_e1 := str_full2 e1
        have l_e1 := List.isEmpty_eq_false_iff.1 i_e1
        have He1 := Lib.hid e1
        clear e1
        rw [i_e1]
        have ht2 := HT2.out
        rw [if_neg He1.out] at ht2
        have HT2e := Lib.hid ht2
        clear ht2
        go_wp2_with fail
        refine (HL.out.line hAb ⟨#[9]⟩ (by decide) [⟨#[100, 105, 114, 101, 99, 116, 105, 111, 110]⟩, a2] _ rfl (by simp) (by simp) _ (by first | rfl | simp) (by have := HT2.out; rw [if_neg He1.out] at this; rw [show (⟨#[9]⟩ : ByteArray).data.toList = [9] from rfl, ← this]; omega) (by rw [List.length_append]; omega)).mono ?_
        rintro e w5 ⟨rfl, hl⟩
        replace HL : Hid (LS w0 w b A [.string a0, .string a1, .string a2, x 3, x 4, .string y.dec, .string y.grp, .string y.mi, .string y.pct, .int .i64 y.pri, .int .i64 y.sec, .slice ad11 y.lists.length k11, .slice ad12 y.units.length k12, .slice ad13 y.dates.length k13, .slice ad14 y.months.length k14, .slice ad15 y.days.length k15] (t ++ T1 ++ lineT [9] ([⟨#[100, 105, 114, 101, 99, 116, 105, 111, 110]⟩, a2].map (·.data.toList))) w5) := hl
        clear hl
        go_wp2_with fail
        go_meet
        rw [HT2e.out]
        exact HL.out
    case rest =>
      clear hlx x2
      replace HL := Lib.hid hcut
      clear hcut
      clear HT2
      have x3 := HL.out.cel.cell 3
      simp only [List.getElem?_cons_zero, List.getElem?_cons_succ] at x3
      have hlx := HL.out.cel.lt
      go_wp2_with fail
      refine (HCA.out A _ _ _ HL.out hAb (by simp only [List.length_append]; omega)).mono ?_
      rintro e w6 ⟨rfl, hl⟩
      replace HL : Hid (LS w0 w b A [.string a0, .string a1, .string a2, x 3, x 4, .string y.dec, .string y.grp, .string y.mi, .string y.pct, .int .i64 y.pri, .int .i64 y.sec, .slice ad11 y.lists.length k11, .slice ad12 y.units.length k12, .slice ad13 y.dates.length k13, .slice ad14 y.months.length k14, .slice ad15 y.days.length k15] (t ++ T1 ++ T2 ++ T3) w6) := hl
      clear hl
      clear hlx x3
      have x4 := HL.out.cel.cell 4
      simp only [List.getElem?_cons_zero, List.getElem?_cons_succ] at x4
      have hlx := HL.out.cel.lt
      go_wp2_with fail
      refine (HOR.out A _ _ _ HL.out hAb (by simp only [List.length_append]; omega)).mono ?_
      rintro e w7 ⟨rfl, hl⟩
      replace HL : Hid (LS w0 w b A [.string a0, .string a1, .string a2, x 3, x 4, .string y.dec, .string y.grp, .string y.mi, .string y.pct, .int .i64 y.pri, .int .i64 y.sec, .slice ad11 y.lists.length k11, .slice ad12 y.units.length k12, .slice ad13 y.dates.length k13, .slice ad14 y.months.length k14, .slice ad15 y.days.length k15] (t ++ T1 ++ T2 ++ T3 ++ T4) w7) := hl
      clear hl
      clear hlx x4
      have x5 := HL.out.cel.cell 5
      have x6 := HL.out.cel.cell 6
      have x7 := HL.out.cel.cell 7
      have x8 := HL.out.cel.cell 8
      have x9 := HL.out.cel.cell 9
      have x10 := HL.out.cel.cell 10
      simp only [List.getElem?_cons_zero, List.getElem?_cons_succ] at x5 x6 x7 x8 x9 x10
      have hlx := HL.out.cel.lt
      go_upto_region 10 with (fail)
      obtain ⟨C, hC⟩ : ∃ C, w7.heap.size = C := ⟨_, rfl⟩
      try rw [hC]
      have hCA : A < C := by have := HL.out.cel.lt; omega
      refine wp_at_worldF ?_
      intro w8 hw8
      have HY : Hid (Cel w8 C 40 [.string y.dec, .string y.grp, .string y.mi, .string y.pct, .int .i64 y.pri, .int .i64 y.sec]) := by rw [hw8, ← hC]; exact Cel.new w7 [.string y.dec, .string y.grp, .string y.mi, .string y.pct, .int .i64 y.pri, .int .i64 y.sec] 40
      have hl8 := HL.out.alloc (.cells ([.string y.dec, .string y.grp, .string y.mi, .string y.pct, .int .i64 y.pri, .int .i64 y.sec] : List Value).toArray 40)
      replace HL : Hid (LS w0 w b A [.string a0, .string a1, .string a2, x 3, x 4, .string y.dec, .string y.grp, .string y.mi, .string y.pct, .int .i64 y.pri, .int .i64 y.sec, .slice ad11 y.lists.length k11, .slice ad12 y.units.length k12, .slice ad13 y.dates.length k13, .slice ad14 y.months.length k14, .slice ad15 y.days.length k15] (t ++ T1 ++ T2 ++ T3 ++ T4) w8) := by rw [hw8]; exact hl8
      clear hw8 hl8
      clear hlx x5 x6 x7 x8 x9 x10
      have v0 := HY.out.cell 0
      have v1 := HY.out.cell 1
      have v2 := HY.out.cell 2
      have v3 := HY.out.cell 3
      have v4 := HY.out.cell 4
      have v5 := HY.out.cell 5
      simp only [List.getElem?_cons_zero, List.getElem?_cons_succ] at v0 v1 v2 v3 v4 v5
      have hly := HY.out.lt
      go_cut [53] (fun p wx => p = .bool (!symZ y) ∧ LS w0 w b A [.string a0, .string a1, .string a2, x 3, x 4, .string y.dec, .string y.grp, .string y.mi, .string y.pct, .int .i64 y.pri, .int .i64 y.sec, .slice ad11 y.lists.length k11, .slice ad12 y.units.length k12, .slice ad13 y.dates.length k13, .slice ad14 y.months.length k14, .slice ad15 y.days.length k15] (t ++ T1 ++ T2 ++ T3 ++ T4) wx ∧ Cel wx C 40 [.string y.dec, .string y.grp, .string y.mi, .string y.pct, .int .i64 y.pri, .int .i64 y.sec])
      case first =>
        by_cases s0 : y.dec = .empty
        · have d_s0 := str_empty s0
          have i_s0 := str_empty2 s0
          have l_s0 := List.isEmpty_iff.1 i_s0
          have Hs0 := Lib.hid s0
          clear s0
          by_cases s1 : y.grp = .empty
          · have d_s1 := str_empty s1
            have i_s1 := str_empty2 s1
            have l_s1 := List.isEmpty_iff.1 i_s1
            have Hs1 := Lib.hid s1
            clear s1
            by_cases s2 : y.mi = .empty
            · have d_s2 := str_empty s2
              have i_s2 := str_empty2 s2
              have l_s2 := List.isEmpty_iff.1 i_s2
              have Hs2 := Lib.hid s2
              clear s2
              by_cases s3 : y.pct = .empty
              · have d_s3 := str_empty s3
                have i_s3 := str_empty2 s3
                have l_s3 := List.isEmpty_iff.1 i_s3
                have Hs3 := Lib.hid s3
                clear s3
                by_cases s4 : y.pri = 0
                · have d_s4 := decide_eq_true s4
                  have b_s4 := beq_iff_eq.2 s4
                  have Hs4 := Lib.hid s4
                  clear s4
                  by_cases s5 : y.sec = 0
                  · have d_s5 := decide_eq_true s5
                    have b_s5 := beq_iff_eq.2 s5
                    have Hs5 := Lib.hid s5
                    clear s5
                    go_wp2_with fail
                    go_meet
                    exact ⟨by simp [symZ, Hs0.out, Hs1.out, Hs2.out, Hs3.out, Hs4.out, Hs5.out], HL.out, HY.out⟩
                  · have d_s5 := decide_eq_false s5
                    have b_s5 := beq_eq_false_iff_ne.2 s5
                    have Hs5 := Lib.hid s5
                    clear s5
                    go_wp2_with fail
                    go_meet
                    exact ⟨by simp [symZ, Hs0.out, Hs1.out, Hs2.out, Hs3.out, Hs4.out, Hs5.out], HL.out, HY.out⟩
                · have d_s4 := decide_eq_false s4
                  have b_s4 := beq_eq_false_iff_ne.2 s4
                  have Hs4 := Lib.hid s4
                  clear s4
                  go_wp2_with fail
                  go_meet
                  exact ⟨by simp [symZ, Hs0.out, Hs1.out, Hs2.out, Hs3.out, Hs4.out], HL.out, HY.out⟩
              · have d_s3 := str_full s3
                have i_s3 := str_full2 s3
                have l_s3 := List.isEmpty_eq_false_iff.1 i_s3
                have Hs3 := Lib.hid s3
                clear s3
                go_wp2_with fail
                go_meet
                exact ⟨by simp [symZ, Hs0.out, Hs1.out, Hs2.out, Hs3.out], HL.out, HY.out⟩
            · have d_s2 := str_full s2
              have i_s2 := str_full2 s2
              have l_s2 := List.isEmpty_eq_false_iff.1 i_s2
              have Hs2 := Lib.hid s2
              clear s2
              go_wp2_with fail
              go_meet
              exact ⟨by simp [symZ, Hs0.out, Hs1.out, Hs2.out], HL.out, HY.out⟩
          · have d_s1 := str_full s1
            have i_s1 := str_full2 s1
            have l_s1 := List.isEmpty_eq_false_iff.1 i_s1
            have Hs1 := Lib.hid s1
            clear s1
            go_wp2_with fail
            go_meet
            exact ⟨by simp [symZ, Hs0.out, Hs1.out], HL.out, HY.out⟩
        · have d_s0 := str_full s0
          have i_s0 := str_full2 s0
          have l_s0 := List.isEmpty_eq_false_iff.1 i_s0
          have Hs0 := Lib.hid s0
          clear s0
          go_wp2_with fail
          go_meet
          exact ⟨by simp [symZ, Hs0.out], HL.out, HY.out⟩
      case rest =>
        clear hly v0 v1 v2 v3 v4 v5
        obtain ⟨rfl, hl, hy⟩ := hcut
        replace HL := Lib.hid hl
        replace HY := Lib.hid hy
        clear hl hy
        have HSY : Hid (symZ y = false → (symT y).length ≤ 20000 ∧ (∀ s ∈ [y.dec, y.grp, y.mi, y.pct], s.size ≤ 200000) ∧ 0 ≤ y.pri ∧ y.pri ≤ 1000 ∧ 0 ≤ y.sec ∧ y.sec ≤ 1000) := fun hz => by
          have hsy := HLF.out.sym
          refine ⟨symT_le hsy hz, fun s h => HSM.out.s7 s (List.mem_append_right [y.tag, y.par, y.dir] h), ?_⟩
          unfold okSym at hsy
          rw [hz, Bool.false_or] at hsy
          simp only [Bool.and_eq_true, decide_eq_true_eq] at hsy
          omega
        have HST : Hid (symT y = lineT [9] (([(⟨#[115, 121, 109, 98, 111, 108, 115]⟩ : ByteArray)] ++ [y.dec, y.grp, y.mi, y.pct].map (fun s => bs (qT s)) ++ [bs (Lib.itoa y.pri), bs (Lib.itoa y.sec)]).map (·.data.toList))) := rfl
        have l5 : (if symZ y then [] else symT y).length ≤ 20000 := by
          cases hz : symZ y with
          | true => simp
          | false => exact (HSY.out hz).1
        generalize symT y = ST at *
        generalize symZ y = Z at *
        go_upto_if 53 with (fail)
        go_cut [] (fun wx => LS w0 w b A [.string a0, .string a1, .string a2, x 3, x 4, .string y.dec, .string y.grp, .string y.mi, .string y.pct, .int .i64 y.pri, .int .i64 y.sec, .slice ad11 y.lists.length k11, .slice ad12 y.units.length k12, .slice ad13 y.dates.length k13, .slice ad14 y.months.length k14, .slice ad15 y.days.length k15] (t ++ T1 ++ T2 ++ T3 ++ T4 ++ (if Z then [] else ST)) wx)
        case first =>
          cases Z with
          | true =>
            go_wp2_with fail
            go_meet
            (first | rw [if_pos trivial] | rw [if_pos rfl])
            rw [List.append_nil]
            exact HL.out
          | false =>
            rename World => w8x
            obtain ⟨hs1, hs2, hs3, hs4, hs5, hs6⟩ := HSY.out rfl
            have hCb : C ≠ b := by omega
            have v0 := HY.out.cell 0
            have v1 := HY.out.cell 1
            have v2 := HY.out.cell 2
            have v3 := HY.out.cell 3
            have v4 := HY.out.cell 4
            have v5 := HY.out.cell 5
            simp only [List.getElem?_cons_zero, List.getElem?_cons_succ] at v0 v1 v2 v3 v4 v5
            have hly := HY.out.lt
            go_wp2_with fail
            have hl2 := (HL.out.alloc (.cells #[.string ⟨#[115, 121, 109, 98, 111, 108, 115]⟩] 9)).alloc (.cells #[.string y.dec, .string y.grp, .string y.mi, .string y.pct] 9)
            have hb2 := ((Below.refl w8x.heap.size w8x).alloc (Nat.le_refl _) (.cells #[.string ⟨#[115, 121, 109, 98, 111, 108, 115]⟩] 9)).alloc (by simp) (.cells #[.string y.dec, .string y.grp, .string y.mi, .string y.pct] 9)
            have hlo := World.ownsRow.alloc (lit_own w8x [(⟨#[115, 121, 109, 98, 111, 108, 115]⟩ : ByteArray)] #[.string ⟨#[115, 121, 109, 98, 111, 108, 115]⟩] rfl (by simp) (by simp) w0.heap.size HL.out.all.size w8x.heap.size rfl) (.cells #[.string y.dec, .string y.grp, .string y.mi, .string y.pct] 9)
            have hr4 := lit_rows (w8x.alloc (.cells #[.string ⟨#[115, 121, 109, 98, 111, 108, 115]⟩] 9)) [y.dec, y.grp, y.mi, y.pct] #[.string y.dec, .string y.grp, .string y.mi, .string y.pct] 9 rfl (by simp) (fun s hs => Nat.le_trans (hs2 s hs) (by omega)) (w8x.heap.size + 1) (by simp)
            refine (tquoted_any _ [y.dec, y.grp, y.mi, y.pct] _ hr4 (by simp) hs2 (HDD.out.below hl2.all)).mono ?_
            rintro e wq ⟨ad5, c5, rfl, hq, hb⟩
            replace HL := Lib.hid (hl2.below hb)
            replace HY := Lib.hid ((HY.out.below hb2).below hb)
            have HO := Lib.hid (own_below2 hlo hb)
            have HQ := Lib.hid hq
            clear hl2 hb2 hlo hr4 hq hb hly v0 v1 v2 v3 v4 v5
            go_wp2_with (at_builtin; refine wpList_app_strs rfl (.tmp 54) (.tmp 64) rfl w0.heap.size (some ⟨w8x.heap.size, 0, none⟩) 1 1 _ rfl HO.out ad5 4 c5 ([y.dec, y.grp, y.mi, y.pct].map (fun s => bs (qT s))) rfl (Own.sl HQ.out) (own_nocap HQ.out) (by omega) HL.out.all.size ?_; intro ad6 c6 w6y hown6 hg6 _; replace HY := Lib.hid (HY.out.oth (Oth.grown HO.out (.inr rfl) hg6) hCb (by decide) (by decide)); replace HL := Lib.hid (HL.out.app hAb HO.out hg6); replace HO := Lib.hid hown6; clear hown6 hg6)
            have v4 := HY.out.cell 4
            have v5 := HY.out.cell 5
            simp only [List.getElem?_cons_zero, List.getElem?_cons_succ] at v4 v5
            clear HQ
            refine wp_region_held_drew (S := (fun w' => w'.cell? ⟨C, 4, none⟩ = some (.int .i64 y.pri) ∧ w'.cell? ⟨C, 5, none⟩ = some (.int .i64 y.sec))) (by kernel_rfl) ?_ (fun hHeld => ?_)
            · go_keep
            refine wpAnyH_take (i := 0) (v := ?_) rfl (by kernel_rfl) (by kernel_rfl) (by kernel_rfl) (fun _ _ _ h => h) (Or.inl ⟨by kernel_rfl, ?_⟩) hHeld ?_
            rotate_left
            · (intro wx hSw; (try dsimp only at hSw); go_simp; try with_reducible rfl)
            refine wpAnyH_take (i := 1) (v := ?_) rfl (by kernel_rfl) (by kernel_rfl) (by kernel_rfl) (fun _ _ _ h => h) (Or.inl ⟨by kernel_rfl, ?_⟩) hHeld ?_
            rotate_left
            · (intro wx hSw; (try dsimp only at hSw); go_simp; try with_reducible rfl)
            refine wpAnyH_take (i := 2) (v := ?_) rfl (by kernel_rfl) (by kernel_rfl) (by kernel_rfl) (fun _ _ _ h => h) (Or.inl ⟨by kernel_rfl, ?_⟩) hHeld ?_
            rotate_left
            · (intro wx hSw; (try dsimp only at hSw); go_simp; try with_reducible rfl)
            refine wpAnyH_take (i := 3) (v := ?_) rfl (by kernel_rfl) (by kernel_rfl) (by kernel_rfl) (fun _ _ _ h => h) (Or.inl ⟨by kernel_rfl, ?_⟩) hHeld ?_
            rotate_left
            · (intro wx hSw; (try dsimp only at hSw); go_simp; try with_reducible rfl)
            refine wpAnyH_take (i := 5) (v := ?_) rfl (by kernel_rfl) (by kernel_rfl) (by kernel_rfl) (fun _ _ _ h => h) (Or.inl ⟨by kernel_rfl, ?_⟩) hHeld ?_
            rotate_left
            · (intro wx hSw; (try dsimp only at hSw); go_simp; try with_reducible rfl)
            refine wpAnyH_take (i := 6) (v := ?_) rfl (by kernel_rfl) (by kernel_rfl) (by kernel_rfl) (fun _ _ _ h => h) (Or.inl ⟨by kernel_rfl, ?_⟩) hHeld ?_
            rotate_left
            · (intro wx hSw; (try dsimp only at hSw); go_simp; try with_reducible rfl)
            simp only [Act.put, List.getElem_toArray, List.getElem_cons_succ, List.getElem_cons_zero, List.setIfInBounds_toArray, List.set_cons_zero, List.set_cons_succ]
            replace HL := Lib.hid HL.out.drew
            replace HY : Hid (Cel w6y.drew C 40 [.string y.dec, .string y.grp, .string y.mi, .string y.pct, .int .i64 y.pri, .int .i64 y.sec]) := HY.out
            replace HO := Lib.hid (own_below2 HO.out (Below.refl _ _).drew)
            refine wpAnyH_ready (rs := [4]) (by kernel_rfl) (by simp) ?_
            refine AllReadyH.cons rfl (fun K hK => ?_) AllReadyH.nil
            go_simp
            refine (titoa_any y.pri hs3 hs4 _ (HTT.out.below HL.out.all)).mono ?_
            rintro e wi ⟨rfl, hb⟩
            replace HL := Lib.hid (HL.out.below hb)
            replace HY := Lib.hid (HY.out.below hb)
            replace HO := Lib.hid (own_below2 HO.out hb)
            replace v4 := HY.out.cell 4
            replace v5 := HY.out.cell 5
            simp only [List.getElem?_cons_zero, List.getElem?_cons_succ] at v4 v5
            clear hb
            go_simp
            clear hHeld
            refine hK.out _ _ ?_ (fun hHeld => ?_)
            · exact ⟨v4, v5⟩
            clear hK K
            refine wpAnyH_ready (rs := [7]) (by kernel_rfl) (by simp) ?_
            refine AllReadyH.cons rfl (fun K hK => ?_) AllReadyH.nil
            go_simp
            refine (titoa_any y.sec hs5 hs6 _ (HTT.out.below HL.out.all)).mono ?_
            rintro e wj ⟨rfl, hb⟩
            replace HL := Lib.hid (HL.out.below hb)
            replace HY := Lib.hid (HY.out.below hb)
            replace HO := Lib.hid (own_below2 HO.out hb)
            replace v4 := HY.out.cell 4
            replace v5 := HY.out.cell 5
            simp only [List.getElem?_cons_zero, List.getElem?_cons_succ] at v4 v5
            clear hb
            go_simp
            clear hHeld
            refine hK.out _ _ ?_ (fun hHeld => ?_)
            · exact ⟨v4, v5⟩
            clear hK K
            refine wpAnyH_ready (rs := [8]) (by kernel_rfl) (by simp) ?_
            refine AllReadyH.cons rfl (fun K hK => ?_) AllReadyH.nil
            go_simp
            clear hHeld
            refine hK.out _ _ ?_ (fun hHeld => ?_)
            · exact ⟨cell_al v4, cell_al v5⟩
            clear hK K
            have hl7 := HL.out.alloc (.cells #[.string (bs (Lib.itoa y.pri)), .string (bs (Lib.itoa y.sec))] 9)
            have hy7 := HY.out.below ((Below.refl _ _).alloc (Nat.le_refl _) (.cells #[.string (bs (Lib.itoa y.pri)), .string (bs (Lib.itoa y.sec))] 9))
            have ho7 := World.ownsRow.alloc HO.out (.cells #[.string (bs (Lib.itoa y.pri)), .string (bs (Lib.itoa y.sec))] 9)
            have hsl := Own.sl (lit_own wj [bs (Lib.itoa y.pri), bs (Lib.itoa y.sec)] #[.string (bs (Lib.itoa y.pri)), .string (bs (Lib.itoa y.sec))] rfl (by simp) (by simp) w0.heap.size HL.out.all.size wj.heap.size rfl)
            refine wpAnyH_ready (rs := [9]) (by kernel_rfl) (by simp) ?_
            refine AllReadyH.cons rfl (fun K hK => ?_) AllReadyH.nil
            refine wp_app_strs (.tmp 67) (.tmp 74) rfl w0.heap.size ad6 5 c6 _ rfl ho7 (some ⟨wj.heap.size, 0, none⟩) 2 2 [bs (Lib.itoa y.pri), bs (Lib.itoa y.sec)] rfl hsl (fun e => by cases e) (by omega) hl7.all.size ?_
            intro ad8 c8 w8y hown8 hg8 _
            have HL8 := Lib.hid (hl7.app hAb ho7 hg8)
            have HY8 := Lib.hid (hy7.oth (Oth.grown ho7 (.inr rfl) hg8) hCb (by decide) (by decide))
            have HO8 := Lib.hid hown8
            replace v4 := HY8.out.cell 4
            replace v5 := HY8.out.cell 5
            simp only [List.getElem?_cons_zero, List.getElem?_cons_succ] at v4 v5
            clear hl7 hy7 ho7 hsl hown8 hg8
            clear hHeld
            refine hK.out _ _ ?_ (fun hHeld => ?_)
            · exact ⟨v4, v5⟩
            clear hK K
            rw [Hid, ← strs_app2] at HO8
            have hln := line_any w0.heap.size b (t ++ T1 ++ T2 ++ T3 ++ T4) ⟨#[9]⟩ ad8 7 c8 (([(⟨#[115, 121, 109, 98, 111, 108, 115]⟩ : ByteArray)] ++ [y.dec, y.grp, y.mi, y.pct].map (fun s => bs (qT s)) ++ [bs (Lib.itoa y.pri), bs (Lib.itoa y.sec)])) w8y HL8.out.pb (Own.sl HO8) (by simp) (by omega) (own_le HO8) (by decide) HL8.out.all.size (by rw [show (⟨#[9]⟩ : ByteArray).data.toList = [9] from rfl, ← HST.out]; omega) (by simp only [List.length_append]; omega)
            rw [show (⟨#[9]⟩ : ByteArray).data.toList = [9] from rfl, ← HST.out] at hln
            refine wpAnyH_ready (rs := [10]) (by kernel_rfl) (by simp) ?_
            refine AllReadyH.cons rfl (fun K hK => ?_) AllReadyH.nil
            go_simp
            refine hln.mono ?_
            rintro e w9 ⟨rfl, hp9, hb9, ho9⟩
            replace HL : Hid (LS w0 w b A [.string a0, .string a1, .string a2, x 3, x 4, .string y.dec, .string y.grp, .string y.mi, .string y.pct, .int .i64 y.pri, .int .i64 y.sec, .slice ad11 y.lists.length k11, .slice ad12 y.units.length k12, .slice ad13 y.dates.length k13, .slice ad14 y.months.length k14, .slice ad15 y.days.length k15] (t ++ T1 ++ T2 ++ T3 ++ T4 ++ ST) w9) := HL8.out.step hAb hp9 hb9 ho9
            have hy9 := HY8.out.oth ho9 hCb (by decide) (by decide)
            replace v4 := hy9.cell 4
            replace v5 := hy9.cell 5
            simp only [List.getElem?_cons_zero, List.getElem?_cons_succ] at v4 v5
            clear hp9 hb9 ho9 hln hy9
            go_simp
            clear hHeld
            refine hK.out _ _ ?_ (fun hHeld => ?_)
            · exact ⟨v4, v5⟩
            clear hK K
            refine wpAnyH_done (by kernel_rfl) ?_ _
            clear hHeld
            go_wp2_with fail
            go_meet
            (first | rw [if_neg (show ¬ False from fun h => h)] | rw [if_neg (show ¬ (false = true) by simp)])
            exact HL.out
        case rest =>
          replace HL := Lib.hid hcut
          clear hcut HY HSY HST
          generalize (if Z then [] else ST) = T5 at *
          have hls := flatMap_le lpT 10000 y.lists fun x hx => lpT_le (HLF.out.lists x hx)
          have hus := flatMap_le upT 10000 y.units fun x hx => upT_le (HLF.out.units x hx)
          have hds := flatMap_le dpT 10000 y.dates fun x hx => dpT_le (HLF.out.dates x hx)
          have hnl := HLF.out.nl
          have hnu := HLF.out.nu
          have hnd := HLF.out.nd
          replace hls : (y.lists.flatMap lpT).length ≤ 1000000 := by omega
          replace hus : (y.units.flatMap upT).length ≤ 1000000 := by omega
          replace hds : (y.dates.flatMap dpT).length ≤ 1000000 := by omega
          have hmz : (if y.months = [] then [] else itemT [[109, 111, 110, 116, 104, 115]] y.months).length ≤ 100000 := by
            have := itemT_le [[109, 111, 110, 116, 104, 115]] y.months (fun x hx => by rw [List.mem_singleton.1 hx]; decide) HLF.out.monthsX
            have h2 := HLF.out.months
            simp only [List.length_cons, List.length_nil] at this
            split
            · simp
            · omega
          have x11 := HL.out.cel.cell 11
          simp only [List.getElem?_cons_zero, List.getElem?_cons_succ] at x11
          have hlx := HL.out.cel.lt
          go_wp2_with fail
          clear hlx x11
          go_loopw [80] (fun i wr => ∃ k : Nat, i = .int .i64 (k : Int) ∧ k ≤ y.lists.length ∧ LS w0 w b A [.string a0, .string a1, .string a2, x 3, x 4, .string y.dec, .string y.grp, .string y.mi, .string y.pct, .int .i64 y.pri, .int .i64 y.sec, .slice ad11 y.lists.length k11, .slice ad12 y.units.length k12, .slice ad13 y.dates.length k13, .slice ad14 y.months.length k14, .slice ad15 y.days.length k15] (t ++ T1 ++ T2 ++ T3 ++ T4 ++ T5 ++ (y.lists.take k).flatMap lpT) wr) (fun i _ => y.lists.length - (intOf i).toNat)
          case atStart => exact ⟨0, rfl, Nat.zero_le _, by rw [List.take_zero, List.flatMap_nil, List.append_nil]; exact HL.out⟩
          case round =>
            obtain ⟨k, rfl, hkn, hl⟩ := hrel
            replace HL := Lib.hid hl
            clear hl
            by_cases hlt : k < y.lists.length
            · have hrr := HR11.out.below HL.out.all
              have hix := fun W => hrr.ix 41 130 Tryz.underlying41 (by kernel_rfl) (by omega) hlt k11 W
              have c0 := hrr.cell k 0 hlt (by omega)
              rw [(HF11.out k hlt).c0.1] at c0
              have c1 := hrr.cell k 1 hlt (by omega)
              rw [(HF11.out k hlt).c1.1] at c1
              have c2 := hrr.cell k 2 hlt (by omega)
              rw [(HF11.out k hlt).c2.1] at c2
              have c3 := hrr.cell k 3 hlt (by omega)
              rw [(HF11.out k hlt).c3.1] at c3
              have c4 := hrr.cell k 4 hlt (by omega)
              rw [(HF11.out k hlt).c4.1] at c4
              rw [Nat.add_zero] at c0
              have htk := flatMap_take_le lpT y.lists k
              have hlz := lpT_le (HLF.out.lists y.lists[k] (List.getElem_mem hlt))
              have hsz := HSM.out.li.2 y.lists[k] (List.getElem_mem hlt)
              have HTS : Hid ((y.lists.take (k + 1)).flatMap lpT = (y.lists.take k).flatMap lpT ++ lpT y.lists[k]) := by
                unfold Hid
                rw [List.take_succ_eq_append_getElem hlt, List.flatMap_append]
                simp
              rw [Hid, show lpT y.lists[k] = itemT ([(⟨#[108, 105, 115, 116]⟩ : ByteArray), y.lists[k].style].map (·.data.toList)) [y.lists[k].two, y.lists[k].start, y.lists[k].mid, y.lists[k].fin] from rfl] at HTS
              replace HTS := Lib.hid HTS
              replace hlz : (itemT ([(⟨#[108, 105, 115, 116]⟩ : ByteArray), y.lists[k].style].map (·.data.toList)) [y.lists[k].two, y.lists[k].start, y.lists[k].mid, y.lists[k].fin]).length ≤ 10000 := hlz
              replace hsz : ∀ s ∈ [y.lists[k].two, y.lists[k].start, y.lists[k].mid, y.lists[k].fin], s.size ≤ 200000 := fun s hs => hsz s (List.mem_append_right [y.lists[k].style] hs)
              clear hrr
              generalize (y.lists.take k).flatMap lpT = TK at *
              generalize y.lists[k].style = e_style at *
              generalize y.lists[k].two = e_two at *
              generalize y.lists[k].start = e_start at *
              generalize y.lists[k].mid = e_mid at *
              generalize y.lists[k].fin = e_fin at *
              have HI := Lib.hid ((HL.out.alloc (.cells #[.string e_style, .string e_two, .string e_start, .string e_mid, .string e_fin] 130)).item hAb [⟨#[108, 105, 115, 116]⟩, e_style] _ rfl (by simp) (by simp) (wr.heap.size + 1) (by simp) [e_two, e_start, e_mid, e_fin] _ rfl (by simp) hsz (wr.heap.size + 2) (by simp) HDD.out (Nat.le_trans hlz (by omega)) (by simp only [List.length_append]; omega))
              clear hsz hlz htk
              go_wp2_with fail
              refine HI.out.mono ?_
              rintro e wn ⟨rfl, hl⟩
              replace HL := Lib.hid hl
              clear hl HI
              go_wp2_with fail
              go_roundw
              case rel => exact ⟨k + 1, by go_num, by omega, by rw [HTS.out, ← List.append_assoc]; exact HL.out⟩
              case measure => simp [intOf]; omega
            · obtain rfl : k = y.lists.length := by omega
              rw [Hid, List.take_length] at HL
              replace HL := Lib.hid HL
              have x12 := HL.out.cel.cell 12
              simp only [List.getElem?_cons_zero, List.getElem?_cons_succ] at x12
              have hlx := HL.out.cel.lt
              go_wp2_with fail
              clear hlx x12
              go_loopw [102] (fun i wr => ∃ k : Nat, i = .int .i64 (k : Int) ∧ k ≤ y.units.length ∧ LS w0 w b A [.string a0, .string a1, .string a2, x 3, x 4, .string y.dec, .string y.grp, .string y.mi, .string y.pct, .int .i64 y.pri, .int .i64 y.sec, .slice ad11 y.lists.length k11, .slice ad12 y.units.length k12, .slice ad13 y.dates.length k13, .slice ad14 y.months.length k14, .slice ad15 y.days.length k15] (t ++ T1 ++ T2 ++ T3 ++ T4 ++ T5 ++ y.lists.flatMap lpT ++ (y.units.take k).flatMap upT) wr) (fun i _ => y.units.length - (intOf i).toNat)
              case atStart => exact ⟨0, rfl, Nat.zero_le _, by rw [List.take_zero, List.flatMap_nil, List.append_nil]; exact HL.out⟩
              case round =>
                obtain ⟨k, rfl, hkn, hl⟩ := hrel
                replace HL := Lib.hid hl
                clear hl
                by_cases hlt : k < y.units.length
                · have hrr := HR12.out.below HL.out.all
                  have hix := fun W => hrr.ix 42 132 Tryz.underlying42 (by kernel_rfl) (by omega) hlt k12 W
                  have c0 := hrr.cell k 0 hlt (by omega)
                  rw [(HF12.out k hlt).c0.1] at c0
                  have c1 := hrr.cell k 1 hlt (by omega)
                  rw [(HF12.out k hlt).c1.1] at c1
                  have c2 := hrr.cell k 2 hlt (by omega)
                  rw [(HF12.out k hlt).c2.1] at c2
                  rw [Nat.add_zero] at c0
                  have htk := flatMap_take_le upT y.units k
                  have hlz := upT_le (HLF.out.units y.units[k] (List.getElem_mem hlt))
                  have hsz := HSM.out.un.2 y.units[k] (List.getElem_mem hlt)
                  have HTS : Hid ((y.units.take (k + 1)).flatMap upT = (y.units.take k).flatMap upT ++ upT y.units[k]) := by
                    unfold Hid
                    rw [List.take_succ_eq_append_getElem hlt, List.flatMap_append]
                    simp
                  rw [Hid, show upT y.units[k] = itemT ([(⟨#[117, 110, 105, 116]⟩ : ByteArray), y.units[k].unit, y.units[k].cls].map (·.data.toList)) [y.units[k].pat] from rfl] at HTS
                  replace HTS := Lib.hid HTS
                  replace hlz : (itemT ([(⟨#[117, 110, 105, 116]⟩ : ByteArray), y.units[k].unit, y.units[k].cls].map (·.data.toList)) [y.units[k].pat]).length ≤ 10000 := hlz
                  replace hsz : ∀ s ∈ [y.units[k].pat], s.size ≤ 200000 := fun s hs => hsz s (List.mem_append_right [y.units[k].unit, y.units[k].cls] hs)
                  clear hrr
                  generalize (y.units.take k).flatMap upT = TK at *
                  generalize y.units[k].unit = e_unit at *
                  generalize y.units[k].cls = e_cls at *
                  generalize y.units[k].pat = e_pat at *
                  have HI := Lib.hid ((HL.out.alloc (.cells #[.string e_unit, .string e_cls, .string e_pat] 132)).item hAb [⟨#[117, 110, 105, 116]⟩, e_unit, e_cls] _ rfl (by simp) (by simp) (wr.heap.size + 1) (by simp) [e_pat] _ rfl (by simp) hsz (wr.heap.size + 2) (by simp) HDD.out (Nat.le_trans hlz (by omega)) (by simp only [List.length_append]; omega))
                  clear hsz hlz htk
                  go_wp2_with fail
                  refine HI.out.mono ?_
                  rintro e wn ⟨rfl, hl⟩
                  replace HL := Lib.hid hl
                  clear hl HI
                  go_wp2_with fail
                  go_roundw
                  case rel => exact ⟨k + 1, by go_num, by omega, by rw [HTS.out, ← List.append_assoc]; exact HL.out⟩
                  case measure => simp [intOf]; omega
                · obtain rfl : k = y.units.length := by omega
                  rw [Hid, List.take_length] at HL
                  replace HL := Lib.hid HL
                  have x13 := HL.out.cel.cell 13
                  simp only [List.getElem?_cons_zero, List.getElem?_cons_succ] at x13
                  have hlx := HL.out.cel.lt
                  go_wp2_with fail
                  clear hlx x13
                  go_loopw [120] (fun i wr => ∃ k : Nat, i = .int .i64 (k : Int) ∧ k ≤ y.dates.length ∧ LS w0 w b A [.string a0, .string a1, .string a2, x 3, x 4, .string y.dec, .string y.grp, .string y.mi, .string y.pct, .int .i64 y.pri, .int .i64 y.sec, .slice ad11 y.lists.length k11, .slice ad12 y.units.length k12, .slice ad13 y.dates.length k13, .slice ad14 y.months.length k14, .slice ad15 y.days.length k15] (t ++ T1 ++ T2 ++ T3 ++ T4 ++ T5 ++ y.lists.flatMap lpT ++ y.units.flatMap upT ++ (y.dates.take k).flatMap dpT) wr) (fun i _ => y.dates.length - (intOf i).toNat)
                  case atStart => exact ⟨0, rfl, Nat.zero_le _, by rw [List.take_zero, List.flatMap_nil, List.append_nil]; exact HL.out⟩
                  case round =>
                    obtain ⟨k, rfl, hkn, hl⟩ := hrel
                    replace HL := Lib.hid hl
                    clear hl
                    by_cases hlt : k < y.dates.length
                    · have hrr := HR13.out.below HL.out.all
                      have hix := fun W => hrr.ix 43 134 Tryz.underlying43 (by kernel_rfl) (by omega) hlt k13 W
                      have c0 := hrr.cell k 0 hlt (by omega)
                      rw [(HF13.out k hlt).c0.1] at c0
                      have c1 := hrr.cell k 1 hlt (by omega)
                      rw [(HF13.out k hlt).c1.1] at c1
                      rw [Nat.add_zero] at c0
                      have htk := flatMap_take_le dpT y.dates k
                      have hlz := dpT_le (HLF.out.dates y.dates[k] (List.getElem_mem hlt))
                      have hsz := HSM.out.dt.2 y.dates[k] (List.getElem_mem hlt)
                      have HTS : Hid ((y.dates.take (k + 1)).flatMap dpT = (y.dates.take k).flatMap dpT ++ dpT y.dates[k]) := by
                        unfold Hid
                        rw [List.take_succ_eq_append_getElem hlt, List.flatMap_append]
                        simp
                      rw [Hid, show dpT y.dates[k] = itemT ([(⟨#[100, 97, 116, 101]⟩ : ByteArray), y.dates[k].skel].map (·.data.toList)) [y.dates[k].pat] from rfl] at HTS
                      replace HTS := Lib.hid HTS
                      replace hlz : (itemT ([(⟨#[100, 97, 116, 101]⟩ : ByteArray), y.dates[k].skel].map (·.data.toList)) [y.dates[k].pat]).length ≤ 10000 := hlz
                      replace hsz : ∀ s ∈ [y.dates[k].pat], s.size ≤ 200000 := fun s hs => hsz s (List.mem_append_right [y.dates[k].skel] hs)
                      clear hrr
                      generalize (y.dates.take k).flatMap dpT = TK at *
                      generalize y.dates[k].skel = e_skel at *
                      generalize y.dates[k].pat = e_pat at *
                      have HI := Lib.hid ((HL.out.alloc (.cells #[.string e_skel, .string e_pat] 134)).item hAb [⟨#[100, 97, 116, 101]⟩, e_skel] _ rfl (by simp) (by simp) (wr.heap.size + 1) (by simp) [e_pat] _ rfl (by simp) hsz (wr.heap.size + 2) (by simp) HDD.out (Nat.le_trans hlz (by omega)) (by simp only [List.length_append]; omega))
                      clear hsz hlz htk
                      go_wp2_with fail
                      refine HI.out.mono ?_
                      rintro e wn ⟨rfl, hl⟩
                      replace HL := Lib.hid hl
                      clear hl HI
                      go_wp2_with fail
                      go_roundw
                      case rel => exact ⟨k + 1, by go_num, by omega, by rw [HTS.out, ← List.append_assoc]; exact HL.out⟩
                      case measure => simp [intOf]; omega
                    · obtain rfl : k = y.dates.length := by omega
                      rw [Hid, List.take_length] at HL
                      replace HL := Lib.hid HL
                      have x14 := HL.out.cel.cell 14
                      simp only [List.getElem?_cons_zero, List.getElem?_cons_succ] at x14
                      have hlx := HL.out.cel.lt
                      go_upto_if 136 with (fail)
                      go_cut [] (fun wx => LS w0 w b A [.string a0, .string a1, .string a2, x 3, x 4, .string y.dec, .string y.grp, .string y.mi, .string y.pct, .int .i64 y.pri, .int .i64 y.sec, .slice ad11 y.lists.length k11, .slice ad12 y.units.length k12, .slice ad13 y.dates.length k13, .slice ad14 y.months.length k14, .slice ad15 y.days.length k15] (t ++ T1 ++ T2 ++ T3 ++ T4 ++ T5 ++ y.lists.flatMap lpT ++ y.units.flatMap upT ++ y.dates.flatMap dpT ++ (if y.months = [] then [] else itemT [[109, 111, 110, 116, 104, 115]] y.months)) wx)
                      case first =>
                        by_cases hm : y.months = []
                        · have hd : decide (0 < y.months.length) = false := by rw [hm]; rfl
                          rw [hd]
                          have HM := Lib.hid hm
                          clear hm hd
                          go_wp2_with fail
                          go_meet
                          rw [if_pos HM.out, List.append_nil]
                          exact HL.out
                        · have hd : decide (0 < y.months.length) = true := decide_eq_true (List.length_pos_iff.2 hm)
                          rw [hd]
                          have HM := Lib.hid hm
                          clear hm hd
                          go_wp2_with fail
                          refine (HMO.out A _ _ _ HL.out hAb (by simp only [List.length_append]; omega)).mono ?_
                          rintro e wn ⟨rfl, hl⟩
                          replace HL := Lib.hid hl
                          clear hl
                          go_wp2_with fail
                          go_meet
                          rw [if_neg HM.out]
                          exact HL.out
                      case rest =>
                        clear hlx x14
                        replace HL := Lib.hid hcut
                        clear hcut
                        generalize (if y.months = [] then [] else itemT [[109, 111, 110, 116, 104, 115]] y.months) = T9 at *
                        have x15 := HL.out.cel.cell 15
                        simp only [List.getElem?_cons_zero, List.getElem?_cons_succ] at x15
                        have hlx := HL.out.cel.lt
                        go_upto_if 145 with (fail)
                        go_cut [] (fun wx => LS w0 w b A [.string a0, .string a1, .string a2, x 3, x 4, .string y.dec, .string y.grp, .string y.mi, .string y.pct, .int .i64 y.pri, .int .i64 y.sec, .slice ad11 y.lists.length k11, .slice ad12 y.units.length k12, .slice ad13 y.dates.length k13, .slice ad14 y.months.length k14, .slice ad15 y.days.length k15] (t ++ T1 ++ T2 ++ T3 ++ T4 ++ T5 ++ y.lists.flatMap lpT ++ y.units.flatMap upT ++ y.dates.flatMap dpT ++ T9 ++ (if y.days = [] then [] else itemT [[100, 97, 121, 115]] y.days)) wx)
                        case first =>
                          by_cases hm : y.days = []
                          · have hd : decide (0 < y.days.length) = false := by rw [hm]; rfl
                            rw [hd]
                            have HM := Lib.hid hm
                            clear hm hd
                            go_wp2_with fail
                            go_meet
                            rw [if_pos HM.out, List.append_nil]
                            exact HL.out
                          · have hd : decide (0 < y.days.length) = true := decide_eq_true (List.length_pos_iff.2 hm)
                            rw [hd]
                            have HM := Lib.hid hm
                            clear hm hd
                            go_wp2_with fail
                            refine (HDA.out A _ _ _ HL.out hAb (by simp only [List.length_append]; omega)).mono ?_
                            rintro e wn ⟨rfl, hl⟩
                            replace HL := Lib.hid hl
                            clear hl
                            go_wp2_with fail
                            go_meet
                            rw [if_neg HM.out]
                            exact HL.out
                        case rest =>
                          clear hlx x15
                          replace HL := Lib.hid hcut
                          clear hcut
                          have hdz : (if y.days = [] then [] else itemT [[100, 97, 121, 115]] y.days).length ≤ 100000 := by
                            have := itemT_le [[100, 97, 121, 115]] y.days (fun x hx => by rw [List.mem_singleton.1 hx]; decide) HLF.out.daysX
                            have h2 := HLF.out.days
                            simp only [List.length_cons, List.length_nil] at this
                            split
                            · simp
                            · omega
                          generalize (if y.days = [] then [] else itemT [[100, 97, 121, 115]] y.days) = TD at *
                          go_wp2_with fail
                          refine (HL.out.write hAb ⟨#[125, 10]⟩ (by decide) (by decide) (by simp only [List.length_append]; omega)).mono ?_
                          rintro e wn ⟨rfl, hl⟩
                          replace HL := Lib.hid hl
                          clear hl
                          go_wp2_with fail
                          go_end0
                          have hl := HL.out
                          refine ⟨rfl, ?_, hl.bel, hl.oth⟩
                          have hp := hl.pb
                          try rw [show (⟨#[125, 10]⟩ : ByteArray).data.toList = [125, 10] from rfl] at hp
                          rw [HLO.out]
                          simp only [List.append_assoc] at hp ⊢
                          exact hp
end Go.Proofs.YtmleeodfmmpdgaaGreatDoor
