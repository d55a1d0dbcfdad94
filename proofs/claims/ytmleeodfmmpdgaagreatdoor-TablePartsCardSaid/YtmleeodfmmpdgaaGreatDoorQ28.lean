/- Walks: a part of a table. -/
import Derived.Test.YtmleeodfmmpdgaaGreatDoorQ27
namespace Go.Proofs.YtmleeodfmmpdgaaGreatDoor
open Go.RowKit
attribute [local go_sem] Ext.cell Ext.frozen
attribute [local go_sem ↓] Go.wp_at_zero Go.wp_at_succ
theorem infoLcT : (Tryz.prog.info? 46).map (fun i => (i.zero, i.size, i.bytes)) = some (some (.agg #[.string .empty, .string .empty, .string .empty, .slice none 0 0, .slice none 0 0, .string .empty, .string .empty, .string .empty, .string .empty, .int .i64 0, .int .i64 0, .slice none 0 0, .slice none 0 0, .slice none 0 0, .slice none 0 0, .slice none 0 0]), 16, 296) := by kernel_rfl
theorem infoAlT : (Tryz.prog.info? 61).map (fun i => (i.zero, i.size, i.bytes)) = some (some (.agg #[.string .empty, .string .empty]), 2, 32) := by kernel_rfl
theorem infoNeT : (Tryz.prog.info? 58).map (fun i => (i.zero, i.size, i.bytes)) = some (some (.agg #[.string .empty, .string .empty, .int .i64 0]), 3, 40) := by kernel_rfl
theorem lcC_ext {w : World} {f g : Nat → Value} {y : Lc} (h : ∀ j, j < 16 → g j = f j) (k : LcC w f y) : LcC w g y := by
  refine ⟨?_, ?_, ?_, ?_, ?_, ?_, ?_, ?_, ?_, ?_, ?_, ?_, ?_, ?_, ?_, ?_⟩
  · rw [h 0 (by decide)]; exact k.c0
  · rw [h 1 (by decide)]; exact k.c1
  · rw [h 2 (by decide)]; exact k.c2
  · rw [h 3 (by decide)]; exact k.c3
  · rw [h 4 (by decide)]; exact k.c4
  · rw [h 5 (by decide)]; exact k.c5
  · rw [h 6 (by decide)]; exact k.c6
  · rw [h 7 (by decide)]; exact k.c7
  · rw [h 8 (by decide)]; exact k.c8
  · rw [h 9 (by decide)]; exact k.c9
  · rw [h 10 (by decide)]; exact k.c10
  · rw [h 11 (by decide)]; exact k.c11
  · rw [h 12 (by decide)]; exact k.c12
  · rw [h 13 (by decide)]; exact k.c13
  · rw [h 14 (by decide)]; exact k.c14
  · rw [h 15 (by decide)]; exact k.c15
set_option maxRecDepth 20000 in
set_option maxHeartbeats 4000000 in
theorem part_locale (b : Nat) (E : Int) (base T : Nat) (t : Tb) (r : RS) (w : World) (hr : Rd w b E r) (hb : b < base) (hl : TabAt base w T t) (hM : MaxAt base w) (hf0 : t.locs.length ≤ 1000) (_hf1 : t.als.length ≤ 1000) (_hf2 : t.near.length ≤ 1000) (hlocale : r.is E 1 [108, 111, 99, 97, 108, 101] = true) : Calls Tryz.prog 27 #[.pointer (some ⟨b, 0, none⟩), .pointer (some ⟨T, 0, none⟩)] w (TabP b E base T w (tPart E t r)) := by
  obtain ⟨v0, v1, v2, hl⟩ := hl
  obtain ⟨ad0, c0, hv⟩ := hl.g0.shape
  subst hv
  have HT := Lib.hid hl
  have HV : Hid (tPart E t r = ({ t with locs := t.locs ++ [(tLocale E (r.word E).2).1] }, tLim (r.peek E).2.2 (decide (60 < t.locs.length + 1)) (tLocale E (r.word E).2).2)) := by
    show (if r.is E 1 [108, 111, 99, 97, 108, 101] = true then _ else _) = _
    rw [if_pos hlocale]
  have HP := Lib.hid (peek_any b E r w hr)
  have HIS := Lib.hid (fun s W (g : Rd W b E r) => is_any b E 1 s r W g)
  have HR := Lib.hid hr
  have HM := Lib.hid hM
  have hbT : b < T := Nat.lt_of_lt_of_le hb hl.low
  have hlow := hl.low
  unfold tokV at HP
  unfold TabP
  clear hr hl hM
  have hfd : ∀ (k' : Int) (S : ByteArray) (f : Int) (W : World), (Instr.field 109 (.agg #[.int .i64 k', .string S, .int .i64 f]) 2).run Tryz.prog W = .ok (.int .i64 f) W := fun _ _ _ _ => by kernel_rfl
  generalize tPart E t r = res at *
  generalize r.peek E = tk at *
  obtain ⟨k', s', f⟩ := tk
  simp only at HP HV
  have hfd := hfd k' (bs s') f
  generalize bs s' = S at *
  go_enter Tryz.func27, Tryz.ntmps27
  go_wp2_with fail
  refine HP.out.mono ?_
  rintro _ w1 ⟨rfl, hb1⟩
  have HB1 := Lib.hid hb1
  have HR1 := Lib.hid (HR.out.below hb1)
  clear hb1 HP
  go_wp2_with fail
  refine (HIS.out [108, 111, 99, 97, 108, 101] _ HR1.out).mono ?_
  rintro _ w3 ⟨rfl, hb3⟩
  have HR3 := Lib.hid (HR1.out.below hb3)
  have HB3 := Lib.hid (HB1.out.trans (hb3.mono HB1.out.size))
  clear hb3 HR1 HB1
  rw [hlocale]
  have HK3 : Hid (Kp (oneP b) w w3) := kp_below HB3.out
  have HWO1 := Lib.hid (word_any b E r _ HR3.out)
  unfold RdP at HWO1
  generalize r.word E = r1 at *
  obtain ⟨ws, q1⟩ := r1
  simp only at HWO1 HV
  go_wp2_with fail
  refine HWO1.out.mono ?_
  rintro _ w4 ⟨rfl, hr4, hk4⟩
  have HR4 := Lib.hid hr4
  have HK4 := Lib.hid (HK3.out.trans hk4)
  clear hr4 hk4 HR3 HK3
  have HT4 := Lib.hid (HT.out.rd HR.out HK4.out)
  have hm4 := (HM.out.kp HR.out (HK4.out.item (base := base))).1
  have HLO := Lib.hid (fun W (k : Below w4.heap.size w4 W) => rlocale_any b E q1 W (HR4.out.below k) (hm4.below k))
  unfold LocP at HLO
  generalize tLocale E q1 = lo at *
  obtain ⟨y, q2⟩ := lo
  simp only at HLO HV
  clear hm4
  go_upto_region 4 with (fail)
  refine wp_region_until 11 (fun w' => w'.cell? ⟨T, 0, none⟩ = some (.slice ad0 t.locs.length c0)) (by kernel_rfl) (HT4.out.cel.cell 0) (fun hS0 => ?_)
  have HRa := Lib.hid (HR4.out.below (Bel.drew (Bel.refl w4)))
  have HTa := Lib.hid (HT4.out.below (Bel.drew (Bel.refl w4)))
  have HKa := Lib.hid (HK4.out.trans (kp_below (Bel.drew (Bel.refl w4))))
  have HLO1 := Lib.hid (HLO.out _ (Bel.drew (Bel.refl w4)))
  clear HR4 HT4 HK4 HLO
  refine wpAnyG_take (i := 0) (v := ?_) rfl (by kernel_rfl) (by kernel_rfl) (by kernel_rfl) (fun _ _ _ h => h) (by kernel_rfl) (by decide) (by kernel_rfl) (Or.inl ⟨by kernel_rfl, ?_⟩) hS0 ?_
  rotate_left
  · (intro wx hSw; go_simp; try with_reducible rfl)
  try simp only [Act.put, List.getElem_toArray, List.getElem_cons_zero, List.setIfInBounds_toArray, List.set_cons_zero, List.set_cons_succ]
  refine wpAnyG_take (i := 1) (v := ?_) rfl (by kernel_rfl) (by kernel_rfl) (by kernel_rfl) (fun _ _ _ h => h) (by kernel_rfl) (by decide) (by kernel_rfl) (Or.inl ⟨by kernel_rfl, ?_⟩) hS0 ?_
  rotate_left
  · (intro wx hSw; go_simp; try with_reducible rfl)
  try simp only [Act.put, List.getElem_toArray, List.getElem_cons_succ, List.getElem_cons_zero, List.setIfInBounds_toArray, List.set_cons_zero, List.set_cons_succ]
  refine wpAnyG_take (i := 2) (v := ?_) rfl (by kernel_rfl) (by kernel_rfl) (by kernel_rfl) (fun _ _ _ h => h) (by kernel_rfl) (by decide) (by kernel_rfl) (Or.inl ⟨by kernel_rfl, ?_⟩) hS0 ?_
  rotate_left
  · (intro wx hSw; go_simp; try with_reducible rfl)
  try simp only [Act.put, List.getElem_toArray, List.getElem_cons_succ, List.getElem_cons_zero, List.setIfInBounds_toArray, List.set_cons_zero, List.set_cons_succ]
  refine wpAnyG_take (i := 3) (v := ?_) rfl (by kernel_rfl) (by kernel_rfl) (by kernel_rfl) (fun _ _ _ h => h) (by kernel_rfl) (by decide) (by kernel_rfl) (Or.inl ⟨by kernel_rfl, ?_⟩) hS0 ?_
  rotate_left
  · (intro wx hSw; go_simp; try with_reducible rfl)
  try simp only [Act.put, List.getElem_toArray, List.getElem_cons_succ, List.getElem_cons_zero, List.setIfInBounds_toArray, List.set_cons_zero, List.set_cons_succ]
  refine wpAnyG_take (i := 4) (v := ?_) rfl (by kernel_rfl) (by kernel_rfl) (by kernel_rfl) (fun _ _ _ h => h) (by kernel_rfl) (by decide) (by kernel_rfl) (Or.inl ⟨by kernel_rfl, ?_⟩) hS0 ?_
  rotate_left
  · (intro wx hSw; go_simp; try with_reducible rfl)
  try simp only [Act.put, List.getElem_toArray, List.getElem_cons_succ, List.getElem_cons_zero, List.setIfInBounds_toArray, List.set_cons_zero, List.set_cons_succ]
  refine wpAnyG_take (i := 5) (v := ?_) rfl (by kernel_rfl) (by kernel_rfl) (by kernel_rfl) (fun _ _ _ h => h) (by kernel_rfl) (by decide) (by kernel_rfl) (Or.inl ⟨by kernel_rfl, ?_⟩) hS0 ?_
  rotate_left
  · (intro wx hSw; go_simp; try with_reducible rfl)
  try simp only [Act.put, List.getElem_toArray, List.getElem_cons_succ, List.getElem_cons_zero, List.setIfInBounds_toArray, List.set_cons_zero, List.set_cons_succ]
  generalize w4.drew = p0 at *
  refine wpAnyG_ready (rs := [6]) (by kernel_rfl) (by simp) ?_
  refine AllReadyG.cons rfl (fun K hK => ?_) AllReadyG.nil
  go_simp
  refine HLO1.out.mono ?_
  rintro _ p1 ⟨fl, rfl, hlc, hr1, hk1⟩
  have hs0 : base ≤ p0.heap.size := Nat.le_trans HTa.out.low (Nat.le_of_lt HTa.out.cel.lt)
  have HLC := Lib.hid (mLcC _ _ _ _ (see_le p1 hs0 fun _ h => h) hlc)
  have HTe := Lib.hid (HTa.out.rd HRa.out hk1)
  have HRe := Lib.hid hr1
  have HKe := Lib.hid (HKa.out.trans hk1)
  have h1c := hlc.one
  clear hlc hr1 hk1 HTa HRa HKa HLO1
  go_simp
  refine hK.out _ _ (fun _ => HTe.out.cel.cell 0) (fun _ => ?_)
  clear hK K
  try simp only [Act.put, List.getElem_toArray, List.getElem_cons_succ, List.getElem_cons_zero, List.setIfInBounds_toArray, List.set_cons_zero, List.set_cons_succ]
  refine wpAnyG_ready (rs := [7]) (by kernel_rfl) (by simp) ?_
  refine AllReadyG.cons rfl (fun K hK => ?_) AllReadyG.nil
  go_simp
  have HRb := Lib.hid (HRe.out.below (Bel.alloc (Bel.refl p1) (.cells #[fl 0, fl 1, fl 2, fl 3, fl 4, fl 5, fl 6, fl 7, fl 8, fl 9, fl 10, fl 11, fl 12, fl 13, fl 14, fl 15] 46)))
  have HTb := Lib.hid (HTe.out.below (Bel.alloc (Bel.refl p1) (.cells #[fl 0, fl 1, fl 2, fl 3, fl 4, fl 5, fl 6, fl 7, fl 8, fl 9, fl 10, fl 11, fl 12, fl 13, fl 14, fl 15] 46)))
  have HKb := Lib.hid (HKe.out.alloc (.cells #[fl 0, fl 1, fl 2, fl 3, fl 4, fl 5, fl 6, fl 7, fl 8, fl 9, fl 10, fl 11, fl 12, fl 13, fl 14, fl 15] 46))
  have HNB := Lib.hid (rw_lit p1 #[fl 0, fl 1, fl 2, fl 3, fl 4, fl 5, fl 6, fl 7, fl 8, fl 9, fl 10, fl 11, fl 12, fl 13, fl 14, fl 15] 46 16 rfl)
  have HY : Hid (LcC (see base rowTs (World.alloc p1 (.cells #[fl 0, fl 1, fl 2, fl 3, fl 4, fl 5, fl 6, fl 7, fl 8, fl 9, fl 10, fl 11, fl 12, fl 13, fl 14, fl 15] 46))) (fun j => (#[fl 0, fl 1, fl 2, fl 3, fl 4, fl 5, fl 6, fl 7, fl 8, fl 9, fl 10, fl 11, fl 12, fl 13, fl 14, fl 15] : Array Value).getD j undef) y) := lcC_ext (fun j hj => by match j, hj with | 0, _ => rfl | 1, _ => rfl | 2, _ => rfl | 3, _ => rfl | 4, _ => rfl | 5, _ => rfl | 6, _ => rfl | 7, _ => rfl | 8, _ => rfl | 9, _ => rfl | 10, _ => rfl | 11, _ => rfl | 12, _ => rfl | 13, _ => rfl | 14, _ => rfl | 15, _ => rfl | n + 16, h => omega) (mLcC _ _ _ _ (see_sub (KpT.below (Bel.alloc (Bel.refl p1) _) base rowTs)) HLC.out)
  have hbs : base ≤ (World.alloc p1 (.cells #[fl 0, fl 1, fl 2, fl 3, fl 4, fl 5, fl 6, fl 7, fl 8, fl 9, fl 10, fl 11, fl 12, fl 13, fl 14, fl 15] 46)).heap.size := Nat.le_trans HTb.out.low (Nat.le_of_lt HTb.out.cel.lt)
  refine hK.out _ _ (fun _ => HTb.out.cel.cell 0) (fun _ => ?_)
  clear hK K
  generalize World.alloc p1 (.cells #[fl 0, fl 1, fl 2, fl 3, fl 4, fl 5, fl 6, fl 7, fl 8, fl 9, fl 10, fl 11, fl 12, fl 13, fl 14, fl 15] 46) = pb at *
  try simp only [Act.put, List.getElem_toArray, List.getElem_cons_succ, List.getElem_cons_zero, List.setIfInBounds_toArray, List.set_cons_zero, List.set_cons_succ]
  refine wpAnyG_ready (rs := [8]) (by kernel_rfl) (by simp) ?_
  refine AllReadyG.cons rfl (fun K hK => ?_) AllReadyG.nil
  obtain ⟨f0, hown0, hC0⟩ := HTb.out.g0
  have HOWN := Lib.hid hown0
  have HC0 := Lib.hid hC0
  clear hown0 hC0
  refine step_app_rows rfl (.tmp 21) (.tmp 24) rfl Tryz.underlying23 infoLcT (by rfl) (by omega) base ad0 t.locs.length c0 (flat 16 f0 t.locs.length) (by rfl) HOWN.out (some ⟨p1.heap.size, 0, none⟩) 1 1 (fun _ j => (#[fl 0, fl 1, fl 2, fl 3, fl 4, fl 5, fl 6, fl 7, fl 8, fl 9, fl 10, fl 11, fl 12, fl 13, fl 14, fl 15] : Array Value).getD j undef) p1.heap.size 0 (by rfl) HNB.out (fun h => by cases h) (fun i j _ hj => by match j, hj with | 0, _ => exact h1c 0 (by decide) | 1, _ => exact h1c 1 (by decide) | 2, _ => exact h1c 2 (by decide) | 3, _ => exact h1c 3 (by decide) | 4, _ => exact h1c 4 (by decide) | 5, _ => exact h1c 5 (by decide) | 6, _ => exact h1c 6 (by decide) | 7, _ => exact h1c 7 (by decide) | 8, _ => exact h1c 8 (by decide) | 9, _ => exact h1c 9 (by decide) | 10, _ => exact h1c 10 (by decide) | 11, _ => exact h1c 11 (by decide) | 12, _ => exact h1c 12 (by decide) | 13, _ => exact h1c 13 (by decide) | 14, _ => exact h1c 14 (by decide) | 15, _ => exact h1c 15 (by decide) | n + 16, h => omega) (by unfold maxLen; omega) (by omega) hbs ?_
  intro ad3 c3 pc hown3 hg3
  have hkc : Kp (growP b (.slice ad0 t.locs.length c0)) pb pc := (Kp.refl _ _).grown hg3 (fun k hk => .inr (by unfold growP; rw [decide_eq_true hk, Bool.or_true]))
  have hkr : Kp (fun k => decide (base ≤ k)) pb pc := (Kp.refl _ _).grown hg3 (fun k hk => .inr (decide_eq_true (World.ownsRow.lt HOWN.out k hk).1))
  have hgr := Grow.snoc HC0.out mLcC (grown_kpt hg3 HOWN.out base (by decide)) _ hown3 (x := y) HY.out
  have HCc := Lib.hid (HTb.out.celG HRb.out HTb.out.g0 hkc (by decide))
  have HTd := Lib.hid (HTb.out.locs HRb.out hkc (v' := .slice ad3 (t.locs.length + 1) c3) (l' := t.locs ++ [y]) hgr)
  have HRc := Lib.hid (HRb.out.kp hkr (fun i hi => decide_eq_false (by omega)))
  have HKc := Lib.hid ((HKb.out.item (base := base)).trans (hkc.itemG HTb.out.g0 (Nat.le_refl _)))
  have HCS := Lib.hid ((HCc.out.cell 0))
  clear hgr hkc hkr hown3 hg3 HOWN HC0 HNB HTb HRb HKb HY
  refine hK.out _ _ (fun _ => HCS.out) (fun _ => ?_)
  clear hK K
  try simp only [Act.put, List.getElem_toArray, List.getElem_cons_succ, List.getElem_cons_zero, List.setIfInBounds_toArray, List.set_cons_zero, List.set_cons_succ]
  refine wpAnyG_ready (rs := [9]) (by kernel_rfl) (by simp) ?_
  refine AllReadyG.cons rfl (fun K hK => ?_) AllReadyG.nil
  go_simp
  refine hK.out _ _ (fun _ => HCS.out) (fun _ => ?_)
  clear hK K
  try simp only [Act.put, List.getElem_toArray, List.getElem_cons_succ, List.getElem_cons_zero, List.setIfInBounds_toArray, List.set_cons_zero, List.set_cons_succ]
  refine wpAnyG_ready (rs := [10]) (by kernel_rfl) (by simp) ?_
  refine AllReadyG.cons rfl (fun K hK => ?_) AllReadyG.nil
  go_simp
  refine hK.out _ _ (fun _ => HCS.out) (fun _ => ?_)
  clear hK K
  try simp only [Act.put, List.getElem_toArray, List.getElem_cons_succ, List.getElem_cons_zero, List.setIfInBounds_toArray, List.set_cons_zero, List.set_cons_succ]
  have c0 := HCc.out.cell 0
  have f0 := HCc.out.frz 0
  have hLt := HCc.out.lt
  simp only [List.getElem?_cons_zero] at c0
  refine wpAnyG_ready (rs := [11]) (by kernel_rfl) (by simp) ?_
  refine AllReadyG.cons rfl (fun K hK => ?_) AllReadyG.nil
  go_simp
  refine hK.out _ _ (fun h => by cases h) (fun _ => ?_)
  clear hK K
  refine wpAnyG_done (by kernel_rfl) ?_ _
  have HRd := Lib.hid (HRc.out.other (a := ⟨T, 0, none⟩) hbT (.slice ad3 (t.locs.length + 1) c3))
  have HKd := Lib.hid (HKc.out.itemS (p := ⟨T, 0, none⟩) hlow (.slice ad3 (t.locs.length + 1) c3))
  clear HRc HKc HCc HCS c0 f0 hLt
  generalize pc.setCell ⟨T, 0, none⟩ (.slice ad3 (t.locs.length + 1) c3) = pd at *
  have c0 := HTd.out.cel.cell 0
  simp only [List.getElem?_cons_zero] at c0
  have hLt := HTd.out.cel.lt
  by_cases hfull : 60 < t.locs.length + 1
  · have hfd : decide (60 < t.locs.length + 1) = true := decide_eq_true hfull
    rw [hfd] at HV
    have HFL := Lib.hid (failAt_any b E q2 f 6 pd HRd.out)
    unfold RdP at HFL
    go_wp2_with fail
    refine HFL.out.mono ?_
    rintro _ pe ⟨rfl, hre, hke⟩
    go_wp2_with fail
    go_end0
    exact ⟨rfl, by rw [HV.out]; exact ⟨_, _, _, HTd.out.rd HRd.out hke⟩, by rw [HV.out]; exact hre, HKd.out.trans hke.item⟩
  · have hfd : decide (60 < t.locs.length + 1) = false := decide_eq_false hfull
    rw [hfd] at HV
    go_wp2_with fail
    go_end0
    exact ⟨rfl, by rw [HV.out]; exact ⟨_, _, _, HTd.out⟩, by rw [HV.out]; exact HRd.out, HKd.out⟩
set_option maxRecDepth 20000 in
set_option maxHeartbeats 4000000 in
theorem part_alias (b : Nat) (E : Int) (base T : Nat) (t : Tb) (r : RS) (w : World) (hr : Rd w b E r) (hb : b < base) (hl : TabAt base w T t) (hM : MaxAt base w) (_hf0 : t.locs.length ≤ 1000) (hf1 : t.als.length ≤ 1000) (_hf2 : t.near.length ≤ 1000) (hlocale : r.is E 1 [108, 111, 99, 97, 108, 101] = false) (halias : r.is E 1 [97, 108, 105, 97, 115] = true) : Calls Tryz.prog 27 #[.pointer (some ⟨b, 0, none⟩), .pointer (some ⟨T, 0, none⟩)] w (TabP b E base T w (tPart E t r)) := by
  obtain ⟨v0, v1, v2, hl⟩ := hl
  obtain ⟨ad0, c0, hv⟩ := hl.g1.shape
  subst hv
  have HT := Lib.hid hl
  have HV : Hid (tPart E t r = ({ t with als := t.als ++ [⟨bs ((r.word E).2.word E).1, bs (((r.word E).2.word E).2.word E).1⟩] }, tLim (r.peek E).2.2 (decide (200 < t.als.length + 1)) ((((r.word E).2.word E).2.word E).2.mark E [59]))) := by
    show (if r.is E 1 [108, 111, 99, 97, 108, 101] = true then _ else if r.is E 1 [97, 108, 105, 97, 115] = true then _ else _) = _
    rw [hlocale, if_neg (by decide), if_pos halias]
    rfl
  have HP := Lib.hid (peek_any b E r w hr)
  have HIS := Lib.hid (fun s W (g : Rd W b E r) => is_any b E 1 s r W g)
  have HR := Lib.hid hr
  have HM := Lib.hid hM
  have hbT : b < T := Nat.lt_of_lt_of_le hb hl.low
  have hlow := hl.low
  unfold tokV at HP
  unfold TabP
  clear hr hl hM
  have hfd : ∀ (k' : Int) (S : ByteArray) (f : Int) (W : World), (Instr.field 109 (.agg #[.int .i64 k', .string S, .int .i64 f]) 2).run Tryz.prog W = .ok (.int .i64 f) W := fun _ _ _ _ => by kernel_rfl
  generalize tPart E t r = res at *
  generalize r.peek E = tk at *
  obtain ⟨k', s', f⟩ := tk
  simp only at HP HV
  have hfd := hfd k' (bs s') f
  generalize bs s' = S at *
  go_enter Tryz.func27, Tryz.ntmps27
  go_wp2_with fail
  refine HP.out.mono ?_
  rintro _ w1 ⟨rfl, hb1⟩
  have HB1 := Lib.hid hb1
  have HR1 := Lib.hid (HR.out.below hb1)
  clear hb1 HP
  go_wp2_with fail
  refine (HIS.out [108, 111, 99, 97, 108, 101] _ HR1.out).mono ?_
  rintro _ w2 ⟨rfl, hb2⟩
  have HR2 := Lib.hid (HR1.out.below hb2)
  have HB2 := Lib.hid (HB1.out.trans (hb2.mono HB1.out.size))
  clear hb2 HR1 HB1
  rw [hlocale]
  go_wp2_with fail
  refine (HIS.out [97, 108, 105, 97, 115] _ HR2.out).mono ?_
  rintro _ w3 ⟨rfl, hb3⟩
  have HR3 := Lib.hid (HR2.out.below hb3)
  have HB3 := Lib.hid (HB2.out.trans (hb3.mono HB2.out.size))
  clear hb3 HR2 HB2
  rw [halias]
  have HK3 : Hid (Kp (oneP b) w w3) := kp_below HB3.out
  have HWO1 := Lib.hid (word_any b E r _ HR3.out)
  have HWO := Lib.hid (fun q W (g : Rd W b E q) => word_any b E q W g)
  have HNU := Lib.hid (fun q W (g : Rd W b E q) => rnum_any b E 1000 q W g)
  have HMA := Lib.hid (fun q W (g : Rd W b E q) => mark_any b E [59] q W g)
  unfold RdP at HWO1 HWO HNU HMA
  have h1 := HR3.out.ok.take (E := E) (k := 1)
  have h2 := h1.2.take (E := E) (k := 1)
  have h3 := h2.2.take (E := E) (k := 1)
  have hz1 : (bs ((r.word E).2.word E).1).size ≤ 140737488351232 := by rw [bs_size]; exact Nat.le_trans h2.1 (by decide)
  have hz2 : (bs (((r.word E).2.word E).2.word E).1).size ≤ 140737488351232 := by rw [bs_size]; exact Nat.le_trans h3.1 (by decide)
  have h4 : 0 ≤ ((((r.word E).2.word E).2.word E).2.number E 1000).1 ∧ ((((r.word E).2.word E).2.word E).2.number E 1000).1 ≤ 1000000 := (h3.2.number (E := E) (m := 1000)).1
  clear h1 h2 h3
  generalize r.word E = r1 at *
  obtain ⟨ws, q1⟩ := r1
  simp only at HWO1 HV hz1 hz2 h4
  have HWO2 := Lib.hid (HWO.out q1)
  generalize q1.word E = r2 at *
  obtain ⟨kk, q2⟩ := r2
  simp only at HWO2 HV hz1 hz2 h4
  have HWO3 := Lib.hid (HWO.out q2)
  generalize q2.word E = r3 at *
  obtain ⟨kk2, q3⟩ := r3
  simp only at HWO3 HV hz2 h4
  have HMA1 := Lib.hid (HMA.out q3)
  generalize q3.mark E [59] = q5 at *
  generalize bs kk = KS at *
  generalize bs kk2 = KS2 at *
  have HDY : Hid (∀ W, AlC W (fun j => (#[.string KS, .string KS2] : Array Value).getD j undef) (⟨KS, KS2⟩ : Al)) := fun W => ⟨⟨rfl, hz1⟩, ⟨rfl, hz2⟩⟩
  clear hz1 hz2 h4 HWO HNU HMA
  go_wp2_with fail
  refine HWO1.out.mono ?_
  rintro _ w4 ⟨rfl, hr4, hk4⟩
  have HR4 := Lib.hid hr4
  have HK4 := Lib.hid (HK3.out.trans hk4)
  clear hr4 hk4 HR3 HK3
  have HWO4 := Lib.hid (HWO2.out _ HR4.out)
  go_wp2_with fail
  refine HWO4.out.mono ?_
  rintro _ w5 ⟨rfl, hr5, hk5⟩
  have HR5 := Lib.hid hr5
  have HK5 := Lib.hid (HK4.out.trans hk5)
  clear hr5 hk5 HR4 HK4
  have HR6 := Lib.hid (HR5.out.below (Bel.alloc (Bel.refl w5) (.cells #[.string KS, .string ⟨#[]⟩] 61)))
  have HK6 := Lib.hid (HK5.out.alloc (.cells #[.string KS, .string ⟨#[]⟩] 61))
  have HX6 := Lib.hid (Cel.new w5 [.string KS, .string ⟨#[]⟩] 61)
  have hwX : w.heap.size ≤ w5.heap.size := HK5.out.size
  obtain ⟨X, hX⟩ : ∃ X, w5.heap.size = X := ⟨_, rfl⟩
  rw [hX] at HX6 hwX
  have hbX : b < X := Nat.lt_of_lt_of_le HR.out.lt hwX
  have hXb : X ≠ b := by omega
  clear HR5 HK5
  go_upto_region 10 with (fail)
  generalize w5.alloc (.cells #[.string KS, .string ⟨#[]⟩] 61) = w6 at *
  have HWO5 := Lib.hid (HWO3.out _ HR6.out)
  go_wp2_with fail
  refine HWO5.out.mono ?_
  rintro _ w7 ⟨rfl, hr7, hk7⟩
  have HR7 := Lib.hid hr7
  have HK7 := Lib.hid (HK6.out.trans hk7)
  have HX7 := Lib.hid (HX6.out.kp hk7 (oneP_ne hXb))
  clear hr7 hk7 HR6 HK6 HX6
  have x1 := HX7.out.cell 1
  simp only [List.getElem?_cons_zero, List.getElem?_cons_succ] at x1
  have xf1 := HX7.out.frz 1
  have hXl := HX7.out.lt
  go_upto_region 11 with (fail)
  have HX8 := Lib.hid (HX7.out.set 1 (.string KS2))
  have HR8 := Lib.hid (HR7.out.other (a := ⟨X, 1, none⟩) hbX (.string KS2))
  have HK8 := Lib.hid (HK7.out.setN (p := ⟨X, 1, none⟩) hwX (.string KS2))
  simp only [List.set_cons_zero, List.set_cons_succ] at HX8
  clear HR7 HK7 HX7 x1 xf1 hXl
  generalize w7.setCell ⟨X, 1, none⟩ (.string KS2) = w8 at *
  have HMA2 := Lib.hid (HMA1.out _ HR8.out)
  go_wp2_with fail
  refine HMA2.out.mono ?_
  rintro _ w11 ⟨rfl, hr11, hk11⟩
  have HR11 := Lib.hid hr11
  have HK11 := Lib.hid (HK8.out.trans hk11)
  have HX11 := Lib.hid (HX8.out.kp hk11 (oneP_ne hXb))
  clear hr11 hk11 HR8 HK8 HX8
  have HT11 := Lib.hid (HT.out.rd HR.out HK11.out)
  have hob : ∀ k, Value.ownBlock (.slice ad0 t.als.length c0) = some k → k < w.heap.size := fun k hk => (HT.out.g1.lt hk).2
  go_upto_region 12 with (fail)
  refine wp_region_until 10 (fun w' => w'.cell? ⟨T, 1, none⟩ = some (.slice ad0 t.als.length c0) ∧ Cel w' X 61 [.string KS, .string KS2]) (by kernel_rfl) ⟨HT11.out.cel.cell 1, HX11.out⟩ (fun hS0 => ?_)
  have HRe := Lib.hid (HR11.out.below (Bel.drew (Bel.refl w11)))
  have HTe := Lib.hid (HT11.out.below (Bel.drew (Bel.refl w11)))
  have HXe := Lib.hid (HX11.out.below (Bel.drew (Bel.refl w11)))
  have HKe := Lib.hid (HK11.out.trans (kp_below (Bel.drew (Bel.refl w11))))
  clear HR11 HT11 HX11 HK11
  refine wpAnyG_take (i := 0) (v := ?_) rfl (by kernel_rfl) (by kernel_rfl) (by kernel_rfl) (fun _ _ _ h => h) (by kernel_rfl) (by decide) (by kernel_rfl) (Or.inl ⟨by kernel_rfl, ?_⟩) hS0 ?_
  rotate_left
  · (intro wx hSw; obtain ⟨t1, t2⟩ := hSw; have q0 := t2.cell 0; have q1 := t2.cell 1; have hXl := t2.lt; simp only [List.getElem?_cons_zero, List.getElem?_cons_succ] at q0 q1; go_simp; try with_reducible rfl)
  try simp only [Act.put, List.getElem_toArray, List.getElem_cons_zero, List.setIfInBounds_toArray, List.set_cons_zero, List.set_cons_succ]
  refine wpAnyG_take (i := 1) (v := ?_) rfl (by kernel_rfl) (by kernel_rfl) (by kernel_rfl) (fun _ _ _ h => h) (by kernel_rfl) (by decide) (by kernel_rfl) (Or.inl ⟨by kernel_rfl, ?_⟩) hS0 ?_
  rotate_left
  · (intro wx hSw; obtain ⟨t1, t2⟩ := hSw; have q0 := t2.cell 0; have q1 := t2.cell 1; have hXl := t2.lt; simp only [List.getElem?_cons_zero, List.getElem?_cons_succ] at q0 q1; go_simp; try with_reducible rfl)
  try simp only [Act.put, List.getElem_toArray, List.getElem_cons_succ, List.getElem_cons_zero, List.setIfInBounds_toArray, List.set_cons_zero, List.set_cons_succ]
  refine wpAnyG_take (i := 2) (v := ?_) rfl (by kernel_rfl) (by kernel_rfl) (by kernel_rfl) (fun _ _ _ h => h) (by kernel_rfl) (by decide) (by kernel_rfl) (Or.inl ⟨by kernel_rfl, ?_⟩) hS0 ?_
  rotate_left
  · (intro wx hSw; obtain ⟨t1, t2⟩ := hSw; have q0 := t2.cell 0; have q1 := t2.cell 1; have hXl := t2.lt; simp only [List.getElem?_cons_zero, List.getElem?_cons_succ] at q0 q1; go_simp; try with_reducible rfl)
  try simp only [Act.put, List.getElem_toArray, List.getElem_cons_succ, List.getElem_cons_zero, List.setIfInBounds_toArray, List.set_cons_zero, List.set_cons_succ]
  refine wpAnyG_take (i := 3) (v := ?_) rfl (by kernel_rfl) (by kernel_rfl) (by kernel_rfl) (fun _ _ _ h => h) (by kernel_rfl) (by decide) (by kernel_rfl) (Or.inl ⟨by kernel_rfl, ?_⟩) hS0 ?_
  rotate_left
  · (intro wx hSw; obtain ⟨t1, t2⟩ := hSw; have q0 := t2.cell 0; have q1 := t2.cell 1; have hXl := t2.lt; simp only [List.getElem?_cons_zero, List.getElem?_cons_succ] at q0 q1; go_simp; try with_reducible rfl)
  try simp only [Act.put, List.getElem_toArray, List.getElem_cons_succ, List.getElem_cons_zero, List.setIfInBounds_toArray, List.set_cons_zero, List.set_cons_succ]
  refine wpAnyG_take (i := 4) (v := ?_) rfl (by kernel_rfl) (by kernel_rfl) (by kernel_rfl) (fun _ _ _ h => h) (by kernel_rfl) (by decide) (by kernel_rfl) (Or.inl ⟨by kernel_rfl, ?_⟩) hS0 ?_
  rotate_left
  · (intro wx hSw; obtain ⟨t1, t2⟩ := hSw; have q0 := t2.cell 0; have q1 := t2.cell 1; have hXl := t2.lt; simp only [List.getElem?_cons_zero, List.getElem?_cons_succ] at q0 q1; go_simp; try with_reducible rfl)
  try simp only [Act.put, List.getElem_toArray, List.getElem_cons_succ, List.getElem_cons_zero, List.setIfInBounds_toArray, List.set_cons_zero, List.set_cons_succ]
  refine wpAnyG_take (i := 5) (v := ?_) rfl (by kernel_rfl) (by kernel_rfl) (by kernel_rfl) (fun _ _ _ h => h) (by kernel_rfl) (by decide) (by kernel_rfl) (Or.inl ⟨by kernel_rfl, ?_⟩) hS0 ?_
  rotate_left
  · (intro wx hSw; obtain ⟨t1, t2⟩ := hSw; have q0 := t2.cell 0; have q1 := t2.cell 1; have hXl := t2.lt; simp only [List.getElem?_cons_zero, List.getElem?_cons_succ] at q0 q1; go_simp; try with_reducible rfl)
  try simp only [Act.put, List.getElem_toArray, List.getElem_cons_succ, List.getElem_cons_zero, List.setIfInBounds_toArray, List.set_cons_zero, List.set_cons_succ]
  generalize w11.drew = p1 at *
  refine wpAnyG_ready (rs := [6]) (by kernel_rfl) (by simp) ?_
  refine AllReadyG.cons rfl (fun K hK => ?_) AllReadyG.nil
  go_simp
  have HRb := Lib.hid (HRe.out.below (Bel.alloc (Bel.refl p1) (.cells #[.string KS, .string KS2] 61)))
  have HTb := Lib.hid (HTe.out.below (Bel.alloc (Bel.refl p1) (.cells #[.string KS, .string KS2] 61)))
  have HKb := Lib.hid (HKe.out.alloc (.cells #[.string KS, .string KS2] 61))
  have HNB := Lib.hid (rw_lit p1 #[.string KS, .string KS2] 61 2 rfl)
  have HY : Hid (AlC (see base ([] : List TypeId) (World.alloc p1 (.cells #[.string KS, .string KS2] 61))) (fun j => (#[.string KS, .string KS2] : Array Value).getD j undef) (⟨KS, KS2⟩ : Al)) := HDY.out _
  have HXb := Lib.hid (HXe.out.below (Bel.alloc (Bel.refl p1) (.cells #[.string KS, .string KS2] 61)))
  have hbs : base ≤ (World.alloc p1 (.cells #[.string KS, .string KS2] 61)).heap.size := Nat.le_trans HTb.out.low (Nat.le_of_lt HTb.out.cel.lt)
  refine hK.out _ _ (fun _ => And.intro (HTb.out.cel.cell 1) HXb.out) (fun _ => ?_)
  clear hK K
  generalize World.alloc p1 (.cells #[.string KS, .string KS2] 61) = pb at *
  try simp only [Act.put, List.getElem_toArray, List.getElem_cons_succ, List.getElem_cons_zero, List.setIfInBounds_toArray, List.set_cons_zero, List.set_cons_succ]
  refine wpAnyG_ready (rs := [7]) (by kernel_rfl) (by simp) ?_
  refine AllReadyG.cons rfl (fun K hK => ?_) AllReadyG.nil
  obtain ⟨f0, hown0, hC0⟩ := HTb.out.g1
  have HOWN := Lib.hid hown0
  have HC0 := Lib.hid hC0
  clear hown0 hC0
  refine step_app_rows rfl (.tmp 54) (.tmp 56) rfl Tryz.underlying24 infoAlT (by rfl) (by omega) base ad0 t.als.length c0 (flat 2 f0 t.als.length) (by rfl) HOWN.out (some ⟨p1.heap.size, 0, none⟩) 1 1 (fun _ j => (#[.string KS, .string KS2] : Array Value).getD j undef) p1.heap.size 0 (by rfl) HNB.out (fun h => by cases h) (fun i j _ hj => by rcases (by omega : j = 0 ∨ j = 1) with e | e <;> subst e <;> rfl) (by unfold maxLen; omega) (by omega) hbs ?_
  intro ad3 c3 pc hown3 hg3
  have hkc : Kp (growP b (.slice ad0 t.als.length c0)) pb pc := (Kp.refl _ _).grown hg3 (fun k hk => .inr (by unfold growP; rw [decide_eq_true hk, Bool.or_true]))
  have hkr : Kp (fun k => decide (base ≤ k)) pb pc := (Kp.refl _ _).grown hg3 (fun k hk => .inr (decide_eq_true (World.ownsRow.lt HOWN.out k hk).1))
  have hgr := Grow.snoc HC0.out mAlC (grown_kpt hg3 HOWN.out base (by decide)) _ hown3 (x := ⟨KS, KS2⟩) HY.out
  have HCc := Lib.hid (HTb.out.celG HRb.out HTb.out.g1 hkc (by decide))
  have hgX : growP b (.slice ad0 t.als.length c0) X = false := by
    unfold growP
    rw [decide_eq_false hXb, decide_eq_false (fun e => by have := hob X e; omega)]
    rfl
  have HXc := Lib.hid (HXb.out.kp hkc hgX)
  have HTd := Lib.hid (HTb.out.als HRb.out hkc (v' := .slice ad3 (t.als.length + 1) c3) (l' := t.als ++ [⟨KS, KS2⟩]) hgr)
  have HRc := Lib.hid (HRb.out.kp hkr (fun i hi => decide_eq_false (by omega)))
  have HKc := Lib.hid ((HKb.out.item (base := base)).trans (hkc.itemG HTb.out.g1 (Nat.le_refl _)))
  have HCS := Lib.hid ((And.intro (HCc.out.cell 1) HXc.out))
  clear hgr hkc hkr hown3 hg3 HOWN HC0 HNB HTb HRb HKb HY
  refine hK.out _ _ (fun _ => HCS.out) (fun _ => ?_)
  clear hK K
  try simp only [Act.put, List.getElem_toArray, List.getElem_cons_succ, List.getElem_cons_zero, List.setIfInBounds_toArray, List.set_cons_zero, List.set_cons_succ]
  refine wpAnyG_ready (rs := [8]) (by kernel_rfl) (by simp) ?_
  refine AllReadyG.cons rfl (fun K hK => ?_) AllReadyG.nil
  go_simp
  refine hK.out _ _ (fun _ => HCS.out) (fun _ => ?_)
  clear hK K
  try simp only [Act.put, List.getElem_toArray, List.getElem_cons_succ, List.getElem_cons_zero, List.setIfInBounds_toArray, List.set_cons_zero, List.set_cons_succ]
  refine wpAnyG_ready (rs := [9]) (by kernel_rfl) (by simp) ?_
  refine AllReadyG.cons rfl (fun K hK => ?_) AllReadyG.nil
  go_simp
  refine hK.out _ _ (fun _ => HCS.out) (fun _ => ?_)
  clear hK K
  try simp only [Act.put, List.getElem_toArray, List.getElem_cons_succ, List.getElem_cons_zero, List.setIfInBounds_toArray, List.set_cons_zero, List.set_cons_succ]
  have c1 := HCc.out.cell 1
  have f1 := HCc.out.frz 1
  have hLt := HCc.out.lt
  simp only [List.getElem?_cons_zero, List.getElem?_cons_succ] at c1
  refine wpAnyG_ready (rs := [10]) (by kernel_rfl) (by simp) ?_
  refine AllReadyG.cons rfl (fun K hK => ?_) AllReadyG.nil
  go_simp
  refine hK.out _ _ (fun h => by cases h) (fun _ => ?_)
  clear hK K
  refine wpAnyG_done (by kernel_rfl) ?_ _
  have HRd := Lib.hid (HRc.out.other (a := ⟨T, 1, none⟩) hbT (.slice ad3 (t.als.length + 1) c3))
  have HKd := Lib.hid (HKc.out.itemS (p := ⟨T, 1, none⟩) hlow (.slice ad3 (t.als.length + 1) c3))
  clear HRc HKc HCc HCS c1 f1 hLt
  generalize pc.setCell ⟨T, 1, none⟩ (.slice ad3 (t.als.length + 1) c3) = pd at *
  have c1 := HTd.out.cel.cell 1
  simp only [List.getElem?_cons_zero, List.getElem?_cons_succ] at c1
  have hLt := HTd.out.cel.lt
  by_cases hfull : 200 < t.als.length + 1
  · have hfd : decide (200 < t.als.length + 1) = true := decide_eq_true hfull
    rw [hfd] at HV
    have HFL := Lib.hid (failAt_any b E q5 f 6 pd HRd.out)
    unfold RdP at HFL
    go_wp2_with fail
    refine HFL.out.mono ?_
    rintro _ pe ⟨rfl, hre, hke⟩
    go_wp2_with fail
    go_end0
    exact ⟨rfl, by rw [HV.out]; exact ⟨_, _, _, HTd.out.rd HRd.out hke⟩, by rw [HV.out]; exact hre, HKd.out.trans hke.item⟩
  · have hfd : decide (200 < t.als.length + 1) = false := decide_eq_false hfull
    rw [hfd] at HV
    go_wp2_with fail
    go_end0
    exact ⟨rfl, by rw [HV.out]; exact ⟨_, _, _, HTd.out⟩, by rw [HV.out]; exact HRd.out, HKd.out⟩
set_option maxRecDepth 20000 in
set_option maxHeartbeats 4000000 in
theorem part_near (b : Nat) (E : Int) (base T : Nat) (t : Tb) (r : RS) (w : World) (hr : Rd w b E r) (hb : b < base) (hl : TabAt base w T t) (hM : MaxAt base w) (_hf0 : t.locs.length ≤ 1000) (_hf1 : t.als.length ≤ 1000) (hf2 : t.near.length ≤ 1000) (hlocale : r.is E 1 [108, 111, 99, 97, 108, 101] = false) (halias : r.is E 1 [97, 108, 105, 97, 115] = false) (hnear : r.is E 1 [110, 101, 97, 114] = true) : Calls Tryz.prog 27 #[.pointer (some ⟨b, 0, none⟩), .pointer (some ⟨T, 0, none⟩)] w (TabP b E base T w (tPart E t r)) := by
  obtain ⟨v0, v1, v2, hl⟩ := hl
  obtain ⟨ad0, c0, hv⟩ := hl.g2.shape
  subst hv
  have HT := Lib.hid hl
  have HV : Hid (tPart E t r = ({ t with near := t.near ++ [⟨bs ((r.word E).2.word E).1, bs (((r.word E).2.word E).2.word E).1, ((((r.word E).2.word E).2.word E).2.number E 1000).1⟩] }, tLim (r.peek E).2.2 (decide (200 < t.near.length + 1)) (((((r.word E).2.word E).2.word E).2.number E 1000).2.mark E [59]))) := by
    show (if r.is E 1 [108, 111, 99, 97, 108, 101] = true then _ else if r.is E 1 [97, 108, 105, 97, 115] = true then _ else if r.is E 1 [110, 101, 97, 114] = true then _ else _) = _
    rw [hlocale, if_neg (by decide), halias, if_neg (by decide), if_pos hnear]
    rfl
  have HP := Lib.hid (peek_any b E r w hr)
  have HIS := Lib.hid (fun s W (g : Rd W b E r) => is_any b E 1 s r W g)
  have HR := Lib.hid hr
  have HM := Lib.hid hM
  have hbT : b < T := Nat.lt_of_lt_of_le hb hl.low
  have hlow := hl.low
  unfold tokV at HP
  unfold TabP
  clear hr hl hM
  have hfd : ∀ (k' : Int) (S : ByteArray) (f : Int) (W : World), (Instr.field 109 (.agg #[.int .i64 k', .string S, .int .i64 f]) 2).run Tryz.prog W = .ok (.int .i64 f) W := fun _ _ _ _ => by kernel_rfl
  generalize tPart E t r = res at *
  generalize r.peek E = tk at *
  obtain ⟨k', s', f⟩ := tk
  simp only at HP HV
  have hfd := hfd k' (bs s') f
  generalize bs s' = S at *
  go_enter Tryz.func27, Tryz.ntmps27
  go_wp2_with fail
  refine HP.out.mono ?_
  rintro _ w1 ⟨rfl, hb1⟩
  have HB1 := Lib.hid hb1
  have HR1 := Lib.hid (HR.out.below hb1)
  clear hb1 HP
  go_wp2_with fail
  refine (HIS.out [108, 111, 99, 97, 108, 101] _ HR1.out).mono ?_
  rintro _ w2 ⟨rfl, hb2⟩
  have HR2 := Lib.hid (HR1.out.below hb2)
  have HB2 := Lib.hid (HB1.out.trans (hb2.mono HB1.out.size))
  clear hb2 HR1 HB1
  rw [hlocale]
  go_wp2_with fail
  refine (HIS.out [97, 108, 105, 97, 115] _ HR2.out).mono ?_
  rintro _ w4 ⟨rfl, hb4⟩
  have HR4 := Lib.hid (HR2.out.below hb4)
  have HB4 := Lib.hid (HB2.out.trans (hb4.mono HB2.out.size))
  clear hb4 HR2 HB2
  rw [halias]
  go_wp2_with fail
  refine (HIS.out [110, 101, 97, 114] _ HR4.out).mono ?_
  rintro _ w3 ⟨rfl, hb3⟩
  have HR3 := Lib.hid (HR4.out.below hb3)
  have HB3 := Lib.hid (HB4.out.trans (hb3.mono HB4.out.size))
  clear hb3 HR4 HB4
  rw [hnear]
  have HK3 : Hid (Kp (oneP b) w w3) := kp_below HB3.out
  have HWO1 := Lib.hid (word_any b E r _ HR3.out)
  have HWO := Lib.hid (fun q W (g : Rd W b E q) => word_any b E q W g)
  have HNU := Lib.hid (fun q W (g : Rd W b E q) => rnum_any b E 1000 q W g)
  have HMA := Lib.hid (fun q W (g : Rd W b E q) => mark_any b E [59] q W g)
  unfold RdP at HWO1 HWO HNU HMA
  have h1 := HR3.out.ok.take (E := E) (k := 1)
  have h2 := h1.2.take (E := E) (k := 1)
  have h3 := h2.2.take (E := E) (k := 1)
  have hz1 : (bs ((r.word E).2.word E).1).size ≤ 140737488351232 := by rw [bs_size]; exact Nat.le_trans h2.1 (by decide)
  have hz2 : (bs (((r.word E).2.word E).2.word E).1).size ≤ 140737488351232 := by rw [bs_size]; exact Nat.le_trans h3.1 (by decide)
  have h4 : 0 ≤ ((((r.word E).2.word E).2.word E).2.number E 1000).1 ∧ ((((r.word E).2.word E).2.word E).2.number E 1000).1 ≤ 1000000 := (h3.2.number (E := E) (m := 1000)).1
  clear h1 h2 h3
  generalize r.word E = r1 at *
  obtain ⟨ws, q1⟩ := r1
  simp only at HWO1 HV hz1 hz2 h4
  have HWO2 := Lib.hid (HWO.out q1)
  generalize q1.word E = r2 at *
  obtain ⟨kk, q2⟩ := r2
  simp only at HWO2 HV hz1 hz2 h4
  have HWO3 := Lib.hid (HWO.out q2)
  generalize q2.word E = r3 at *
  obtain ⟨kk2, q3⟩ := r3
  simp only at HWO3 HV hz2 h4
  have HNU1 := Lib.hid (HNU.out q3)
  generalize q3.number E 1000 = r4 at *
  obtain ⟨z, q4⟩ := r4
  simp only at HNU1 HV h4
  have HMA1 := Lib.hid (HMA.out q4)
  generalize q4.mark E [59] = q5 at *
  generalize bs kk = KS at *
  generalize bs kk2 = KS2 at *
  have HDY : Hid (∀ W, NeC W (fun j => (#[.string KS, .string KS2, .int .i64 z] : Array Value).getD j undef) (⟨KS, KS2, z⟩ : Ne)) := fun W => ⟨⟨rfl, hz1⟩, ⟨rfl, hz2⟩, ⟨rfl, by show -9223372036854775808 ≤ z; omega, by show z ≤ _; omega⟩⟩
  clear hz1 hz2 h4 HWO HNU HMA
  go_wp2_with fail
  refine HWO1.out.mono ?_
  rintro _ w4 ⟨rfl, hr4, hk4⟩
  have HR4 := Lib.hid hr4
  have HK4 := Lib.hid (HK3.out.trans hk4)
  clear hr4 hk4 HR3 HK3
  have HWO4 := Lib.hid (HWO2.out _ HR4.out)
  go_wp2_with fail
  refine HWO4.out.mono ?_
  rintro _ w5 ⟨rfl, hr5, hk5⟩
  have HR5 := Lib.hid hr5
  have HK5 := Lib.hid (HK4.out.trans hk5)
  clear hr5 hk5 HR4 HK4
  have HR6 := Lib.hid (HR5.out.below (Bel.alloc (Bel.refl w5) (.cells #[.string KS, .string ⟨#[]⟩, .int .i64 0] 58)))
  have HK6 := Lib.hid (HK5.out.alloc (.cells #[.string KS, .string ⟨#[]⟩, .int .i64 0] 58))
  have HX6 := Lib.hid (Cel.new w5 [.string KS, .string ⟨#[]⟩, .int .i64 0] 58)
  have hwX : w.heap.size ≤ w5.heap.size := HK5.out.size
  obtain ⟨X, hX⟩ : ∃ X, w5.heap.size = X := ⟨_, rfl⟩
  rw [hX] at HX6 hwX
  have hbX : b < X := Nat.lt_of_lt_of_le HR.out.lt hwX
  have hXb : X ≠ b := by omega
  clear HR5 HK5
  go_upto_region 18 with (fail)
  generalize w5.alloc (.cells #[.string KS, .string ⟨#[]⟩, .int .i64 0] 58) = w6 at *
  have HWO5 := Lib.hid (HWO3.out _ HR6.out)
  go_wp2_with fail
  refine HWO5.out.mono ?_
  rintro _ w7 ⟨rfl, hr7, hk7⟩
  have HR7 := Lib.hid hr7
  have HK7 := Lib.hid (HK6.out.trans hk7)
  have HX7 := Lib.hid (HX6.out.kp hk7 (oneP_ne hXb))
  clear hr7 hk7 HR6 HK6 HX6
  have x1 := HX7.out.cell 1
  simp only [List.getElem?_cons_zero, List.getElem?_cons_succ] at x1
  have xf1 := HX7.out.frz 1
  have hXl := HX7.out.lt
  go_upto_region 19 with (fail)
  have HX8 := Lib.hid (HX7.out.set 1 (.string KS2))
  have HR8 := Lib.hid (HR7.out.other (a := ⟨X, 1, none⟩) hbX (.string KS2))
  have HK8 := Lib.hid (HK7.out.setN (p := ⟨X, 1, none⟩) hwX (.string KS2))
  simp only [List.set_cons_zero, List.set_cons_succ] at HX8
  clear HR7 HK7 HX7 x1 xf1 hXl
  generalize w7.setCell ⟨X, 1, none⟩ (.string KS2) = w8 at *
  have HNU2 := Lib.hid (HNU1.out _ HR8.out)
  go_wp2_with fail
  refine HNU2.out.mono ?_
  rintro _ w9 ⟨rfl, hr9, hk9⟩
  have HR9 := Lib.hid hr9
  have HK9 := Lib.hid (HK8.out.trans hk9)
  have HX9 := Lib.hid (HX8.out.kp hk9 (oneP_ne hXb))
  clear hr9 hk9 HR8 HK8 HX8
  have x2 := HX9.out.cell 2
  simp only [List.getElem?_cons_zero, List.getElem?_cons_succ] at x2
  have xf2 := HX9.out.frz 2
  have hXl := HX9.out.lt
  go_upto_region 20 with (fail)
  have HX10 := Lib.hid (HX9.out.set 2 (.int .i64 z))
  have HR10 := Lib.hid (HR9.out.other (a := ⟨X, 2, none⟩) hbX (.int .i64 z))
  have HK10 := Lib.hid (HK9.out.setN (p := ⟨X, 2, none⟩) hwX (.int .i64 z))
  simp only [List.set_cons_zero, List.set_cons_succ] at HX10
  clear HR9 HK9 HX9 x2 xf2 hXl
  generalize w9.setCell ⟨X, 2, none⟩ (.int .i64 z) = w10 at *
  have HMA2 := Lib.hid (HMA1.out _ HR10.out)
  go_wp2_with fail
  refine HMA2.out.mono ?_
  rintro _ w11 ⟨rfl, hr11, hk11⟩
  have HR11 := Lib.hid hr11
  have HK11 := Lib.hid (HK10.out.trans hk11)
  have HX11 := Lib.hid (HX10.out.kp hk11 (oneP_ne hXb))
  clear hr11 hk11 HR10 HK10 HX10
  have HT11 := Lib.hid (HT.out.rd HR.out HK11.out)
  have hob : ∀ k, Value.ownBlock (.slice ad0 t.near.length c0) = some k → k < w.heap.size := fun k hk => (HT.out.g2.lt hk).2
  go_upto_region 21 with (fail)
  refine wp_region_until 10 (fun w' => w'.cell? ⟨T, 2, none⟩ = some (.slice ad0 t.near.length c0) ∧ Cel w' X 58 [.string KS, .string KS2, .int .i64 z]) (by kernel_rfl) ⟨HT11.out.cel.cell 2, HX11.out⟩ (fun hS0 => ?_)
  have HRe := Lib.hid (HR11.out.below (Bel.drew (Bel.refl w11)))
  have HTe := Lib.hid (HT11.out.below (Bel.drew (Bel.refl w11)))
  have HXe := Lib.hid (HX11.out.below (Bel.drew (Bel.refl w11)))
  have HKe := Lib.hid (HK11.out.trans (kp_below (Bel.drew (Bel.refl w11))))
  clear HR11 HT11 HX11 HK11
  refine wpAnyG_take (i := 0) (v := ?_) rfl (by kernel_rfl) (by kernel_rfl) (by kernel_rfl) (fun _ _ _ h => h) (by kernel_rfl) (by decide) (by kernel_rfl) (Or.inl ⟨by kernel_rfl, ?_⟩) hS0 ?_
  rotate_left
  · (intro wx hSw; obtain ⟨t1, t2⟩ := hSw; have q0 := t2.cell 0; have q1 := t2.cell 1; have q2 := t2.cell 2; have hXl := t2.lt; simp only [List.getElem?_cons_zero, List.getElem?_cons_succ] at q0 q1 q2; go_simp; try with_reducible rfl)
  try simp only [Act.put, List.getElem_toArray, List.getElem_cons_zero, List.setIfInBounds_toArray, List.set_cons_zero, List.set_cons_succ]
  refine wpAnyG_take (i := 1) (v := ?_) rfl (by kernel_rfl) (by kernel_rfl) (by kernel_rfl) (fun _ _ _ h => h) (by kernel_rfl) (by decide) (by kernel_rfl) (Or.inl ⟨by kernel_rfl, ?_⟩) hS0 ?_
  rotate_left
  · (intro wx hSw; obtain ⟨t1, t2⟩ := hSw; have q0 := t2.cell 0; have q1 := t2.cell 1; have q2 := t2.cell 2; have hXl := t2.lt; simp only [List.getElem?_cons_zero, List.getElem?_cons_succ] at q0 q1 q2; go_simp; try with_reducible rfl)
  try simp only [Act.put, List.getElem_toArray, List.getElem_cons_succ, List.getElem_cons_zero, List.setIfInBounds_toArray, List.set_cons_zero, List.set_cons_succ]
  refine wpAnyG_take (i := 2) (v := ?_) rfl (by kernel_rfl) (by kernel_rfl) (by kernel_rfl) (fun _ _ _ h => h) (by kernel_rfl) (by decide) (by kernel_rfl) (Or.inl ⟨by kernel_rfl, ?_⟩) hS0 ?_
  rotate_left
  · (intro wx hSw; obtain ⟨t1, t2⟩ := hSw; have q0 := t2.cell 0; have q1 := t2.cell 1; have q2 := t2.cell 2; have hXl := t2.lt; simp only [List.getElem?_cons_zero, List.getElem?_cons_succ] at q0 q1 q2; go_simp; try with_reducible rfl)
  try simp only [Act.put, List.getElem_toArray, List.getElem_cons_succ, List.getElem_cons_zero, List.setIfInBounds_toArray, List.set_cons_zero, List.set_cons_succ]
  refine wpAnyG_take (i := 3) (v := ?_) rfl (by kernel_rfl) (by kernel_rfl) (by kernel_rfl) (fun _ _ _ h => h) (by kernel_rfl) (by decide) (by kernel_rfl) (Or.inl ⟨by kernel_rfl, ?_⟩) hS0 ?_
  rotate_left
  · (intro wx hSw; obtain ⟨t1, t2⟩ := hSw; have q0 := t2.cell 0; have q1 := t2.cell 1; have q2 := t2.cell 2; have hXl := t2.lt; simp only [List.getElem?_cons_zero, List.getElem?_cons_succ] at q0 q1 q2; go_simp; try with_reducible rfl)
  try simp only [Act.put, List.getElem_toArray, List.getElem_cons_succ, List.getElem_cons_zero, List.setIfInBounds_toArray, List.set_cons_zero, List.set_cons_succ]
  refine wpAnyG_take (i := 4) (v := ?_) rfl (by kernel_rfl) (by kernel_rfl) (by kernel_rfl) (fun _ _ _ h => h) (by kernel_rfl) (by decide) (by kernel_rfl) (Or.inl ⟨by kernel_rfl, ?_⟩) hS0 ?_
  rotate_left
  · (intro wx hSw; obtain ⟨t1, t2⟩ := hSw; have q0 := t2.cell 0; have q1 := t2.cell 1; have q2 := t2.cell 2; have hXl := t2.lt; simp only [List.getElem?_cons_zero, List.getElem?_cons_succ] at q0 q1 q2; go_simp; try with_reducible rfl)
  try simp only [Act.put, List.getElem_toArray, List.getElem_cons_succ, List.getElem_cons_zero, List.setIfInBounds_toArray, List.set_cons_zero, List.set_cons_succ]
  refine wpAnyG_take (i := 5) (v := ?_) rfl (by kernel_rfl) (by kernel_rfl) (by kernel_rfl) (fun _ _ _ h => h) (by kernel_rfl) (by decide) (by kernel_rfl) (Or.inl ⟨by kernel_rfl, ?_⟩) hS0 ?_
  rotate_left
  · (intro wx hSw; obtain ⟨t1, t2⟩ := hSw; have q0 := t2.cell 0; have q1 := t2.cell 1; have q2 := t2.cell 2; have hXl := t2.lt; simp only [List.getElem?_cons_zero, List.getElem?_cons_succ] at q0 q1 q2; go_simp; try with_reducible rfl)
  try simp only [Act.put, List.getElem_toArray, List.getElem_cons_succ, List.getElem_cons_zero, List.setIfInBounds_toArray, List.set_cons_zero, List.set_cons_succ]
  generalize w11.drew = p1 at *
  refine wpAnyG_ready (rs := [6]) (by kernel_rfl) (by simp) ?_
  refine AllReadyG.cons rfl (fun K hK => ?_) AllReadyG.nil
  go_simp
  have HRb := Lib.hid (HRe.out.below (Bel.alloc (Bel.refl p1) (.cells #[.string KS, .string KS2, .int .i64 z] 58)))
  have HTb := Lib.hid (HTe.out.below (Bel.alloc (Bel.refl p1) (.cells #[.string KS, .string KS2, .int .i64 z] 58)))
  have HKb := Lib.hid (HKe.out.alloc (.cells #[.string KS, .string KS2, .int .i64 z] 58))
  have HNB := Lib.hid (rw_lit p1 #[.string KS, .string KS2, .int .i64 z] 58 3 rfl)
  have HY : Hid (NeC (see base ([] : List TypeId) (World.alloc p1 (.cells #[.string KS, .string KS2, .int .i64 z] 58))) (fun j => (#[.string KS, .string KS2, .int .i64 z] : Array Value).getD j undef) (⟨KS, KS2, z⟩ : Ne)) := HDY.out _
  have HXb := Lib.hid (HXe.out.below (Bel.alloc (Bel.refl p1) (.cells #[.string KS, .string KS2, .int .i64 z] 58)))
  have hbs : base ≤ (World.alloc p1 (.cells #[.string KS, .string KS2, .int .i64 z] 58)).heap.size := Nat.le_trans HTb.out.low (Nat.le_of_lt HTb.out.cel.lt)
  refine hK.out _ _ (fun _ => And.intro (HTb.out.cel.cell 2) HXb.out) (fun _ => ?_)
  clear hK K
  generalize World.alloc p1 (.cells #[.string KS, .string KS2, .int .i64 z] 58) = pb at *
  try simp only [Act.put, List.getElem_toArray, List.getElem_cons_succ, List.getElem_cons_zero, List.setIfInBounds_toArray, List.set_cons_zero, List.set_cons_succ]
  refine wpAnyG_ready (rs := [7]) (by kernel_rfl) (by simp) ?_
  refine AllReadyG.cons rfl (fun K hK => ?_) AllReadyG.nil
  obtain ⟨f0, hown0, hC0⟩ := HTb.out.g2
  have HOWN := Lib.hid hown0
  have HC0 := Lib.hid hC0
  clear hown0 hC0
  refine step_app_rows rfl (.tmp 89) (.tmp 91) rfl Tryz.underlying25 infoNeT (by rfl) (by omega) base ad0 t.near.length c0 (flat 3 f0 t.near.length) (by rfl) HOWN.out (some ⟨p1.heap.size, 0, none⟩) 1 1 (fun _ j => (#[.string KS, .string KS2, .int .i64 z] : Array Value).getD j undef) p1.heap.size 0 (by rfl) HNB.out (fun h => by cases h) (fun i j _ hj => by rcases (by omega : j = 0 ∨ j = 1 ∨ j = 2) with e | e | e <;> subst e <;> rfl) (by unfold maxLen; omega) (by omega) hbs ?_
  intro ad3 c3 pc hown3 hg3
  have hkc : Kp (growP b (.slice ad0 t.near.length c0)) pb pc := (Kp.refl _ _).grown hg3 (fun k hk => .inr (by unfold growP; rw [decide_eq_true hk, Bool.or_true]))
  have hkr : Kp (fun k => decide (base ≤ k)) pb pc := (Kp.refl _ _).grown hg3 (fun k hk => .inr (decide_eq_true (World.ownsRow.lt HOWN.out k hk).1))
  have hgr := Grow.snoc HC0.out mNeC (grown_kpt hg3 HOWN.out base (by decide)) _ hown3 (x := ⟨KS, KS2, z⟩) HY.out
  have HCc := Lib.hid (HTb.out.celG HRb.out HTb.out.g2 hkc (by decide))
  have hgX : growP b (.slice ad0 t.near.length c0) X = false := by
    unfold growP
    rw [decide_eq_false hXb, decide_eq_false (fun e => by have := hob X e; omega)]
    rfl
  have HXc := Lib.hid (HXb.out.kp hkc hgX)
  have HTd := Lib.hid (HTb.out.near HRb.out hkc (v' := .slice ad3 (t.near.length + 1) c3) (l' := t.near ++ [⟨KS, KS2, z⟩]) hgr)
  have HRc := Lib.hid (HRb.out.kp hkr (fun i hi => decide_eq_false (by omega)))
  have HKc := Lib.hid ((HKb.out.item (base := base)).trans (hkc.itemG HTb.out.g2 (Nat.le_refl _)))
  have HCS := Lib.hid ((And.intro (HCc.out.cell 2) HXc.out))
  clear hgr hkc hkr hown3 hg3 HOWN HC0 HNB HTb HRb HKb HY
  refine hK.out _ _ (fun _ => HCS.out) (fun _ => ?_)
  clear hK K
  try simp only [Act.put, List.getElem_toArray, List.getElem_cons_succ, List.getElem_cons_zero, List.setIfInBounds_toArray, List.set_cons_zero, List.set_cons_succ]
  refine wpAnyG_ready (rs := [8]) (by kernel_rfl) (by simp) ?_
  refine AllReadyG.cons rfl (fun K hK => ?_) AllReadyG.nil
  go_simp
  refine hK.out _ _ (fun _ => HCS.out) (fun _ => ?_)
  clear hK K
  try simp only [Act.put, List.getElem_toArray, List.getElem_cons_succ, List.getElem_cons_zero, List.setIfInBounds_toArray, List.set_cons_zero, List.set_cons_succ]
  refine wpAnyG_ready (rs := [9]) (by kernel_rfl) (by simp) ?_
  refine AllReadyG.cons rfl (fun K hK => ?_) AllReadyG.nil
  go_simp
  refine hK.out _ _ (fun _ => HCS.out) (fun _ => ?_)
  clear hK K
  try simp only [Act.put, List.getElem_toArray, List.getElem_cons_succ, List.getElem_cons_zero, List.setIfInBounds_toArray, List.set_cons_zero, List.set_cons_succ]
  have c2 := HCc.out.cell 2
  have f2 := HCc.out.frz 2
  have hLt := HCc.out.lt
  simp only [List.getElem?_cons_zero, List.getElem?_cons_succ] at c2
  refine wpAnyG_ready (rs := [10]) (by kernel_rfl) (by simp) ?_
  refine AllReadyG.cons rfl (fun K hK => ?_) AllReadyG.nil
  go_simp
  refine hK.out _ _ (fun h => by cases h) (fun _ => ?_)
  clear hK K
  refine wpAnyG_done (by kernel_rfl) ?_ _
  have HRd := Lib.hid (HRc.out.other (a := ⟨T, 2, none⟩) hbT (.slice ad3 (t.near.length + 1) c3))
  have HKd := Lib.hid (HKc.out.itemS (p := ⟨T, 2, none⟩) hlow (.slice ad3 (t.near.length + 1) c3))
  clear HRc HKc HCc HCS c2 f2 hLt
  generalize pc.setCell ⟨T, 2, none⟩ (.slice ad3 (t.near.length + 1) c3) = pd at *
  have c2 := HTd.out.cel.cell 2
  simp only [List.getElem?_cons_zero, List.getElem?_cons_succ] at c2
  have hLt := HTd.out.cel.lt
  by_cases hfull : 200 < t.near.length + 1
  · have hfd : decide (200 < t.near.length + 1) = true := decide_eq_true hfull
    rw [hfd] at HV
    have HFL := Lib.hid (failAt_any b E q5 f 6 pd HRd.out)
    unfold RdP at HFL
    go_wp2_with fail
    refine HFL.out.mono ?_
    rintro _ pe ⟨rfl, hre, hke⟩
    go_wp2_with fail
    go_end0
    exact ⟨rfl, by rw [HV.out]; exact ⟨_, _, _, HTd.out.rd HRd.out hke⟩, by rw [HV.out]; exact hre, HKd.out.trans hke.item⟩
  · have hfd : decide (200 < t.near.length + 1) = false := decide_eq_false hfull
    rw [hfd] at HV
    go_wp2_with fail
    go_end0
    exact ⟨rfl, by rw [HV.out]; exact ⟨_, _, _, HTd.out⟩, by rw [HV.out]; exact HRd.out, HKd.out⟩
set_option maxRecDepth 20000 in
set_option maxHeartbeats 4000000 in
theorem part_none (b : Nat) (E : Int) (base T : Nat) (t : Tb) (r : RS) (w : World) (hr : Rd w b E r) (hb : b < base) (hl : TabAt base w T t) (hM : MaxAt base w) (_hf0 : t.locs.length ≤ 1000) (_hf1 : t.als.length ≤ 1000) (_hf2 : t.near.length ≤ 1000) (hlocale : r.is E 1 [108, 111, 99, 97, 108, 101] = false) (halias : r.is E 1 [97, 108, 105, 97, 115] = false) (hnear : r.is E 1 [110, 101, 97, 114] = false) : Calls Tryz.prog 27 #[.pointer (some ⟨b, 0, none⟩), .pointer (some ⟨T, 0, none⟩)] w (TabP b E base T w (tPart E t r)) := by
  obtain ⟨v0, v1, v2, hl⟩ := hl
  obtain ⟨ad0, c0, hv⟩ := hl.g0.shape
  subst hv
  have HT := Lib.hid hl
  have HV : Hid (tPart E t r = (t, r.fail E 3)) := by
    show (if r.is E 1 [108, 111, 99, 97, 108, 101] = true then _ else if r.is E 1 [97, 108, 105, 97, 115] = true then _ else if r.is E 1 [110, 101, 97, 114] = true then _ else _) = _
    rw [hlocale, if_neg (by decide), halias, if_neg (by decide), hnear, if_neg (by decide)]
  have HP := Lib.hid (peek_any b E r w hr)
  have HIS := Lib.hid (fun s W (g : Rd W b E r) => is_any b E 1 s r W g)
  have HR := Lib.hid hr
  have HM := Lib.hid hM
  have hbT : b < T := Nat.lt_of_lt_of_le hb hl.low
  have hlow := hl.low
  unfold tokV at HP
  unfold TabP
  clear hr hl hM
  have hfd : ∀ (k' : Int) (S : ByteArray) (f : Int) (W : World), (Instr.field 109 (.agg #[.int .i64 k', .string S, .int .i64 f]) 2).run Tryz.prog W = .ok (.int .i64 f) W := fun _ _ _ _ => by kernel_rfl
  generalize tPart E t r = res at *
  generalize r.peek E = tk at *
  obtain ⟨k', s', f⟩ := tk
  simp only at HP HV
  have hfd := hfd k' (bs s') f
  generalize bs s' = S at *
  go_enter Tryz.func27, Tryz.ntmps27
  go_wp2_with fail
  refine HP.out.mono ?_
  rintro _ w1 ⟨rfl, hb1⟩
  have HB1 := Lib.hid hb1
  have HR1 := Lib.hid (HR.out.below hb1)
  clear hb1 HP
  go_wp2_with fail
  refine (HIS.out [108, 111, 99, 97, 108, 101] _ HR1.out).mono ?_
  rintro _ w2 ⟨rfl, hb2⟩
  have HR2 := Lib.hid (HR1.out.below hb2)
  have HB2 := Lib.hid (HB1.out.trans (hb2.mono HB1.out.size))
  clear hb2 HR1 HB1
  rw [hlocale]
  go_wp2_with fail
  refine (HIS.out [97, 108, 105, 97, 115] _ HR2.out).mono ?_
  rintro _ w4 ⟨rfl, hb4⟩
  have HR4 := Lib.hid (HR2.out.below hb4)
  have HB4 := Lib.hid (HB2.out.trans (hb4.mono HB2.out.size))
  clear hb4 HR2 HB2
  rw [halias]
  go_wp2_with fail
  refine (HIS.out [110, 101, 97, 114] _ HR4.out).mono ?_
  rintro _ w3 ⟨rfl, hb3⟩
  have HR3 := Lib.hid (HR4.out.below hb3)
  have HB3 := Lib.hid (HB4.out.trans (hb3.mono HB4.out.size))
  clear hb3 HR4 HB4
  rw [hnear]
  have HFL := Lib.hid (fail_any b E r 3 _ HR3.out)
  unfold RdP at HFL
  go_wp2_with fail
  refine HFL.out.mono ?_
  rintro _ w5 ⟨rfl, hr5, hk5⟩
  go_wp2_with fail
  go_end0
  have hk6 : Kp (oneP b) w w5 := (kp_below HB3.out).trans hk5
  exact ⟨rfl, by rw [HV.out]; exact ⟨_, _, _, HT.out.rd HR.out hk6⟩, by rw [HV.out]; exact hr5, hk6.item⟩
theorem part_any (b : Nat) (E : Int) (base T : Nat) (t : Tb) (r : RS) (w : World) (hr : Rd w b E r) (hb : b < base) (hl : TabAt base w T t) (hM : MaxAt base w) (hf0 : t.locs.length ≤ 1000) (hf1 : t.als.length ≤ 1000) (hf2 : t.near.length ≤ 1000) : Calls Tryz.prog 27 #[.pointer (some ⟨b, 0, none⟩), .pointer (some ⟨T, 0, none⟩)] w (TabP b E base T w (tPart E t r)) := by
  cases h1 : r.is E 1 [108, 111, 99, 97, 108, 101] with
  | true => exact part_locale b E base T t r w hr hb hl hM hf0 hf1 hf2 h1
  | false =>
    cases h2 : r.is E 1 [97, 108, 105, 97, 115] with
    | true => exact part_alias b E base T t r w hr hb hl hM hf0 hf1 hf2 h1 h2
    | false =>
      cases h3 : r.is E 1 [110, 101, 97, 114] with
      | true => exact part_near b E base T t r w hr hb hl hM hf0 hf1 hf2 h1 h2 h3
      | false => exact part_none b E base T t r w hr hb hl hM hf0 hf1 hf2 h1 h2 h3
end Go.Proofs.YtmleeodfmmpdgaaGreatDoor
