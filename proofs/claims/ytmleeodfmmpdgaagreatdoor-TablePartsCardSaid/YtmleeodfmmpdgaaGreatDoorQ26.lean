/- Walks: items of a locale: patterns of units and lists, the symbols. -/
import Derived.Test.YtmleeodfmmpdgaaGreatDoorQ25
namespace Go.Proofs.YtmleeodfmmpdgaaGreatDoor
open Go.RowKit
attribute [local go_sem] Ext.cell Ext.frozen
attribute [local go_sem ↓] Go.wp_at_zero Go.wp_at_succ
theorem tclasses_own (w : World) : Calls Tryz.prog 151 #[] w fun e w' => ∃ ad c, e = .returned (.slice ad 5 c) ∧ w'.ownsRow w.heap.size 9 1 (.slice ad 5 c) 5 (strs classL) ∧ Below w.heap.size w w' := by
  have HO := Lib.hid (own_literal w 9 1 5 (strs classL).toArray w.heap.size (Nat.le_refl _) (by decide) rfl)
  go_enter Tryz.func151, Tryz.ntmps151
  go_wp2_with fail
  go_ret
  exact ⟨_, _, rfl, HO.out, (Below.refl _ _).alloc (Nat.le_refl _) _⟩
/-- the cells of a row of four strings -/
theorem four_cells {w : World} {base c : Nat} {ad : Option Addr} {xs : List Value} {a0 a1 a2 a3 : Value} (h : w.ownsRow base 9 1 (.slice ad 4 c) 4 xs) (hx : xs = [a0, a1, a2, a3]) :
    ∃ g, ad = some ⟨g, 0, none⟩ ∧ base ≤ g ∧ g < w.heap.size ∧ (w.cell? ⟨g, 0, none⟩ = some a0 ∧ w.cell? ⟨g, 1, none⟩ = some a1 ∧ w.cell? ⟨g, 2, none⟩ = some a2 ∧ w.cell? ⟨g, 3, none⟩ = some a3) := by
  subst hx
  obtain ⟨_, ⟨h1, h2⟩ | ⟨g, cap, cur, h1, h2, h3, h4, h5, h6, h7⟩⟩ := h
  · cases h2
  · injection h1 with e1 e2 e3
    subst e1
    have k : ∀ i, i < 4 → w.cell? ⟨g, i, none⟩ = [a0, a1, a2, a3][i]? := fun i hi => by
      rw [← h7, List.getElem?_take, if_pos (by omega), Array.getElem?_toList]
      simp [World.cell?, h3]
    exact ⟨g, rfl, h2, (Array.getElem?_eq_some_iff.1 h3).1, k 0 (by decide), k 1 (by decide), k 2 (by decide), k 3 (by decide)⟩
theorem uclasses_any (w : World) : Calls Tryz.prog 163 #[] w fun e w' => ∃ ad n c, e = .returned (.slice ad n c) ∧ Sl w' ad n (strs unitL) ∧ Below w.heap.size w w' := by
  go_enter Tryz.func163, Tryz.ntmps163
  go_wp2_with fail
  refine (tclasses_own w).mono ?_
  rintro _ w1 ⟨ad, c, rfl, hown, hb⟩
  have HB := Lib.hid hb
  have hz := hb.size
  have HO := Lib.hid hown
  clear hown hb
  go_wp2_with (at_builtin; go_must (refine appStrT rfl _ _ rfl w.heap.size _ _ _ _ rfl HO.out _ _ rfl rfl (by unfold maxLen; omega) (by omega) hz ?_); intro ad6 c6 w4 hown4 hb4 hg4 hz4; have HO4 := Lib.hid hown4; have HB4 := Lib.hid hb4; clear hown4 hb4 hg4 hz4)
  go_ret
  exact ⟨_, _, _, rfl, Own.sl HO4.out, HB.out.trans HB4.out⟩
set_option maxRecDepth 20000 in
set_option maxHeartbeats 4000000 in
theorem iunit_any (b : Nat) (E : Int) (base L : Nat) (p : Int) (y : Lc) (r : RS) (w : World) (hr : Rd w b E r) (hb : b < base) (hl : LocAt base w L y) (hn : y.units.length ≤ 1000) : Calls Tryz.prog 225 #[.pointer (some ⟨b, 0, none⟩), .int .i64 p, .pointer (some ⟨L, 0, none⟩)] w (ItemP b E base L w (itUnit E p y r)) := by
  obtain ⟨v3, v4, v11, v12, v13, v14, v15, hl⟩ := hl
  have HR0 := Lib.hid hr
  have HL0 := Lib.hid hl
  have HK0 := Lib.hid (Kp.refl (itemP b base) w)
  have hbL : b < L := Nat.lt_of_lt_of_le hb hl.low
  have hLw := hl.cel.lt
  have hlow := hl.low
  have HWO := Lib.hid (fun W (g : Rd W b E r) => word_any b E r W g)
  have HON := Lib.hid (fun q ad n c W (g : Rd W b E q) gs => one_any b E ad n c unitL q W g gs)
  have HTE := Lib.hid (fun q W (g : Rd W b E q) => text_any b E q W g)
  have HMA := Lib.hid (fun q W (g : Rd W b E q) => mark_any b E [59] q W g)
  have HAD := Lib.hid (fun q x0 x1 x2 z W (g : Rd W b E q) (hw : base ≤ W.heap.size) ad c gr z0 z1 hx => added_Up b E p 100 q W g base hb hw y.units ad c gr hn x0 x1 x2 z0 z1 z hx)
  have HV : Hid (itUnit E p y r = ({ y with units := y.units ++ [⟨bs (r.word E).1, bs ((r.word E).2.one E unitL).1, bs (((r.word E).2.one E unitL).2.text E).1⟩] }, ((((r.word E).2.one E unitL).2.text E).2.mark E [59]).add p (dupUp y.units (bs (r.word E).1) (bs ((r.word E).2.one E unitL).1)) (fullB 100 y.units.length))) := rfl
  have h1 := hr.ok.take (E := E) (k := 1)
  have h2 := h1.2.one (E := E) (l := unitL)
  have h3 := h2.2.take (E := E) (k := 2)
  have hz0 : (bs (r.word E).1).size ≤ 200000 := by rw [bs_size]; exact h1.1
  have hz1 : (bs ((r.word E).2.one E unitL).1).size ≤ 200000 := by rw [bs_size]; exact h2.1
  have hz2 : (bs (((r.word E).2.one E unitL).2.text E).1).size ≤ 200000 := by rw [bs_size]; exact h3.1
  clear h1 h2 h3
  unfold dupUp fullB at HV
  unfold RdP at HWO HON HTE HMA
  unfold ItemP
  clear hr hl
  generalize itUnit E p y r = res at *
  generalize r.word E = r1 at *
  obtain ⟨K, q1⟩ := r1
  simp only at HWO HV hz0 hz1 hz2
  have HON1 := Lib.hid (HON.out q1)
  generalize q1.one E unitL = r2 at *
  obtain ⟨C, q2⟩ := r2
  simp only at HON1 HV hz1 hz2
  have HTE1 := Lib.hid (HTE.out q2)
  generalize q2.text E = r3 at *
  obtain ⟨T, q3⟩ := r3
  simp only at HTE1 HV hz2
  have HMA1 := Lib.hid (HMA.out q3)
  generalize q3.mark E [59] = q4 at *
  generalize bs K = K at *
  generalize bs C = C at *
  generalize bs T = T at *
  have HAD := Lib.hid (HAD.out q4 K C T ⟨K, C, T⟩)
  generalize q4.add p _ _ = q5 at *
  have HDY : Hid (∀ W, UpC W (fun j => (#[.string K, .string C, .string T] : Array Value).getD j undef) ⟨K, C, T⟩) := fun W => ⟨⟨rfl, Nat.le_trans hz0 (by decide)⟩, ⟨rfl, Nat.le_trans hz1 (by decide)⟩, ⟨rfl, Nat.le_trans hz2 (by decide)⟩⟩
  have HZ0 : Hid (K.size ≤ maxLen) := by unfold Hid maxLen; omega
  have HZ1 : Hid (C.size ≤ maxLen) := by unfold Hid maxLen; omega
  clear HON HTE HMA hz0 hz1 hz2
  have HK0 := Lib.hid (Kp.refl (oneP b) w)
  go_enter Tryz.func225, Tryz.ntmps225
  go_wp2_with fail
  refine (HWO.out _ HR0.out).mono ?_
  rintro _ w1 ⟨rfl, hr1, hk1⟩
  have HR1 := Lib.hid hr1
  have HK1 := Lib.hid (HK0.out.trans hk1)
  clear hr1 hk1 HK0 HWO
  have HR2 := Lib.hid (HR1.out.below (Bel.alloc (Bel.refl w1) (.cells #[.string K, .string ⟨#[]⟩, .string ⟨#[]⟩] 132)))
  have HK2 := Lib.hid (HK1.out.alloc (.cells #[.string K, .string ⟨#[]⟩, .string ⟨#[]⟩] 132))
  have HX2 := Lib.hid (Cel.new w1 [.string K, .string ⟨#[]⟩, .string ⟨#[]⟩] 132)
  obtain ⟨X, hX⟩ : ∃ X, w1.heap.size = X := ⟨_, rfl⟩
  have hwX : w.heap.size ≤ X := by rw [← hX]; exact HK1.out.size
  have hbX : b < X := Nat.lt_of_lt_of_le HR0.out.lt hwX
  have hXb : X ≠ b := by omega
  have hXL : X ≠ L := by omega
  rw [hX] at HX2
  clear HR1 HK1
  go_upto_region 1 with (fail)
  generalize w1.alloc (.cells #[.string K, .string ⟨#[]⟩, .string ⟨#[]⟩] 132) = w2 at *
  go_wp2_with fail
  refine (uclasses_any w2).mono ?_
  rintro _ w3 ⟨ad, n, c, rfl, hsl, hb3⟩
  have HR3 := Lib.hid (HR2.out.below hb3)
  have HX3 := Lib.hid (HX2.out.below hb3)
  have HK3 := Lib.hid (HK2.out.trans (kp_below hb3))
  have HON2 := Lib.hid (HON1.out ad n c _ HR3.out hsl)
  clear hsl hb3 HR2 HX2 HK2 HON1
  go_wp2_with fail
  refine HON2.out.mono ?_
  rintro _ w4 ⟨rfl, hr4, hk4⟩
  have HR4 := Lib.hid hr4
  have HK4 := Lib.hid (HK3.out.trans hk4)
  have HX4 := Lib.hid (HX3.out.kp hk4 (oneP_ne hXb))
  clear hr4 hk4 HR3 HK3 HX3
  have x1 := HX4.out.cell 1
  simp only [List.getElem?_cons_zero, List.getElem?_cons_succ] at x1
  have xf1 := HX4.out.frz 1
  have hXl := HX4.out.lt
  go_upto_region 2 with (fail)
  have HX5 := Lib.hid (HX4.out.set 1 (.string C))
  have HR5 := Lib.hid (HR4.out.other (a := ⟨X, 1, none⟩) hbX (.string C))
  have HK5 := Lib.hid (HK4.out.setN (p := ⟨X, 1, none⟩) hwX (.string C))
  simp only [List.set_cons_zero, List.set_cons_succ] at HX5
  clear HR4 HK4 HX4 x1 xf1 hXl
  generalize w4.setCell ⟨X, 1, none⟩ (.string C) = w5 at *
  have HTE2 := Lib.hid (HTE1.out _ HR5.out)
  go_wp2_with fail
  refine HTE2.out.mono ?_
  rintro _ w6 ⟨rfl, hr6, hk6⟩
  have HR6 := Lib.hid hr6
  have HK6 := Lib.hid (HK5.out.trans hk6)
  have HX6 := Lib.hid (HX5.out.kp hk6 (oneP_ne hXb))
  clear hr6 hk6 HR5 HK5 HX5
  have x2 := HX6.out.cell 2
  simp only [List.getElem?_cons_zero, List.getElem?_cons_succ] at x2
  have xf2 := HX6.out.frz 2
  have hXl := HX6.out.lt
  go_upto_region 3 with (fail)
  have HX7 := Lib.hid (HX6.out.set 2 (.string T))
  have HR7 := Lib.hid (HR6.out.other (a := ⟨X, 2, none⟩) hbX (.string T))
  have HK7 := Lib.hid (HK6.out.setN (p := ⟨X, 2, none⟩) hwX (.string T))
  simp only [List.set_cons_zero, List.set_cons_succ] at HX7
  clear HR6 HK6 HX6 x2 xf2 hXl
  generalize w6.setCell ⟨X, 2, none⟩ (.string T) = w7 at *
  have HMA2 := Lib.hid (HMA1.out _ HR7.out)
  go_wp2_with fail
  refine HMA2.out.mono ?_
  rintro _ w8 ⟨rfl, hr8, hk8⟩
  have HR8 := Lib.hid hr8
  have HK8 := Lib.hid (HK7.out.trans hk8)
  have HX8 := Lib.hid (HX7.out.kp hk8 (oneP_ne hXb))
  clear hr8 hk8 HR7 HK7 HX7
  go_upto_region 4 with (fail)
  have HL8 := Lib.hid (HL0.out.rd HR0.out HK8.out)
  obtain ⟨ad0, c0, hv0⟩ := HL8.out.g12.shape
  subst hv0
  have hob : ∀ k, Value.ownBlock (.slice ad0 y.units.length c0) = some k → k < w.heap.size := fun k hk => (HL0.out.g12.lt hk).2
  refine wp_region_until 11 (fun w' => w'.cell? ⟨L, 12, none⟩ = some (.slice ad0 y.units.length c0) ∧ Cel w' X 132 [.string K, .string C, .string T]) (by kernel_rfl) ⟨HL8.out.cel.cell 12, HX8.out⟩ (fun hS0 => ?_)
  have HRa := Lib.hid (HR8.out.below (Bel.drew (Bel.refl w8)))
  have HLa := Lib.hid (HL8.out.below (Bel.drew (Bel.refl w8)))
  have HXa := Lib.hid (HX8.out.below (Bel.drew (Bel.refl w8)))
  have HKa := Lib.hid (HK8.out.trans (kp_below (Bel.drew (Bel.refl w8))))
  clear HR8 HL8 HX8 HK8 HL0 HR0
  refine wpAnyG_take (i := 0) (v := ?_) rfl (by kernel_rfl) (by kernel_rfl) (by kernel_rfl) (fun _ _ _ h => h) (by kernel_rfl) (by decide) (by kernel_rfl) (Or.inl ⟨by kernel_rfl, ?_⟩) hS0 ?_
  rotate_left
  · (intro wx hSw; obtain ⟨t1, t2⟩ := hSw; have q0 := t2.cell 0; have q1 := t2.cell 1; have q2 := t2.cell 2; have hXl := t2.lt; simp only [List.getElem?_cons_zero, List.getElem?_cons_succ] at q0 q1 q2; go_simp; try with_reducible rfl)
  try simp only [Act.put, List.getElem_toArray, List.getElem_cons_zero, List.setIfInBounds_toArray, List.set_cons_zero, List.set_cons_succ]
  refine wpAnyG_take (i := 1) (v := ?_) rfl (by kernel_rfl) (by kernel_rfl) (by kernel_rfl) (fun _ _ _ h => h) (by kernel_rfl) (by decide) (by kernel_rfl) (Or.inl ⟨by kernel_rfl, ?_⟩) hS0 ?_
  rotate_left
  · (intro wx hSw; obtain ⟨t1, t2⟩ := hSw; have q0 := t2.cell 0; have q1 := t2.cell 1; have q2 := t2.cell 2; have hXl := t2.lt; simp only [List.getElem?_cons_zero, List.getElem?_cons_succ] at q0 q1 q2; go_simp; try with_reducible rfl)
  try simp only [Act.put, List.getElem_toArray, List.getElem_cons_succ, List.getElem_cons_zero, List.setIfInBounds_toArray, List.set_cons_zero, List.set_cons_succ]
  refine wpAnyG_take (i := 2) (v := ?_) rfl (by kernel_rfl) (by kernel_rfl) (by kernel_rfl) (fun _ _ _ h => h) (by kernel_rfl) (by decide) (by kernel_rfl) (Or.inl ⟨by kernel_rfl, ?_⟩) hS0 ?_
  rotate_left
  · (intro wx hSw; obtain ⟨t1, t2⟩ := hSw; have q0 := t2.cell 0; have q1 := t2.cell 1; have q2 := t2.cell 2; have hXl := t2.lt; simp only [List.getElem?_cons_zero, List.getElem?_cons_succ] at q0 q1 q2; go_simp; try with_reducible rfl)
  try simp only [Act.put, List.getElem_toArray, List.getElem_cons_succ, List.getElem_cons_zero, List.setIfInBounds_toArray, List.set_cons_zero, List.set_cons_succ]
  refine wpAnyG_take (i := 3) (v := ?_) rfl (by kernel_rfl) (by kernel_rfl) (by kernel_rfl) (fun _ _ _ h => h) (by kernel_rfl) (by decide) (by kernel_rfl) (Or.inl ⟨by kernel_rfl, ?_⟩) hS0 ?_
  rotate_left
  · (intro wx hSw; obtain ⟨t1, t2⟩ := hSw; have q0 := t2.cell 0; have q1 := t2.cell 1; have q2 := t2.cell 2; have hXl := t2.lt; simp only [List.getElem?_cons_zero, List.getElem?_cons_succ] at q0 q1 q2; go_simp; try with_reducible rfl)
  try simp only [Act.put, List.getElem_toArray, List.getElem_cons_succ, List.getElem_cons_zero, List.setIfInBounds_toArray, List.set_cons_zero, List.set_cons_succ]
  refine wpAnyG_take (i := 4) (v := ?_) rfl (by kernel_rfl) (by kernel_rfl) (by kernel_rfl) (fun _ _ _ h => h) (by kernel_rfl) (by decide) (by kernel_rfl) (Or.inl ⟨by kernel_rfl, ?_⟩) hS0 ?_
  rotate_left
  · (intro wx hSw; obtain ⟨t1, t2⟩ := hSw; have q0 := t2.cell 0; have q1 := t2.cell 1; have q2 := t2.cell 2; have hXl := t2.lt; simp only [List.getElem?_cons_zero, List.getElem?_cons_succ] at q0 q1 q2; go_simp; try with_reducible rfl)
  try simp only [Act.put, List.getElem_toArray, List.getElem_cons_succ, List.getElem_cons_zero, List.setIfInBounds_toArray, List.set_cons_zero, List.set_cons_succ]
  refine wpAnyG_take (i := 5) (v := ?_) rfl (by kernel_rfl) (by kernel_rfl) (by kernel_rfl) (fun _ _ _ h => h) (by kernel_rfl) (by decide) (by kernel_rfl) (Or.inl ⟨by kernel_rfl, ?_⟩) hS0 ?_
  rotate_left
  · (intro wx hSw; obtain ⟨t1, t2⟩ := hSw; have q0 := t2.cell 0; have q1 := t2.cell 1; have q2 := t2.cell 2; have hXl := t2.lt; simp only [List.getElem?_cons_zero, List.getElem?_cons_succ] at q0 q1 q2; go_simp; try with_reducible rfl)
  try simp only [Act.put, List.getElem_toArray, List.getElem_cons_succ, List.getElem_cons_zero, List.setIfInBounds_toArray, List.set_cons_zero, List.set_cons_succ]
  refine wpAnyG_take (i := 6) (v := ?_) rfl (by kernel_rfl) (by kernel_rfl) (by kernel_rfl) (fun _ _ _ h => h) (by kernel_rfl) (by decide) (by kernel_rfl) (Or.inl ⟨by kernel_rfl, ?_⟩) hS0 ?_
  rotate_left
  · (intro wx hSw; obtain ⟨t1, t2⟩ := hSw; have q0 := t2.cell 0; have q1 := t2.cell 1; have q2 := t2.cell 2; have hXl := t2.lt; simp only [List.getElem?_cons_zero, List.getElem?_cons_succ] at q0 q1 q2; go_simp; try with_reducible rfl)
  try simp only [Act.put, List.getElem_toArray, List.getElem_cons_succ, List.getElem_cons_zero, List.setIfInBounds_toArray, List.set_cons_zero, List.set_cons_succ]
  refine wpAnyG_take (i := 7) (v := ?_) rfl (by kernel_rfl) (by kernel_rfl) (by kernel_rfl) (fun _ _ _ h => h) (by kernel_rfl) (by decide) (by kernel_rfl) (Or.inl ⟨by kernel_rfl, ?_⟩) hS0 ?_
  rotate_left
  · (intro wx hSw; obtain ⟨t1, t2⟩ := hSw; have q0 := t2.cell 0; have q1 := t2.cell 1; have q2 := t2.cell 2; have hXl := t2.lt; simp only [List.getElem?_cons_zero, List.getElem?_cons_succ] at q0 q1 q2; go_simp; try with_reducible rfl)
  try simp only [Act.put, List.getElem_toArray, List.getElem_cons_succ, List.getElem_cons_zero, List.setIfInBounds_toArray, List.set_cons_zero, List.set_cons_succ]
  generalize w8.drew = p0 at *
  refine wpAnyG_ready (rs := [8]) (by kernel_rfl) (by simp) ?_
  refine AllReadyG.cons rfl (fun K hK => ?_) AllReadyG.nil
  go_simp
  have hs0 : base ≤ p0.heap.size := Nat.le_trans HLa.out.low (Nat.le_of_lt HLa.out.cel.lt)
  refine (HAD.out p0 HRa.out hs0 ad0 c0 HLa.out.g12 HZ0.out HZ1.out HDY.out).mono ?_
  rintro _ p1 ⟨v', rfl, hg1, hr1, hk1⟩
  obtain ⟨ad', n', c', rfl⟩ : ∃ ad n c, v' = .slice ad n c := by obtain ⟨ad, c, h⟩ := hg1.shape; exact ⟨ad, _, c, h⟩
  have hc1 := HLa.out.celG HRa.out HLa.out.g12 hk1 (by decide)
  have HC1 := Lib.hid hc1
  have HL1 := Lib.hid (HLa.out.units HRa.out hk1 hg1)
  have hgX : growP b (.slice ad0 y.units.length c0) X = false := by
    unfold growP
    rw [decide_eq_false hXb, decide_eq_false (fun e => by have := hob X e; omega)]
    rfl
  have HXb := Lib.hid (HXa.out.kp hk1 hgX)
  have HR1 := Lib.hid hr1
  have HKb := Lib.hid (HKa.out.item.trans (hk1.itemG HLa.out.g12 (Nat.le_refl _)))
  clear hc1 hg1 hr1 HAD
  go_simp
  refine hK.out _ _ (fun _ => ⟨HC1.out.cell 12, HXb.out⟩) (fun _ => ?_)
  clear hK K
  try simp only [Act.put, List.getElem_toArray, List.getElem_cons_succ, List.getElem_cons_zero, List.setIfInBounds_toArray, List.set_cons_zero, List.set_cons_succ]
  refine wpAnyG_ready (rs := [9]) (by kernel_rfl) (by simp) ?_
  refine AllReadyG.cons rfl (fun K hK => ?_) AllReadyG.nil
  go_simp
  refine hK.out _ _ (fun _ => ⟨HC1.out.cell 12, HXb.out⟩) (fun _ => ?_)
  clear hK K
  try simp only [Act.put, List.getElem_toArray, List.getElem_cons_succ, List.getElem_cons_zero, List.setIfInBounds_toArray, List.set_cons_zero, List.set_cons_succ]
  refine wpAnyG_ready (rs := [10]) (by kernel_rfl) (by simp) ?_
  refine AllReadyG.cons rfl (fun K hK => ?_) AllReadyG.nil
  go_simp
  refine hK.out _ _ (fun _ => ⟨HC1.out.cell 12, HXb.out⟩) (fun _ => ?_)
  clear hK K
  try simp only [Act.put, List.getElem_toArray, List.getElem_cons_succ, List.getElem_cons_zero, List.setIfInBounds_toArray, List.set_cons_zero, List.set_cons_succ]
  have c12 := HC1.out.cell 12
  have f12 := HC1.out.frz 12
  have hLt := HC1.out.lt
  refine wpAnyG_ready (rs := [11]) (by kernel_rfl) (by simp) ?_
  refine AllReadyG.cons rfl (fun K hK => ?_) AllReadyG.nil
  go_simp
  refine hK.out _ _ (fun h => by cases h) (fun _ => ?_)
  clear hK K
  refine wpAnyG_done (by kernel_rfl) ?_ _
  go_end0
  exact ⟨rfl, by rw [HV.out]; exact ⟨_, _, _, _, _, _, _, HL1.out⟩, by rw [HV.out]; exact HR1.out.other (a := ⟨L, 12, none⟩) hbL _, HKb.out.itemS (p := ⟨L, 12, none⟩) hlow _⟩
set_option maxRecDepth 20000 in
set_option maxHeartbeats 4000000 in
theorem ilist_any (b : Nat) (E : Int) (base L : Nat) (p : Int) (y : Lc) (r : RS) (w : World) (hr : Rd w b E r) (hb : b < base) (hl : LocAt base w L y) (hn : y.lists.length ≤ 1000) : Calls Tryz.prog 224 #[.pointer (some ⟨b, 0, none⟩), .int .i64 p, .pointer (some ⟨L, 0, none⟩)] w (ItemP b E base L w (itList E p y r)) := by
  obtain ⟨v3, v4, v11, v12, v13, v14, v15, hl⟩ := hl
  have HR0 := Lib.hid hr
  have HL0 := Lib.hid hl
  have HK0 := Lib.hid (Kp.refl (itemP b base) w)
  have hbL : b < L := Nat.lt_of_lt_of_le hb hl.low
  have hLw := hl.cel.lt
  have hlow := hl.low
  have HWO := Lib.hid (fun W (g : Rd W b E r) => word_any b E r W g)
  have HTX := Lib.hid (fun q W (g : Rd W b E q) => texts_any b E 4 (by decide) q W g)
  have HMA := Lib.hid (fun q W (g : Rd W b E q) => mark_any b E [59] q W g)
  have HAD := Lib.hid (fun q x0 x1 x2 x3 x4 z W (g : Rd W b E q) (hw : base ≤ W.heap.size) ad c gr hx => added_Lp b E p 10 q W g base hb hw y.lists ad c gr hn x0 x1 x2 x3 x4 z hx)
  have HV : Hid (itList E p y r = ({ y with lists := y.lists ++ [⟨bs (r.word E).1, gS (RS.texts0 E 4 (r.word E).2).1 0, gS (RS.texts0 E 4 (r.word E).2).1 1, gS (RS.texts0 E 4 (r.word E).2).1 2, gS (RS.texts0 E 4 (r.word E).2).1 3⟩] }, ((RS.texts0 E 4 (r.word E).2).2.mark E [59]).add p (dupLp y.lists (bs (r.word E).1)) (fullB 10 y.lists.length))) := rfl
  have h1 := hr.ok.take (E := E) (k := 1)
  have h2 := h1.2.texts0 (E := E) 4
  have hz0 : (bs (r.word E).1).size ≤ 200000 := by rw [bs_size]; exact h1.1
  have hzs : ∀ s ∈ (RS.texts0 E 4 (r.word E).2).1, s.size ≤ 200000 := h2.1
  have hlen := RS.texts_len0 E 4 (r.word E).2
  clear h1 h2
  unfold dupLp fullB at HV
  unfold RdP at HWO HMA
  unfold ItemP
  clear hr hl
  generalize itList E p y r = res at *
  generalize r.word E = r1 at *
  obtain ⟨K, q1⟩ := r1
  simp only at HWO HV hz0 hzs hlen
  have HTX1 := Lib.hid (HTX.out q1)
  generalize RS.texts0 E 4 q1 = r2 at *
  obtain ⟨l, q2⟩ := r2
  simp only at HTX1 HV hzs hlen
  have HMA1 := Lib.hid (HMA.out q2)
  generalize q2.mark E [59] = q3 at *
  generalize bs K = K at *
  have HS : Hid (strs l = [.string (gS l 0), .string (gS l 1), .string (gS l 2), .string (gS l 3)]) := by
    match l, hlen with
    | [a, b, c, d], _ => rfl
  have hz1 := gS_le hzs 0
  have hz2 := gS_le hzs 1
  have hz3 := gS_le hzs 2
  have hz4 := gS_le hzs 3
  generalize gS l 0 = s0 at *
  generalize gS l 1 = s1 at *
  generalize gS l 2 = s2 at *
  generalize gS l 3 = s3 at *
  have HAD := Lib.hid (HAD.out q3 K s0 s1 s2 s3 ⟨K, s0, s1, s2, s3⟩)
  generalize q3.add p _ _ = q4 at *
  have HDY : Hid (∀ W, LpC W (fun j => (#[.string K, .string s0, .string s1, .string s2, .string s3] : Array Value).getD j undef) ⟨K, s0, s1, s2, s3⟩) := fun W => ⟨⟨rfl, Nat.le_trans hz0 (by decide)⟩, ⟨rfl, Nat.le_trans hz1 (by decide)⟩, ⟨rfl, Nat.le_trans hz2 (by decide)⟩, ⟨rfl, Nat.le_trans hz3 (by decide)⟩, ⟨rfl, Nat.le_trans hz4 (by decide)⟩⟩
  clear HTX HMA hz0 hz1 hz2 hz3 hz4 hzs hlen
  have HK0 := Lib.hid (Kp.refl (oneP b) w)
  go_enter Tryz.func224, Tryz.ntmps224
  go_wp2_with fail
  refine (HWO.out _ HR0.out).mono ?_
  rintro _ w1 ⟨rfl, hr1, hk1⟩
  have HR1 := Lib.hid hr1
  have HK1 := Lib.hid (HK0.out.trans hk1)
  clear hr1 hk1 HK0 HWO
  have HR2 := Lib.hid (HR1.out.below (Bel.alloc (Bel.refl w1) (.cells #[.string K, .string ⟨#[]⟩, .string ⟨#[]⟩, .string ⟨#[]⟩, .string ⟨#[]⟩] 130)))
  have HK2 := Lib.hid (HK1.out.alloc (.cells #[.string K, .string ⟨#[]⟩, .string ⟨#[]⟩, .string ⟨#[]⟩, .string ⟨#[]⟩] 130))
  have HX2 := Lib.hid (Cel.new w1 [.string K, .string ⟨#[]⟩, .string ⟨#[]⟩, .string ⟨#[]⟩, .string ⟨#[]⟩] 130)
  obtain ⟨X, hX⟩ : ∃ X, w1.heap.size = X := ⟨_, rfl⟩
  have hwX : w.heap.size ≤ X := by rw [← hX]; exact HK1.out.size
  have hbX : b < X := Nat.lt_of_lt_of_le HR0.out.lt hwX
  have hXb : X ≠ b := by omega
  have hXL : X ≠ L := by omega
  rw [hX] at HX2
  clear HR1 HK1
  go_upto_region 1 with (fail)
  generalize w1.alloc (.cells #[.string K, .string ⟨#[]⟩, .string ⟨#[]⟩, .string ⟨#[]⟩, .string ⟨#[]⟩] 130) = w2 at *
  have HTX2 := Lib.hid (HTX1.out _ HR2.out)
  go_wp2_with fail
  refine HTX2.out.mono ?_
  rintro _ w3 ⟨ad, c, rfl, hown, hr3, hk3⟩
  obtain ⟨g, hadr, hlo, hgl, hce⟩ := four_cells hown HS.out
  subst hadr
  have hgX : g ≠ X := by have := HX2.out.lt; omega
  have HR3 := Lib.hid hr3
  have HX3 := Lib.hid (HX2.out.kp hk3 (oneP_ne hXb))
  have HK3 := Lib.hid (HK2.out.trans hk3)
  clear hr3 hk3 HR2 HX2 HK2 HTX1 HTX2
  obtain ⟨e0, e1, e2, e3⟩ := hce
  have x1 := HX3.out.cell 1
  have x2 := HX3.out.cell 2
  have x3 := HX3.out.cell 3
  have x4 := HX3.out.cell 4
  simp only [List.getElem?_cons_zero, List.getElem?_cons_succ] at x1 x2 x3 x4
  have xf1 := HX3.out.frz 1
  have xf2 := HX3.out.frz 2
  have xf3 := HX3.out.frz 3
  have xf4 := HX3.out.frz 4
  have hXl := HX3.out.lt
  clear hown
  go_upto_region 2 with (fail)
  go_cut [] (fun wx => Cel wx X 130 [.string K, .string s0, .string s1, .string s2, .string s3] ∧ Rd wx b E q2 ∧ Kp (oneP b) w wx)
  case first =>
    go_region
    go_wp2_with fail
    go_meet
    exact ⟨((((HX3.out.set 1 _).set 2 _).set 3 _).set 4 _).below (Bel.drew (Bel.refl _)), ((((HR3.out.other (a := ⟨X, 1, none⟩) hbX _).other (a := ⟨X, 2, none⟩) hbX _).other (a := ⟨X, 3, none⟩) hbX _).other (a := ⟨X, 4, none⟩) hbX _).below (Bel.drew (Bel.refl _)), ((((HK3.out.setN (p := ⟨X, 1, none⟩) hwX _).setN (p := ⟨X, 2, none⟩) hwX _).setN (p := ⟨X, 3, none⟩) hwX _).setN (p := ⟨X, 4, none⟩) hwX _).drew⟩
  case rest =>
    obtain ⟨hx4, hr4, hk4⟩ := hcut
    obtain ⟨w4, hw4⟩ : ∃ W, W = wc := ⟨_, rfl⟩
    rw [← hw4] at hx4 hr4 hk4 ⊢
    clear hw4 x1 x2 x3 x4 xf1 xf2 xf3 xf4 hXl e0 e1 e2 e3
    have HX4 := Lib.hid hx4
    have HR4 := Lib.hid hr4
    have HK4 := Lib.hid hk4
    clear hx4 hr4 hk4 HX3 HR3 HK3
    have HMA2 := Lib.hid (HMA1.out _ HR4.out)
    go_wp2_with fail
    refine HMA2.out.mono ?_
    rintro _ w5 ⟨rfl, hr5, hk5⟩
    have HR5 := Lib.hid hr5
    have HK5 := Lib.hid (HK4.out.trans hk5)
    have HX5 := Lib.hid (HX4.out.kp hk5 (oneP_ne hXb))
    clear hr5 hk5 HR4 HK4 HX4
    go_upto_region 4 with (fail)
    have HL5 := Lib.hid (HL0.out.rd HR0.out HK5.out)
    obtain ⟨ad0, c0, hv0⟩ := HL5.out.g11.shape
    subst hv0
    have hob : ∀ k, Value.ownBlock (.slice ad0 y.lists.length c0) = some k → k < w.heap.size := fun k hk => (HL0.out.g11.lt hk).2
    refine wp_region_until 11 (fun w' => w'.cell? ⟨L, 11, none⟩ = some (.slice ad0 y.lists.length c0) ∧ Cel w' X 130 [.string K, .string s0, .string s1, .string s2, .string s3]) (by kernel_rfl) ⟨HL5.out.cel.cell 11, HX5.out⟩ (fun hS0 => ?_)
    have HRa := Lib.hid (HR5.out.below (Bel.drew (Bel.refl w5)))
    have HLa := Lib.hid (HL5.out.below (Bel.drew (Bel.refl w5)))
    have HXa := Lib.hid (HX5.out.below (Bel.drew (Bel.refl w5)))
    have HKa := Lib.hid (HK5.out.trans (kp_below (Bel.drew (Bel.refl w5))))
    clear HR5 HL5 HX5 HK5 HL0 HR0
    refine wpAnyG_take (i := 0) (v := ?_) rfl (by kernel_rfl) (by kernel_rfl) (by kernel_rfl) (fun _ _ _ h => h) (by kernel_rfl) (by decide) (by kernel_rfl) (Or.inl ⟨by kernel_rfl, ?_⟩) hS0 ?_
    rotate_left
    · (intro wx hSw; obtain ⟨t1, t2⟩ := hSw; have q0 := t2.cell 0; have q1 := t2.cell 1; have q2 := t2.cell 2; have q3 := t2.cell 3; have q4 := t2.cell 4; have hXl := t2.lt; simp only [List.getElem?_cons_zero, List.getElem?_cons_succ] at q0 q1 q2 q3 q4; go_simp; try with_reducible rfl)
    try simp only [Act.put, List.getElem_toArray, List.getElem_cons_zero, List.setIfInBounds_toArray, List.set_cons_zero, List.set_cons_succ]
    refine wpAnyG_take (i := 1) (v := ?_) rfl (by kernel_rfl) (by kernel_rfl) (by kernel_rfl) (fun _ _ _ h => h) (by kernel_rfl) (by decide) (by kernel_rfl) (Or.inl ⟨by kernel_rfl, ?_⟩) hS0 ?_
    rotate_left
    · (intro wx hSw; obtain ⟨t1, t2⟩ := hSw; have q0 := t2.cell 0; have q1 := t2.cell 1; have q2 := t2.cell 2; have q3 := t2.cell 3; have q4 := t2.cell 4; have hXl := t2.lt; simp only [List.getElem?_cons_zero, List.getElem?_cons_succ] at q0 q1 q2 q3 q4; go_simp; try with_reducible rfl)
    try simp only [Act.put, List.getElem_toArray, List.getElem_cons_succ, List.getElem_cons_zero, List.setIfInBounds_toArray, List.set_cons_zero, List.set_cons_succ]
    refine wpAnyG_take (i := 2) (v := ?_) rfl (by kernel_rfl) (by kernel_rfl) (by kernel_rfl) (fun _ _ _ h => h) (by kernel_rfl) (by decide) (by kernel_rfl) (Or.inl ⟨by kernel_rfl, ?_⟩) hS0 ?_
    rotate_left
    · (intro wx hSw; obtain ⟨t1, t2⟩ := hSw; have q0 := t2.cell 0; have q1 := t2.cell 1; have q2 := t2.cell 2; have q3 := t2.cell 3; have q4 := t2.cell 4; have hXl := t2.lt; simp only [List.getElem?_cons_zero, List.getElem?_cons_succ] at q0 q1 q2 q3 q4; go_simp; try with_reducible rfl)
    try simp only [Act.put, List.getElem_toArray, List.getElem_cons_succ, List.getElem_cons_zero, List.setIfInBounds_toArray, List.set_cons_zero, List.set_cons_succ]
    refine wpAnyG_take (i := 3) (v := ?_) rfl (by kernel_rfl) (by kernel_rfl) (by kernel_rfl) (fun _ _ _ h => h) (by kernel_rfl) (by decide) (by kernel_rfl) (Or.inl ⟨by kernel_rfl, ?_⟩) hS0 ?_
    rotate_left
    · (intro wx hSw; obtain ⟨t1, t2⟩ := hSw; have q0 := t2.cell 0; have q1 := t2.cell 1; have q2 := t2.cell 2; have q3 := t2.cell 3; have q4 := t2.cell 4; have hXl := t2.lt; simp only [List.getElem?_cons_zero, List.getElem?_cons_succ] at q0 q1 q2 q3 q4; go_simp; try with_reducible rfl)
    try simp only [Act.put, List.getElem_toArray, List.getElem_cons_succ, List.getElem_cons_zero, List.setIfInBounds_toArray, List.set_cons_zero, List.set_cons_succ]
    refine wpAnyG_take (i := 4) (v := ?_) rfl (by kernel_rfl) (by kernel_rfl) (by kernel_rfl) (fun _ _ _ h => h) (by kernel_rfl) (by decide) (by kernel_rfl) (Or.inl ⟨by kernel_rfl, ?_⟩) hS0 ?_
    rotate_left
    · (intro wx hSw; obtain ⟨t1, t2⟩ := hSw; have q0 := t2.cell 0; have q1 := t2.cell 1; have q2 := t2.cell 2; have q3 := t2.cell 3; have q4 := t2.cell 4; have hXl := t2.lt; simp only [List.getElem?_cons_zero, List.getElem?_cons_succ] at q0 q1 q2 q3 q4; go_simp; try with_reducible rfl)
    try simp only [Act.put, List.getElem_toArray, List.getElem_cons_succ, List.getElem_cons_zero, List.setIfInBounds_toArray, List.set_cons_zero, List.set_cons_succ]
    refine wpAnyG_take (i := 5) (v := ?_) rfl (by kernel_rfl) (by kernel_rfl) (by kernel_rfl) (fun _ _ _ h => h) (by kernel_rfl) (by decide) (by kernel_rfl) (Or.inl ⟨by kernel_rfl, ?_⟩) hS0 ?_
    rotate_left
    · (intro wx hSw; obtain ⟨t1, t2⟩ := hSw; have q0 := t2.cell 0; have q1 := t2.cell 1; have q2 := t2.cell 2; have q3 := t2.cell 3; have q4 := t2.cell 4; have hXl := t2.lt; simp only [List.getElem?_cons_zero, List.getElem?_cons_succ] at q0 q1 q2 q3 q4; go_simp; try with_reducible rfl)
    try simp only [Act.put, List.getElem_toArray, List.getElem_cons_succ, List.getElem_cons_zero, List.setIfInBounds_toArray, List.set_cons_zero, List.set_cons_succ]
    refine wpAnyG_take (i := 6) (v := ?_) rfl (by kernel_rfl) (by kernel_rfl) (by kernel_rfl) (fun _ _ _ h => h) (by kernel_rfl) (by decide) (by kernel_rfl) (Or.inl ⟨by kernel_rfl, ?_⟩) hS0 ?_
    rotate_left
    · (intro wx hSw; obtain ⟨t1, t2⟩ := hSw; have q0 := t2.cell 0; have q1 := t2.cell 1; have q2 := t2.cell 2; have q3 := t2.cell 3; have q4 := t2.cell 4; have hXl := t2.lt; simp only [List.getElem?_cons_zero, List.getElem?_cons_succ] at q0 q1 q2 q3 q4; go_simp; try with_reducible rfl)
    try simp only [Act.put, List.getElem_toArray, List.getElem_cons_succ, List.getElem_cons_zero, List.setIfInBounds_toArray, List.set_cons_zero, List.set_cons_succ]
    refine wpAnyG_take (i := 7) (v := ?_) rfl (by kernel_rfl) (by kernel_rfl) (by kernel_rfl) (fun _ _ _ h => h) (by kernel_rfl) (by decide) (by kernel_rfl) (Or.inl ⟨by kernel_rfl, ?_⟩) hS0 ?_
    rotate_left
    · (intro wx hSw; obtain ⟨t1, t2⟩ := hSw; have q0 := t2.cell 0; have q1 := t2.cell 1; have q2 := t2.cell 2; have q3 := t2.cell 3; have q4 := t2.cell 4; have hXl := t2.lt; simp only [List.getElem?_cons_zero, List.getElem?_cons_succ] at q0 q1 q2 q3 q4; go_simp; try with_reducible rfl)
    try simp only [Act.put, List.getElem_toArray, List.getElem_cons_succ, List.getElem_cons_zero, List.setIfInBounds_toArray, List.set_cons_zero, List.set_cons_succ]
    generalize w5.drew = p0 at *
    refine wpAnyG_ready (rs := [8]) (by kernel_rfl) (by simp) ?_
    refine AllReadyG.cons rfl (fun K hK => ?_) AllReadyG.nil
    go_simp
    have hs0 : base ≤ p0.heap.size := Nat.le_trans HLa.out.low (Nat.le_of_lt HLa.out.cel.lt)
    refine (HAD.out p0 HRa.out hs0 ad0 c0 HLa.out.g11 HDY.out).mono ?_
    rintro _ p1 ⟨v', rfl, hg1, hr1, hk1⟩
    obtain ⟨ad', n', c', rfl⟩ : ∃ ad n c, v' = .slice ad n c := by obtain ⟨ad, c, h⟩ := hg1.shape; exact ⟨ad, _, c, h⟩
    have hc1 := HLa.out.celG HRa.out HLa.out.g11 hk1 (by decide)
    have HC1 := Lib.hid hc1
    have HL1 := Lib.hid (HLa.out.lists HRa.out hk1 hg1)
    have hgX : growP b (.slice ad0 y.lists.length c0) X = false := by
      unfold growP
      rw [decide_eq_false hXb, decide_eq_false (fun e => by have := hob X e; omega)]
      rfl
    have HXb := Lib.hid (HXa.out.kp hk1 hgX)
    have HR1 := Lib.hid hr1
    have HKb := Lib.hid (HKa.out.item.trans (hk1.itemG HLa.out.g11 (Nat.le_refl _)))
    clear hc1 hg1 hr1 HAD
    go_simp
    refine hK.out _ _ (fun _ => ⟨HC1.out.cell 11, HXb.out⟩) (fun _ => ?_)
    clear hK K
    try simp only [Act.put, List.getElem_toArray, List.getElem_cons_succ, List.getElem_cons_zero, List.setIfInBounds_toArray, List.set_cons_zero, List.set_cons_succ]
    refine wpAnyG_ready (rs := [9]) (by kernel_rfl) (by simp) ?_
    refine AllReadyG.cons rfl (fun K hK => ?_) AllReadyG.nil
    go_simp
    refine hK.out _ _ (fun _ => ⟨HC1.out.cell 11, HXb.out⟩) (fun _ => ?_)
    clear hK K
    try simp only [Act.put, List.getElem_toArray, List.getElem_cons_succ, List.getElem_cons_zero, List.setIfInBounds_toArray, List.set_cons_zero, List.set_cons_succ]
    refine wpAnyG_ready (rs := [10]) (by kernel_rfl) (by simp) ?_
    refine AllReadyG.cons rfl (fun K hK => ?_) AllReadyG.nil
    go_simp
    refine hK.out _ _ (fun _ => ⟨HC1.out.cell 11, HXb.out⟩) (fun _ => ?_)
    clear hK K
    try simp only [Act.put, List.getElem_toArray, List.getElem_cons_succ, List.getElem_cons_zero, List.setIfInBounds_toArray, List.set_cons_zero, List.set_cons_succ]
    have c11 := HC1.out.cell 11
    have f11 := HC1.out.frz 11
    have hLt := HC1.out.lt
    refine wpAnyG_ready (rs := [11]) (by kernel_rfl) (by simp) ?_
    refine AllReadyG.cons rfl (fun K hK => ?_) AllReadyG.nil
    go_simp
    refine hK.out _ _ (fun h => by cases h) (fun _ => ?_)
    clear hK K
    refine wpAnyG_done (by kernel_rfl) ?_ _
    go_end0
    exact ⟨rfl, by rw [HV.out]; exact ⟨_, _, _, _, _, _, _, HL1.out⟩, by rw [HV.out]; exact HR1.out.other (a := ⟨L, 11, none⟩) hbL _, HKb.out.itemS (p := ⟨L, 11, none⟩) hlow _⟩
end Go.Proofs.YtmleeodfmmpdgaaGreatDoor
/- Walks: items of a locale: the symbols. -/
namespace Go.Proofs.YtmleeodfmmpdgaaGreatDoor
open Go.RowKit
attribute [local go_sem] Ext.cell Ext.frozen
attribute [local go_sem ↓] Go.wp_at_zero Go.wp_at_succ
set_option maxRecDepth 20000 in
set_option maxHeartbeats 4000000 in
theorem isym_any (b : Nat) (E : Int) (base L : Nat) (p : Int) (y : Lc) (r : RS) (w : World) (hr : Rd w b E r) (hb : b < base) (hl : LocAt base w L y) : Calls Tryz.prog 223 #[.pointer (some ⟨b, 0, none⟩), .int .i64 p, .pointer (some ⟨L, 0, none⟩)] w (ItemP b E base L w (itSym E p y r)) := by
  obtain ⟨v3, v4, v11, v12, v13, v14, v15, hl⟩ := hl
  have HR0 := Lib.hid hr
  have HL0 := Lib.hid hl
  have HK0 := Lib.hid (Kp.refl (itemP b base) w)
  have hbL : b < L := Nat.lt_of_lt_of_le hb hl.low
  have hLw := hl.cel.lt
  have hlow := hl.low
  have HIS := Lib.hid (is_any b E 2 [] r w hr)
  have HF := Lib.hid (fun W (g : Rd W b E r) => fail_any b E r 3 W g)
  have HTX := Lib.hid (fun q W (g : Rd W b E q) => texts_any b E 4 (by decide) q W g)
  have HNA := Lib.hid (fun q W (g : Rd W b E q) => rnum_any b E 9 q W g)
  have HMA := Lib.hid (fun q W (g : Rd W b E q) => mark_any b E [59] q W g)
  have HOC := Lib.hid (fun q W (g : Rd W b E q) => once_any b E p (hasB y.dec) q W g)
  have HV : Hid (itSym E p y r = ({ y with dec := gS (r.sym E).1.1 0, grp := gS (r.sym E).1.1 1, mi := gS (r.sym E).1.1 2, pct := gS (r.sym E).1.1 3, pri := (r.sym E).1.2.1, sec := (r.sym E).1.2.2 }, (r.sym E).2.once p (hasB y.dec))) := rfl
  have HSY : Hid (r.sym E = (((RS.texts0 E 4 (r.sym0 E)).1, ((RS.texts0 E 4 (r.sym0 E)).2.number E 9).1, (((RS.texts0 E 4 (r.sym0 E)).2.number E 9).2.number E 9).1), (((RS.texts0 E 4 (r.sym0 E)).2.number E 9).2.number E 9).2.mark E [59])) := rfl
  have HS0 : Hid (r.sym0 E = if r.is E 2 [] then r.fail E 3 else r) := rfl
  have HNE := Lib.hid (not_empty y.dec)
  rw [HSY.out] at HV
  clear HSY
  have hlen := RS.texts_len0 E 4 (r.sym0 E)
  unfold RdP at HF HNA HMA HOC
  unfold ItemP
  clear hr hl
  generalize itSym E p y r = res at *
  generalize r.is E 2 [] = isq at *
  generalize r.fail E 3 = rf at *
  generalize r.sym0 E = q0 at *
  have HTX1 := Lib.hid (HTX.out q0)
  generalize RS.texts0 E 4 q0 = r2 at *
  obtain ⟨l, q1⟩ := r2
  simp only at HTX1 HV hlen
  have HNA1 := Lib.hid (HNA.out q1)
  generalize q1.number E 9 = r3 at *
  obtain ⟨na, q2⟩ := r3
  simp only at HNA1 HV
  have HNC1 := Lib.hid (HNA.out q2)
  generalize q2.number E 9 = r4 at *
  obtain ⟨nc, q3⟩ := r4
  simp only at HNC1 HV
  have HMA1 := Lib.hid (HMA.out q3)
  generalize q3.mark E [59] = q4 at *
  have HOC1 := Lib.hid (HOC.out q4)
  generalize q4.once p (hasB y.dec) = q5 at *
  have HS : Hid (strs l = [.string (gS l 0), .string (gS l 1), .string (gS l 2), .string (gS l 3)]) := by
    match l, hlen with
    | [a, b, c, d], _ => rfl
  generalize gS l 0 = s0 at *
  generalize gS l 1 = s1 at *
  generalize gS l 2 = s2 at *
  generalize gS l 3 = s3 at *
  clear HTX HMA HNA HOC hlen
  have HK0 := Lib.hid (Kp.refl (oneP b) w)
  go_enter Tryz.func223, Tryz.ntmps223
  go_wp2_with fail
  refine HIS.out.mono ?_
  rintro _ w1 ⟨rfl, hb1⟩
  have HR1 := Lib.hid (HR0.out.below hb1)
  have HK1 := Lib.hid (HK0.out.trans (kp_below hb1))
  clear hb1 HIS HK0
  cases isq with
  | false =>
    rw [if_neg (by decide)] at HS0
    obtain rfl := HS0.out
    go_wp2_with fail
    have HTX2 := Lib.hid (HTX1.out _ HR1.out)
    go_wp2_with fail
    refine HTX2.out.mono ?_
    rintro _ w3 ⟨ad, c, rfl, hown, hr3, hk3⟩
    obtain ⟨g, hadr, hlo, hgl, hce⟩ := four_cells hown HS.out
    subst hadr
    have HR3 := Lib.hid hr3
    have HK3 := Lib.hid (HK1.out.trans hk3)
    clear hr3 hk3 HR1 HK1 HTX1 HTX2 hown
    obtain ⟨e0, e1, e2, e3⟩ := hce
    go_upto_region 3 with (fail)
    go_cut [7] (fun s7 wx => ∃ X, s7 = .pointer (some ⟨X, 0, none⟩) ∧ Cel wx X 40 [.string s0, .string s1, .string s2, .string s3, .int .i64 0, .int .i64 0] ∧ Rd wx b E q1 ∧ Kp (oneP b) w wx ∧ w.heap.size ≤ X)
    case first =>
      go_region
      all_goals
        go_wp2_with fail
        go_meet
        exact ⟨_, rfl, (Cel.new _ [.string s0, .string s1, .string s2, .string s3, .int .i64 0, .int .i64 0] 40).below (by (repeat (first | exact Bel.refl _ | refine Bel.drew ?_ | refine Bel.alloc ?_ _))), HR3.out.below (by (repeat (first | exact Bel.refl _ | refine Bel.drew ?_ | refine Bel.alloc ?_ _))), HK3.out.trans (kp_below (by (repeat (first | exact Bel.refl _ | refine Bel.drew ?_ | refine Bel.alloc ?_ _)))), by have := HK3.out.size; (try simp); omega⟩
    case rest =>
      obtain ⟨X, rfl, hx4, hr4, hk4, hwX⟩ := hcut
      obtain ⟨w4, hw4⟩ : ∃ W, W = wc := ⟨_, rfl⟩
      rw [← hw4] at hx4 hr4 hk4 ⊢
      clear hw4 e0 e1 e2 e3 hgl hlo
      have HX4 := Lib.hid hx4
      have HR4 := Lib.hid hr4
      have HK4 := Lib.hid hk4
      have hbX : b < X := Nat.lt_of_lt_of_le HR0.out.lt hwX
      have hXb : X ≠ b := by omega
      have hXL : X ≠ L := by omega
      clear hx4 hr4 hk4 HR3 HK3
      have HNA2 := Lib.hid (HNA1.out _ HR4.out)
      go_wp2_with fail
      refine HNA2.out.mono ?_
      rintro _ w5 ⟨rfl, hr5, hk5⟩
      have HR5 := Lib.hid hr5
      have HK5 := Lib.hid (HK4.out.trans hk5)
      have HX5 := Lib.hid (HX4.out.kp hk5 (oneP_ne hXb))
      clear hr5 hk5 HR4 HK4 HX4
      have x4 := HX5.out.cell 4
      simp only [List.getElem?_cons_zero, List.getElem?_cons_succ] at x4
      have xf4 := HX5.out.frz 4
      have hXl := HX5.out.lt
      go_upto_region 5 with (fail)
      have HX6 := Lib.hid (HX5.out.set 4 (.int .i64 na))
      have HR6 := Lib.hid (HR5.out.other (a := ⟨X, 4, none⟩) hbX (.int .i64 na))
      have HK6 := Lib.hid (HK5.out.setN (p := ⟨X, 4, none⟩) hwX (.int .i64 na))
      simp only [List.set_cons_zero, List.set_cons_succ] at HX6
      clear HR5 HK5 HX5 x4 xf4 hXl
      generalize w5.setCell ⟨X, 4, none⟩ (.int .i64 na) = w6 at *
      have HNC2 := Lib.hid (HNC1.out _ HR6.out)
      go_wp2_with fail
      refine HNC2.out.mono ?_
      rintro _ w7 ⟨rfl, hr7, hk7⟩
      have HR7 := Lib.hid hr7
      have HK7 := Lib.hid (HK6.out.trans hk7)
      have HX7 := Lib.hid (HX6.out.kp hk7 (oneP_ne hXb))
      clear hr7 hk7 HR6 HK6 HX6
      have x5 := HX7.out.cell 5
      simp only [List.getElem?_cons_zero, List.getElem?_cons_succ] at x5
      have xf5 := HX7.out.frz 5
      have hXl := HX7.out.lt
      go_upto_region 6 with (fail)
      have HX8 := Lib.hid (HX7.out.set 5 (.int .i64 nc))
      have HR8 := Lib.hid (HR7.out.other (a := ⟨X, 5, none⟩) hbX (.int .i64 nc))
      have HK8 := Lib.hid (HK7.out.setN (p := ⟨X, 5, none⟩) hwX (.int .i64 nc))
      simp only [List.set_cons_zero, List.set_cons_succ] at HX8
      clear HR7 HK7 HX7 x5 xf5 hXl
      generalize w7.setCell ⟨X, 5, none⟩ (.int .i64 nc) = w8 at *
      have HMA2 := Lib.hid (HMA1.out _ HR8.out)
      go_wp2_with fail
      refine HMA2.out.mono ?_
      rintro _ w9 ⟨rfl, hr9, hk9⟩
      have HR9 := Lib.hid hr9
      have HK9 := Lib.hid (HK8.out.trans hk9)
      have HX9 := Lib.hid (HX8.out.kp hk9 (oneP_ne hXb))
      clear hr9 hk9 HR8 HK8 HX8
      have HL9 := Lib.hid (HL0.out.rd HR0.out HK9.out)
      have c5 := HL9.out.cel.cell 5
      simp only [List.getElem?_cons_zero, List.getElem?_cons_succ] at c5
      have hLt := HL9.out.cel.lt
      have HOC2 := Lib.hid (HOC1.out _ HR9.out)
      go_wp2_with fail
      rw [HNE.out]
      refine HOC2.out.mono ?_
      rintro _ w10 ⟨rfl, hr10, hk10⟩
      have HR10 := Lib.hid hr10
      have HK10 := Lib.hid (HK9.out.trans hk10)
      have HX10 := Lib.hid (HX9.out.kp hk10 (oneP_ne hXb))
      clear hr10 hk10 HR9 HK9 HX9
      have HLA := Lib.hid (HL0.out.rd HR0.out HK10.out)
      clear HL9 c5 hLt
      have x0 := HX10.out.cell 0
      have x1 := HX10.out.cell 1
      have x2 := HX10.out.cell 2
      have x3 := HX10.out.cell 3
      have x4 := HX10.out.cell 4
      have x5 := HX10.out.cell 5
      simp only [List.getElem?_cons_zero, List.getElem?_cons_succ] at x0 x1 x2 x3 x4 x5
      have xf0 := HX10.out.frz 0
      have xf1 := HX10.out.frz 1
      have xf2 := HX10.out.frz 2
      have xf3 := HX10.out.frz 3
      have xf4 := HX10.out.frz 4
      have xf5 := HX10.out.frz 5
      have hXl := HX10.out.lt
      have c5 := HLA.out.cel.cell 5
      have c6 := HLA.out.cel.cell 6
      have c7 := HLA.out.cel.cell 7
      have c8 := HLA.out.cel.cell 8
      have c9 := HLA.out.cel.cell 9
      have c10 := HLA.out.cel.cell 10
      simp only [List.getElem?_cons_zero, List.getElem?_cons_succ] at c5 c6 c7 c8 c9 c10
      have f5 := HLA.out.cel.frz 5
      have f6 := HLA.out.cel.frz 6
      have f7 := HLA.out.cel.frz 7
      have f8 := HLA.out.cel.frz 8
      have f9 := HLA.out.cel.frz 9
      have f10 := HLA.out.cel.frz 10
      have hLt := HLA.out.cel.lt
      go_wp2_with fail
      go_end0
      exact ⟨rfl, by rw [HV.out]; exact ⟨_, _, _, _, _, _, _, (((((HLA.out.dec s0).grp s1).mi s2).pct s3).pri na).sec nc⟩, by rw [HV.out]; exact (((((HR10.out.other (a := ⟨L, 5, none⟩) hbL _).other (a := ⟨L, 6, none⟩) hbL _).other (a := ⟨L, 7, none⟩) hbL _).other (a := ⟨L, 8, none⟩) hbL _).other (a := ⟨L, 9, none⟩) hbL _).other (a := ⟨L, 10, none⟩) hbL _, (((((HK10.out.item.itemS (p := ⟨L, 5, none⟩) hlow _).itemS (p := ⟨L, 6, none⟩) hlow _).itemS (p := ⟨L, 7, none⟩) hlow _).itemS (p := ⟨L, 8, none⟩) hlow _).itemS (p := ⟨L, 9, none⟩) hlow _).itemS (p := ⟨L, 10, none⟩) hlow _⟩
  | true =>
    rw [if_pos rfl] at HS0
    obtain rfl := HS0.out
    have HF1 := Lib.hid (HF.out _ HR1.out)
    go_wp2_with fail
    refine HF1.out.mono ?_
    rintro _ w2 ⟨rfl, hr2, hk2⟩
    have HR2 := Lib.hid hr2
    have HK2 := Lib.hid (HK1.out.trans hk2)
    clear hr2 hk2 HR1 HK1 HF1
    go_wp2_with fail
    have HTX2 := Lib.hid (HTX1.out _ HR2.out)
    go_wp2_with fail
    refine HTX2.out.mono ?_
    rintro _ w3 ⟨ad, c, rfl, hown, hr3, hk3⟩
    obtain ⟨g, hadr, hlo, hgl, hce⟩ := four_cells hown HS.out
    subst hadr
    have HR3 := Lib.hid hr3
    have HK3 := Lib.hid (HK2.out.trans hk3)
    clear hr3 hk3 HR2 HK2 HTX1 HTX2 hown
    obtain ⟨e0, e1, e2, e3⟩ := hce
    go_upto_region 3 with (fail)
    go_cut [7] (fun s7 wx => ∃ X, s7 = .pointer (some ⟨X, 0, none⟩) ∧ Cel wx X 40 [.string s0, .string s1, .string s2, .string s3, .int .i64 0, .int .i64 0] ∧ Rd wx b E q1 ∧ Kp (oneP b) w wx ∧ w.heap.size ≤ X)
    case first =>
      go_region
      all_goals
        go_wp2_with fail
        go_meet
        exact ⟨_, rfl, (Cel.new _ [.string s0, .string s1, .string s2, .string s3, .int .i64 0, .int .i64 0] 40).below (by (repeat (first | exact Bel.refl _ | refine Bel.drew ?_ | refine Bel.alloc ?_ _))), HR3.out.below (by (repeat (first | exact Bel.refl _ | refine Bel.drew ?_ | refine Bel.alloc ?_ _))), HK3.out.trans (kp_below (by (repeat (first | exact Bel.refl _ | refine Bel.drew ?_ | refine Bel.alloc ?_ _)))), by have := HK3.out.size; (try simp); omega⟩
    case rest =>
      obtain ⟨X, rfl, hx4, hr4, hk4, hwX⟩ := hcut
      obtain ⟨w4, hw4⟩ : ∃ W, W = wc := ⟨_, rfl⟩
      rw [← hw4] at hx4 hr4 hk4 ⊢
      clear hw4 e0 e1 e2 e3 hgl hlo
      have HX4 := Lib.hid hx4
      have HR4 := Lib.hid hr4
      have HK4 := Lib.hid hk4
      have hbX : b < X := Nat.lt_of_lt_of_le HR0.out.lt hwX
      have hXb : X ≠ b := by omega
      have hXL : X ≠ L := by omega
      clear hx4 hr4 hk4 HR3 HK3
      have HNA2 := Lib.hid (HNA1.out _ HR4.out)
      go_wp2_with fail
      refine HNA2.out.mono ?_
      rintro _ w5 ⟨rfl, hr5, hk5⟩
      have HR5 := Lib.hid hr5
      have HK5 := Lib.hid (HK4.out.trans hk5)
      have HX5 := Lib.hid (HX4.out.kp hk5 (oneP_ne hXb))
      clear hr5 hk5 HR4 HK4 HX4
      have x4 := HX5.out.cell 4
      simp only [List.getElem?_cons_zero, List.getElem?_cons_succ] at x4
      have xf4 := HX5.out.frz 4
      have hXl := HX5.out.lt
      go_upto_region 5 with (fail)
      have HX6 := Lib.hid (HX5.out.set 4 (.int .i64 na))
      have HR6 := Lib.hid (HR5.out.other (a := ⟨X, 4, none⟩) hbX (.int .i64 na))
      have HK6 := Lib.hid (HK5.out.setN (p := ⟨X, 4, none⟩) hwX (.int .i64 na))
      simp only [List.set_cons_zero, List.set_cons_succ] at HX6
      clear HR5 HK5 HX5 x4 xf4 hXl
      generalize w5.setCell ⟨X, 4, none⟩ (.int .i64 na) = w6 at *
      have HNC2 := Lib.hid (HNC1.out _ HR6.out)
      go_wp2_with fail
      refine HNC2.out.mono ?_
      rintro _ w7 ⟨rfl, hr7, hk7⟩
      have HR7 := Lib.hid hr7
      have HK7 := Lib.hid (HK6.out.trans hk7)
      have HX7 := Lib.hid (HX6.out.kp hk7 (oneP_ne hXb))
      clear hr7 hk7 HR6 HK6 HX6
      have x5 := HX7.out.cell 5
      simp only [List.getElem?_cons_zero, List.getElem?_cons_succ] at x5
      have xf5 := HX7.out.frz 5
      have hXl := HX7.out.lt
      go_upto_region 6 with (fail)
      have HX8 := Lib.hid (HX7.out.set 5 (.int .i64 nc))
      have HR8 := Lib.hid (HR7.out.other (a := ⟨X, 5, none⟩) hbX (.int .i64 nc))
      have HK8 := Lib.hid (HK7.out.setN (p := ⟨X, 5, none⟩) hwX (.int .i64 nc))
      simp only [List.set_cons_zero, List.set_cons_succ] at HX8
      clear HR7 HK7 HX7 x5 xf5 hXl
      generalize w7.setCell ⟨X, 5, none⟩ (.int .i64 nc) = w8 at *
      have HMA2 := Lib.hid (HMA1.out _ HR8.out)
      go_wp2_with fail
      refine HMA2.out.mono ?_
      rintro _ w9 ⟨rfl, hr9, hk9⟩
      have HR9 := Lib.hid hr9
      have HK9 := Lib.hid (HK8.out.trans hk9)
      have HX9 := Lib.hid (HX8.out.kp hk9 (oneP_ne hXb))
      clear hr9 hk9 HR8 HK8 HX8
      have HL9 := Lib.hid (HL0.out.rd HR0.out HK9.out)
      have c5 := HL9.out.cel.cell 5
      simp only [List.getElem?_cons_zero, List.getElem?_cons_succ] at c5
      have hLt := HL9.out.cel.lt
      have HOC2 := Lib.hid (HOC1.out _ HR9.out)
      go_wp2_with fail
      rw [HNE.out]
      refine HOC2.out.mono ?_
      rintro _ w10 ⟨rfl, hr10, hk10⟩
      have HR10 := Lib.hid hr10
      have HK10 := Lib.hid (HK9.out.trans hk10)
      have HX10 := Lib.hid (HX9.out.kp hk10 (oneP_ne hXb))
      clear hr10 hk10 HR9 HK9 HX9
      have HLA := Lib.hid (HL0.out.rd HR0.out HK10.out)
      clear HL9 c5 hLt
      have x0 := HX10.out.cell 0
      have x1 := HX10.out.cell 1
      have x2 := HX10.out.cell 2
      have x3 := HX10.out.cell 3
      have x4 := HX10.out.cell 4
      have x5 := HX10.out.cell 5
      simp only [List.getElem?_cons_zero, List.getElem?_cons_succ] at x0 x1 x2 x3 x4 x5
      have xf0 := HX10.out.frz 0
      have xf1 := HX10.out.frz 1
      have xf2 := HX10.out.frz 2
      have xf3 := HX10.out.frz 3
      have xf4 := HX10.out.frz 4
      have xf5 := HX10.out.frz 5
      have hXl := HX10.out.lt
      have c5 := HLA.out.cel.cell 5
      have c6 := HLA.out.cel.cell 6
      have c7 := HLA.out.cel.cell 7
      have c8 := HLA.out.cel.cell 8
      have c9 := HLA.out.cel.cell 9
      have c10 := HLA.out.cel.cell 10
      simp only [List.getElem?_cons_zero, List.getElem?_cons_succ] at c5 c6 c7 c8 c9 c10
      have f5 := HLA.out.cel.frz 5
      have f6 := HLA.out.cel.frz 6
      have f7 := HLA.out.cel.frz 7
      have f8 := HLA.out.cel.frz 8
      have f9 := HLA.out.cel.frz 9
      have f10 := HLA.out.cel.frz 10
      have hLt := HLA.out.cel.lt
      go_wp2_with fail
      go_end0
      exact ⟨rfl, by rw [HV.out]; exact ⟨_, _, _, _, _, _, _, (((((HLA.out.dec s0).grp s1).mi s2).pct s3).pri na).sec nc⟩, by rw [HV.out]; exact (((((HR10.out.other (a := ⟨L, 5, none⟩) hbL _).other (a := ⟨L, 6, none⟩) hbL _).other (a := ⟨L, 7, none⟩) hbL _).other (a := ⟨L, 8, none⟩) hbL _).other (a := ⟨L, 9, none⟩) hbL _).other (a := ⟨L, 10, none⟩) hbL _, (((((HK10.out.item.itemS (p := ⟨L, 5, none⟩) hlow _).itemS (p := ⟨L, 6, none⟩) hlow _).itemS (p := ⟨L, 7, none⟩) hlow _).itemS (p := ⟨L, 8, none⟩) hlow _).itemS (p := ⟨L, 9, none⟩) hlow _).itemS (p := ⟨L, 10, none⟩) hlow _⟩
end Go.Proofs.YtmleeodfmmpdgaaGreatDoor
/- Walks: an item of a locale. -/
namespace Go.Proofs.YtmleeodfmmpdgaaGreatDoor
open Go.RowKit
attribute [local go_sem] Ext.cell Ext.frozen
attribute [local go_sem ↓] Go.wp_at_zero Go.wp_at_succ
/-- an item by its number -/
theorem items_any (k : Nat) (b : Nat) (E : Int) (base L : Nat) (p : Int) (y : Lc) (r : RS) (w : World) (hr : Rd w b E r) (hb : b < base) (hl : LocAt base w L y) (hM : MaxAt base w) (hf : LcFew 0 y) : Calls Tryz.prog (fnN k) #[.pointer (some ⟨b, 0, none⟩), .int .i64 p, .pointer (some ⟨L, 0, none⟩)] w (ItemP b E base L w (itN k E p y r)) := by
  have h1 := hf.card
  have h2 := hf.ord
  have h3 := hf.lists
  have h4 := hf.units
  have h5 := hf.dates
  have h6 := hf.months
  have h7 := hf.days
  match k with
  | 0 => exact idir_any b E base L p y r w hr hb hl
  | 1 => exact icard_any b E base L p y r w hr hb hl hM (by omega)
  | 2 => exact iord_any b E base L p y r w hr hb hl hM (by omega)
  | 3 => exact isym_any b E base L p y r w hr hb hl
  | 4 => exact ilist_any b E base L p y r w hr hb hl (by omega)
  | 5 => exact iunit_any b E base L p y r w hr hb hl (by omega)
  | 6 => exact idate_any b E base L p y r w hr hb hl (by omega)
  | 7 => exact imon_any b E base L p y r w hr hb hl (by omega)
  | _ + 8 => exact iday_any b E base L p y r w hr hb hl (by omega)
set_option maxRecDepth 20000 in
set_option maxHeartbeats 4000000 in
theorem item_any (b : Nat) (E : Int) (base L : Nat) (y : Lc) (r : RS) (w : World) (hr : Rd w b E r) (hb : b < base) (hl : LocAt base w L y) (hM : MaxAt base w) (hf : LcFew 0 y) : Calls Tryz.prog 119 #[.pointer (some ⟨b, 0, none⟩), .pointer (some ⟨L, 0, none⟩)] w (ItemP b E base L w (tItem E y r)) := by
  have hmf : ∀ (fn : Fn) (first cap : Array Value) (w : World), (Instr.makeFunc fn first cap).run Tryz.prog w = .ok (.func fn first cap) w := fun _ _ _ _ => rfl
  have HIT := Lib.hid (fun k p q W (g : Rd W b E q) (gl : LocAt base W L y) (gm : MaxAt base W) => items_any k b E base L p y q W g hb gl gm hf)
  have HP := Lib.hid (peek_any b E r w hr)
  have HF := Lib.hid (fun W (g : Rd W b E r) => fail_any b E r 3 W g)
  have HWO := Lib.hid (fun W (g : Rd W b E r) => word_any b E r W g)
  have HV : Hid (tItem E y r = if idxP (keyP (r.peek E)) 9 < 0 then (y, r.fail E 3) else itN (idxP (keyP (r.peek E)) 9).toNat E (r.peek E).2.2 y (r.word E).2) := rfl
  have HR := Lib.hid hr
  have HL := Lib.hid hl
  have HM := Lib.hid hM
  unfold RdP at HF HWO
  unfold tokV at HP
  unfold ItemP at HIT ⊢
  clear hr hl hM hf
  generalize tItem E y r = res at *
  generalize r.peek E = t at *
  obtain ⟨k', s', f⟩ := t
  simp only at HP HV
  generalize r.fail E 3 = rf at *
  generalize r.word E = rw at *
  obtain ⟨ws, q1⟩ := rw
  simp only at HWO HV
  have HKY : Hid (∀ kb i (fn : Value) W, Cel W kb 109 [.int .i64 k', .string (bs s'), .int .i64 f] → Calls Tryz.prog 177 #[.agg #[.string (bs (keyL.getD i [])), fn], .pointer (some ⟨kb, 0, none⟩)] W fun e w' => e = .returned (.bool (keyP (k', s', f) i)) ∧ Below W.heap.size W w') := fun kb i fn W hc => itemKey_any kb k' s' f _ fn W hc
  generalize keyP (k', s', f) = kp at *
  generalize bs s' = S at *
  generalize bs ws = WS at *
  have hbL : b < L := Nat.lt_of_lt_of_le hb HL.out.lt.1
  go_enter Tryz.func119, Tryz.ntmps119
  go_wp2_with fail
  refine HP.out.mono ?_
  rintro _ w1 ⟨rfl, hb1⟩
  have HB1 := Lib.hid hb1
  clear hb1 HP
  go_upto_region 1 with (fail)
  have HB2 : Hid (Below w.heap.size w (w1.alloc (.cells #[.int .i64 k', .string S, .int .i64 f] 109))) := HB1.out.alloc HB1.out.size _
  have HX2 : Hid (Cel (w1.alloc (.cells #[.int .i64 k', .string S, .int .i64 f] 109)) w1.heap.size 109 [.int .i64 k', .string S, .int .i64 f]) := Cel.new w1 _ _
  have hwB : w.heap.size ≤ w1.heap.size := HB1.out.size
  generalize w1.alloc (.cells #[.int .i64 k', .string S, .int .i64 f] 109) = w2 at *
  obtain ⟨B, hB⟩ : ∃ B, w1.heap.size = B := ⟨_, rfl⟩
  rw [hB] at HX2 hwB ⊢
  clear hB HB1
  have hBb : B ≠ b := by have := HR.out.lt; omega
  go_wp2_with fail
  refine (entries_any w2).mono ?_
  rintro _ w3 ⟨ad, c, bb, rfl, hrw, hb3⟩
  have HX3 := Lib.hid (HX2.out.below hb3)
  have HB3 := Lib.hid (HB2.out.trans (hb3.mono HB2.out.size))
  have HI := Lib.hid (idx_en kp 177 #[.pointer (some ⟨B, 0, none⟩)] (enters_of Tryz.func177 (by kernel_rfl) rfl) ad 9 c entF bb 0 w3 hrw (fun W i hi hW => HKY.out B i _ W (HX3.out.below hW)))
  clear hrw hb3 HX2 HB2 HKY
  go_wp2_with fail
  refine HI.out.mono ?_
  rintro _ w4 ⟨rfl, hb4⟩
  have HX4 := Lib.hid (HX3.out.below hb4)
  have HB4 := Lib.hid (HB3.out.trans (hb4.mono HB3.out.size))
  have HR4 := Lib.hid (HR.out.below HB4.out)
  clear hb4 HX3 HB3 HI
  rcases idxP_cases kp 9 with ⟨k, hk, hp, _, e⟩ | ⟨_, e⟩
  · have hkn : ¬ ((k : Int) < 0) := by omega
    rw [e] at HV ⊢
    rw [if_neg hkn, Int.toNat_natCast] at HV
    have HWO1 := Lib.hid (HWO.out w4 HR4.out)
    clear HF HWO e hp
    go_wp2_with fail
    refine HWO1.out.mono ?_
    rintro _ w5 ⟨rfl, hr5, hk5⟩
    have HR5 := Lib.hid hr5
    have HK5 := Lib.hid ((kp_below HB4.out).trans hk5 : Kp (oneP b) w w5)
    have HX5 := Lib.hid (HX4.out.kp hk5 (oneP_ne hBb))
    clear hr5 hk5 HR4 HB4 HX4 HWO1
    go_upto_region 5 with (fail)
    refine wp_region_until 9 (fun w' => w'.cell? ⟨B, 2, none⟩ = some (.int .i64 f)) (by kernel_rfl) (HX5.out.cell 2) (fun hS0 => ?_)
    have HR6 := Lib.hid (HR5.out.below (Bel.drew (Bel.refl w5)))
    have HX6 := Lib.hid (HX5.out.below (Bel.drew (Bel.refl w5)))
    have HK6 := Lib.hid (HK5.out.trans (kp_below (Bel.drew (Bel.refl w5))))
    clear HR5 HX5 HK5
    refine wpAnyG_takeM [9, 4, 3, 2] (i := 1) (v := ?_) rfl (by kernel_rfl) (by kernel_rfl) (by kernel_rfl) (fun _ _ _ h => h) (by kernel_rfl) (Or.inl ⟨by kernel_rfl, ?_⟩) hS0 ?_
    rotate_left
    · (intro wx hSw; go_simp; try with_reducible rfl)
    try simp only [Act.put, List.getElem_toArray, List.getElem_cons_succ, List.getElem_cons_zero, List.setIfInBounds_toArray, List.set_cons_zero, List.set_cons_succ]
    refine wpAnyG_take (i := 5) (v := ?_) rfl (by kernel_rfl) (by kernel_rfl) (by kernel_rfl) (fun _ _ _ h => h) (by kernel_rfl) (by decide) (by kernel_rfl) (Or.inl ⟨by kernel_rfl, ?_⟩) hS0 ?_
    rotate_left
    · (intro wx hSw; go_simp; try with_reducible rfl)
    try simp only [Act.put, List.getElem_toArray, List.getElem_cons_succ, List.getElem_cons_zero, List.setIfInBounds_toArray, List.set_cons_zero, List.set_cons_succ]
    refine wpAnyG_takeM [9, 7] (i := 6) (v := ?_) rfl (by kernel_rfl) (by kernel_rfl) (by kernel_rfl) (fun _ _ _ h => h) (by kernel_rfl) (Or.inl ⟨by kernel_rfl, ?_⟩) hS0 ?_
    rotate_left
    · (intro wx hSw; go_simp; try with_reducible rfl)
    try simp only [Act.put, List.getElem_toArray, List.getElem_cons_succ, List.getElem_cons_zero, List.setIfInBounds_toArray, List.set_cons_zero, List.set_cons_succ]
    refine wpAnyG_take (i := 7) (v := ?_) rfl (by kernel_rfl) (by kernel_rfl) (by kernel_rfl) (fun _ _ _ h => h) (by kernel_rfl) (by decide) (by kernel_rfl) (Or.inl ⟨by kernel_rfl, ?_⟩) hS0 ?_
    rotate_left
    · (intro wx hSw; go_simp; try with_reducible rfl)
    try simp only [Act.put, List.getElem_toArray, List.getElem_cons_succ, List.getElem_cons_zero, List.setIfInBounds_toArray, List.set_cons_zero, List.set_cons_succ]
    refine wpAnyG_take (i := 8) (v := ?_) rfl (by kernel_rfl) (by kernel_rfl) (by kernel_rfl) (fun _ _ _ h => h) (by kernel_rfl) (by decide) (by kernel_rfl) (Or.inl ⟨by kernel_rfl, ?_⟩) hS0 ?_
    rotate_left
    · (intro wx hSw; go_simp; try with_reducible rfl)
    try simp only [Act.put, List.getElem_toArray, List.getElem_cons_succ, List.getElem_cons_zero, List.setIfInBounds_toArray, List.set_cons_zero, List.set_cons_succ]
    generalize w5.drew = p0 at *
    refine wpAnyG_ready (rs := [0]) (by kernel_rfl) (by simp) ?_
    refine AllReadyG.cons rfl (fun K hK => ?_) AllReadyG.nil
    go_simp
    refine (entries_any p0).mono ?_
    rintro _ p1 ⟨ad1, c1, bb1, rfl, hrw, hb1⟩
    have HR7 := Lib.hid (HR6.out.below hb1)
    have HX7 := Lib.hid (HX6.out.below hb1)
    have HK7 := Lib.hid (HK6.out.trans (kp_below hb1))
    have HRW := Lib.hid hrw
    clear hrw hb1 HR6 HX6 HK6
    go_simp
    refine hK.out _ _ (fun _ => HX7.out.cell 2) (fun _ => ?_)
    clear hK K
    try simp only [Act.put, List.getElem_toArray, List.getElem_cons_succ, List.getElem_cons_zero, List.setIfInBounds_toArray, List.set_cons_zero, List.set_cons_succ]
    have hix := HRW.out.ix (P := Tryz.prog) 211 214 Tryz.underlying211 (by kernel_rfl) (by decide) hk c1
    have hcf := HRW.out.cell k 1 hk (by decide)
    rw [show entF k 1 = .func (.func (fnN k)) #[] #[] from rfl, Nat.zero_add] at hcf
    refine wpAnyG_ready (rs := [2]) (by kernel_rfl) (by simp) ?_
    refine AllReadyG.cons rfl (fun K hK => ?_) AllReadyG.nil
    go_simp
    refine hK.out _ _ (fun _ => HX7.out.cell 2) (fun _ => ?_)
    clear hK K
    try simp only [Act.put, List.getElem_toArray, List.getElem_cons_succ, List.getElem_cons_zero, List.setIfInBounds_toArray, List.set_cons_zero, List.set_cons_succ]
    refine wpAnyG_ready (rs := [3]) (by kernel_rfl) (by simp) ?_
    refine AllReadyG.cons rfl (fun K hK => ?_) AllReadyG.nil
    go_simp
    refine hK.out _ _ (fun _ => HX7.out.cell 2) (fun _ => ?_)
    clear hK K
    try simp only [Act.put, List.getElem_toArray, List.getElem_cons_succ, List.getElem_cons_zero, List.setIfInBounds_toArray, List.set_cons_zero, List.set_cons_succ]
    refine wpAnyG_ready (rs := [4]) (by kernel_rfl) (by simp) ?_
    refine AllReadyG.cons rfl (fun K hK => ?_) AllReadyG.nil
    go_simp
    refine hK.out _ _ (fun _ => HX7.out.cell 2) (fun _ => ?_)
    clear hK K
    try simp only [Act.put, List.getElem_toArray, List.getElem_cons_succ, List.getElem_cons_zero, List.setIfInBounds_toArray, List.set_cons_zero, List.set_cons_succ]
    refine wpAnyG_ready (rs := [9]) (by kernel_rfl) (by simp) ?_
    refine AllReadyG.cons rfl (fun K hK => ?_) AllReadyG.nil
    have eg := enters_item k
    have HI1 := Lib.hid (HIT.out k f q1 p1 HR7.out (HL.out.rd HR.out HK7.out) (HM.out.kp HR.out HK7.out.item))
    go_simp
    refine HI1.out.mono ?_
    rintro _ p2 ⟨rfl, hl2, hr2, hk2⟩
    go_simp
    refine hK.out _ _ (fun h => by cases h) (fun _ => ?_)
    clear hK K
    refine wpAnyG_done (by kernel_rfl) ?_ _
    go_end0
    exact ⟨rfl, by rw [HV.out]; exact hl2, by rw [HV.out]; exact hr2, HK7.out.item.trans hk2⟩
  · rw [e] at HV ⊢
    rw [if_pos (by decide)] at HV
    have HF1 := Lib.hid (HF.out w4 HR4.out)
    clear HF HWO e
    go_wp2_with fail
    refine HF1.out.mono ?_
    rintro _ w5 ⟨rfl, hr5, hk5⟩
    go_wp2_with fail
    ((try simp only [Exit.inBlock, Exit.then]); refine bodyPost_ret (results_none rfl _ _ _) rfl ?_)
    have hk6 : Kp (oneP b) w w5 := (kp_below HB4.out).trans hk5
    exact ⟨rfl, by rw [HV.out]; exact HL.out.rd HR.out hk6, by rw [HV.out]; exact hr5, hk6.item⟩
end Go.Proofs.YtmleeodfmmpdgaaGreatDoor
