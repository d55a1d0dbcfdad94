/- Walks: a locale. -/
import Derived.Test.YtmleeodfmmpdgaaGreatDoorQ26
namespace Go.Proofs.YtmleeodfmmpdgaaGreatDoor
open Go.RowKit
attribute [local go_sem] Ext.cell Ext.frozen
attribute [local go_sem ↓] Go.wp_at_zero Go.wp_at_succ
def rowTs : List TypeId := [51, 91, 94, 152, 130, 132, 134, 9]
theorem LocV.lcC {base : Nat} {w : World} {L : Nat} {y : Lc} {v3 v4 v11 v12 v13 v14 v15 : Value} (h : LocV base w L y v3 v4 v11 v12 v13 v14 v15) (hs : LcSz y) (hf : LcFew 1 y) : LcC (see base rowTs w) (fun j => (#[.string y.tag, .string y.par, .string y.dir, v3, v4, .string y.dec, .string y.grp, .string y.mi, .string y.pct, .int .i64 y.pri, .int .i64 y.sec, v11, v12, v13, v14, v15] : Array Value).getD j undef) y := by
  have n3 : y.card.length ≤ 140737488351232 := Nat.le_trans hf.card (by decide)
  have n4 : y.ord.length ≤ 140737488351232 := Nat.le_trans hf.ord (by decide)
  have n11 : y.lists.length ≤ 140737488351232 := Nat.le_trans hf.lists (by decide)
  have n12 : y.units.length ≤ 140737488351232 := Nat.le_trans hf.units (by decide)
  have n13 : y.dates.length ≤ 140737488351232 := Nat.le_trans hf.dates (by decide)
  have n14 : y.months.length ≤ 140737488351232 := Nat.le_trans hf.months (by decide)
  have n15 : y.days.length ≤ 140737488351232 := Nat.le_trans hf.days (by decide)
  have big : ∀ {s : ByteArray}, s.size ≤ 200000 → s.size ≤ 140737488351232 := fun h => Nat.le_trans h (by decide)
  have num : ∀ {z : Int}, 0 ≤ z ∧ z ≤ 1000000 → -9223372036854775808 ≤ z ∧ z ≤ 9223372036854775807 := fun h => ⟨by omega, by omega⟩
  have up : ∀ ts, (∀ T, T ∈ ts → T ∈ rowTs) → Sub (see base ts w) (see base rowTs w) := fun ts h => see_le w (Nat.le_refl _) h
  exact ⟨⟨rfl, big hs.tag⟩, ⟨rfl, big hs.par⟩, ⟨rfl, big hs.dir⟩, (h.g3.rows mRuC n3).sub (up _ (by decide)) fun _ _ g => mRuC _ _ _ _ (up _ (by decide)) g, (h.g4.rows mRuC n4).sub (up _ (by decide)) fun _ _ g => mRuC _ _ _ _ (up _ (by decide)) g,
    ⟨rfl, big hs.dec⟩, ⟨rfl, big hs.grp⟩, ⟨rfl, big hs.mi⟩, ⟨rfl, big hs.pct⟩, ⟨rfl, num hs.pri⟩, ⟨rfl, num hs.sec⟩,
    (h.g11.rows mLpC n11).sub (up _ (by decide)) fun _ _ g => mLpC _ _ _ _ (up [130] (by decide)) g, (h.g12.rows mUpC n12).sub (up _ (by decide)) fun _ _ g => mUpC _ _ _ _ (up [132] (by decide)) g, (h.g13.rows mDpC n13).sub (up _ (by decide)) fun _ _ g => mDpC _ _ _ _ (up [134] (by decide)) g,
    (h.g14.rows mStC n14).sub (up _ (by decide)) fun _ _ g => g, (h.g15.rows mStC n15).sub (up _ (by decide)) fun _ _ g => g⟩
theorem LocV.new {w : World} {L : Nat} {tag par : ByteArray} (h : Cel w L 46 [.string tag, .string par, .string ⟨#[]⟩, .slice none 0 0, .slice none 0 0, .string ⟨#[]⟩, .string ⟨#[]⟩, .string ⟨#[]⟩, .string ⟨#[]⟩, .int .i64 0, .int .i64 0, .slice none 0 0, .slice none 0 0, .slice none 0 0, .slice none 0 0, .slice none 0 0]) : LocV L w L (lc0 tag par) (.slice none 0 0) (.slice none 0 0) (.slice none 0 0) (.slice none 0 0) (.slice none 0 0) (.slice none 0 0) (.slice none 0 0) :=
  ⟨h, Nat.le_refl _, Grow.nil _ _ _ _ _ _, Grow.nil _ _ _ _ _ _, Grow.nil _ _ _ _ _ _, Grow.nil _ _ _ _ _ _, Grow.nil _ _ _ _ _ _, Grow.nil _ _ _ _ _ _, Grow.nil _ _ _ _ _ _, Apart.none _ _ _⟩
theorem LcSz.new {tag par : ByteArray} (h1 : tag.size ≤ 200000) (h2 : par.size ≤ 200000) : LcSz (lc0 tag par) := ⟨h1, h2, Nat.zero_le _, Nat.zero_le _, Nat.zero_le _, Nat.zero_le _, Nat.zero_le _, ⟨Int.le_refl _, by show (0 : Int) ≤ _; decide⟩, ⟨Int.le_refl _, by show (0 : Int) ≤ _; decide⟩⟩
theorem LcFew.new (tag par : ByteArray) : LcFew 0 (lc0 tag par) := ⟨Nat.zero_le _, Nat.zero_le _, Nat.zero_le _, Nat.zero_le _, Nat.zero_le _, Nat.zero_le _, Nat.zero_le _⟩
/-- what a locale leaves -/
def LocP (b : Nat) (E : Int) (w : World) (res : Lc × RS) (e : Ending) (w' : World) : Prop :=
  ∃ f : Nat → Value, e = .returned (.agg #[f 0, f 1, f 2, f 3, f 4, f 5, f 6, f 7, f 8, f 9, f 10, f 11, f 12, f 13, f 14, f 15]) ∧ LcC (see w.heap.size rowTs w') f res.1 ∧ Rd w' b E res.2 ∧ Kp (oneP b) w w'
/-- the text of a function behind a region -/
def pastReg (n : Nat) : Code → Code
  | .seq a b => match a with
    | .region k _ _ => if k = n then b else pastReg n b
    | .seq (.region k _ _) c => if k = n then .seq c b else pastReg n b
    | _ => pastReg n b
  | c => c
noncomputable def locD (n : Nat) : Code := pastReg n ((Tryz.f58.body).getD .skip)
noncomputable def locC (n : Nat) : Code := fromReg n ((Tryz.f58.body).getD .skip)
set_option maxRecDepth 20000 in
set_option maxHeartbeats 4000000 in
theorem loc_9 (b : Nat) (E : Int) (q : RS) (y : Lc) (w w9 : World) (n0 L : Nat) (u1 u4 u5 u6 u7 u8 u9 u10 u11 u12 u13 u14 u15 u16 u17 u18 u19 u20 u21 u22 u23 u24 u25 u26 u27 u28 u29 u30 : Value) (hn0 : w.heap.size = n0) (hb : b < n0) (hL : n0 < L) (hr : Rd w9 b E q) (hl : LocAt L w9 L y) (hN : Cel w9 n0 46 [.string ⟨#[]⟩, .string ⟨#[]⟩, .string ⟨#[]⟩, .slice none 0 0, .slice none 0 0, .string ⟨#[]⟩, .string ⟨#[]⟩, .string ⟨#[]⟩, .string ⟨#[]⟩, .int .i64 0, .int .i64 0, .slice none 0 0, .slice none 0 0, .slice none 0 0, .slice none 0 0, .slice none 0 0]) (hk : Kp (oneP b) w w9) (hs : LcSz y) (hf : LcFew 1 y) :
    (locC 9).wp Tryz.prog (bodyPost Tryz.prog Tryz.f58 (LocP b E w (y, q))) ⟨#[.pointer (some ⟨b, 0, none⟩), u1, .pointer (some ⟨n0, 0, none⟩), .pointer (some ⟨L, 0, none⟩), u4, u5, u6, u7, u8, u9, u10, u11, u12, u13, u14, u15, u16, u17, u18, u19, u20, u21, u22, u23, u24, u25, u26, u27, u28, u29, u30], []⟩ w9 := by
  obtain ⟨v3, v4, v11, v12, v13, v14, v15, hl⟩ := hl
  obtain ⟨a3, k3, hv⟩ := hl.g3.shape
  subst hv
  obtain ⟨a4, k4, hv⟩ := hl.g4.shape
  subst hv
  obtain ⟨a11, k11, hv⟩ := hl.g11.shape
  subst hv
  obtain ⟨a12, k12, hv⟩ := hl.g12.shape
  subst hv
  obtain ⟨a13, k13, hv⟩ := hl.g13.shape
  subst hv
  obtain ⟨a14, k14, hv⟩ := hl.g14.shape
  subst hv
  obtain ⟨a15, k15, hv⟩ := hl.g15.shape
  subst hv
  have HL9 := Lib.hid hl
  have HN9 := Lib.hid hN
  have HK9 := Lib.hid hk
  have HR9 := Lib.hid hr
  unfold LocP
  clear hl hN hk hr
  rw [hn0]
  unfold locC
  try dsimp only
  conv => arg 2; whnf
  have c0 := HL9.out.cel.cell 0
  have r0 := HN9.out.cell 0
  have g0 := HN9.out.frz 0
  have c1 := HL9.out.cel.cell 1
  have r1 := HN9.out.cell 1
  have g1 := HN9.out.frz 1
  have c2 := HL9.out.cel.cell 2
  have r2 := HN9.out.cell 2
  have g2 := HN9.out.frz 2
  have c3 := HL9.out.cel.cell 3
  have r3 := HN9.out.cell 3
  have g3 := HN9.out.frz 3
  have c4 := HL9.out.cel.cell 4
  have r4 := HN9.out.cell 4
  have g4 := HN9.out.frz 4
  have c5 := HL9.out.cel.cell 5
  have r5 := HN9.out.cell 5
  have g5 := HN9.out.frz 5
  have c6 := HL9.out.cel.cell 6
  have r6 := HN9.out.cell 6
  have g6 := HN9.out.frz 6
  have c7 := HL9.out.cel.cell 7
  have r7 := HN9.out.cell 7
  have g7 := HN9.out.frz 7
  have c8 := HL9.out.cel.cell 8
  have r8 := HN9.out.cell 8
  have g8 := HN9.out.frz 8
  have c9 := HL9.out.cel.cell 9
  have r9 := HN9.out.cell 9
  have g9 := HN9.out.frz 9
  have c10 := HL9.out.cel.cell 10
  have r10 := HN9.out.cell 10
  have g10 := HN9.out.frz 10
  have c11 := HL9.out.cel.cell 11
  have r11 := HN9.out.cell 11
  have g11 := HN9.out.frz 11
  have c12 := HL9.out.cel.cell 12
  have r12 := HN9.out.cell 12
  have g12 := HN9.out.frz 12
  have c13 := HL9.out.cel.cell 13
  have r13 := HN9.out.cell 13
  have g13 := HN9.out.frz 13
  have c14 := HL9.out.cel.cell 14
  have r14 := HN9.out.cell 14
  have g14 := HN9.out.frz 14
  have c15 := HL9.out.cel.cell 15
  have r15 := HN9.out.cell 15
  have g15 := HN9.out.frz 15
  simp only [List.getElem?_cons_zero, List.getElem?_cons_succ] at c0 r0 c1 r1 c2 r2 c3 r3 c4 r4 c5 r5 c6 r6 c7 r7 c8 r8 c9 r9 c10 r10 c11 r11 c12 r12 c13 r13 c14 r14 c15 r15
  have hLt := HL9.out.cel.lt
  have hNt := HN9.out.lt
  go_wp2_with fail
  have hN10 := ((((((((((((((((HN9.out.set 0 (.string y.tag)).set 1 (.string y.par)).set 2 (.string y.dir)).set 3 (.slice a3 y.card.length k3)).set 4 (.slice a4 y.ord.length k4)).set 5 (.string y.dec)).set 6 (.string y.grp)).set 7 (.string y.mi)).set 8 (.string y.pct)).set 9 (.int .i64 y.pri)).set 10 (.int .i64 y.sec)).set 11 (.slice a11 y.lists.length k11)).set 12 (.slice a12 y.units.length k12)).set 13 (.slice a13 y.dates.length k13)).set 14 (.slice a14 y.months.length k14)).set 15 (.slice a15 y.days.length k15))
  have hk10 : Kp (oneP n0) w9 ((((((((((((((((w9.setCell ⟨n0, 0, none⟩ (.string y.tag)).setCell ⟨n0, 1, none⟩ (.string y.par)).setCell ⟨n0, 2, none⟩ (.string y.dir)).setCell ⟨n0, 3, none⟩ (.slice a3 y.card.length k3)).setCell ⟨n0, 4, none⟩ (.slice a4 y.ord.length k4)).setCell ⟨n0, 5, none⟩ (.string y.dec)).setCell ⟨n0, 6, none⟩ (.string y.grp)).setCell ⟨n0, 7, none⟩ (.string y.mi)).setCell ⟨n0, 8, none⟩ (.string y.pct)).setCell ⟨n0, 9, none⟩ (.int .i64 y.pri)).setCell ⟨n0, 10, none⟩ (.int .i64 y.sec)).setCell ⟨n0, 11, none⟩ (.slice a11 y.lists.length k11)).setCell ⟨n0, 12, none⟩ (.slice a12 y.units.length k12)).setCell ⟨n0, 13, none⟩ (.slice a13 y.dates.length k13)).setCell ⟨n0, 14, none⟩ (.slice a14 y.months.length k14)).setCell ⟨n0, 15, none⟩ (.slice a15 y.days.length k15)) := (((((((((((((((((Kp.refl _ w9).set (p := ⟨n0, 0, none⟩) (oneP_self n0) (.string y.tag)).set (p := ⟨n0, 1, none⟩) (oneP_self n0) (.string y.par)).set (p := ⟨n0, 2, none⟩) (oneP_self n0) (.string y.dir)).set (p := ⟨n0, 3, none⟩) (oneP_self n0) (.slice a3 y.card.length k3)).set (p := ⟨n0, 4, none⟩) (oneP_self n0) (.slice a4 y.ord.length k4)).set (p := ⟨n0, 5, none⟩) (oneP_self n0) (.string y.dec)).set (p := ⟨n0, 6, none⟩) (oneP_self n0) (.string y.grp)).set (p := ⟨n0, 7, none⟩) (oneP_self n0) (.string y.mi)).set (p := ⟨n0, 8, none⟩) (oneP_self n0) (.string y.pct)).set (p := ⟨n0, 9, none⟩) (oneP_self n0) (.int .i64 y.pri)).set (p := ⟨n0, 10, none⟩) (oneP_self n0) (.int .i64 y.sec)).set (p := ⟨n0, 11, none⟩) (oneP_self n0) (.slice a11 y.lists.length k11)).set (p := ⟨n0, 12, none⟩) (oneP_self n0) (.slice a12 y.units.length k12)).set (p := ⟨n0, 13, none⟩) (oneP_self n0) (.slice a13 y.dates.length k13)).set (p := ⟨n0, 14, none⟩) (oneP_self n0) (.slice a14 y.months.length k14)).set (p := ⟨n0, 15, none⟩) (oneP_self n0) (.slice a15 y.days.length k15))
  refine bodyPost_ret (results_cell_row rfl _ _ n0 46 #[.string y.tag, .string y.par, .string y.dir, .slice a3 y.card.length k3, .slice a4 y.ord.length k4, .string y.dec, .string y.grp, .string y.mi, .string y.pct, .int .i64 y.pri, .int .i64 y.sec, .slice a11 y.lists.length k11, .slice a12 y.units.length k12, .slice a13 y.dates.length k13, .slice a14 y.months.length k14, .slice a15 y.days.length k15] (0, 0) _ rfl hN10 Tryz.underlying46 rfl (by kernel_rfl)) rfl ?_
  have hup : Sub (see L rowTs w9) (see n0 rowTs ((((((((((((((((w9.setCell ⟨n0, 0, none⟩ (.string y.tag)).setCell ⟨n0, 1, none⟩ (.string y.par)).setCell ⟨n0, 2, none⟩ (.string y.dir)).setCell ⟨n0, 3, none⟩ (.slice a3 y.card.length k3)).setCell ⟨n0, 4, none⟩ (.slice a4 y.ord.length k4)).setCell ⟨n0, 5, none⟩ (.string y.dec)).setCell ⟨n0, 6, none⟩ (.string y.grp)).setCell ⟨n0, 7, none⟩ (.string y.mi)).setCell ⟨n0, 8, none⟩ (.string y.pct)).setCell ⟨n0, 9, none⟩ (.int .i64 y.pri)).setCell ⟨n0, 10, none⟩ (.int .i64 y.sec)).setCell ⟨n0, 11, none⟩ (.slice a11 y.lists.length k11)).setCell ⟨n0, 12, none⟩ (.slice a12 y.units.length k12)).setCell ⟨n0, 13, none⟩ (.slice a13 y.dates.length k13)).setCell ⟨n0, 14, none⟩ (.slice a14 y.months.length k14)).setCell ⟨n0, 15, none⟩ (.slice a15 y.days.length k15))) := (see_sub (hk10.kptO HN9.out (by decide))).trans (see_le _ (by omega) fun _ h => h)
  exact ⟨fun j => (#[.string y.tag, .string y.par, .string y.dir, .slice a3 y.card.length k3, .slice a4 y.ord.length k4, .string y.dec, .string y.grp, .string y.mi, .string y.pct, .int .i64 y.pri, .int .i64 y.sec, .slice a11 y.lists.length k11, .slice a12 y.units.length k12, .slice a13 y.dates.length k13, .slice a14 y.months.length k14, .slice a15 y.days.length k15] : Array Value).getD j undef, rfl, (HL9.out.lcC hs hf).sub hup, HR9.out.kp hk10 (fun i hi => oneP_ne (by omega)), HK9.out.then hk10 (fun i hi e => by have := of_decide_eq_true e; omega)⟩
end Go.Proofs.YtmleeodfmmpdgaaGreatDoor
/- Walks: a locale whole. -/
namespace Go.Proofs.YtmleeodfmmpdgaaGreatDoor
open Go.RowKit
attribute [local go_sem] Ext.cell Ext.frozen
attribute [local go_sem ↓] Go.wp_at_zero Go.wp_at_succ
/-- how many rounds are left -/
def remM (b : Nat) (w : World) : Nat := match w.cell? ⟨b, 3, none⟩ with
  | some (.int .i64 0) => lenV ((w.cell? ⟨b, 0, none⟩).getD undef) + 1
  | _ => 0
theorem remM_ok {w : World} {b : Nat} {E : Int} {r : RS} (h : Rd w b E r) (he : r.e = 0) : remM b w = r.l.length + 1 := by
  obtain ⟨_, _, _, _, h1, _⟩ := h
  unfold remM
  rw [h1.cell 0, h1.cell 3]
  simp [he, lenV]
theorem remM_no {w : World} {b : Nat} {E : Int} {r : RS} (h : Rd w b E r) (he : r.e ≠ 0) : remM b w = 0 := by
  obtain ⟨_, _, _, _, h1, _⟩ := h
  unfold remM
  rw [h1.cell 0, h1.cell 3]
  simp only [List.getElem?_cons_zero, List.getElem?_cons_succ]
  split
  · rename_i h
    injection h with h
    injection h with _ h
    exact absurd h he
  · rfl
set_option maxRecDepth 20000 in
set_option maxHeartbeats 4000000 in
theorem loc_5 (b : Nat) (E : Int) (q1 : RS) (tag par : ByteArray) (w w5 : World) (n0 L : Nat) (u1 u4 u5 u6 u7 u8 u9 u10 u11 u12 u13 u14 u15 u16 u17 u18 u19 u20 u21 u22 u23 u24 u25 u26 u27 u28 u29 u30 : Value) (hn0 : w.heap.size = n0) (hb : b < n0) (hL : n0 < L) (hr : Rd w5 b E q1) (hx : Cel w5 L 46 [.string tag, .string par, .string ⟨#[]⟩, .slice none 0 0, .slice none 0 0, .string ⟨#[]⟩, .string ⟨#[]⟩, .string ⟨#[]⟩, .string ⟨#[]⟩, .int .i64 0, .int .i64 0, .slice none 0 0, .slice none 0 0, .slice none 0 0, .slice none 0 0, .slice none 0 0]) (hN : Cel w5 n0 46 [.string ⟨#[]⟩, .string ⟨#[]⟩, .string ⟨#[]⟩, .slice none 0 0, .slice none 0 0, .string ⟨#[]⟩, .string ⟨#[]⟩, .string ⟨#[]⟩, .string ⟨#[]⟩, .int .i64 0, .int .i64 0, .slice none 0 0, .slice none 0 0, .slice none 0 0, .slice none 0 0, .slice none 0 0]) (hk : Kp (oneP b) w w5) (hM : MaxAt n0 w5) (h1 : tag.size ≤ 200000) (h2 : par.size ≤ 200000) :
    (locD 5).wp Tryz.prog (bodyPost Tryz.prog Tryz.f58 (LocP b E w (let t := tItems E (q1.l.length + 1) (lc0 tag par) q1; (t.1, t.2.mark E [125])))) ⟨#[.pointer (some ⟨b, 0, none⟩), u1, .pointer (some ⟨n0, 0, none⟩), .pointer (some ⟨L, 0, none⟩), u4, u5, u6, u7, u8, u9, u10, u11, u12, u13, u14, u15, u16, u17, u18, u19, u20, u21, u22, u23, u24, u25, u26, u27, u28, u29, u30], []⟩ w5 := by
  have HNX : Hid (∀ n y q, tItems E (n + 1) y q = if q.e = 0 ∧ q.is E 3 [125] = false then tItems E n (tItem E y q).1 (tItem E y q).2 else (y, q)) := fun _ _ _ => rfl
  have HNZ : Hid (∀ y q, tItems E 0 y q = (y, q)) := fun _ _ => rfl
  have HS0 := Lib.hid (LcSz.new h1 h2)
  have HF0 := Lib.hid (LcFew.new tag par)
  have HX := Lib.hid hx
  have HN := Lib.hid hN
  have HK := Lib.hid hk
  have HR := Lib.hid hr
  have HM := Lib.hid hM
  have hn1 : n0 ≠ b := by omega
  have hL1 : L ≠ b := by omega
  clear hr hx hN hk hM h1 h2
  dsimp only
  obtain ⟨y0, hy0⟩ : ∃ y, lc0 tag par = y := ⟨_, rfl⟩
  have HT : Hid (tItems E (q1.l.length + 1) y0 q1 = tItems E (q1.l.length + 1) (lc0 tag par) q1) := by rw [hy0]; rfl
  rw [hy0] at HS0 HF0
  generalize tItems E (q1.l.length + 1) (lc0 tag par) q1 = T at *
  have HEND := Lib.hid (fun q y W u1 u4 u5 u6 u7 u8 u9 u10 u11 u12 u13 u14 u15 u16 u17 u18 u19 u20 u21 u22 u23 u24 u25 u26 u27 u28 u29 u30 g gl gN gk gs gf (gT : T.1 = y) (gT2 : T.2.mark E [125] = q) => (show (locC 9).wp Tryz.prog (bodyPost Tryz.prog Tryz.f58 (LocP b E w (T.1, T.2.mark E [125]))) ⟨#[.pointer (some ⟨b, 0, none⟩), u1, .pointer (some ⟨n0, 0, none⟩), .pointer (some ⟨L, 0, none⟩), u4, u5, u6, u7, u8, u9, u10, u11, u12, u13, u14, u15, u16, u17, u18, u19, u20, u21, u22, u23, u24, u25, u26, u27, u28, u29, u30], []⟩ W by rw [gT, gT2]; exact loc_9 b E q y w W n0 L u1 u4 u5 u6 u7 u8 u9 u10 u11 u12 u13 u14 u15 u16 u17 u18 u19 u20 u21 u22 u23 u24 u25 u26 u27 u28 u29 u30 hn0 hb hL g gl gN gk gs gf))
  unfold locD
  try dsimp only
  conv => arg 2; whnf
  obtain ⟨w6, hw6⟩ : ∃ W, W = w5 := ⟨_, rfl⟩
  have hk6 : Kp (oneP b) w5 w6 := by rw [hw6]; exact Kp.refl _ _
  have hr6 : Rd w6 b E q1 := by rw [hw6]; exact HR.out
  rw [← hw6]
  clear hw6
  have HR6 := Lib.hid hr6
  have HL6 : Hid (LocAt L w6 L y0) := ⟨_, _, _, _, _, _, _, hy0 ▸ LocV.new (HX.out.kp hk6 (oneP_ne hL1))⟩
  have HN6 := Lib.hid (HN.out.kp hk6 (oneP_ne hn1))
  have HK6 := Lib.hid (HK.out.trans hk6)
  have hm6 := HM.out.kp HR.out (hk6.item (base := n0))
  have HM6 : Hid (MaxAt L w6) := ⟨hm6.1, by have := hm6.2; omega⟩
  have hz6 : w.heap.size ≤ w6.heap.size := HK6.out.size
  have hL6 : L < w6.heap.size := HL6.out.lt.2
  clear hr6 hk6 hm6 HX HN HK HM HR hy0
  go_wp2_with fail
  go_loopw [] (fun wr => ∃ n y q, tItems E n y q = T ∧ (q.e = 0 → q.l.length < n) ∧ LocAt L wr L y ∧ Rd wr b E q ∧ Kp (itemP b L) w6 wr ∧ LcSz y ∧ LcFew 1 y ∧ (q.e = 0 → LcFew 0 y)) (fun wr => remM b wr)
  case atStart => exact ⟨q1.l.length + 1, y0, q1, HT.out, (fun _ => by omega), HL6.out, HR6.out, Kp.refl _ _, HS0.out, HF0.out.mono (by decide), fun _ => HF0.out⟩
  case round =>
    obtain ⟨n, y, q, hst, hln, hl, hr, hk, hs, hf, hf0⟩ := hrel
    have HQ := Lib.hid hr
    have HLq := Lib.hid hl
    have HSq := Lib.hid hs
    have HFq := Lib.hid hf
    have HNq := Lib.hid (HN6.out.kp hk (itemP_no hn1 hL))
    have HKi := Lib.hid hk
    have HKq : Hid (Kp (oneP b) w wr) := HK6.out.then hk (fun i hi e => by
      unfold itemP at e
      rw [Bool.or_eq_true, decide_eq_true_eq, decide_eq_true_eq] at e
      rcases e with e | e
      · rw [e]; exact oneP_self b
      · omega)
    obtain ⟨c2, c3, _, _, _⟩ := hr.cells
    have hlq := hr.lt
    have HST := Lib.hid hst
    clear hst hl hr hk hs hf
    have HIS := Lib.hid (is_any b E 3 [125] q wr HQ.out)
    by_cases he : q.e = 0
    · have HF0q := Lib.hid (hf0 he)
      have HLN := Lib.hid (hln he)
      have HRM := Lib.hid (remM_ok HQ.out he)
      have HHE := Lib.hid he
      rw [he] at c3
      clear hf0 hln he
      go_wp2_with fail
      refine HIS.out.mono ?_
      rintro _ w7 ⟨rfl, hb7⟩
      have HQ7 := Lib.hid (HQ.out.below hb7)
      have HL7 := Lib.hid (HLq.out.below hb7)
      have HK7 := Lib.hid (HKi.out.trans (kp_below hb7))
      have HN7 := Lib.hid (HNq.out.below hb7)
      have HKr7 := Lib.hid (HKq.out.trans (kp_below hb7))
      clear hb7 HQ HLq HKi HNq HKq HIS
      cases hq : q.is E 3 [125] with
      | false =>
        obtain ⟨m, rfl⟩ : ∃ m, n = m + 1 := ⟨n - 1, by have := HLN.out; omega⟩
        have hst := HST.out
        rw [HNX.out, if_pos ⟨HHE.out, hq⟩] at hst
        have HST2 := Lib.hid hst
        have HIT := Lib.hid (item_any b E L L y q w7 HQ7.out (by omega) HL7.out (HM6.out.kp HR6.out HK7.out) HF0q.out)
        have HLT := Lib.hid (fun (g : (tItem E y q).2.e = 0) => tItem_lt HHE.out g)
        have HFW := Lib.hid (LcFew.tItem (E := E) (r := q) HF0q.out)
        have HSZ := Lib.hid (LcSz.tItem (E := E) HSq.out HQ7.out.ok)
        unfold ItemP at HIT
        clear hst HST
        generalize tItem E y q = yq at *
        obtain ⟨y', q'⟩ := yq
        simp only at HIT HST2 HLT HFW HSZ
        go_wp2_with fail
        refine HIT.out.mono ?_
        rintro _ w8 ⟨rfl, hl8, hr8, hk8⟩
        have HRM8 : Hid (remM b w8 < remM b wr) := by
          unfold Hid
          rw [HRM.out]
          by_cases h : q'.e = 0
          · rw [remM_ok hr8 h]
            have := HLT.out h
            omega
          · rw [remM_no hr8 h]; omega
        have HL8 := Lib.hid hl8
        have HR8 := Lib.hid hr8
        have HK8 := Lib.hid (HK7.out.trans hk8)
        clear hl8 hr8 hk8
        go_wp2_with fail
        go_roundw
        case rel => exact ⟨m, y', q', HST2.out, (fun h => by have := HLT.out h; have := HLN.out; omega), HL8.out, HR8.out, HK8.out, HSZ.out, HFW.out.1, HFW.out.2⟩
        case measure => exact HRM8.out
      | true =>
        have HTq : Hid (T = (y, q)) := by
          have hst := HST.out
          unfold Hid
          rw [← hst]
          cases n with
          | zero => exact HNZ.out y q
          | succ m => rw [HNX.out, hq, if_neg (by simp)]
        go_upto_region 8 with (fail)
        rename_i K8 hK8
        have HK8 := Lib.hid hK8
        clear hK8
        have HMK := Lib.hid (mark_any b E [125] q w7 HQ7.out)
        unfold RdP at HMK
        go_wp2_with fail
        refine HMK.out.mono ?_
        rintro _ w9 ⟨rfl, hr9, hk9⟩
        go_wp2_with fail
        refine HK8.out _ _ ?_
        exact HEND.out (q.mark E [125]) y _ _ _ _ _ _ _ _ _ _ _ _ _ _ _ _ _ _ _ _ _ _ _ _ _ _ _ _ _ hr9 (HL7.out.rd HQ7.out hk9) (HN7.out.kp hk9 (oneP_ne hn1)) (HKr7.out.trans hk9) HSq.out HFq.out (by rw [HTq.out]) (by rw [HTq.out])
    · have hz : (q.e == 0) = false := by simpa using he
      have HTq : Hid (T = (y, q)) := by
        have hst := HST.out
        unfold Hid
        rw [← hst]
        cases n with
        | zero => exact HNZ.out y q
        | succ m => rw [HNX.out, if_neg (fun h => he h.1)]
      clear he hf0 hln
      go_upto_region 8 with (fail)
      rename_i K8 hK8
      have HK8 := Lib.hid hK8
      clear hK8
      have HMK := Lib.hid (mark_any b E [125] q wr HQ.out)
      unfold RdP at HMK
      go_wp2_with fail
      refine HMK.out.mono ?_
      rintro _ w9 ⟨rfl, hr9, hk9⟩
      go_wp2_with fail
      refine HK8.out _ _ ?_
      exact HEND.out (q.mark E [125]) y _ _ _ _ _ _ _ _ _ _ _ _ _ _ _ _ _ _ _ _ _ _ _ _ _ _ _ _ _ hr9 (HLq.out.rd HQ.out hk9) (HNq.out.kp hk9 (oneP_ne hn1)) (HKq.out.trans hk9) HSq.out HFq.out (by rw [HTq.out]) (by rw [HTq.out])
end Go.Proofs.YtmleeodfmmpdgaaGreatDoor
/- Walks: a locale, from its beginning. -/
namespace Go.Proofs.YtmleeodfmmpdgaaGreatDoor
open Go.RowKit
attribute [local go_sem] Ext.cell Ext.frozen
attribute [local go_sem ↓] Go.wp_at_zero Go.wp_at_succ
set_option maxRecDepth 20000 in
set_option maxHeartbeats 4000000 in
theorem rlocale_any (b : Nat) (E : Int) (r : RS) (w : World) (h : Rd w b E r) (hM : MaxLen w) : Calls Tryz.prog 58 #[.pointer (some ⟨b, 0, none⟩)] w (LocP b E w (tLocale E r)) := by
  have HWO := Lib.hid (fun q W (g : Rd W b E q) => word_any b E q W g)
  have HIS := Lib.hid (fun q W (g : Rd W b E q) => is_any b E 1 [112, 97, 114, 101, 110, 116] q W g)
  have HV : Hid (tLocale E r = (let hd := r.head E; let q := hd.2.mark E [123]; let t := tItems E (q.l.length + 1) (lc0 hd.1.1 hd.1.2) q; (t.1, t.2.mark E [125]))) := rfl
  have HH : Hid (r.head E = if (r.word E).2.is E 1 [112, 97, 114, 101, 110, 116] then ((bs (r.word E).1, bs (((r.word E).2.word E).2.word E).1), (((r.word E).2.word E).2.word E).2) else ((bs (r.word E).1, .empty), (r.word E).2)) := rfl
  have hz1 : (bs (r.word E).1).size ≤ 200000 := by rw [bs_size]; exact (h.ok.take (E := E) (k := 1)).1
  have hz2 : (bs (((r.word E).2.word E).2.word E).1).size ≤ 200000 := by rw [bs_size]; exact ((h.ok.take (E := E) (k := 1)).2.take (E := E) (k := 1)).2.take.1
  have hbw := h.lt
  have hg : 1 < w.heap.size := by
    obtain ⟨m, hm⟩ := hM
    exact World.block_lt_of_cell? w _ hm
  obtain ⟨n0, hn0⟩ : ∃ n, w.heap.size = n := ⟨_, rfl⟩
  have HM : Hid (∀ W, Kp (oneP b) w W → MaxAt n0 W) := fun W k => ⟨hM.rd h k, hn0 ▸ hg⟩
  have HR := Lib.hid h
  unfold RdP at HWO
  clear h hM hg
  generalize r.head E = hd at *
  have HWO1 := Lib.hid (HWO.out r)
  generalize r.word E = r1 at *
  obtain ⟨k, q1⟩ := r1
  simp only at HWO1 HH hz1 hz2
  have HWO2 := Lib.hid (HWO.out q1)
  have HIS1 := Lib.hid (HIS.out q1)
  generalize q1.is E 1 [112, 97, 114, 101, 110, 116] = isq at *
  generalize q1.word E = r2 at *
  obtain ⟨k2, q2⟩ := r2
  simp only at HWO2 HH hz2
  have HWO3 := Lib.hid (HWO.out q2)
  generalize q2.word E = r3 at *
  obtain ⟨k3, q3⟩ := r3
  simp only at HWO3 HH hz2
  generalize bs k = K at *
  generalize bs k3 = K3 at *
  have HZ1 := Lib.hid hz1
  have HZ2 := Lib.hid hz2
  clear HWO HIS hz1 hz2
  have HEND := Lib.hid (fun (tag par : ByteArray) (q0 : RS) L W u1 u4 u5 u6 u7 u8 u9 u10 u11 u12 u13 u14 u15 u16 u17 u18 u19 u20 u21 u22 u23 u24 u25 u26 u27 u28 u29 u30 (hL : n0 < L) g gx gN gk gM g1 g2 (gV : tLocale E r = (let t := tItems E (q0.l.length + 1) (lc0 tag par) q0; (t.1, t.2.mark E [125]))) => (show (locD 5).wp Tryz.prog (bodyPost Tryz.prog Tryz.f58 (LocP b E w (tLocale E r))) ⟨#[.pointer (some ⟨b, 0, none⟩), u1, .pointer (some ⟨n0, 0, none⟩), .pointer (some ⟨L, 0, none⟩), u4, u5, u6, u7, u8, u9, u10, u11, u12, u13, u14, u15, u16, u17, u18, u19, u20, u21, u22, u23, u24, u25, u26, u27, u28, u29, u30], []⟩ W by rw [gV]; exact loc_5 b E q0 tag par w W n0 L u1 u4 u5 u6 u7 u8 u9 u10 u11 u12 u13 u14 u15 u16 u17 u18 u19 u20 u21 u22 u23 u24 u25 u26 u27 u28 u29 u30 hn0 (by omega) hL g gx gN gk gM g1 g2))
  generalize tLocale E r = res at *
  have HR0 := Lib.hid (HR.out.below (Bel.alloc (Bel.refl w) (.cells #[.string ⟨#[]⟩, .string ⟨#[]⟩, .string ⟨#[]⟩, .slice none 0 0, .slice none 0 0, .string ⟨#[]⟩, .string ⟨#[]⟩, .string ⟨#[]⟩, .string ⟨#[]⟩, .int .i64 0, .int .i64 0, .slice none 0 0, .slice none 0 0, .slice none 0 0, .slice none 0 0, .slice none 0 0] 46)))
  have HK0 := Lib.hid ((Kp.refl (oneP b) w).alloc (.cells #[.string ⟨#[]⟩, .string ⟨#[]⟩, .string ⟨#[]⟩, .slice none 0 0, .slice none 0 0, .string ⟨#[]⟩, .string ⟨#[]⟩, .string ⟨#[]⟩, .string ⟨#[]⟩, .int .i64 0, .int .i64 0, .slice none 0 0, .slice none 0 0, .slice none 0 0, .slice none 0 0, .slice none 0 0] 46))
  have HN0 := Lib.hid (Cel.new w [.string ⟨#[]⟩, .string ⟨#[]⟩, .string ⟨#[]⟩, .slice none 0 0, .slice none 0 0, .string ⟨#[]⟩, .string ⟨#[]⟩, .string ⟨#[]⟩, .string ⟨#[]⟩, .int .i64 0, .int .i64 0, .slice none 0 0, .slice none 0 0, .slice none 0 0, .slice none 0 0, .slice none 0 0] 46)
  have hs0 : (w.alloc (.cells #[.string ⟨#[]⟩, .string ⟨#[]⟩, .string ⟨#[]⟩, .slice none 0 0, .slice none 0 0, .string ⟨#[]⟩, .string ⟨#[]⟩, .string ⟨#[]⟩, .string ⟨#[]⟩, .int .i64 0, .int .i64 0, .slice none 0 0, .slice none 0 0, .slice none 0 0, .slice none 0 0, .slice none 0 0] 46)).heap.size = n0 + 1 := by rw [← hn0]; simp
  have HS0 := Lib.hid hs0
  rw [hn0] at HN0 hbw
  have hnb : n0 ≠ b := by omega
  clear hs0 HR
  go_enter Tryz.func58, Tryz.ntmps58
  go_wp2_with fail
  generalize w.alloc (.cells #[.string ⟨#[]⟩, .string ⟨#[]⟩, .string ⟨#[]⟩, .slice none 0 0, .slice none 0 0, .string ⟨#[]⟩, .string ⟨#[]⟩, .string ⟨#[]⟩, .string ⟨#[]⟩, .int .i64 0, .int .i64 0, .slice none 0 0, .slice none 0 0, .slice none 0 0, .slice none 0 0, .slice none 0 0] 46) = w0 at *
  refine (HWO1.out _ HR0.out).mono ?_
  rintro _ w1 ⟨rfl, hr1, hk1⟩
  have HR1 := Lib.hid (hr1.below (Bel.alloc (Bel.refl w1) (.cells #[.string K, .string ⟨#[]⟩, .string ⟨#[]⟩, .slice none 0 0, .slice none 0 0, .string ⟨#[]⟩, .string ⟨#[]⟩, .string ⟨#[]⟩, .string ⟨#[]⟩, .int .i64 0, .int .i64 0, .slice none 0 0, .slice none 0 0, .slice none 0 0, .slice none 0 0, .slice none 0 0] 46)))
  have HK1 := Lib.hid ((HK0.out.trans hk1).alloc (.cells #[.string K, .string ⟨#[]⟩, .string ⟨#[]⟩, .slice none 0 0, .slice none 0 0, .string ⟨#[]⟩, .string ⟨#[]⟩, .string ⟨#[]⟩, .string ⟨#[]⟩, .int .i64 0, .int .i64 0, .slice none 0 0, .slice none 0 0, .slice none 0 0, .slice none 0 0, .slice none 0 0] 46))
  have HN1 := Lib.hid ((HN0.out.kp hk1 (oneP_ne hnb)).below (Bel.alloc (Bel.refl w1) (.cells #[.string K, .string ⟨#[]⟩, .string ⟨#[]⟩, .slice none 0 0, .slice none 0 0, .string ⟨#[]⟩, .string ⟨#[]⟩, .string ⟨#[]⟩, .string ⟨#[]⟩, .int .i64 0, .int .i64 0, .slice none 0 0, .slice none 0 0, .slice none 0 0, .slice none 0 0, .slice none 0 0] 46)))
  have HX1 := Lib.hid (Cel.new w1 [.string K, .string ⟨#[]⟩, .string ⟨#[]⟩, .slice none 0 0, .slice none 0 0, .string ⟨#[]⟩, .string ⟨#[]⟩, .string ⟨#[]⟩, .string ⟨#[]⟩, .int .i64 0, .int .i64 0, .slice none 0 0, .slice none 0 0, .slice none 0 0, .slice none 0 0, .slice none 0 0] 46)
  have hL0 : n0 < w1.heap.size := by have := hk1.size; have := HS0.out; omega
  obtain ⟨L, hL⟩ : ∃ L, w1.heap.size = L := ⟨_, rfl⟩
  rw [hL] at HX1 hL0
  have hLb : L ≠ b := by omega
  clear hr1 hk1 HR0 HK0 HN0 HS0 HWO1
  go_upto_region 2 with (fail)
  generalize w1.alloc (.cells #[.string K, .string ⟨#[]⟩, .string ⟨#[]⟩, .slice none 0 0, .slice none 0 0, .string ⟨#[]⟩, .string ⟨#[]⟩, .string ⟨#[]⟩, .string ⟨#[]⟩, .int .i64 0, .int .i64 0, .slice none 0 0, .slice none 0 0, .slice none 0 0, .slice none 0 0, .slice none 0 0] 46) = w2 at *
  have HIS2 := Lib.hid (HIS1.out _ HR1.out)
  go_wp2_with fail
  refine HIS2.out.mono ?_
  rintro _ w3 ⟨rfl, hb3⟩
  have HR3 := Lib.hid (HR1.out.below hb3)
  have HK3 := Lib.hid (HK1.out.trans (kp_below hb3))
  have HN3 := Lib.hid (HN1.out.below hb3)
  have HX3 := Lib.hid (HX1.out.below hb3)
  clear hb3 HR1 HK1 HN1 HX1 HIS1 HIS2
  cases isq with
  | false =>
    rw [if_neg (by simp)] at HH
    obtain rfl := HH.out
    go_upto_region 5 with (fail)
    rename_i K8 hK8
    have HK8 := Lib.hid hK8
    clear hK8
    have HMK := Lib.hid (mark_any b E [123] q1 w3 HR3.out)
    unfold RdP at HMK
    go_wp2_with fail
    refine HMK.out.mono ?_
    rintro _ w9 ⟨rfl, hr9, hk9⟩
    go_wp2_with fail
    refine HK8.out _ _ ?_
    have HK9 := Lib.hid (HK3.out.trans hk9)
    exact HEND.out K .empty (q1.mark E [123]) L _ _ _ _ _ _ _ _ _ _ _ _ _ _ _ _ _ _ _ _ _ _ _ _ _ _ _ _ _ hL0 hr9 (HX3.out.kp hk9 (oneP_ne hLb)) (HN3.out.kp hk9 (oneP_ne hnb)) HK9.out (HM.out _ HK9.out) HZ1.out (Nat.zero_le _) HV.out
  | true =>
    rw [if_pos rfl] at HH
    obtain rfl := HH.out
    have HWO4 := Lib.hid (HWO2.out _ HR3.out)
    go_wp2_with fail
    refine HWO4.out.mono ?_
    rintro _ w4 ⟨rfl, hr4, hk4⟩
    have HR4 := Lib.hid hr4
    have HK4 := Lib.hid (HK3.out.trans hk4)
    have HN4 := Lib.hid (HN3.out.kp hk4 (oneP_ne hnb))
    have HX4 := Lib.hid (HX3.out.kp hk4 (oneP_ne hLb))
    clear hr4 hk4 HR3 HK3 HN3 HX3 HWO2 HWO4
    have HWO5 := Lib.hid (HWO3.out _ HR4.out)
    go_wp2_with fail
    refine HWO5.out.mono ?_
    rintro _ w5 ⟨rfl, hr5, hk5⟩
    have HR5 := Lib.hid hr5
    have HK5 := Lib.hid (HK4.out.trans hk5)
    have HN5 := Lib.hid (HN4.out.kp hk5 (oneP_ne hnb))
    have HX5 := Lib.hid (HX4.out.kp hk5 (oneP_ne hLb))
    clear hr5 hk5 HR4 HK4 HN4 HX4 HWO3 HWO5
    have x1 := HX5.out.cell 1
    simp only [List.getElem?_cons_zero, List.getElem?_cons_succ] at x1
    have xf1 := HX5.out.frz 1
    have hXl := HX5.out.lt
    have HX6 := Lib.hid (HX5.out.set 1 (.string K3))
    have HR6 := Lib.hid (HR5.out.other (a := ⟨L, 1, none⟩) (by show b < L; omega) (.string K3))
    have HN6 := Lib.hid (HN5.out.other (a := ⟨L, 1, none⟩) (by show L ≠ n0; omega) (.string K3))
    have HK6 := Lib.hid (HK5.out.setN (p := ⟨L, 1, none⟩) (by show w.heap.size ≤ L; omega) (.string K3))
    simp only [List.set_cons_zero, List.set_cons_succ] at HX6
    clear HR5 HK5 HN5 HX5
    go_upto_region 5 with (fail)
    rename_i K8 hK8
    have HK8 := Lib.hid hK8
    clear hK8 x1 xf1 hXl
    generalize w5.setCell ⟨L, 1, none⟩ (.string K3) = w6 at *
    have HMK := Lib.hid (mark_any b E [123] q3 w6 HR6.out)
    unfold RdP at HMK
    go_wp2_with fail
    refine HMK.out.mono ?_
    rintro _ w9 ⟨rfl, hr9, hk9⟩
    go_wp2_with fail
    refine HK8.out _ _ ?_
    have HK9 := Lib.hid (HK6.out.trans hk9)
    exact HEND.out K K3 (q3.mark E [123]) L _ _ _ _ _ _ _ _ _ _ _ _ _ _ _ _ _ _ _ _ _ _ _ _ _ _ _ _ _ hL0 hr9 (HX6.out.kp hk9 (oneP_ne hLb)) (HN6.out.kp hk9 (oneP_ne hnb)) HK9.out (HM.out _ HK9.out) HZ1.out HZ2.out HV.out
end Go.Proofs.YtmleeodfmmpdgaaGreatDoor
/- The box of a table that is read. -/
namespace Go.Proofs.YtmleeodfmmpdgaaGreatDoor
open Go.RowKit
theorem mLcC : ∀ (a b : World) x y, Sub a b → LcC a x y → LcC b x y := fun _ _ _ _ h g => g.sub h
theorem mAlC : ∀ (a b : World) x y, Sub a b → AlC a x y → AlC b x y := fun _ _ _ _ _ g => g.at
theorem mNeC : ∀ (a b : World) x y, Sub a b → NeC a x y → NeC b x y := fun _ _ _ _ _ g => g.at
structure TabV (base : Nat) (w : World) (T : Nat) (t : Tb) (v0 v1 v2 : Value) : Prop where
  cel : Cel w T 27 [v0, v1, v2]
  low : base ≤ T
  g0 : Grow 46 16 LcC base rowTs w v0 t.locs
  g1 : Grow 61 2 AlC base ([] : List TypeId) w v1 t.als
  g2 : Grow 58 3 NeC base ([] : List TypeId) w v2 t.near
def tabTs : List TypeId := [27, 46, 61, 58] ++ rowTs
section
variable {base : Nat} {w w' : World} {T : Nat} {t : Tb} {v0 v1 v2 : Value} {b : Nat} {E : Int} {r : RS}
theorem TabV.ty (h : TabV base w T t v0 v1 v2) : tyAt w T = some 27 := tyAt_cel h.cel
theorem TabV.kp (h : TabV base w T t v0 v1 v2) {P : Nat → Bool} (k : Kp P w w') (hP : ∀ i U, P i = true → tyAt w i = some U → U ∉ tabTs) : TabV base w' T t v0 v1 v2 := by
  have hL : P T = false := by
    cases hp : P T with
    | false => rfl
    | true => exact absurd (show 27 ∈ tabTs by decide) (hP T _ hp h.ty)
  have kk : ∀ ts, (∀ U, U ∈ ts → U ∈ tabTs) → KpT base ts w w' := fun ts hs => k.kpt fun i U _ hp ht hm => hP i U hp ht (hs U hm)
  exact ⟨h.cel.kp k hL, h.low, h.g0.keep mLcC (kk _ (by decide)), h.g1.keep mAlC (kk _ (by decide)), h.g2.keep mNeC (kk _ (by decide))⟩
theorem TabV.below (h : TabV base w T t v0 v1 v2) (k : Below w.heap.size w w') : TabV base w' T t v0 v1 v2 := h.kp (P := fun _ => false) (kp_below k) (fun _ _ h => by cases h)
theorem TabV.rd (h : TabV base w T t v0 v1 v2) (hr : Rd w b E r) (k : Kp (oneP b) w w') : TabV base w' T t v0 v1 v2 := h.kp k fun i U hp ht => by
  obtain rfl : i = b := of_decide_eq_true hp
  rw [hr.ty] at ht
  injection ht with ht
  subst ht
  decide
theorem TabV.celG (h : TabV base w T t v0 v1 v2) (hr : Rd w b E r) {α : Type} {U : TypeId} {k0 : Nat} {C : World → (Nat → Value) → α → Prop} {ts : List TypeId} {v : Value} {l : List α} (g : Grow U k0 C base ts w v l) (k : Kp (growP b v) w w') (hT : 27 ≠ U) : Cel w' T 27 [v0, v1, v2] := h.cel.kp k (by
  cases hq : growP b v T with
  | false => rfl
  | true =>
    unfold growP at hq
    rw [Bool.or_eq_true, decide_eq_true_eq, decide_eq_true_eq] at hq
    rcases hq with e | e
    · have h1 := h.ty
      rw [e, hr.ty] at h1
      exact absurd h1 (by decide)
    · have h1 := h.ty
      rw [g.ty e] at h1
      injection h1 with h1
      exact absurd h1.symm hT)
theorem TabV.locs (h : TabV base w T t v0 v1 v2) (hr : Rd w b E r) (k : Kp (growP b v0) w w') {v' : Value} {l' : List Lc} (g : Grow 46 16 LcC base rowTs w' v' l') : TabV base (w'.setCell ⟨T, 0, none⟩ v') T { t with locs := l' } v' v1 v2 := by
  have hc := h.celG hr h.g0 k (by decide)
  have kk : ∀ ts, 67 ∉ ts → 46 ∉ ts → KpT base ts w w' := fun ts h1 h2 => k.kpt fun i U _ hq ht => by
    unfold growP at hq
    rw [Bool.or_eq_true, decide_eq_true_eq, decide_eq_true_eq] at hq
    rcases hq with e | e
    · rw [e, hr.ty] at ht
      injection ht with ht
      rw [← ht]; exact h1
    · rw [h.g0.ty e] at ht
      injection ht with ht
      rw [← ht]; exact h2
  have ks : ∀ ts, 27 ∉ ts → KpT base ts w' (w'.setCell ⟨T, 0, none⟩ v') := fun ts ht => kpt_set (a := ⟨T, 0, none⟩) hc base ht _
  exact ⟨hc.set 0 _, h.low, g.keep mLcC (ks _ (by decide)), (h.g1.keep mAlC (kk _ (by decide) (by decide))).keep mAlC (ks _ (by decide)), (h.g2.keep mNeC (kk _ (by decide) (by decide))).keep mNeC (ks _ (by decide))⟩
theorem TabV.als (h : TabV base w T t v0 v1 v2) (hr : Rd w b E r) (k : Kp (growP b v1) w w') {v' : Value} {l' : List Al} (g : Grow 61 2 AlC base ([] : List TypeId) w' v' l') : TabV base (w'.setCell ⟨T, 1, none⟩ v') T { t with als := l' } v0 v' v2 := by
  have hc := h.celG hr h.g1 k (by decide)
  have kk : ∀ ts, 67 ∉ ts → 61 ∉ ts → KpT base ts w w' := fun ts h1 h2 => k.kpt fun i U _ hq ht => by
    unfold growP at hq
    rw [Bool.or_eq_true, decide_eq_true_eq, decide_eq_true_eq] at hq
    rcases hq with e | e
    · rw [e, hr.ty] at ht
      injection ht with ht
      rw [← ht]; exact h1
    · rw [h.g1.ty e] at ht
      injection ht with ht
      rw [← ht]; exact h2
  have ks : ∀ ts, 27 ∉ ts → KpT base ts w' (w'.setCell ⟨T, 1, none⟩ v') := fun ts ht => kpt_set (a := ⟨T, 1, none⟩) hc base ht _
  exact ⟨hc.set 1 _, h.low, (h.g0.keep mLcC (kk _ (by decide) (by decide))).keep mLcC (ks _ (by decide)), g.keep mAlC (ks _ (by decide)), (h.g2.keep mNeC (kk _ (by decide) (by decide))).keep mNeC (ks _ (by decide))⟩
theorem TabV.near (h : TabV base w T t v0 v1 v2) (hr : Rd w b E r) (k : Kp (growP b v2) w w') {v' : Value} {l' : List Ne} (g : Grow 58 3 NeC base ([] : List TypeId) w' v' l') : TabV base (w'.setCell ⟨T, 2, none⟩ v') T { t with near := l' } v0 v1 v' := by
  have hc := h.celG hr h.g2 k (by decide)
  have kk : ∀ ts, 67 ∉ ts → 58 ∉ ts → KpT base ts w w' := fun ts h1 h2 => k.kpt fun i U _ hq ht => by
    unfold growP at hq
    rw [Bool.or_eq_true, decide_eq_true_eq, decide_eq_true_eq] at hq
    rcases hq with e | e
    · rw [e, hr.ty] at ht
      injection ht with ht
      rw [← ht]; exact h1
    · rw [h.g2.ty e] at ht
      injection ht with ht
      rw [← ht]; exact h2
  have ks : ∀ ts, 27 ∉ ts → KpT base ts w' (w'.setCell ⟨T, 2, none⟩ v') := fun ts ht => kpt_set (a := ⟨T, 2, none⟩) hc base ht _
  exact ⟨hc.set 2 _, h.low, (h.g0.keep mLcC (kk _ (by decide) (by decide))).keep mLcC (ks _ (by decide)), (h.g1.keep mAlC (kk _ (by decide) (by decide))).keep mAlC (ks _ (by decide)), g.keep mNeC (ks _ (by decide))⟩
end
def TabAt (base : Nat) (w : World) (T : Nat) (t : Tb) : Prop := ∃ v0 v1 v2, TabV base w T t v0 v1 v2
theorem TabAt.below {base : Nat} {w w' : World} {T : Nat} {t : Tb} (h : TabAt base w T t) (k : Below w.heap.size w w') : TabAt base w' T t := by
  obtain ⟨_, _, _, h⟩ := h
  exact ⟨_, _, _, h.below k⟩
theorem TabAt.rd {base : Nat} {w w' : World} {T : Nat} {t : Tb} {b : Nat} {E : Int} {r : RS} (h : TabAt base w T t) (hr : Rd w b E r) (k : Kp (oneP b) w w') : TabAt base w' T t := by
  obtain ⟨_, _, _, h⟩ := h
  exact ⟨_, _, _, h.rd hr k⟩
def TabP (b : Nat) (E : Int) (base T : Nat) (w : World) (q : Tb × RS) (e : Ending) (w' : World) : Prop := e = .returned (.tuple #[]) ∧ TabAt base w' T q.1 ∧ Rd w' b E q.2 ∧ Kp (itemP b base) w w'
theorem LcC.one {w : World} {f : Nat → Value} {y : Lc} (h : LcC w f y) : ∀ j, j < 16 → (f j).oneCell' = true := by
  have hs : ∀ {k : Nat} {α : Type} {C : World → (Nat → Value) → α → Prop} {v : Value} {l : List α}, RowsOf k C w v l → v.oneCell' = true := by
    rintro k α C v l ⟨ad, c, f, b, off, rfl, _⟩
    rfl
  intro j hj
  match j, hj with
  | 0, _ => rw [h.c0.1]; rfl
  | 1, _ => rw [h.c1.1]; rfl
  | 2, _ => rw [h.c2.1]; rfl
  | 3, _ => exact hs h.c3
  | 4, _ => exact hs h.c4
  | 5, _ => rw [h.c5.1]; rfl
  | 6, _ => rw [h.c6.1]; rfl
  | 7, _ => rw [h.c7.1]; rfl
  | 8, _ => rw [h.c8.1]; rfl
  | 9, _ => rw [h.c9.1]; rfl
  | 10, _ => rw [h.c10.1]; rfl
  | 11, _ => exact hs h.c11
  | 12, _ => exact hs h.c12
  | 13, _ => exact hs h.c13
  | 14, _ => exact hs h.c14
  | 15, _ => exact hs h.c15
  | n + 16, hj => omega
end Go.Proofs.YtmleeodfmmpdgaaGreatDoor
