/- The box of a table that is read. -/
import Derived.Test.YtmleeodfmmpdgaaGreatDoorQ25
import Derived.Test.YtmleeodfmmpdgaaGreatDoorQ10
import Derived.Test.YtmleeodfmmpdgaaGreatDoorQ17
import Derived.Deep.DeepCutAuto
import Derived.Test.YtmleeodfmmpdgaaGreatDoorQ11
namespace Go.Proofs.YtmleeodfmmpdgaaGreatDoor
open Go.RowKit
theorem mLcC : ∀ (a b : World) x y, Sub a b → LcC a x y → LcC b x y := fun _ _ _ _ h g => g.sub h
theorem mAlC : ∀ (a b : World) x y, Sub a b → AlC a x y → AlC b x y := fun _ _ _ _ _ g => g.at
theorem mNeC : ∀ (a b : World) x y, Sub a b → NeC a x y → NeC b x y := fun _ _ _ _ _ g => g.at
structure TabV (base : Nat) (w : World) (T : Nat) (t : Tb) (v0 v1 v2 : Value) : Prop where
  cel : Cel w T 27 [v0, v1, v2]
  low : base ≤ T
  g0 : Grow 46 16 LcC base rowTs w v0 t.locs
  g1 : Grow 61 2 AlC base ([] : List TypeId) w v1 t.als
  g2 : Grow 58 3 NeC base ([] : List TypeId) w v2 t.near
def tabTs : List TypeId := [27, 46, 61, 58] ++ rowTs
section
variable {base : Nat} {w w' : World} {T : Nat} {t : Tb} {v0 v1 v2 : Value} {b : Nat} {E : Int} {r : RS}
theorem TabV.ty (h : TabV base w T t v0 v1 v2) : tyAt w T = some 27 := tyAt_cel h.cel
theorem TabV.kp (h : TabV base w T t v0 v1 v2) {P : Nat → Bool} (k : Kp P w w') (hP : ∀ i U, P i = true → tyAt w i = some U → U ∉ tabTs) : TabV base w' T t v0 v1 v2 := by
  have hL : P T = false := by
    cases hp : P T with
    | false => rfl
    | true => exact absurd (show 27 ∈ tabTs by decide) (hP T _ hp h.ty)
  have kk : ∀ ts, (∀ U, U ∈ ts → U ∈ tabTs) → KpT base ts w w' := fun ts hs => k.kpt fun i U _ hp ht hm => hP i U hp ht (hs U hm)
  exact ⟨h.cel.kp k hL, h.low, h.g0.keep mLcC (kk _ (by decide)), h.g1.keep mAlC (kk _ (by decide)), h.g2.keep mNeC (kk _ (by decide))⟩
theorem TabV.below (h : TabV base w T t v0 v1 v2) (k : Below w.heap.size w w') : TabV base w' T t v0 v1 v2 := h.kp (P := fun _ => false) (kp_below k) (fun _ _ h => by cases h)
theorem TabV.rd (h : TabV base w T t v0 v1 v2) (hr : Rd w b E r) (k : Kp (oneP b) w w') : TabV base w' T t v0 v1 v2 := h.kp k fun i U hp ht => by
  obtain rfl : i = b := of_decide_eq_true hp
  rw [hr.ty] at ht
  injection ht with ht
  subst ht
  decide
theorem TabV.celG (h : TabV base w T t v0 v1 v2) (hr : Rd w b E r) {α : Type} {U : TypeId} {k0 : Nat} {C : World → (Nat → Value) → α → Prop} {ts : List TypeId} {v : Value} {l : List α} (g : Grow U k0 C base ts w v l) (k : Kp (growP b v) w w') (hT : 27 ≠ U) : Cel w' T 27 [v0, v1, v2] := h.cel.kp k (by
  cases hq : growP b v T with
  | false => rfl
  | true =>
    unfold growP at hq
    rw [Bool.or_eq_true, decide_eq_true_eq, decide_eq_true_eq] at hq
    rcases hq with e | e
    · have h1 := h.ty
      rw [e, hr.ty] at h1
      exact absurd h1 (by decide)
    · have h1 := h.ty
      rw [g.ty e] at h1
      injection h1 with h1
      exact absurd h1.symm hT)
theorem TabV.als (h : TabV base w T t v0 v1 v2) (hr : Rd w b E r) (k : Kp (growP b v1) w w') {v' : Value} {l' : List Al} (g : Grow 61 2 AlC base ([] : List TypeId) w' v' l') : TabV base (w'.setCell ⟨T, 1, none⟩ v') T { t with als := l' } v0 v' v2 := by
  have hc := h.celG hr h.g1 k (by decide)
  have kk : ∀ ts, 67 ∉ ts → 61 ∉ ts → KpT base ts w w' := fun ts h1 h2 => k.kpt fun i U _ hq ht => by
    unfold growP at hq
    rw [Bool.or_eq_true, decide_eq_true_eq, decide_eq_true_eq] at hq
    rcases hq with e | e
    · rw [e, hr.ty] at ht
      injection ht with ht
      rw [← ht]; exact h1
    · rw [h.g1.ty e] at ht
      injection ht with ht
      rw [← ht]; exact h2
  have ks : ∀ ts, 27 ∉ ts → KpT base ts w' (w'.setCell ⟨T, 1, none⟩ v') := fun ts ht => kpt_set (a := ⟨T, 1, none⟩) hc base ht _
  exact ⟨hc.set 1 _, h.low, (h.g0.keep mLcC (kk _ (by decide) (by decide))).keep mLcC (ks _ (by decide)), g.keep mAlC (ks _ (by decide)), (h.g2.keep mNeC (kk _ (by decide) (by decide))).keep mNeC (ks _ (by decide))⟩
end
def TabAt (base : Nat) (w : World) (T : Nat) (t : Tb) : Prop := ∃ v0 v1 v2, TabV base w T t v0 v1 v2
def TabP (b : Nat) (E : Int) (base T : Nat) (w : World) (q : Tb × RS) (e : Ending) (w' : World) : Prop := e = .returned (.tuple #[]) ∧ TabAt base w' T q.1 ∧ Rd w' b E q.2 ∧ Kp (itemP b base) w w'
end Go.Proofs.YtmleeodfmmpdgaaGreatDoor
namespace Go.Proofs.YtmleeodfmmpdgaaGreatDoor
open Go.RowKit
attribute [local go_sem] Ext.cell Ext.frozen
attribute [local go_sem ↓] Go.wp_at_zero Go.wp_at_succ
theorem infoAlT : (Tryz.prog.info? 61).map (fun i => (i.zero, i.size, i.bytes)) = some (some (.agg #[.string .empty, .string .empty]), 2, 32) := by kernel_rfl
set_option maxRecDepth 20000 in
set_option maxHeartbeats 4000000 in
theorem part_alias (b : Nat) (E : Int) (base T : Nat) (t : Tb) (r : RS) (w : World) (hr : Rd w b E r) (hb : b < base) (hl : TabAt base w T t) (hM : MaxAt base w) (_hf0 : t.locs.length ≤ 1000) (hf1 : t.als.length ≤ 1000) (_hf2 : t.near.length ≤ 1000) (hlocale : r.is E 1 [108, 111, 99, 97, 108, 101] = false) (halias : r.is E 1 [97, 108, 105, 97, 115] = true) : Calls Tryz.prog 27 #[.pointer (some ⟨b, 0, none⟩), .pointer (some ⟨T, 0, none⟩)] w (TabP b E base T w (tPart E t r)) := by
  obtain ⟨v0, v1, v2, hl⟩ := hl
  obtain ⟨ad0, c0, hv⟩ := hl.g1.shape
  subst hv
  have HT := Lib.hid hl
  have HV : Hid (tPart E t r = ({ t with als := t.als ++ [⟨bs ((r.word E).2.word E).1, bs (((r.word E).2.word E).2.word E).1⟩] }, tLim (r.peek E).2.2 (decide (200 < t.als.length + 1)) ((((r.word E).2.word E).2.word E).2.mark E [59]))) := by
    show (if r.is E 1 [108, 111, 99, 97, 108, 101] = true then _ else if r.is E 1 [97, 108, 105, 97, 115] = true then _ else _) = _
    rw [hlocale, if_neg (by decide), if_pos halias]
    rfl
  have HP := Lib.hid (peek_any b E r w hr)
  have HIS := Lib.hid (fun s W (g : Rd W b E r) => is_any b E 1 s r W g)
  have HR := Lib.hid hr
  have HM := Lib.hid hM
  have hbT : b < T := Nat.lt_of_lt_of_le hb hl.low
  have hlow := hl.low
  unfold tokV at HP
  unfold TabP
  clear hr hl hM
  have hfd : ∀ (k' : Int) (S : ByteArray) (f : Int) (W : World), (Instr.field 109 (.agg #[.int .i64 k', .string S, .int .i64 f]) 2).run Tryz.prog W = .ok (.int .i64 f) W := fun _ _ _ _ => by kernel_rfl
  generalize tPart E t r = res at *
  generalize r.peek E = tk at *
  obtain ⟨k', s', f⟩ := tk
  simp only at HP HV
  have hfd := hfd k' (bs s') f
  generalize bs s' = S at *
  go_enter Tryz.func27, Tryz.ntmps27
  go_wp2_with fail
  refine HP.out.mono ?_
  rintro _ w1 ⟨rfl, hb1⟩
  have HB1 := Lib.hid hb1
  have HR1 := Lib.hid (HR.out.below hb1)
  clear hb1 HP
  go_wp2_with fail
  refine (HIS.out [108, 111, 99, 97, 108, 101] _ HR1.out).mono ?_
  rintro _ w2 ⟨rfl, hb2⟩
  have HR2 := Lib.hid (HR1.out.below hb2)
  have HB2 := Lib.hid (HB1.out.trans (hb2.mono HB1.out.size))
  clear hb2 HR1 HB1
  rw [hlocale]
  go_wp2_with fail
  refine (HIS.out [97, 108, 105, 97, 115] _ HR2.out).mono ?_
  rintro _ w3 ⟨rfl, hb3⟩
  have HR3 := Lib.hid (HR2.out.below hb3)
  have HB3 := Lib.hid (HB2.out.trans (hb3.mono HB2.out.size))
  clear hb3 HR2 HB2
  rw [halias]
  have HK3 : Hid (Kp (oneP b) w w3) := kp_below HB3.out
  have HWO1 := Lib.hid (word_any b E r _ HR3.out)
  have HWO := Lib.hid (fun q W (g : Rd W b E q) => word_any b E q W g)
  have HNU := Lib.hid (fun q W (g : Rd W b E q) => rnum_any b E 1000 q W g)
  have HMA := Lib.hid (fun q W (g : Rd W b E q) => mark_any b E [59] q W g)
  unfold RdP at HWO1 HWO HNU HMA
  have h1 := HR3.out.ok.take (E := E) (k := 1)
  have h2 := h1.2.take (E := E) (k := 1)
  have h3 := h2.2.take (E := E) (k := 1)
  have hz1 : (bs ((r.word E).2.word E).1).size ≤ 140737488351232 := by rw [bs_size]; exact Nat.le_trans h2.1 (by decide)
  have hz2 : (bs (((r.word E).2.word E).2.word E).1).size ≤ 140737488351232 := by rw [bs_size]; exact Nat.le_trans h3.1 (by decide)
  have h4 : 0 ≤ ((((r.word E).2.word E).2.word E).2.number E 1000).1 ∧ ((((r.word E).2.word E).2.word E).2.number E 1000).1 ≤ 1000000 := (h3.2.number (E := E) (m := 1000)).1
  clear h1 h2 h3
  generalize r.word E = r1 at *
  obtain ⟨ws, q1⟩ := r1
  simp only at HWO1 HV hz1 hz2 h4
  have HWO2 := Lib.hid (HWO.out q1)
  generalize q1.word E = r2 at *
  obtain ⟨kk, q2⟩ := r2
  simp only at HWO2 HV hz1 hz2 h4
  have HWO3 := Lib.hid (HWO.out q2)
  generalize q2.word E = r3 at *
  obtain ⟨kk2, q3⟩ := r3
  simp only at HWO3 HV hz2 h4
  have HMA1 := Lib.hid (HMA.out q3)
  generalize q3.mark E [59] = q5 at *
  generalize bs kk = KS at *
  generalize bs kk2 = KS2 at *
  have HDY : Hid (∀ W, AlC W (fun j => (#[.string KS, .string KS2] : Array Value).getD j undef) (⟨KS, KS2⟩ : Al)) := fun W => ⟨⟨rfl, hz1⟩, ⟨rfl, hz2⟩⟩
  clear hz1 hz2 h4 HWO HNU HMA
  go_wp2_with fail
  refine HWO1.out.mono ?_
  rintro _ w4 ⟨rfl, hr4, hk4⟩
  have HR4 := Lib.hid hr4
  have HK4 := Lib.hid (HK3.out.trans hk4)
  clear hr4 hk4 HR3 HK3
  have HWO4 := Lib.hid (HWO2.out _ HR4.out)
  go_wp2_with fail
  refine HWO4.out.mono ?_
  rintro _ w5 ⟨rfl, hr5, hk5⟩
  have HR5 := Lib.hid hr5
  have HK5 := Lib.hid (HK4.out.trans hk5)
  clear hr5 hk5 HR4 HK4
  have HR6 := Lib.hid (HR5.out.below (Bel.alloc (Bel.refl w5) (.cells #[.string KS, .string ⟨#[]⟩] 61)))
  have HK6 := Lib.hid (HK5.out.alloc (.cells #[.string KS, .string ⟨#[]⟩] 61))
  have HX6 := Lib.hid (Cel.new w5 [.string KS, .string ⟨#[]⟩] 61)
  have hwX : w.heap.size ≤ w5.heap.size := HK5.out.size
  obtain ⟨X, hX⟩ : ∃ X, w5.heap.size = X := ⟨_, rfl⟩
  rw [hX] at HX6 hwX
  have hbX : b < X := Nat.lt_of_lt_of_le HR.out.lt hwX
  have hXb : X ≠ b := by omega
  clear HR5 HK5
  go_upto_region 10 with (fail)
  generalize w5.alloc (.cells #[.string KS, .string ⟨#[]⟩] 61) = w6 at *
  have HWO5 := Lib.hid (HWO3.out _ HR6.out)
  go_wp2_with fail
  refine HWO5.out.mono ?_
  rintro _ w7 ⟨rfl, hr7, hk7⟩
  have HR7 := Lib.hid hr7
  have HK7 := Lib.hid (HK6.out.trans hk7)
  have HX7 := Lib.hid (HX6.out.kp hk7 (oneP_ne hXb))
  clear hr7 hk7 HR6 HK6 HX6
  have x1 := HX7.out.cell 1
  simp only [List.getElem?_cons_zero, List.getElem?_cons_succ] at x1
  have xf1 := HX7.out.frz 1
  have hXl := HX7.out.lt
  go_upto_region 11 with (fail)
  have HX8 := Lib.hid (HX7.out.set 1 (.string KS2))
  have HR8 := Lib.hid (HR7.out.other (a := ⟨X, 1, none⟩) hbX (.string KS2))
  have HK8 := Lib.hid (HK7.out.setN (p := ⟨X, 1, none⟩) hwX (.string KS2))
  simp only [List.set_cons_zero, List.set_cons_succ] at HX8
  clear HR7 HK7 HX7 x1 xf1 hXl
  generalize w7.setCell ⟨X, 1, none⟩ (.string KS2) = w8 at *
  have HMA2 := Lib.hid (HMA1.out _ HR8.out)
  go_wp2_with fail
  refine HMA2.out.mono ?_
  rintro _ w11 ⟨rfl, hr11, hk11⟩
  have HR11 := Lib.hid hr11
  have HK11 := Lib.hid (HK8.out.trans hk11)
  have HX11 := Lib.hid (HX8.out.kp hk11 (oneP_ne hXb))
  clear hr11 hk11 HR8 HK8 HX8
  have HT11 := Lib.hid (HT.out.rd HR.out HK11.out)
  have hob : ∀ k, Value.ownBlock (.slice ad0 t.als.length c0) = some k → k < w.heap.size := fun k hk => (HT.out.g1.lt hk).2
  go_upto_region 12 with (fail)
  refine wp_region_until 10 (fun w' => w'.cell? ⟨T, 1, none⟩ = some (.slice ad0 t.als.length c0) ∧ Cel w' X 61 [.string KS, .string KS2]) (by kernel_rfl) ⟨HT11.out.cel.cell 1, HX11.out⟩ (fun hS0 => ?_)
  have HRe := Lib.hid (HR11.out.below (Bel.drew (Bel.refl w11)))
  have HTe := Lib.hid (HT11.out.below (Bel.drew (Bel.refl w11)))
  have HXe := Lib.hid (HX11.out.below (Bel.drew (Bel.refl w11)))
  have HKe := Lib.hid (HK11.out.trans (kp_below (Bel.drew (Bel.refl w11))))
  clear HR11 HT11 HX11 HK11
  refine wpAnyG_take (i := 0) (v := ?_) rfl (by kernel_rfl) (by kernel_rfl) (by kernel_rfl) (fun _ _ _ h => h) (by kernel_rfl) (by decide) (by kernel_rfl) (Or.inl ⟨by kernel_rfl, ?_⟩) hS0 ?_
  rotate_left
  · (intro wx hSw; obtain ⟨t1, t2⟩ := hSw; have q0 := t2.cell 0; have q1 := t2.cell 1; have hXl := t2.lt; simp only [List.getElem?_cons_zero, List.getElem?_cons_succ] at q0 q1; go_simp; try with_reducible rfl)
  refine wpAnyG_take (i := 1) (v := ?_) rfl (by kernel_rfl) (by kernel_rfl) (by kernel_rfl) (fun _ _ _ h => h) (by kernel_rfl) (by decide) (by kernel_rfl) (Or.inl ⟨by kernel_rfl, ?_⟩) hS0 ?_
  rotate_left
  · (intro wx hSw; obtain ⟨t1, t2⟩ := hSw; have q0 := t2.cell 0; have q1 := t2.cell 1; have hXl := t2.lt; simp only [List.getElem?_cons_zero, List.getElem?_cons_succ] at q0 q1; go_simp; try with_reducible rfl)
  refine wpAnyG_take (i := 2) (v := ?_) rfl (by kernel_rfl) (by kernel_rfl) (by kernel_rfl) (fun _ _ _ h => h) (by kernel_rfl) (by decide) (by kernel_rfl) (Or.inl ⟨by kernel_rfl, ?_⟩) hS0 ?_
  rotate_left
  · (intro wx hSw; obtain ⟨t1, t2⟩ := hSw; have q0 := t2.cell 0; have q1 := t2.cell 1; have hXl := t2.lt; simp only [List.getElem?_cons_zero, List.getElem?_cons_succ] at q0 q1; go_simp; try with_reducible rfl)
  refine wpAnyG_take (i := 3) (v := ?_) rfl (by kernel_rfl) (by kernel_rfl) (by kernel_rfl) (fun _ _ _ h => h) (by kernel_rfl) (by decide) (by kernel_rfl) (Or.inl ⟨by kernel_rfl, ?_⟩) hS0 ?_
  rotate_left
  · (intro wx hSw; obtain ⟨t1, t2⟩ := hSw; have q0 := t2.cell 0; have q1 := t2.cell 1; have hXl := t2.lt; simp only [List.getElem?_cons_zero, List.getElem?_cons_succ] at q0 q1; go_simp; try with_reducible rfl)
  refine wpAnyG_take (i := 4) (v := ?_) rfl (by kernel_rfl) (by kernel_rfl) (by kernel_rfl) (fun _ _ _ h => h) (by kernel_rfl) (by decide) (by kernel_rfl) (Or.inl ⟨by kernel_rfl, ?_⟩) hS0 ?_
  rotate_left
  · (intro wx hSw; obtain ⟨t1, t2⟩ := hSw; have q0 := t2.cell 0; have q1 := t2.cell 1; have hXl := t2.lt; simp only [List.getElem?_cons_zero, List.getElem?_cons_succ] at q0 q1; go_simp; try with_reducible rfl)
  refine wpAnyG_take (i := 5) (v := ?_) rfl (by kernel_rfl) (by kernel_rfl) (by kernel_rfl) (fun _ _ _ h => h) (by kernel_rfl) (by decide) (by kernel_rfl) (Or.inl ⟨by kernel_rfl, ?_⟩) hS0 ?_
  rotate_left
  · (intro wx hSw; obtain ⟨t1, t2⟩ := hSw; have q0 := t2.cell 0; have q1 := t2.cell 1; have hXl := t2.lt; simp only [List.getElem?_cons_zero, List.getElem?_cons_succ] at q0 q1; go_simp; try with_reducible rfl)
  try simp only [Act.put, List.getElem_toArray, List.getElem_cons_succ, List.getElem_cons_zero, List.setIfInBounds_toArray, List.set_cons_zero, List.set_cons_succ]
  generalize w11.drew = p1 at *
  refine wpAnyG_ready (rs := [6]) (by kernel_rfl) (by simp) ?_
  refine AllReadyG.cons rfl (fun K hK => ?_) AllReadyG.nil
  go_simp
  have HRb := Lib.hid (HRe.out.below (Bel.alloc (Bel.refl p1) (.cells #[.string KS, .string KS2] 61)))
  have HTb := Lib.hid (HTe.out.below (Bel.alloc (Bel.refl p1) (.cells #[.string KS, .string KS2] 61)))
  have HKb := Lib.hid (HKe.out.alloc (.cells #[.string KS, .string KS2] 61))
  have HNB := Lib.hid (rw_lit p1 #[.string KS, .string KS2] 61 2 rfl)
  have HY : Hid (AlC (see base ([] : List TypeId) (World.alloc p1 (.cells #[.string KS, .string KS2] 61))) (fun j => (#[.string KS, .string KS2] : Array Value).getD j undef) (⟨KS, KS2⟩ : Al)) := HDY.out _
  have HXb := Lib.hid (HXe.out.below (Bel.alloc (Bel.refl p1) (.cells #[.string KS, .string KS2] 61)))
  have hbs : base ≤ (World.alloc p1 (.cells #[.string KS, .string KS2] 61)).heap.size := Nat.le_trans HTb.out.low (Nat.le_of_lt HTb.out.cel.lt)
  refine hK.out _ _ (fun _ => And.intro (HTb.out.cel.cell 1) HXb.out) (fun _ => ?_)
  clear hK K
  generalize World.alloc p1 (.cells #[.string KS, .string KS2] 61) = pb at *
  try simp only [Act.put, List.getElem_toArray, List.getElem_cons_succ, List.getElem_cons_zero, List.setIfInBounds_toArray, List.set_cons_zero, List.set_cons_succ]
  refine wpAnyG_ready (rs := [7]) (by kernel_rfl) (by simp) ?_
  refine AllReadyG.cons rfl (fun K hK => ?_) AllReadyG.nil
  obtain ⟨f0, hown0, hC0⟩ := HTb.out.g1
  have HOWN := Lib.hid hown0
  have HC0 := Lib.hid hC0
  clear hown0 hC0
  refine step_app_rows rfl (.tmp 54) (.tmp 56) rfl Tryz.underlying24 infoAlT (by rfl) (by omega) base ad0 t.als.length c0 (flat 2 f0 t.als.length) (by rfl) HOWN.out (some ⟨p1.heap.size, 0, none⟩) 1 1 (fun _ j => (#[.string KS, .string KS2] : Array Value).getD j undef) p1.heap.size 0 (by rfl) HNB.out (fun h => by cases h) (fun i j _ hj => by rcases (by omega : j = 0 ∨ j = 1) with e | e <;> subst e <;> rfl) (by unfold maxLen; omega) (by omega) hbs ?_
  intro ad3 c3 pc hown3 hg3
  have hkc : Kp (growP b (.slice ad0 t.als.length c0)) pb pc := (Kp.refl _ _).grown hg3 (fun k hk => .inr (by unfold growP; rw [decide_eq_true hk, Bool.or_true]))
  have hkr : Kp (fun k => decide (base ≤ k)) pb pc := (Kp.refl _ _).grown hg3 (fun k hk => .inr (decide_eq_true (World.ownsRow.lt HOWN.out k hk).1))
  have hgr := Grow.snoc HC0.out mAlC (grown_kpt hg3 HOWN.out base (by decide)) _ hown3 (x := ⟨KS, KS2⟩) HY.out
  have HCc := Lib.hid (HTb.out.celG HRb.out HTb.out.g1 hkc (by decide))
  have hgX : growP b (.slice ad0 t.als.length c0) X = false := by
    unfold growP
    rw [decide_eq_false hXb, decide_eq_false (fun e => by have := hob X e; omega)]
    rfl
  have HXc := Lib.hid (HXb.out.kp hkc hgX)
  have HTd := Lib.hid (HTb.out.als HRb.out hkc (v' := .slice ad3 (t.als.length + 1) c3) (l' := t.als ++ [⟨KS, KS2⟩]) hgr)
  have HRc := Lib.hid (HRb.out.kp hkr (fun i hi => decide_eq_false (by omega)))
  have HKc := Lib.hid ((HKb.out.item (base := base)).trans (hkc.itemG HTb.out.g1 (Nat.le_refl _)))
  have HCS := Lib.hid ((And.intro (HCc.out.cell 1) HXc.out))
  clear hgr hkc hkr hown3 hg3 HOWN HC0 HNB HTb HRb HKb HY
  refine hK.out _ _ (fun _ => HCS.out) (fun _ => ?_)
  clear hK K
  try simp only [Act.put, List.getElem_toArray, List.getElem_cons_succ, List.getElem_cons_zero, List.setIfInBounds_toArray, List.set_cons_zero, List.set_cons_succ]
  refine wpAnyG_ready (rs := [8]) (by kernel_rfl) (by simp) ?_
  refine AllReadyG.cons rfl (fun K hK => ?_) AllReadyG.nil
  go_simp
  refine hK.out _ _ (fun _ => HCS.out) (fun _ => ?_)
  clear hK K
  try simp only [Act.put, List.getElem_toArray, List.getElem_cons_succ, List.getElem_cons_zero, List.setIfInBounds_toArray, List.set_cons_zero, List.set_cons_succ]
  refine wpAnyG_ready (rs := [9]) (by kernel_rfl) (by simp) ?_
  refine AllReadyG.cons rfl (fun K hK => ?_) AllReadyG.nil
  go_simp
  refine hK.out _ _ (fun _ => HCS.out) (fun _ => ?_)
  clear hK K
  try simp only [Act.put, List.getElem_toArray, List.getElem_cons_succ, List.getElem_cons_zero, List.setIfInBounds_toArray, List.set_cons_zero, List.set_cons_succ]
  have c1 := HCc.out.cell 1
  have f1 := HCc.out.frz 1
  have hLt := HCc.out.lt
  simp only [List.getElem?_cons_zero, List.getElem?_cons_succ] at c1
  refine wpAnyG_ready (rs := [10]) (by kernel_rfl) (by simp) ?_
  refine AllReadyG.cons rfl (fun K hK => ?_) AllReadyG.nil
  go_simp
  refine hK.out _ _ (fun h => by cases h) (fun _ => ?_)
  clear hK K
  refine wpAnyG_done (by kernel_rfl) ?_ _
  have HRd := Lib.hid (HRc.out.other (a := ⟨T, 1, none⟩) hbT (.slice ad3 (t.als.length + 1) c3))
  have HKd := Lib.hid (HKc.out.itemS (p := ⟨T, 1, none⟩) hlow (.slice ad3 (t.als.length + 1) c3))
  clear HRc HKc HCc HCS c1 f1 hLt
  generalize pc.setCell ⟨T, 1, none⟩ (.slice ad3 (t.als.length + 1) c3) = pd at *
  have c1 := HTd.out.cel.cell 1
  simp only [List.getElem?_cons_zero, List.getElem?_cons_succ] at c1
  have hLt := HTd.out.cel.lt
  by_cases hfull : 200 < t.als.length + 1
  · have hfd : decide (200 < t.als.length + 1) = true := decide_eq_true hfull
    rw [hfd] at HV
    have HFL := Lib.hid (failAt_any b E q5 f 6 pd HRd.out)
    unfold RdP at HFL
    go_wp2_with fail
    refine HFL.out.mono ?_
    rintro _ pe ⟨rfl, hre, hke⟩
    go_wp2_with fail
    go_end0
    exact ⟨rfl, by rw [HV.out]; exact ⟨_, _, _, HTd.out.rd HRd.out hke⟩, by rw [HV.out]; exact hre, HKd.out.trans hke.item⟩
  · have hfd : decide (200 < t.als.length + 1) = false := decide_eq_false hfull
    rw [hfd] at HV
    go_wp2_with fail
    go_end0
    exact ⟨rfl, by rw [HV.out]; exact ⟨_, _, _, HTd.out⟩, by rw [HV.out]; exact HRd.out, HKd.out⟩
end Go.Proofs.YtmleeodfmmpdgaaGreatDoor
namespace Go.Proofs.YtmleeodfmmpdgaaGreatDoor
open Go.RowKit
theorem run_bad {l : List UInt8} {M N : Nat} (h : RunP l M) (h0 : 0 < N) (hN : ∀ k, k < N → posV l k < l.length) (hok : ∀ k, k + 1 < N → (itemV l k).2.2.2 = 0) (hE : (itemV l (N - 1)).2.2.2 ≠ 0) : M = N := by
  rcases Nat.lt_trichotomy M N with h1 | h1 | h1
  · rcases h.2.2 with ⟨h2, _⟩ | ⟨h2, h3⟩
    · have := hN M h1; omega
    · exact absurd (hok (M - 1) (by omega)) h3
  · exact h1
  · exact absurd (h.2.1 (N - 1) (by omega)) hE
section
variable {a b g : List UInt8} {M N K : Nat}
end
end Go.Proofs.YtmleeodfmmpdgaaGreatDoor
namespace Go.Proofs.YtmleeodfmmpdgaaGreatDoor
open Go.RowKit
attribute [local go_sem] Ext.cell Ext.frozen
attribute [local go_sem ↓] Go.wp_at_zero Go.wp_at_succ
theorem wordLen_mem {l : List UInt8} {i : Nat} (hi : i < l.length) : 0 < wordLen (l.drop i) ↔ l.getD i 0 ∈ innerL := by
  have hd := drop_at hi
  unfold wordLen
  rw [hd, List.takeWhile_cons]
  by_cases h : l.getD i 0 ∈ innerL
  · rw [if_pos (by simpa using h)]
    exact ⟨fun _ => h, fun _ => by simp⟩
  · rw [if_neg (by simpa using h)]
    exact ⟨fun h2 => absurd h2 (by simp), fun h2 => absurd h2 h⟩
theorem next_word {l : List UInt8} {i : Nat} (hi : i < l.length) (h : 0 < wordLen (l.drop i)) :
    nextV l i = if 40 < wordLen (l.drop i) then badN i 6 else ((1, (l.drop i).take (wordLen (l.drop i)), i), wordLen (l.drop i), 0, 0) := by
  have hm := (wordLen_mem hi).1 h
  have k1 : ∀ c ∈ innerL, c ∉ marksL ∧ c ≠ 34 := by decide
  obtain ⟨h1, h2⟩ := k1 _ hm
  unfold nextV
  rw [if_neg h1, if_neg h2, if_neg (by omega)]
theorem next_quote {l : List UInt8} {i : Nat} (h : l.getD i 0 = 34) : nextV l i = quotedV l i := by
  unfold nextV
  rw [if_neg (by rw [h]; decide), if_pos h]
theorem next_mark {l : List UInt8} {i : Nat} (h : l.getD i 0 ∈ marksL) : nextV l i = ((3, [l.getD i 0], i), 1, 0, 0) := by
  unfold nextV
  rw [if_pos h]
theorem next_else {l : List UInt8} {i : Nat} (h : ¬ 0 < wordLen (l.drop i)) (h1 : l.getD i 0 ≠ 34) (h2 : l.getD i 0 ∉ marksL) : nextV l i = badN i 3 := by
  unfold nextV
  rw [if_neg h2, if_neg h1, if_pos (by omega)]
end Go.Proofs.YtmleeodfmmpdgaaGreatDoor
namespace Go.Proofs.YtmleeodfmmpdgaaGreatDoor
open Go.RowKit
theorem takeWhile_idem (p : UInt8 → Bool) : ∀ x : List UInt8, (x.takeWhile p).takeWhile p = x.takeWhile p
  | [] => rfl
  | c :: x => by
    by_cases h : p c = true
    · rw [List.takeWhile_cons, if_pos h, List.takeWhile_cons, if_pos h, takeWhile_idem p x]
    · rw [List.takeWhile_cons, if_neg h]; rfl
theorem next_ok {l : List UInt8} {i : Nat} (hi : i < l.length) (h : (nextV l i).2.2.2 = 0) : okZ (zOf (nextV l i)) = true ∧ (nextV l i).1.2.1.length ≤ (nextV l i).2.1 := by
  by_cases hw : 0 < wordLen (l.drop i)
  · have hn := next_word hi hw
    by_cases h4 : 40 < wordLen (l.drop i)
    · rw [if_pos h4] at hn
      rw [hn] at h
      exact absurd (show (6 : Nat) = 0 from h) (by decide)
    · rw [if_neg h4] at hn
      rw [hn]
      have hle := wordLen_le (l.drop i)
      have hlt : ((l.drop i).take (wordLen (l.drop i))).length = wordLen (l.drop i) := by rw [List.length_take]; omega
      have hww : wordLen ((l.drop i).take (wordLen (l.drop i))) = wordLen (l.drop i) := by
        have e : (l.drop i).take (wordLen (l.drop i)) = (l.drop i).takeWhile (innerL.contains ·) := (List.prefix_iff_eq_take.1 (List.takeWhile_prefix _)).symm
        rw [e]
        unfold wordLen
        rw [takeWhile_idem]
      refine ⟨?_, by show _ ≤ wordLen (l.drop i); rw [hlt]; exact Nat.le_refl _⟩
      show okZ (((1 : Nat) : Int), _, _) = true
      rw [show ((1 : Nat) : Int) = 1 from rfl, okZ_1]
      have hA : isWordV ((l.drop i).take (wordLen (l.drop i))) = true := by
        generalize (l.drop i).take (wordLen (l.drop i)) = X at *
        unfold isWordV
        rw [decide_eq_true (p := X ≠ []) (fun e => by rw [e] at hlt; simp at hlt; omega), decide_eq_true (p := X.length ≤ 40) (by omega), decide_eq_true (p := wordLen X = X.length) (by omega)]
        rfl
      exact hA
  · by_cases h34 : l.getD i 0 = 34
    · rw [next_quote h34] at h ⊢
      cases hn : endL (l.drop (i + 1)) with
      | none => rw [quotedV_none hn] at h; exact absurd (show (3 : Nat) = 0 from h) (by decide)
      | some n =>
        rw [quotedV_some hn] at h ⊢
        have hul := (unescV_len ((l.drop (i + 1)).take n)).1
        rw [List.length_take] at hul
        split at h
        · exact absurd (show (3 : Nat) = 0 from h) (by decide)
        · rename_i h1
          rw [if_neg h1]
          split at h
          · exact absurd (show (6 : Nat) = 0 from h) (by decide)
          · rename_i h2
            rw [if_neg h2]
            split at h
            · exact absurd (show (4 : Nat) = 0 from h) (by decide)
            · rename_i h3
              rw [if_neg h3]
              refine ⟨?_, by show (unescV ((l.drop (i + 1)).take n)).1.length ≤ n + 2; omega⟩
              show okZ (((2 : Nat) : Int), _, _) = true
              rw [show ((2 : Nat) : Int) = 2 from rfl, okZ_2]
              have hB : isTextV (unescV ((l.drop (i + 1)).take n)).1 = true := by
                generalize (unescV ((l.drop (i + 1)).take n)).1 = X at *
                unfold isTextV
                rw [decide_eq_true (p := X.length ≤ 400) (by omega)]
                cases hv : Lib.validD X
                · exact absurd hv h3
                · rfl
              exact hB
    · by_cases hm : l.getD i 0 ∈ marksL
      · rw [next_mark hm]
        refine ⟨?_, Nat.le_refl _⟩
        show okZ (((3 : Nat) : Int), _, _) = true
        rw [show ((3 : Nat) : Int) = 3 from rfl, okZ_3]
        unfold isMarkV
        rw [decide_eq_true (by rfl), decide_eq_true (by exact hm)]
        rfl
      · rw [next_else hw h34 hm] at h
        exact absurd (show (3 : Nat) = 0 from h) (by decide)
def textSum (xs : List Tz) : Nat := (xs.map fun x => x.2.1.length).sum
theorem textSum_snoc (xs : List Tz) (x : Tz) : textSum (xs ++ [x]) = textSum xs + x.2.1.length := by simp [textSum]
theorem texts_le {l : List UInt8} {M : Nat} (hr : RunP l M) (hok : ∀ k, k < M → (itemV l k).2.2.2 = 0) : ∀ k, k ≤ M → textSum ((upto (itemV l) k).map zOf) ≤ posV l k
  | 0, _ => Nat.zero_le _
  | k + 1, h => by
    have ih := texts_le hr hok k (by omega)
    have h1 := (next_ok (hr.1 k (by omega)) (hok k (by omega))).2
    rw [upto_succ, List.map_append, List.map_singleton, textSum_snoc]
    show _ ≤ skipAt l (posV l k + (nextV l (posV l k)).2.1)
    unfold skipAt
    replace h1 : (itemV l k).1.2.1.length ≤ (nextV l (posV l k)).2.1 := h1
    show _ + (itemV l k).1.2.1.length ≤ _
    omega
end Go.Proofs.YtmleeodfmmpdgaaGreatDoor
namespace Go.Proofs.YtmleeodfmmpdgaaGreatDoor
open Go.RowKit
attribute [local go_sem] Ext.cell Ext.frozen
attribute [local go_sem ↓] Go.wp_at_zero Go.wp_at_succ
theorem run_same {l : List UInt8} {M N : Nat} (h : RunP l M) (k : RunP l N) : M = N := by
  rcases k.2.2 with ⟨h1, h2⟩ | ⟨h1, h2⟩
  · exact run_unique h (fun q hq => ⟨k.1 q hq, h2 q hq⟩) h1
  · exact run_bad h h1 k.1 k.2.1 h2
end Go.Proofs.YtmleeodfmmpdgaaGreatDoor
namespace Go.Proofs.YtmleeodfmmpdgaaGreatDoor
noncomputable def runM (l : List UInt8) : Nat := (run_exists l).choose
theorem runM_ok (l : List UInt8) : RunP l (runM l) ∧ runM l ≤ l.length + 1 := (run_exists l).choose_spec
theorem runM_eq {l : List UInt8} {M : Nat} (h : RunP l M) : runM l = M := run_same (runM_ok l).1 h
def allOk (f : Nat → Nx) (M : Nat) : Bool := (List.range M).all fun k => decide ((f k).2.2.2 = 0)
theorem allOk_iff (f : Nat → Nx) (M : Nat) : allOk f M = true ↔ ∀ k, k < M → (f k).2.2.2 = 0 := by
  unfold allOk
  rw [List.all_eq_true]
  exact ⟨fun h k hk => of_decide_eq_true (h k (List.mem_range.2 hk)), fun h k hk => decide_eq_true (h k (List.mem_range.1 hk))⟩
noncomputable def toksV (l : List UInt8) : List Tz × Int × Int :=
  if allOk (itemV l) (runM l) then ((upto (itemV l) (runM l)).map zOf, 0, 0) else ([], ((itemV l (runM l - 1)).2.2.1 : Int), ((itemV l (runM l - 1)).2.2.2 : Int))
theorem posV_len (l : List UInt8) : ∀ (k : Nat), (∀ q, q < k → posV l q < l.length) → posV l k ≤ l.length
  | 0, _ => skipAt_le l (Nat.zero_le _)
  | k + 1, h => by
    have h1 := h k (by omega)
    exact skipAt_le l (next_len l _ h1)
theorem sum_mem {xs : List Nat} {n : Nat} (h : n ∈ xs) : n ≤ xs.sum := by
  induction xs with
  | nil => cases h
  | cons x xs ih =>
    rcases List.mem_cons.1 h with rfl | h
    · simp
    · have := ih h
      simp
      omega
theorem toksV_le (l : List UInt8) : (∀ t ∈ (toksV l).1, t.2.1.length ≤ l.length) ∧ (toksV l).1.length ≤ l.length + 1 := by
  unfold toksV
  split
  · rename_i h
    rw [allOk_iff] at h
    obtain ⟨hr, hl⟩ := runM_ok l
    have h1 := texts_le hr h (runM l) (Nat.le_refl _)
    have h2 := posV_len l (runM l) hr.1
    refine ⟨fun t ht => ?_, ?_⟩
    · have : t.2.1.length ≤ textSum ((upto (itemV l) (runM l)).map zOf) := sum_mem (List.mem_map.2 ⟨t, ht, rfl⟩)
      omega
    · show ((upto (itemV l) (runM l)).map zOf).length ≤ _
      rw [List.length_map, upto_length]
      exact hl
  · exact ⟨(fun t ht => by cases ht), Nat.zero_le _⟩
theorem RS.Le.tItem (E : Int) (y : Lc) (r : RS) : RS.Le (tItem E y r).2 r := by
  unfold Go.Proofs.YtmleeodfmmpdgaaGreatDoor.tItem
  split
  · exact .fail E 3 r
  · exact (RS.Le.itN E _ y _ _).trans (.word E r)
theorem RS.Le.tItems (E : Int) : ∀ (n : Nat) (y : Lc) (r : RS), RS.Le (tItems E n y r).2 r
  | 0, _, r => .refl r
  | n + 1, y, r => by
    rw [Go.Proofs.YtmleeodfmmpdgaaGreatDoor.tItems]
    split
    · exact (RS.Le.tItems E n _ _).trans (.tItem E y r)
    · exact .refl r
theorem RS.Le.head (E : Int) (r : RS) : RS.Le (r.head E).2 r := by
  unfold RS.head
  dsimp only
  split
  · exact (RS.Le.word E _).trans ((RS.Le.word E _).trans (.word E r))
  · exact .word E r
theorem RS.Le.tLocale (E : Int) (r : RS) : RS.Le (tLocale E r).2 r := (RS.Le.mark E _ _).trans ((RS.Le.tItems E _ _ _).trans ((RS.Le.mark E _ _).trans (.head E r)))
theorem RS.Le.al (E : Int) (r : RS) : RS.Le (RS.al E r).2 r := (RS.Le.mark E _ _).trans ((RS.Le.word E _).trans (.word E r))
theorem RS.Le.ne (E : Int) (r : RS) : RS.Le (RS.ne E r).2 r := (RS.Le.mark E _ _).trans ((RS.Le.number E 1000 _).trans ((RS.Le.word E _).trans (.word E r)))
theorem RS.is_kind {E k : Int} {s : List UInt8} {r : RS} (h : r.is E k s = true) : r.e = 0 ∧ (r.peek E).1 = k ∧ (r.peek E).2.1 = s := by
  unfold RS.is at h
  rw [Bool.and_eq_true, Bool.and_eq_true, decide_eq_true_eq, decide_eq_true_eq, decide_eq_true_eq] at h
  exact h
theorem tPart_lt {E : Int} {t : Tb} {r : RS} (h : (tPart E t r).2.e = 0) : (tPart E t r).2.l.length < r.l.length := by
  unfold tPart at h ⊢
  dsimp only at h ⊢
  by_cases h1 : r.is E 1 [108, 111, 99, 97, 108, 101] = true
  · rw [if_pos h1]
    obtain ⟨he, hk, _⟩ := RS.is_kind h1
    exact Nat.lt_of_le_of_lt ((RS.Le.tLim _ _ _).trans (.tLocale E _)) (RS.word_lt hk he)
  · rw [if_neg h1] at h ⊢
    by_cases h2 : r.is E 1 [97, 108, 105, 97, 115] = true
    · rw [if_pos h2]
      obtain ⟨he, hk, _⟩ := RS.is_kind h2
      exact Nat.lt_of_le_of_lt ((RS.Le.tLim _ _ _).trans (.al E _)) (RS.word_lt hk he)
    · rw [if_neg h2] at h ⊢
      by_cases h3 : r.is E 1 [110, 101, 97, 114] = true
      · rw [if_pos h3]
        obtain ⟨he, hk, _⟩ := RS.is_kind h3
        exact Nat.lt_of_le_of_lt ((RS.Le.tLim _ _ _).trans (.ne E _)) (RS.word_lt hk he)
      · rw [if_neg h3] at h
        exact absurd h (RS.fail_e E (by decide) r)
structure TbFew (m : Nat) (t : Tb) : Prop where
  locs : t.locs.length ≤ 60 + m
  als : t.als.length ≤ 200 + m
  near : t.near.length ≤ 200 + m
theorem tLim_ok {p : Int} {f : Bool} {r : RS} (h : (tLim p f r).e = 0) : f = false ∧ r.e = 0 := by
  unfold tLim at h
  cases f with
  | true => exact absurd h (RS.failAt_e p (by decide) r)
  | false => exact ⟨rfl, h⟩
theorem TbFew.part {E : Int} {t : Tb} {r : RS} (h : TbFew 0 t) : TbFew 1 (tPart E t r).1 ∧ ((tPart E t r).2.e = 0 → TbFew 0 (tPart E t r).1) := by
  have a0 := h.locs
  have a1 := h.als
  have a2 := h.near
  unfold tPart
  dsimp only
  split
  · refine ⟨⟨by simp; omega, by show t.als.length ≤ _; omega, by show t.near.length ≤ _; omega⟩, fun g => ⟨?_, h.als, h.near⟩⟩
    have := (tLim_ok g).1
    rw [decide_eq_false_iff_not] at this
    simp
    omega
  · split
    · refine ⟨⟨by show t.locs.length ≤ _; omega, by simp; omega, by show t.near.length ≤ _; omega⟩, fun g => ⟨h.locs, ?_, h.near⟩⟩
      have := (tLim_ok g).1
      rw [decide_eq_false_iff_not] at this
      simp
      omega
    · split
      · refine ⟨⟨by show t.locs.length ≤ _; omega, by show t.als.length ≤ _; omega, by simp; omega⟩, fun g => ⟨h.locs, h.als, ?_⟩⟩
        have := (tLim_ok g).1
        rw [decide_eq_false_iff_not] at this
        simp
        omega
      · exact ⟨⟨by show t.locs.length ≤ _; omega, by show t.als.length ≤ _; omega, by show t.near.length ≤ _; omega⟩, fun _ => h⟩
def tb0 : Tb := ⟨[], [], []⟩
def tRead (E : Int) (ts : List Tz) : Tb × Int × Int :=
  let q := tParts E (ts.length + 1) tb0 ⟨ts, 0, 0⟩
  if q.2.e = 0 then (q.1, 0, 0) else (tb0, q.2.pos, q.2.e)
noncomputable def tParse (l : List UInt8) : Tb × Int × Int :=
  if 200000 < l.length then (tb0, 0, 6)
  else if (toksV l).2.2 = 0 then tRead (l.length : Int) (toksV l).1 else (tb0, (toksV l).2.1, (toksV l).2.2)
end Go.Proofs.YtmleeodfmmpdgaaGreatDoor
