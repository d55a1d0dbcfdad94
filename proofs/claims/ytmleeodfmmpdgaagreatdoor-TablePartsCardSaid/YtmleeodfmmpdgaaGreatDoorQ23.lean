/- Walks: one more row, with its checks: list patterns and date patterns. -/
import Derived.Test.YtmleeodfmmpdgaaGreatDoorQ22
import Derived.DeepKeys
namespace Go.Proofs.YtmleeodfmmpdgaaGreatDoor
open Go.RowKit
attribute [local go_sem] Ext.cell Ext.frozen
attribute [local go_sem ↓] Go.wp_at_zero Go.wp_at_succ
theorem infoLp : (Tryz.prog.info? 130).map (fun i => (i.zero, i.size, i.bytes)) = some (some (.agg #[.string .empty, .string .empty, .string .empty, .string .empty, .string .empty]), 5, 80) := by kernel_rfl
theorem infoDp : (Tryz.prog.info? 134).map (fun i => (i.zero, i.size, i.bytes)) = some (some (.agg #[.string .empty, .string .empty]), 2, 32) := by kernel_rfl
set_option maxRecDepth 20000 in
set_option maxHeartbeats 4000000 in
theorem added_Lp (b : Nat) (E p lim : Int) (r : RS) (w : World) (h : Rd w b E r) (base : Nat) (hbb : b < base) (hbase : base ≤ w.heap.size) (l : List Lp) (ad : Option Addr) (c : Nat) (hg : Grow 130 5 LpC base ([] : List TypeId) w (.slice ad l.length c) l) (hl : l.length ≤ 1000)
    (x0 x1 x2 x3 x4 : ByteArray) (y : Lp) (hx : ∀ W, LpC W (fun j => (#[.string x0, .string x1, .string x2, .string x3, .string x4] : Array Value).getD j undef) y) :
    Calls Tryz.prog 274 #[.pointer (some ⟨b, 0, none⟩), .int .i64 p, .slice ad l.length c, .agg #[.string x0, .string x1, .string x2, .string x3, .string x4], .func (.func 154) #[] #[], .int .i64 lim] w fun e w' =>
      ∃ v, e = .returned v ∧ Grow 130 5 LpC base ([] : List TypeId) w' v (l ++ [y]) ∧ Rd w' b E (r.add p (anyP (fun i => decide ((l.getD i default).style = x0)) l.length) (decide (lim ≤ (l.length : Int)))) ∧ Kp (growP b (.slice ad l.length c)) w w' := by
  have hmf : ∀ (fn : Fn) (first cap : Array Value) (w : World), (Instr.makeFunc fn first cap).run Tryz.prog w = .ok (.func fn first cap) w := fun _ _ _ _ => rfl
  have mRu : ∀ (a b : World) x y, Sub a b → LpC a x y → LpC b x y := fun _ _ _ _ _ g => g.at
  have HF := Lib.hid (fun r e W (g : Rd W b E r) => failAt_any b E r p e W g)
  have HV : Hid (r.add p (anyP (fun i => decide ((l.getD i default).style = x0)) l.length) (decide (lim ≤ (l.length : Int))) = (if anyP (fun i => decide ((l.getD i default).style = x0)) l.length then r.failAt p 9 else if decide (lim ≤ (l.length : Int)) then r.failAt p 6 else r)) := rfl
  have HC : Hid (∀ W kb xb, Below w.heap.size w W → Cel W kb 191 [.func (.func 154) #[] #[]] → Cel W xb 130 [.string x0, .string x1, .string x2, .string x3, .string x4] → Calls Tryz.prog 203 #[.slice ad l.length c, .func (.func 308) #[] #[.pointer (some ⟨kb, 0, none⟩), .pointer (some ⟨xb, 0, none⟩)]] W fun e w' => e = .returned (.bool (anyP (fun i => decide ((l.getD i default).style = x0)) l.length)) ∧ Below W.heap.size W w') := by
    intro W kb xb hb hkb hxb
    obtain ⟨f, hown, hCC⟩ := hg
    obtain ⟨bb, hrw, _, _, _⟩ := own_rw hown
    refine cont_lp _ 308 _ (enters_of Tryz.func308 (by kernel_rfl) rfl) ad l.length c f bb 0 W (hrw.below hb) (fun V i hi hV => ?_)
    have hci := hCC i l[i] (List.getElem?_eq_getElem hi)
    rw [hci.c0.1]
    rw [hci.c1.1]
    rw [hci.c2.1]
    rw [hci.c3.1]
    rw [hci.c4.1]
    rw [show (l.getD i default).style = l[i].style by rw [List.getD_eq_getElem?_getD, List.getElem?_eq_getElem hi]; rfl]
    exact same_Lp _ _ _ _ _ _ _ _ _ _ kb xb V (hkb.below (hV.mono (by omega))) (hxb.below (hV.mono (by omega)))
  have HR := Lib.hid h
  have HG := Lib.hid hg
  have HX := Lib.hid hx
  have hbw := h.lt
  unfold RdP at HF
  clear h hg hx
  generalize r.add p (anyP (fun i => decide ((l.getD i default).style = x0)) l.length) (decide (lim ≤ (l.length : Int))) = res at *
  generalize anyP (fun i => decide ((l.getD i default).style = x0)) l.length = dup at *
  go_enter Tryz.func274, Tryz.ntmps274
  go_upto_region 1 with (fail)
  obtain ⟨X, hX⟩ : ∃ X, w.heap.size = X := ⟨_, rfl⟩
  have hXb : X ≠ b := by omega
  have HB2 : Hid (Below w.heap.size w ((w.alloc (.cells #[.string x0, .string x1, .string x2, .string x3, .string x4] 130)).alloc (.cells #[.func (.func 154) #[] #[]] 191))) := Bel.alloc (Bel.alloc (Bel.refl w) _) _
  have HCX2 : Hid (Cel ((w.alloc (.cells #[.string x0, .string x1, .string x2, .string x3, .string x4] 130)).alloc (.cells #[.func (.func 154) #[] #[]] 191)) X 130 [.string x0, .string x1, .string x2, .string x3, .string x4]) := by
    rw [← hX]
    exact (Cel.new w [.string x0, .string x1, .string x2, .string x3, .string x4] 130).below (Bel.alloc (Bel.refl _) _)
  have HCK2 : Hid (Cel ((w.alloc (.cells #[.string x0, .string x1, .string x2, .string x3, .string x4] 130)).alloc (.cells #[.func (.func 154) #[] #[]] 191)) (X + 1) 191 [.func (.func 154) #[] #[]]) := by
    have := Cel.new (w.alloc (.cells #[.string x0, .string x1, .string x2, .string x3, .string x4] 130)) [.func (.func 154) #[] #[]] 191
    rwa [show (w.alloc (.cells #[.string x0, .string x1, .string x2, .string x3, .string x4] 130)).heap.size = X + 1 by rw [← hX]; simp] at this
  rw [hX]
  generalize (w.alloc (.cells #[.string x0, .string x1, .string x2, .string x3, .string x4] 130)).alloc (.cells #[.func (.func 154) #[] #[]] 191) = w2 at *
  have HC2 := Lib.hid (HC.out w2 _ _ HB2.out HCK2.out HCX2.out)
  have HR2 := Lib.hid (HR.out.below HB2.out)
  have HK2 : Hid (Kp (oneP b) w w2) := kp_below HB2.out
  clear HCK2 HB2
  go_wp2_with fail
  refine HC2.out.mono ?_
  rintro _ w3 ⟨rfl, hb3⟩
  have HR3 := Lib.hid (HR2.out.below hb3)
  have HK3 := Lib.hid (HK2.out.trans (kp_below hb3))
  have HX3 := Lib.hid (HCX2.out.below hb3)
  clear hb3 HR2 HK2 HCX2 HC2
  cases dup with
  | true =>
    simp only [if_true] at HV
    have HF1 := Lib.hid (HF.out r 9 _ HR3.out)
    go_wp2_with fail
    refine HF1.out.mono ?_
    rintro _ w4 ⟨rfl, hr4, hk4⟩
    have HR4 := Lib.hid hr4
    have HK4 := Lib.hid (HK3.out.trans hk4)
    have HX4 := Lib.hid (HX3.out.kp hk4 (oneP_ne hXb))
    clear hr4 hk4 HR3 HK3 HX3 HF1
    have HRN := HR4
    have HKN := HK4
    have HXN := HX4
    have HG6 := Lib.hid ((HG.out.keep mRu (HR.out.kpt HKN.out base (by decide))).keep mRu (KpT.below (Bel.alloc (Bel.refl w4) (.cells #[.string x0, .string x1, .string x2, .string x3, .string x4] 130)) base _))
    have HR6 := Lib.hid (HRN.out.below (Bel.alloc (Bel.refl w4) (.cells #[.string x0, .string x1, .string x2, .string x3, .string x4] 130)))
    have HK6 := Lib.hid (HKN.out.alloc (.cells #[.string x0, .string x1, .string x2, .string x3, .string x4] 130))
    have HLIT := Lib.hid (rw_lit w4 #[.string x0, .string x1, .string x2, .string x3, .string x4] 130 5 rfl)
    have hbs : base ≤ (World.alloc w4 (.cells #[.string x0, .string x1, .string x2, .string x3, .string x4] 130)).heap.size := Nat.le_trans hbase HK6.out.size
    obtain ⟨f0, hown0, hC0⟩ := HG6.out
    have HOWN := Lib.hid hown0
    have HC0 := Lib.hid hC0
    have q0 := HXN.out.cell 0
    have q1 := HXN.out.cell 1
    have q2 := HXN.out.cell 2
    have q3 := HXN.out.cell 3
    have q4 := HXN.out.cell 4
    simp only [List.getElem?_cons_zero, List.getElem?_cons_succ] at q0 q1 q2 q3 q4
    have hlX := HXN.out.lt
    clear hown0 hC0 HG HC HF HG6
    go_wp2_with (at_builtin; go_must (refine wpList_app_rows rfl (.tmp 28) (.tmp 30) rfl Tryz.underlying41 infoLp rfl (by omega) base ad l.length c (flat 5 f0 l.length) rfl HOWN.out (some ⟨w4.heap.size, 0, none⟩) 1 1 (fun _ j => (#[.string x0, .string x1, .string x2, .string x3, .string x4] : Array Value).getD j undef) w4.heap.size 0 rfl HLIT.out (fun h => by cases h) (fun i j _ hj => by rcases (by omega : j = 0 ∨ j = 1 ∨ j = 2 ∨ j = 3 ∨ j = 4) with e | e | e | e | e <;> subst e <;> rfl) (by unfold maxLen; omega) (by omega) hbs ?_); intro ad3 k3 w8 hown3 hg3; have HO3 := Lib.hid hown3; have HG3 := Lib.hid hg3; clear hown3 hg3)
    go_ret
    have hown8 := fun k hk => And.intro (World.ownsRow.lt HOWN.out k hk).1 (own_ty HOWN.out hk)
    have hkq : Kp (growP b (.slice ad l.length c)) w w8 := (HK6.out.le (fun k _ hk => by unfold growP; rw [show decide (k = b) = true from hk]; rfl)).grown HG3.out (fun k hk => by
      right
      unfold growP
      rw [decide_eq_true hk, Bool.or_true])
    have hkr : Kp (fun k => decide (base ≤ k)) (World.alloc w4 (.cells #[.string x0, .string x1, .string x2, .string x3, .string x4] 130)) w8 := (Kp.refl _ _).grown HG3.out (fun k hk => .inr (decide_eq_true (hown8 k hk).1))
    exact ⟨_, rfl, Grow.snoc HC0.out mRu (grown_kpt HG3.out HOWN.out _ (by decide)) _ HO3.out (x := y) (HX.out _), by rw [HV.out]; exact HR6.out.kp hkr (fun i hi => decide_eq_false (by omega)), hkq⟩
  | false =>
    simp only [Bool.false_eq_true, if_false] at HV
    by_cases hfull : lim ≤ (l.length : Int)
    · have hfd : decide (lim ≤ (l.length : Int)) = true := decide_eq_true hfull
      rw [hfd, if_pos rfl] at HV
      have HF2 := Lib.hid (HF.out r 6 _ HR3.out)
      go_wp2_with fail
      refine HF2.out.mono ?_
      rintro _ w5 ⟨rfl, hr5, hk5⟩
      have HRN := Lib.hid hr5
      have HKN := Lib.hid (HK3.out.trans hk5)
      have HXN := Lib.hid (HX3.out.kp hk5 (oneP_ne hXb))
      clear hr5 hk5
      have HG6 := Lib.hid ((HG.out.keep mRu (HR.out.kpt HKN.out base (by decide))).keep mRu (KpT.below (Bel.alloc (Bel.refl w5) (.cells #[.string x0, .string x1, .string x2, .string x3, .string x4] 130)) base _))
      have HR6 := Lib.hid (HRN.out.below (Bel.alloc (Bel.refl w5) (.cells #[.string x0, .string x1, .string x2, .string x3, .string x4] 130)))
      have HK6 := Lib.hid (HKN.out.alloc (.cells #[.string x0, .string x1, .string x2, .string x3, .string x4] 130))
      have HLIT := Lib.hid (rw_lit w5 #[.string x0, .string x1, .string x2, .string x3, .string x4] 130 5 rfl)
      have hbs : base ≤ (World.alloc w5 (.cells #[.string x0, .string x1, .string x2, .string x3, .string x4] 130)).heap.size := Nat.le_trans hbase HK6.out.size
      obtain ⟨f0, hown0, hC0⟩ := HG6.out
      have HOWN := Lib.hid hown0
      have HC0 := Lib.hid hC0
      have q0 := HXN.out.cell 0
      have q1 := HXN.out.cell 1
      have q2 := HXN.out.cell 2
      have q3 := HXN.out.cell 3
      have q4 := HXN.out.cell 4
      simp only [List.getElem?_cons_zero, List.getElem?_cons_succ] at q0 q1 q2 q3 q4
      have hlX := HXN.out.lt
      clear hown0 hC0 HG HC HF HG6
      go_wp2_with (at_builtin; go_must (refine wpList_app_rows rfl (.tmp 28) (.tmp 30) rfl Tryz.underlying41 infoLp rfl (by omega) base ad l.length c (flat 5 f0 l.length) rfl HOWN.out (some ⟨w5.heap.size, 0, none⟩) 1 1 (fun _ j => (#[.string x0, .string x1, .string x2, .string x3, .string x4] : Array Value).getD j undef) w5.heap.size 0 rfl HLIT.out (fun h => by cases h) (fun i j _ hj => by rcases (by omega : j = 0 ∨ j = 1 ∨ j = 2 ∨ j = 3 ∨ j = 4) with e | e | e | e | e <;> subst e <;> rfl) (by unfold maxLen; omega) (by omega) hbs ?_); intro ad3 k3 w8 hown3 hg3; have HO3 := Lib.hid hown3; have HG3 := Lib.hid hg3; clear hown3 hg3)
      go_ret
      have hown8 := fun k hk => And.intro (World.ownsRow.lt HOWN.out k hk).1 (own_ty HOWN.out hk)
      have hkq : Kp (growP b (.slice ad l.length c)) w w8 := (HK6.out.le (fun k _ hk => by unfold growP; rw [show decide (k = b) = true from hk]; rfl)).grown HG3.out (fun k hk => by
        right
        unfold growP
        rw [decide_eq_true hk, Bool.or_true])
      have hkr : Kp (fun k => decide (base ≤ k)) (World.alloc w5 (.cells #[.string x0, .string x1, .string x2, .string x3, .string x4] 130)) w8 := (Kp.refl _ _).grown HG3.out (fun k hk => .inr (decide_eq_true (hown8 k hk).1))
      exact ⟨_, rfl, Grow.snoc HC0.out mRu (grown_kpt HG3.out HOWN.out _ (by decide)) _ HO3.out (x := y) (HX.out _), by rw [HV.out]; exact HR6.out.kp hkr (fun i hi => decide_eq_false (by omega)), hkq⟩
    · have hfd : decide (lim ≤ (l.length : Int)) = false := decide_eq_false hfull
      rw [hfd, if_neg (by simp)] at HV
      have HRN := Lib.hid HR3.out
      have HKN := Lib.hid HK3.out
      have HXN := Lib.hid HX3.out
      have HG6 := Lib.hid ((HG.out.keep mRu (HR.out.kpt HKN.out base (by decide))).keep mRu (KpT.below (Bel.alloc (Bel.refl w3) (.cells #[.string x0, .string x1, .string x2, .string x3, .string x4] 130)) base _))
      have HR6 := Lib.hid (HRN.out.below (Bel.alloc (Bel.refl w3) (.cells #[.string x0, .string x1, .string x2, .string x3, .string x4] 130)))
      have HK6 := Lib.hid (HKN.out.alloc (.cells #[.string x0, .string x1, .string x2, .string x3, .string x4] 130))
      have HLIT := Lib.hid (rw_lit w3 #[.string x0, .string x1, .string x2, .string x3, .string x4] 130 5 rfl)
      have hbs : base ≤ (World.alloc w3 (.cells #[.string x0, .string x1, .string x2, .string x3, .string x4] 130)).heap.size := Nat.le_trans hbase HK6.out.size
      obtain ⟨f0, hown0, hC0⟩ := HG6.out
      have HOWN := Lib.hid hown0
      have HC0 := Lib.hid hC0
      have q0 := HXN.out.cell 0
      have q1 := HXN.out.cell 1
      have q2 := HXN.out.cell 2
      have q3 := HXN.out.cell 3
      have q4 := HXN.out.cell 4
      simp only [List.getElem?_cons_zero, List.getElem?_cons_succ] at q0 q1 q2 q3 q4
      have hlX := HXN.out.lt
      clear hown0 hC0 HG HC HF HG6
      go_wp2_with (at_builtin; go_must (refine wpList_app_rows rfl (.tmp 28) (.tmp 30) rfl Tryz.underlying41 infoLp rfl (by omega) base ad l.length c (flat 5 f0 l.length) rfl HOWN.out (some ⟨w3.heap.size, 0, none⟩) 1 1 (fun _ j => (#[.string x0, .string x1, .string x2, .string x3, .string x4] : Array Value).getD j undef) w3.heap.size 0 rfl HLIT.out (fun h => by cases h) (fun i j _ hj => by rcases (by omega : j = 0 ∨ j = 1 ∨ j = 2 ∨ j = 3 ∨ j = 4) with e | e | e | e | e <;> subst e <;> rfl) (by unfold maxLen; omega) (by omega) hbs ?_); intro ad3 k3 w8 hown3 hg3; have HO3 := Lib.hid hown3; have HG3 := Lib.hid hg3; clear hown3 hg3)
      go_ret
      have hown8 := fun k hk => And.intro (World.ownsRow.lt HOWN.out k hk).1 (own_ty HOWN.out hk)
      have hkq : Kp (growP b (.slice ad l.length c)) w w8 := (HK6.out.le (fun k _ hk => by unfold growP; rw [show decide (k = b) = true from hk]; rfl)).grown HG3.out (fun k hk => by
        right
        unfold growP
        rw [decide_eq_true hk, Bool.or_true])
      have hkr : Kp (fun k => decide (base ≤ k)) (World.alloc w3 (.cells #[.string x0, .string x1, .string x2, .string x3, .string x4] 130)) w8 := (Kp.refl _ _).grown HG3.out (fun k hk => .inr (decide_eq_true (hown8 k hk).1))
      exact ⟨_, rfl, Grow.snoc HC0.out mRu (grown_kpt HG3.out HOWN.out _ (by decide)) _ HO3.out (x := y) (HX.out _), by rw [HV.out]; exact HR6.out.kp hkr (fun i hi => decide_eq_false (by omega)), hkq⟩
set_option maxRecDepth 20000 in
set_option maxHeartbeats 4000000 in
theorem added_Dp (b : Nat) (E p lim : Int) (r : RS) (w : World) (h : Rd w b E r) (base : Nat) (hbb : b < base) (hbase : base ≤ w.heap.size) (l : List Dp) (ad : Option Addr) (c : Nat) (hg : Grow 134 2 DpC base ([] : List TypeId) w (.slice ad l.length c) l) (hl : l.length ≤ 1000)
    (x0 x1 : ByteArray) (y : Dp) (hx : ∀ W, DpC W (fun j => (#[.string x0, .string x1] : Array Value).getD j undef) y) :
    Calls Tryz.prog 277 #[.pointer (some ⟨b, 0, none⟩), .int .i64 p, .slice ad l.length c, .agg #[.string x0, .string x1], .func (.func 158) #[] #[], .int .i64 lim] w fun e w' =>
      ∃ v, e = .returned v ∧ Grow 134 2 DpC base ([] : List TypeId) w' v (l ++ [y]) ∧ Rd w' b E (r.add p (anyP (fun i => decide ((l.getD i default).skel = x0)) l.length) (decide (lim ≤ (l.length : Int)))) ∧ Kp (growP b (.slice ad l.length c)) w w' := by
  have hmf : ∀ (fn : Fn) (first cap : Array Value) (w : World), (Instr.makeFunc fn first cap).run Tryz.prog w = .ok (.func fn first cap) w := fun _ _ _ _ => rfl
  have mRu : ∀ (a b : World) x y, Sub a b → DpC a x y → DpC b x y := fun _ _ _ _ _ g => g.at
  have HF := Lib.hid (fun r e W (g : Rd W b E r) => failAt_any b E r p e W g)
  have HV : Hid (r.add p (anyP (fun i => decide ((l.getD i default).skel = x0)) l.length) (decide (lim ≤ (l.length : Int))) = (if anyP (fun i => decide ((l.getD i default).skel = x0)) l.length then r.failAt p 9 else if decide (lim ≤ (l.length : Int)) then r.failAt p 6 else r)) := rfl
  have HC : Hid (∀ W kb xb, Below w.heap.size w W → Cel W kb 196 [.func (.func 158) #[] #[]] → Cel W xb 134 [.string x0, .string x1] → Calls Tryz.prog 207 #[.slice ad l.length c, .func (.func 310) #[] #[.pointer (some ⟨kb, 0, none⟩), .pointer (some ⟨xb, 0, none⟩)]] W fun e w' => e = .returned (.bool (anyP (fun i => decide ((l.getD i default).skel = x0)) l.length)) ∧ Below W.heap.size W w') := by
    intro W kb xb hb hkb hxb
    obtain ⟨f, hown, hCC⟩ := hg
    obtain ⟨bb, hrw, _, _, _⟩ := own_rw hown
    refine cont_dp _ 310 _ (enters_of Tryz.func310 (by kernel_rfl) rfl) ad l.length c f bb 0 W (hrw.below hb) (fun V i hi hV => ?_)
    have hci := hCC i l[i] (List.getElem?_eq_getElem hi)
    rw [hci.c0.1]
    rw [hci.c1.1]
    rw [show (l.getD i default).skel = l[i].skel by rw [List.getD_eq_getElem?_getD, List.getElem?_eq_getElem hi]; rfl]
    exact same_Dp _ _ _ _ kb xb V (hkb.below (hV.mono (by omega))) (hxb.below (hV.mono (by omega)))
  have HR := Lib.hid h
  have HG := Lib.hid hg
  have HX := Lib.hid hx
  have hbw := h.lt
  unfold RdP at HF
  clear h hg hx
  generalize r.add p (anyP (fun i => decide ((l.getD i default).skel = x0)) l.length) (decide (lim ≤ (l.length : Int))) = res at *
  generalize anyP (fun i => decide ((l.getD i default).skel = x0)) l.length = dup at *
  go_enter Tryz.func277, Tryz.ntmps277
  go_upto_region 1 with (fail)
  obtain ⟨X, hX⟩ : ∃ X, w.heap.size = X := ⟨_, rfl⟩
  have hXb : X ≠ b := by omega
  have HB2 : Hid (Below w.heap.size w ((w.alloc (.cells #[.string x0, .string x1] 134)).alloc (.cells #[.func (.func 158) #[] #[]] 196))) := Bel.alloc (Bel.alloc (Bel.refl w) _) _
  have HCX2 : Hid (Cel ((w.alloc (.cells #[.string x0, .string x1] 134)).alloc (.cells #[.func (.func 158) #[] #[]] 196)) X 134 [.string x0, .string x1]) := by
    rw [← hX]
    exact (Cel.new w [.string x0, .string x1] 134).below (Bel.alloc (Bel.refl _) _)
  have HCK2 : Hid (Cel ((w.alloc (.cells #[.string x0, .string x1] 134)).alloc (.cells #[.func (.func 158) #[] #[]] 196)) (X + 1) 196 [.func (.func 158) #[] #[]]) := by
    have := Cel.new (w.alloc (.cells #[.string x0, .string x1] 134)) [.func (.func 158) #[] #[]] 196
    rwa [show (w.alloc (.cells #[.string x0, .string x1] 134)).heap.size = X + 1 by rw [← hX]; simp] at this
  rw [hX]
  generalize (w.alloc (.cells #[.string x0, .string x1] 134)).alloc (.cells #[.func (.func 158) #[] #[]] 196) = w2 at *
  have HC2 := Lib.hid (HC.out w2 _ _ HB2.out HCK2.out HCX2.out)
  have HR2 := Lib.hid (HR.out.below HB2.out)
  have HK2 : Hid (Kp (oneP b) w w2) := kp_below HB2.out
  clear HCK2 HB2
  go_wp2_with fail
  refine HC2.out.mono ?_
  rintro _ w3 ⟨rfl, hb3⟩
  have HR3 := Lib.hid (HR2.out.below hb3)
  have HK3 := Lib.hid (HK2.out.trans (kp_below hb3))
  have HX3 := Lib.hid (HCX2.out.below hb3)
  clear hb3 HR2 HK2 HCX2 HC2
  cases dup with
  | true =>
    simp only [if_true] at HV
    have HF1 := Lib.hid (HF.out r 9 _ HR3.out)
    go_wp2_with fail
    refine HF1.out.mono ?_
    rintro _ w4 ⟨rfl, hr4, hk4⟩
    have HR4 := Lib.hid hr4
    have HK4 := Lib.hid (HK3.out.trans hk4)
    have HX4 := Lib.hid (HX3.out.kp hk4 (oneP_ne hXb))
    clear hr4 hk4 HR3 HK3 HX3 HF1
    have HRN := HR4
    have HKN := HK4
    have HXN := HX4
    have HG6 := Lib.hid ((HG.out.keep mRu (HR.out.kpt HKN.out base (by decide))).keep mRu (KpT.below (Bel.alloc (Bel.refl w4) (.cells #[.string x0, .string x1] 134)) base _))
    have HR6 := Lib.hid (HRN.out.below (Bel.alloc (Bel.refl w4) (.cells #[.string x0, .string x1] 134)))
    have HK6 := Lib.hid (HKN.out.alloc (.cells #[.string x0, .string x1] 134))
    have HLIT := Lib.hid (rw_lit w4 #[.string x0, .string x1] 134 2 rfl)
    have hbs : base ≤ (World.alloc w4 (.cells #[.string x0, .string x1] 134)).heap.size := Nat.le_trans hbase HK6.out.size
    obtain ⟨f0, hown0, hC0⟩ := HG6.out
    have HOWN := Lib.hid hown0
    have HC0 := Lib.hid hC0
    have q0 := HXN.out.cell 0
    have q1 := HXN.out.cell 1
    simp only [List.getElem?_cons_zero, List.getElem?_cons_succ] at q0 q1
    have hlX := HXN.out.lt
    clear hown0 hC0 HG HC HF HG6
    go_wp2_with (at_builtin; go_must (refine wpList_app_rows rfl (.tmp 28) (.tmp 30) rfl Tryz.underlying43 infoDp rfl (by omega) base ad l.length c (flat 2 f0 l.length) rfl HOWN.out (some ⟨w4.heap.size, 0, none⟩) 1 1 (fun _ j => (#[.string x0, .string x1] : Array Value).getD j undef) w4.heap.size 0 rfl HLIT.out (fun h => by cases h) (fun i j _ hj => by rcases (by omega : j = 0 ∨ j = 1) with e | e <;> subst e <;> rfl) (by unfold maxLen; omega) (by omega) hbs ?_); intro ad3 k3 w8 hown3 hg3; have HO3 := Lib.hid hown3; have HG3 := Lib.hid hg3; clear hown3 hg3)
    go_ret
    have hown8 := fun k hk => And.intro (World.ownsRow.lt HOWN.out k hk).1 (own_ty HOWN.out hk)
    have hkq : Kp (growP b (.slice ad l.length c)) w w8 := (HK6.out.le (fun k _ hk => by unfold growP; rw [show decide (k = b) = true from hk]; rfl)).grown HG3.out (fun k hk => by
      right
      unfold growP
      rw [decide_eq_true hk, Bool.or_true])
    have hkr : Kp (fun k => decide (base ≤ k)) (World.alloc w4 (.cells #[.string x0, .string x1] 134)) w8 := (Kp.refl _ _).grown HG3.out (fun k hk => .inr (decide_eq_true (hown8 k hk).1))
    exact ⟨_, rfl, Grow.snoc HC0.out mRu (grown_kpt HG3.out HOWN.out _ (by decide)) _ HO3.out (x := y) (HX.out _), by rw [HV.out]; exact HR6.out.kp hkr (fun i hi => decide_eq_false (by omega)), hkq⟩
  | false =>
    simp only [Bool.false_eq_true, if_false] at HV
    by_cases hfull : lim ≤ (l.length : Int)
    · have hfd : decide (lim ≤ (l.length : Int)) = true := decide_eq_true hfull
      rw [hfd, if_pos rfl] at HV
      have HF2 := Lib.hid (HF.out r 6 _ HR3.out)
      go_wp2_with fail
      refine HF2.out.mono ?_
      rintro _ w5 ⟨rfl, hr5, hk5⟩
      have HRN := Lib.hid hr5
      have HKN := Lib.hid (HK3.out.trans hk5)
      have HXN := Lib.hid (HX3.out.kp hk5 (oneP_ne hXb))
      clear hr5 hk5
      have HG6 := Lib.hid ((HG.out.keep mRu (HR.out.kpt HKN.out base (by decide))).keep mRu (KpT.below (Bel.alloc (Bel.refl w5) (.cells #[.string x0, .string x1] 134)) base _))
      have HR6 := Lib.hid (HRN.out.below (Bel.alloc (Bel.refl w5) (.cells #[.string x0, .string x1] 134)))
      have HK6 := Lib.hid (HKN.out.alloc (.cells #[.string x0, .string x1] 134))
      have HLIT := Lib.hid (rw_lit w5 #[.string x0, .string x1] 134 2 rfl)
      have hbs : base ≤ (World.alloc w5 (.cells #[.string x0, .string x1] 134)).heap.size := Nat.le_trans hbase HK6.out.size
      obtain ⟨f0, hown0, hC0⟩ := HG6.out
      have HOWN := Lib.hid hown0
      have HC0 := Lib.hid hC0
      have q0 := HXN.out.cell 0
      have q1 := HXN.out.cell 1
      simp only [List.getElem?_cons_zero, List.getElem?_cons_succ] at q0 q1
      have hlX := HXN.out.lt
      clear hown0 hC0 HG HC HF HG6
      go_wp2_with (at_builtin; go_must (refine wpList_app_rows rfl (.tmp 28) (.tmp 30) rfl Tryz.underlying43 infoDp rfl (by omega) base ad l.length c (flat 2 f0 l.length) rfl HOWN.out (some ⟨w5.heap.size, 0, none⟩) 1 1 (fun _ j => (#[.string x0, .string x1] : Array Value).getD j undef) w5.heap.size 0 rfl HLIT.out (fun h => by cases h) (fun i j _ hj => by rcases (by omega : j = 0 ∨ j = 1) with e | e <;> subst e <;> rfl) (by unfold maxLen; omega) (by omega) hbs ?_); intro ad3 k3 w8 hown3 hg3; have HO3 := Lib.hid hown3; have HG3 := Lib.hid hg3; clear hown3 hg3)
      go_ret
      have hown8 := fun k hk => And.intro (World.ownsRow.lt HOWN.out k hk).1 (own_ty HOWN.out hk)
      have hkq : Kp (growP b (.slice ad l.length c)) w w8 := (HK6.out.le (fun k _ hk => by unfold growP; rw [show decide (k = b) = true from hk]; rfl)).grown HG3.out (fun k hk => by
        right
        unfold growP
        rw [decide_eq_true hk, Bool.or_true])
      have hkr : Kp (fun k => decide (base ≤ k)) (World.alloc w5 (.cells #[.string x0, .string x1] 134)) w8 := (Kp.refl _ _).grown HG3.out (fun k hk => .inr (decide_eq_true (hown8 k hk).1))
      exact ⟨_, rfl, Grow.snoc HC0.out mRu (grown_kpt HG3.out HOWN.out _ (by decide)) _ HO3.out (x := y) (HX.out _), by rw [HV.out]; exact HR6.out.kp hkr (fun i hi => decide_eq_false (by omega)), hkq⟩
    · have hfd : decide (lim ≤ (l.length : Int)) = false := decide_eq_false hfull
      rw [hfd, if_neg (by simp)] at HV
      have HRN := Lib.hid HR3.out
      have HKN := Lib.hid HK3.out
      have HXN := Lib.hid HX3.out
      have HG6 := Lib.hid ((HG.out.keep mRu (HR.out.kpt HKN.out base (by decide))).keep mRu (KpT.below (Bel.alloc (Bel.refl w3) (.cells #[.string x0, .string x1] 134)) base _))
      have HR6 := Lib.hid (HRN.out.below (Bel.alloc (Bel.refl w3) (.cells #[.string x0, .string x1] 134)))
      have HK6 := Lib.hid (HKN.out.alloc (.cells #[.string x0, .string x1] 134))
      have HLIT := Lib.hid (rw_lit w3 #[.string x0, .string x1] 134 2 rfl)
      have hbs : base ≤ (World.alloc w3 (.cells #[.string x0, .string x1] 134)).heap.size := Nat.le_trans hbase HK6.out.size
      obtain ⟨f0, hown0, hC0⟩ := HG6.out
      have HOWN := Lib.hid hown0
      have HC0 := Lib.hid hC0
      have q0 := HXN.out.cell 0
      have q1 := HXN.out.cell 1
      simp only [List.getElem?_cons_zero, List.getElem?_cons_succ] at q0 q1
      have hlX := HXN.out.lt
      clear hown0 hC0 HG HC HF HG6
      go_wp2_with (at_builtin; go_must (refine wpList_app_rows rfl (.tmp 28) (.tmp 30) rfl Tryz.underlying43 infoDp rfl (by omega) base ad l.length c (flat 2 f0 l.length) rfl HOWN.out (some ⟨w3.heap.size, 0, none⟩) 1 1 (fun _ j => (#[.string x0, .string x1] : Array Value).getD j undef) w3.heap.size 0 rfl HLIT.out (fun h => by cases h) (fun i j _ hj => by rcases (by omega : j = 0 ∨ j = 1) with e | e <;> subst e <;> rfl) (by unfold maxLen; omega) (by omega) hbs ?_); intro ad3 k3 w8 hown3 hg3; have HO3 := Lib.hid hown3; have HG3 := Lib.hid hg3; clear hown3 hg3)
      go_ret
      have hown8 := fun k hk => And.intro (World.ownsRow.lt HOWN.out k hk).1 (own_ty HOWN.out hk)
      have hkq : Kp (growP b (.slice ad l.length c)) w w8 := (HK6.out.le (fun k _ hk => by unfold growP; rw [show decide (k = b) = true from hk]; rfl)).grown HG3.out (fun k hk => by
        right
        unfold growP
        rw [decide_eq_true hk, Bool.or_true])
      have hkr : Kp (fun k => decide (base ≤ k)) (World.alloc w3 (.cells #[.string x0, .string x1] 134)) w8 := (Kp.refl _ _).grown HG3.out (fun k hk => .inr (decide_eq_true (hown8 k hk).1))
      exact ⟨_, rfl, Grow.snoc HC0.out mRu (grown_kpt HG3.out HOWN.out _ (by decide)) _ HO3.out (x := y) (HX.out _), by rw [HV.out]; exact HR6.out.kp hkr (fun i hi => decide_eq_false (by omega)), hkq⟩
end Go.Proofs.YtmleeodfmmpdgaaGreatDoor
/- Walks: the key of unit patterns. -/
namespace Go.Proofs.YtmleeodfmmpdgaaGreatDoor
open Go.RowKit Go.Maps Go.Sort
attribute [local go_sem] Ext.cell Ext.frozen
attribute [local go_sem ↓] Go.wp_at_zero Go.wp_at_succ
theorem cellsS2 : Tryz.prog.cellsOf 193 = 2 := by kernel_rfl
theorem rangeS2 : List.range 2 = [0, 1] := rfl
theorem eq_s2 (x y x' y' : ByteArray) (w : World) (h1 : x.size ≤ maxLen) (h2 : y.size ≤ maxLen) (h3 : x'.size ≤ maxLen) (h4 : y'.size ≤ maxLen) : (Op.equalIn 10000 193 (.agg #[.string x, .string y]) (.agg #[.string x', .string y'])).run Tryz.prog w = .ok (decide (x = x' ∧ y = y')) w := by
  have hf : ∀ x y : ByteArray, (Value.agg #[.string x, .string y]).formed Tryz.prog 193 = true := fun x y => by simp [Value.formed, Tryz.underlying193, cellsS2]
  have hl : ∀ x y : ByteArray, x.size ≤ maxLen → y.size ≤ maxLen → Tryz.prog.keyLits 2 193 [.string x, .string y] = some [.string x.data.toList, .string y.data.toList] := fun x y h1 h2 => by simp [h1, h2, Program.keyLits, Tryz.underlying193, Tryz.underlying9, cellsS2, cStB, rangeS2]
  obtain ⟨r, h1, h2⟩ := run_equalIn_deep 9998 2 193 (by kernel_rfl) w 2 2 (.agg #[.string x, .string y]) (.agg #[.string x', .string y']) _ _ (hf x y) (hf x' y') (hl x y h1 h2) (hl x' y' h3 h4)
  have : r = decide (x = x' ∧ y = y') := by
    rw [Bool.eq_iff_iff, h2, decide_eq_true_eq]
    have e : ∀ a b : ByteArray, a.data.toList = b.data.toList ↔ a = b := fun a b => ⟨fun h => ByteArray.ext (Array.toList_inj.1 h), fun h => by rw [h]⟩
    simp [e]
  rw [← this]
  exact h1
set_option maxRecDepth 20000 in
set_option maxHeartbeats 4000000 in
theorem key_Up (a0 a1 a2 : ByteArray) (w : World) : Calls Tryz.prog 156 #[.agg #[.string a0, .string a1, .string a2]] w fun e w' => e = .returned (.agg #[.string a0, .string a1]) ∧ Below w.heap.size w w' := by
  go_enter Tryz.func156, Tryz.ntmps156
  go_wp2_with fail
  refine bodyPost_ret (results_cell_row rfl _ _ (w.heap.size + 1) 193 #[.string a0, .string a1] (0, 0) _ rfl ?_ Tryz.underlying193 rfl (by kernel_rfl)) rfl ?_
  · have := heap_alloc_new (w.alloc (.cells #[.string a0, .string a1, .string a2] 132)) (.cells #[.string a0, .string a1] 193)
    rwa [show (w.alloc (.cells #[.string a0, .string a1, .string a2] 132)).heap.size = w.heap.size + 1 by simp] at this
  · exact ⟨rfl, Bel.alloc (Bel.alloc (Bel.refl w) _) _⟩
set_option maxRecDepth 20000 in
set_option maxHeartbeats 4000000 in
theorem same_Up (a0 a1 a2 : ByteArray) (x0 x1 x2 : ByteArray) (kb xb : Nat) (w : World) (z0 : a0.size ≤ maxLen) (z1 : a1.size ≤ maxLen) (z2 : x0.size ≤ maxLen) (z3 : x1.size ≤ maxLen) (hk : Cel w kb 194 [.func (.func 156) #[] #[]]) (hx : Cel w xb 132 [.string x0, .string x1, .string x2]) : Calls Tryz.prog 309 #[.agg #[.string a0, .string a1, .string a2], .pointer (some ⟨kb, 0, none⟩), .pointer (some ⟨xb, 0, none⟩)] w fun e w' => e = .returned (.bool (decide (a0 = x0 ∧ a1 = x1))) ∧ Below w.heap.size w w' := by
  have HKA := Lib.hid (key_Up a0 a1 a2)
  have HKX := Lib.hid (key_Up x0 x1 x2)
  have heq := fun W => eq_s2 a0 a1 x0 x1 W z0 z1 z2 z3
  have HCK := Lib.hid hk
  have HCX := Lib.hid hx
  have hlk := hk.lt
  have hlx := hx.lt
  clear hk hx
  obtain ⟨A, hA⟩ : ∃ A, w.heap.size = A := ⟨_, rfl⟩
  have HCA := Lib.hid (Cel.new w [.string a0, .string a1, .string a2] 132)
  have HK0 := Lib.hid (HCK.out.below (Bel.alloc (Bel.refl w) (.cells #[.string a0, .string a1, .string a2] 132)))
  have HX0 := Lib.hid (HCX.out.below (Bel.alloc (Bel.refl w) (.cells #[.string a0, .string a1, .string a2] 132)))
  have HB0 : Hid (Below w.heap.size w (w.alloc (.cells #[.string a0, .string a1, .string a2] 132))) := Bel.alloc (Bel.refl w) _
  rw [hA] at HCA
  go_enter Tryz.func309, Tryz.ntmps309
  go_upto_region 1 with (fail)
  generalize w.alloc (.cells #[.string a0, .string a1, .string a2] 132) = w0 at *
  have k0 := HK0.out.cell 0
  have hlk := HK0.out.lt
  have hlx := HX0.out.lt
  have hla := HCA.out.lt
  simp only [List.getElem?_cons_zero] at k0
  have ca0 := HCA.out.cell 0
  have cx0 := HX0.out.cell 0
  have ca1 := HCA.out.cell 1
  have cx1 := HX0.out.cell 1
  have ca2 := HCA.out.cell 2
  have cx2 := HX0.out.cell 2
  simp only [List.getElem?_cons_zero, List.getElem?_cons_succ] at ca0 cx0 ca1 cx1 ca2 cx2
  have eg := enters_of Tryz.func156 (by kernel_rfl) rfl
  refine wp_region_ext (by kernel_rfl) (by kernel_rfl) ?_
  repeat (go_big_quiet_step (first | exact Calls.ext (HKA.out _) | exact Calls.ext (HKX.out _)))
  refine wpQuiet_nil ?_
  intro _ hw'
  obtain ⟨X9, hw''⟩ := hw'
  subst hw''
  go_wp2_with fail
  go_ret
  exact ⟨by rw [Bool.decide_and]; rfl, HB0.out.trans (X9.2.mono HB0.out.size)⟩
end Go.Proofs.YtmleeodfmmpdgaaGreatDoor
/- Walks: one more row, with its checks: unit patterns. -/
namespace Go.Proofs.YtmleeodfmmpdgaaGreatDoor
open Go.RowKit
attribute [local go_sem] Ext.cell Ext.frozen
attribute [local go_sem ↓] Go.wp_at_zero Go.wp_at_succ
theorem infoUp : (Tryz.prog.info? 132).map (fun i => (i.zero, i.size, i.bytes)) = some (some (.agg #[.string .empty, .string .empty, .string .empty]), 3, 48) := by kernel_rfl
set_option maxRecDepth 20000 in
set_option maxHeartbeats 4000000 in
theorem added_Up (b : Nat) (E p lim : Int) (r : RS) (w : World) (h : Rd w b E r) (base : Nat) (hbb : b < base) (hbase : base ≤ w.heap.size) (l : List Up) (ad : Option Addr) (c : Nat) (hg : Grow 132 3 UpC base ([] : List TypeId) w (.slice ad l.length c) l) (hl : l.length ≤ 1000)
    (x0 x1 x2 : ByteArray) (z2 : x0.size ≤ maxLen) (z3 : x1.size ≤ maxLen) (y : Up) (hx : ∀ W, UpC W (fun j => (#[.string x0, .string x1, .string x2] : Array Value).getD j undef) y) :
    Calls Tryz.prog 276 #[.pointer (some ⟨b, 0, none⟩), .int .i64 p, .slice ad l.length c, .agg #[.string x0, .string x1, .string x2], .func (.func 156) #[] #[], .int .i64 lim] w fun e w' =>
      ∃ v, e = .returned v ∧ Grow 132 3 UpC base ([] : List TypeId) w' v (l ++ [y]) ∧ Rd w' b E (r.add p (anyP (fun i => decide ((l.getD i default).unit = x0 ∧ (l.getD i default).cls = x1)) l.length) (decide (lim ≤ (l.length : Int)))) ∧ Kp (growP b (.slice ad l.length c)) w w' := by
  have hmf : ∀ (fn : Fn) (first cap : Array Value) (w : World), (Instr.makeFunc fn first cap).run Tryz.prog w = .ok (.func fn first cap) w := fun _ _ _ _ => rfl
  have mRu : ∀ (a b : World) x y, Sub a b → UpC a x y → UpC b x y := fun _ _ _ _ _ g => g.at
  have HF := Lib.hid (fun r e W (g : Rd W b E r) => failAt_any b E r p e W g)
  have HV : Hid (r.add p (anyP (fun i => decide ((l.getD i default).unit = x0 ∧ (l.getD i default).cls = x1)) l.length) (decide (lim ≤ (l.length : Int))) = (if anyP (fun i => decide ((l.getD i default).unit = x0 ∧ (l.getD i default).cls = x1)) l.length then r.failAt p 9 else if decide (lim ≤ (l.length : Int)) then r.failAt p 6 else r)) := rfl
  have HC : Hid (∀ W kb xb, Below w.heap.size w W → Cel W kb 194 [.func (.func 156) #[] #[]] → Cel W xb 132 [.string x0, .string x1, .string x2] → Calls Tryz.prog 205 #[.slice ad l.length c, .func (.func 309) #[] #[.pointer (some ⟨kb, 0, none⟩), .pointer (some ⟨xb, 0, none⟩)]] W fun e w' => e = .returned (.bool (anyP (fun i => decide ((l.getD i default).unit = x0 ∧ (l.getD i default).cls = x1)) l.length)) ∧ Below W.heap.size W w') := by
    intro W kb xb hb hkb hxb
    obtain ⟨f, hown, hCC⟩ := hg
    obtain ⟨bb, hrw, _, _, _⟩ := own_rw hown
    refine cont_up _ 309 _ (enters_of Tryz.func309 (by kernel_rfl) rfl) ad l.length c f bb 0 W (hrw.below hb) (fun V i hi hV => ?_)
    have hci := hCC i l[i] (List.getElem?_eq_getElem hi)
    rw [hci.c0.1]
    rw [hci.c1.1]
    rw [hci.c2.1]
    rw [show l.getD i default = l[i] by rw [List.getD_eq_getElem?_getD, List.getElem?_eq_getElem hi]; rfl]
    exact same_Up _ _ _ _ _ _ kb xb V (by have := hci.c0.2; unfold maxLen; omega) (by have := hci.c1.2; unfold maxLen; omega) z2 z3 (hkb.below (hV.mono (by omega))) (hxb.below (hV.mono (by omega)))
  have HR := Lib.hid h
  have HG := Lib.hid hg
  have HX := Lib.hid hx
  have hbw := h.lt
  unfold RdP at HF
  clear h hg hx
  generalize r.add p (anyP (fun i => decide ((l.getD i default).unit = x0 ∧ (l.getD i default).cls = x1)) l.length) (decide (lim ≤ (l.length : Int))) = res at *
  generalize anyP (fun i => decide ((l.getD i default).unit = x0 ∧ (l.getD i default).cls = x1)) l.length = dup at *
  go_enter Tryz.func276, Tryz.ntmps276
  go_upto_region 1 with (fail)
  obtain ⟨X, hX⟩ : ∃ X, w.heap.size = X := ⟨_, rfl⟩
  have hXb : X ≠ b := by omega
  have HB2 : Hid (Below w.heap.size w ((w.alloc (.cells #[.string x0, .string x1, .string x2] 132)).alloc (.cells #[.func (.func 156) #[] #[]] 194))) := Bel.alloc (Bel.alloc (Bel.refl w) _) _
  have HCX2 : Hid (Cel ((w.alloc (.cells #[.string x0, .string x1, .string x2] 132)).alloc (.cells #[.func (.func 156) #[] #[]] 194)) X 132 [.string x0, .string x1, .string x2]) := by
    rw [← hX]
    exact (Cel.new w [.string x0, .string x1, .string x2] 132).below (Bel.alloc (Bel.refl _) _)
  have HCK2 : Hid (Cel ((w.alloc (.cells #[.string x0, .string x1, .string x2] 132)).alloc (.cells #[.func (.func 156) #[] #[]] 194)) (X + 1) 194 [.func (.func 156) #[] #[]]) := by
    have := Cel.new (w.alloc (.cells #[.string x0, .string x1, .string x2] 132)) [.func (.func 156) #[] #[]] 194
    rwa [show (w.alloc (.cells #[.string x0, .string x1, .string x2] 132)).heap.size = X + 1 by rw [← hX]; simp] at this
  rw [hX]
  generalize (w.alloc (.cells #[.string x0, .string x1, .string x2] 132)).alloc (.cells #[.func (.func 156) #[] #[]] 194) = w2 at *
  have HC2 := Lib.hid (HC.out w2 _ _ HB2.out HCK2.out HCX2.out)
  have HR2 := Lib.hid (HR.out.below HB2.out)
  have HK2 : Hid (Kp (oneP b) w w2) := kp_below HB2.out
  clear HCK2 HB2
  go_wp2_with fail
  refine HC2.out.mono ?_
  rintro _ w3 ⟨rfl, hb3⟩
  have HR3 := Lib.hid (HR2.out.below hb3)
  have HK3 := Lib.hid (HK2.out.trans (kp_below hb3))
  have HX3 := Lib.hid (HCX2.out.below hb3)
  clear hb3 HR2 HK2 HCX2 HC2
  cases dup with
  | true =>
    simp only [if_true] at HV
    have HF1 := Lib.hid (HF.out r 9 _ HR3.out)
    go_wp2_with fail
    refine HF1.out.mono ?_
    rintro _ w4 ⟨rfl, hr4, hk4⟩
    have HR4 := Lib.hid hr4
    have HK4 := Lib.hid (HK3.out.trans hk4)
    have HX4 := Lib.hid (HX3.out.kp hk4 (oneP_ne hXb))
    clear hr4 hk4 HR3 HK3 HX3 HF1
    have HRN := HR4
    have HKN := HK4
    have HXN := HX4
    have HG6 := Lib.hid ((HG.out.keep mRu (HR.out.kpt HKN.out base (by decide))).keep mRu (KpT.below (Bel.alloc (Bel.refl w4) (.cells #[.string x0, .string x1, .string x2] 132)) base _))
    have HR6 := Lib.hid (HRN.out.below (Bel.alloc (Bel.refl w4) (.cells #[.string x0, .string x1, .string x2] 132)))
    have HK6 := Lib.hid (HKN.out.alloc (.cells #[.string x0, .string x1, .string x2] 132))
    have HLIT := Lib.hid (rw_lit w4 #[.string x0, .string x1, .string x2] 132 3 rfl)
    have hbs : base ≤ (World.alloc w4 (.cells #[.string x0, .string x1, .string x2] 132)).heap.size := Nat.le_trans hbase HK6.out.size
    obtain ⟨f0, hown0, hC0⟩ := HG6.out
    have HOWN := Lib.hid hown0
    have HC0 := Lib.hid hC0
    have q0 := HXN.out.cell 0
    have q1 := HXN.out.cell 1
    have q2 := HXN.out.cell 2
    simp only [List.getElem?_cons_zero, List.getElem?_cons_succ] at q0 q1 q2
    have hlX := HXN.out.lt
    clear hown0 hC0 HG HC HF HG6
    go_wp2_with (at_builtin; go_must (refine wpList_app_rows rfl (.tmp 28) (.tmp 30) rfl Tryz.underlying42 infoUp rfl (by omega) base ad l.length c (flat 3 f0 l.length) rfl HOWN.out (some ⟨w4.heap.size, 0, none⟩) 1 1 (fun _ j => (#[.string x0, .string x1, .string x2] : Array Value).getD j undef) w4.heap.size 0 rfl HLIT.out (fun h => by cases h) (fun i j _ hj => by rcases (by omega : j = 0 ∨ j = 1 ∨ j = 2) with e | e | e <;> subst e <;> rfl) (by unfold maxLen; omega) (by omega) hbs ?_); intro ad3 k3 w8 hown3 hg3; have HO3 := Lib.hid hown3; have HG3 := Lib.hid hg3; clear hown3 hg3)
    go_ret
    have hown8 := fun k hk => And.intro (World.ownsRow.lt HOWN.out k hk).1 (own_ty HOWN.out hk)
    have hkq : Kp (growP b (.slice ad l.length c)) w w8 := (HK6.out.le (fun k _ hk => by unfold growP; rw [show decide (k = b) = true from hk]; rfl)).grown HG3.out (fun k hk => by
      right
      unfold growP
      rw [decide_eq_true hk, Bool.or_true])
    have hkr : Kp (fun k => decide (base ≤ k)) (World.alloc w4 (.cells #[.string x0, .string x1, .string x2] 132)) w8 := (Kp.refl _ _).grown HG3.out (fun k hk => .inr (decide_eq_true (hown8 k hk).1))
    exact ⟨_, rfl, Grow.snoc HC0.out mRu (grown_kpt HG3.out HOWN.out _ (by decide)) _ HO3.out (x := y) (HX.out _), by rw [HV.out]; exact HR6.out.kp hkr (fun i hi => decide_eq_false (by omega)), hkq⟩
  | false =>
    simp only [Bool.false_eq_true, if_false] at HV
    by_cases hfull : lim ≤ (l.length : Int)
    · have hfd : decide (lim ≤ (l.length : Int)) = true := decide_eq_true hfull
      rw [hfd, if_pos rfl] at HV
      have HF2 := Lib.hid (HF.out r 6 _ HR3.out)
      go_wp2_with fail
      refine HF2.out.mono ?_
      rintro _ w5 ⟨rfl, hr5, hk5⟩
      have HRN := Lib.hid hr5
      have HKN := Lib.hid (HK3.out.trans hk5)
      have HXN := Lib.hid (HX3.out.kp hk5 (oneP_ne hXb))
      clear hr5 hk5
      have HG6 := Lib.hid ((HG.out.keep mRu (HR.out.kpt HKN.out base (by decide))).keep mRu (KpT.below (Bel.alloc (Bel.refl w5) (.cells #[.string x0, .string x1, .string x2] 132)) base _))
      have HR6 := Lib.hid (HRN.out.below (Bel.alloc (Bel.refl w5) (.cells #[.string x0, .string x1, .string x2] 132)))
      have HK6 := Lib.hid (HKN.out.alloc (.cells #[.string x0, .string x1, .string x2] 132))
      have HLIT := Lib.hid (rw_lit w5 #[.string x0, .string x1, .string x2] 132 3 rfl)
      have hbs : base ≤ (World.alloc w5 (.cells #[.string x0, .string x1, .string x2] 132)).heap.size := Nat.le_trans hbase HK6.out.size
      obtain ⟨f0, hown0, hC0⟩ := HG6.out
      have HOWN := Lib.hid hown0
      have HC0 := Lib.hid hC0
      have q0 := HXN.out.cell 0
      have q1 := HXN.out.cell 1
      have q2 := HXN.out.cell 2
      simp only [List.getElem?_cons_zero, List.getElem?_cons_succ] at q0 q1 q2
      have hlX := HXN.out.lt
      clear hown0 hC0 HG HC HF HG6
      go_wp2_with (at_builtin; go_must (refine wpList_app_rows rfl (.tmp 28) (.tmp 30) rfl Tryz.underlying42 infoUp rfl (by omega) base ad l.length c (flat 3 f0 l.length) rfl HOWN.out (some ⟨w5.heap.size, 0, none⟩) 1 1 (fun _ j => (#[.string x0, .string x1, .string x2] : Array Value).getD j undef) w5.heap.size 0 rfl HLIT.out (fun h => by cases h) (fun i j _ hj => by rcases (by omega : j = 0 ∨ j = 1 ∨ j = 2) with e | e | e <;> subst e <;> rfl) (by unfold maxLen; omega) (by omega) hbs ?_); intro ad3 k3 w8 hown3 hg3; have HO3 := Lib.hid hown3; have HG3 := Lib.hid hg3; clear hown3 hg3)
      go_ret
      have hown8 := fun k hk => And.intro (World.ownsRow.lt HOWN.out k hk).1 (own_ty HOWN.out hk)
      have hkq : Kp (growP b (.slice ad l.length c)) w w8 := (HK6.out.le (fun k _ hk => by unfold growP; rw [show decide (k = b) = true from hk]; rfl)).grown HG3.out (fun k hk => by
        right
        unfold growP
        rw [decide_eq_true hk, Bool.or_true])
      have hkr : Kp (fun k => decide (base ≤ k)) (World.alloc w5 (.cells #[.string x0, .string x1, .string x2] 132)) w8 := (Kp.refl _ _).grown HG3.out (fun k hk => .inr (decide_eq_true (hown8 k hk).1))
      exact ⟨_, rfl, Grow.snoc HC0.out mRu (grown_kpt HG3.out HOWN.out _ (by decide)) _ HO3.out (x := y) (HX.out _), by rw [HV.out]; exact HR6.out.kp hkr (fun i hi => decide_eq_false (by omega)), hkq⟩
    · have hfd : decide (lim ≤ (l.length : Int)) = false := decide_eq_false hfull
      rw [hfd, if_neg (by simp)] at HV
      have HRN := Lib.hid HR3.out
      have HKN := Lib.hid HK3.out
      have HXN := Lib.hid HX3.out
      have HG6 := Lib.hid ((HG.out.keep mRu (HR.out.kpt HKN.out base (by decide))).keep mRu (KpT.below (Bel.alloc (Bel.refl w3) (.cells #[.string x0, .string x1, .string x2] 132)) base _))
      have HR6 := Lib.hid (HRN.out.below (Bel.alloc (Bel.refl w3) (.cells #[.string x0, .string x1, .string x2] 132)))
      have HK6 := Lib.hid (HKN.out.alloc (.cells #[.string x0, .string x1, .string x2] 132))
      have HLIT := Lib.hid (rw_lit w3 #[.string x0, .string x1, .string x2] 132 3 rfl)
      have hbs : base ≤ (World.alloc w3 (.cells #[.string x0, .string x1, .string x2] 132)).heap.size := Nat.le_trans hbase HK6.out.size
      obtain ⟨f0, hown0, hC0⟩ := HG6.out
      have HOWN := Lib.hid hown0
      have HC0 := Lib.hid hC0
      have q0 := HXN.out.cell 0
      have q1 := HXN.out.cell 1
      have q2 := HXN.out.cell 2
      simp only [List.getElem?_cons_zero, List.getElem?_cons_succ] at q0 q1 q2
      have hlX := HXN.out.lt
      clear hown0 hC0 HG HC HF HG6
      go_wp2_with (at_builtin; go_must (refine wpList_app_rows rfl (.tmp 28) (.tmp 30) rfl Tryz.underlying42 infoUp rfl (by omega) base ad l.length c (flat 3 f0 l.length) rfl HOWN.out (some ⟨w3.heap.size, 0, none⟩) 1 1 (fun _ j => (#[.string x0, .string x1, .string x2] : Array Value).getD j undef) w3.heap.size 0 rfl HLIT.out (fun h => by cases h) (fun i j _ hj => by rcases (by omega : j = 0 ∨ j = 1 ∨ j = 2) with e | e | e <;> subst e <;> rfl) (by unfold maxLen; omega) (by omega) hbs ?_); intro ad3 k3 w8 hown3 hg3; have HO3 := Lib.hid hown3; have HG3 := Lib.hid hg3; clear hown3 hg3)
      go_ret
      have hown8 := fun k hk => And.intro (World.ownsRow.lt HOWN.out k hk).1 (own_ty HOWN.out hk)
      have hkq : Kp (growP b (.slice ad l.length c)) w w8 := (HK6.out.le (fun k _ hk => by unfold growP; rw [show decide (k = b) = true from hk]; rfl)).grown HG3.out (fun k hk => by
        right
        unfold growP
        rw [decide_eq_true hk, Bool.or_true])
      have hkr : Kp (fun k => decide (base ≤ k)) (World.alloc w3 (.cells #[.string x0, .string x1, .string x2] 132)) w8 := (Kp.refl _ _).grown HG3.out (fun k hk => .inr (decide_eq_true (hown8 k hk).1))
      exact ⟨_, rfl, Grow.snoc HC0.out mRu (grown_kpt HG3.out HOWN.out _ (by decide)) _ HO3.out (x := y) (HX.out _), by rw [HV.out]; exact HR6.out.kp hkr (fun i hi => decide_eq_false (by omega)), hkq⟩
end Go.Proofs.YtmleeodfmmpdgaaGreatDoor
