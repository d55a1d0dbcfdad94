/- Walks: items of a locale: the direction, the names of months and days. -/
import Derived.Test.YtmleeodfmmpdgaaGreatDoorQ24
import Derived.Test.YtmleeodfmmpdgaaGreatDoorQ12
import Derived.Test.YtmleeodfmmpdgaaGreatDoorQ19
import Derived.BigRegion
namespace Go.Proofs.YtmleeodfmmpdgaaGreatDoor
open Go.RowKit
attribute [local go_sem] Ext.cell Ext.frozen
attribute [local go_sem ↓] Go.wp_at_zero Go.wp_at_succ
theorem Rd.ok {w : World} {b : Nat} {E : Int} {r : RS} (h : Rd w b E r) : RsOk r := by
  obtain ⟨_, _, _, _, _, _, _, _, _, h⟩ := h
  exact h
theorem strs_flat : ∀ (l : List ByteArray), strs l = flat 1 (fun i _ => .string (gS l i)) l.length := by
  intro l
  apply List.ext_getElem?
  intro i
  rcases Nat.lt_or_ge i l.length with h | h
  · have := flat_get 1 (fun i _ => Value.string (gS l i)) (n := l.length) (j := 0) h (by decide)
    rw [Nat.mul_one, Nat.add_zero] at this
    rw [this]
    unfold strs gS
    rw [List.getElem?_map, List.getD_eq_getElem?_getD, List.getElem?_eq_getElem h]
    rfl
  · rw [List.getElem?_eq_none (by simp [strs]; omega), List.getElem?_eq_none (by rw [flat_length]; omega)]
theorem grow_strs {w : World} {base n : Nat} {ad : Option Addr} {c : Nat} {l : List ByteArray} (h : w.ownsRow base 9 1 (.slice ad n c) n (strs l)) (hn : l.length = n) (hs : ∀ s ∈ l, s.size ≤ 200000) : Grow 9 1 OneS base ([] : List TypeId) w (.slice ad n c) l := by
  subst hn
  refine ⟨fun i _ => .string (gS l i), by rw [← strs_flat]; exact h, fun i x hx => ⟨?_, ?_⟩⟩
  · show Value.string (l.getD i .empty) = _
    rw [List.getD_eq_getElem?_getD, hx]
    rfl
  · exact Nat.le_trans (hs x (List.mem_of_getElem? hx)) (by decide)
theorem not_empty (s : ByteArray) : (!s.toList.isEmpty) = hasB s := by
  unfold hasB
  congr 1
  rw [Bool.eq_iff_iff, List.isEmpty_iff, decide_eq_true_eq, ByteArray.toList_eq, show s.size = s.data.toList.length from rfl]
  cases s.data.toList <;> simp
set_option maxRecDepth 20000 in
set_option maxHeartbeats 4000000 in
theorem idir_any (b : Nat) (E : Int) (base L : Nat) (p : Int) (y : Lc) (r : RS) (w : World) (hr : Rd w b E r) (hb : b < base) (hl : LocAt base w L y) : Calls Tryz.prog 220 #[.pointer (some ⟨b, 0, none⟩), .int .i64 p, .pointer (some ⟨L, 0, none⟩)] w (ItemP b E base L w (itDir E p y r)) := by
  obtain ⟨v3, v4, v11, v12, v13, v14, v15, hl⟩ := hl
  have HR0 := Lib.hid hr
  have HL0 := Lib.hid hl
  have HK0 := Lib.hid (Kp.refl (itemP b base) w)
  have hbL : b < L := Nat.lt_of_lt_of_le hb hl.low
  have hLw := hl.cel.lt
  have hlow := hl.low
  have HON := Lib.hid (fun ad n c W (g : Rd W b E r) gs => one_any b E ad n c dirL r W g gs)
  have HMA := Lib.hid (fun r W (g : Rd W b E r) => mark_any b E [59] r W g)
  have HNC := Lib.hid (fun q r W (g : Rd W b E r) => once_any b E p q r W g)
  have HV : Hid (itDir E p y r = ({ y with dir := bs (r.one E dirL).1 }, ((r.one E dirL).2.mark E [59]).once p (hasB y.dir))) := rfl
  have HNE := Lib.hid (not_empty y.dir)
  unfold RdP at HON HMA HNC
  unfold ItemP
  clear hr hl
  generalize itDir E p y r = res at *
  generalize r.one E dirL = r1 at *
  obtain ⟨k, q1⟩ := r1
  simp only at HON HV
  have HMA1 := Lib.hid (HMA.out q1)
  generalize q1.mark E [59] = q2 at *
  have HNC1 := Lib.hid (HNC.out (hasB y.dir) q2)
  generalize q2.once p (hasB y.dir) = q3 at *
  generalize bs k = K at *
  clear HMA HNC
  go_enter Tryz.func220, Tryz.ntmps220
  go_wp2_with fail
  have HR1 := Lib.hid (HR0.out.below (Bel.alloc (Bel.refl w) (.cells #[.string (bs [108, 116, 114]), .string (bs [114, 116, 108])] 9)))
  have HL1 := Lib.hid (HL0.out.below (Bel.alloc (Bel.refl w) (.cells #[.string (bs [108, 116, 114]), .string (bs [114, 116, 108])] 9)))
  have HK1 := Lib.hid (HK0.out.trans (kp_below (Bel.alloc (Bel.refl w) (.cells #[.string (bs [108, 116, 114]), .string (bs [114, 116, 108])] 9))))
  clear HR0 HL0 HK0
  refine (HON.out _ _ _ _ HR1.out (sl_made w (strs dirL) _ (by decide))).mono ?_
  rintro _ w2 ⟨rfl, hr2, hk2⟩
  have HR2 := Lib.hid hr2
  have HL2 := Lib.hid (HL1.out.rd HR1.out hk2)
  have HK2 := Lib.hid (HK1.out.trans hk2.item)
  clear hr2 hk2 HR1 HL1 HK1
  go_wp2_with fail
  refine (HMA1.out _ HR2.out).mono ?_
  rintro _ w3 ⟨rfl, hr3, hk3⟩
  have HR3 := Lib.hid hr3
  have HL3 := Lib.hid (HL2.out.rd HR2.out hk3)
  have HK3 := Lib.hid (HK2.out.trans hk3.item)
  clear hr3 hk3 HR2 HL2 HK2
  have c2 := HL3.out.cel.cell 2
  simp only [List.getElem?_cons_zero, List.getElem?_cons_succ] at c2
  have f2 := HL3.out.cel.frz 2
  have hLt := HL3.out.cel.lt
  have HNC2 := Lib.hid (HNC1.out _ HR3.out)
  go_wp2_with fail
  rw [HNE.out]
  refine HNC2.out.mono ?_
  rintro _ w4 ⟨rfl, hr4, hk4⟩
  have HR4 := Lib.hid hr4
  have HL4 := Lib.hid (HL3.out.rd HR3.out hk4)
  have HK4 := Lib.hid (HK3.out.trans hk4.item)
  clear hr4 hk4 HR3 HL3 HK3
  have c2 := HL4.out.cel.cell 2
  simp only [List.getElem?_cons_zero, List.getElem?_cons_succ] at c2
  have f2 := HL4.out.cel.frz 2
  have hLt := HL4.out.cel.lt
  go_wp2_with fail
  go_end0
  exact ⟨rfl, by rw [HV.out]; exact ⟨_, _, _, _, _, _, _, HL4.out.dir K⟩, by rw [HV.out]; exact HR4.out.other (a := ⟨L, 2, none⟩) hbL _, HK4.out.itemS (p := ⟨L, 2, none⟩) hlow _⟩
set_option maxRecDepth 20000 in
set_option maxHeartbeats 4000000 in
theorem imon_any (b : Nat) (E : Int) (base L : Nat) (p : Int) (y : Lc) (r : RS) (w : World) (hr : Rd w b E r) (hb : b < base) (hl : LocAt base w L y) (hn : y.months.length ≤ 1000) : Calls Tryz.prog 227 #[.pointer (some ⟨b, 0, none⟩), .int .i64 p, .pointer (some ⟨L, 0, none⟩)] w (ItemP b E base L w (itMonths E p y r)) := by
  obtain ⟨v3, v4, v11, v12, v13, v14, v15, hl⟩ := hl
  have HR0 := Lib.hid hr
  have HL0 := Lib.hid hl
  have HK0 := Lib.hid (Kp.refl (itemP b base) w)
  have hbL : b < L := Nat.lt_of_lt_of_le hb hl.low
  have hLw := hl.cel.lt
  have hlow := hl.low
  have HTX := Lib.hid (fun W (g : Rd W b E r) => texts_any b E 12 (by decide) r W g)
  have HMA := Lib.hid (fun r W (g : Rd W b E r) => mark_any b E [59] r W g)
  have HNC := Lib.hid (fun q r W (g : Rd W b E r) => once_any b E p q r W g)
  have HV : Hid (itMonths E p y r = ({ y with months := (RS.texts0 E 12 r).1 }, ((RS.texts0 E 12 r).2.mark E [59]).once p (!decide (y.months.length = 0)))) := rfl
  have hlen := RS.texts_len0 E 12 r
  have hsz := (hr.ok.texts0 (E := E) 12).1
  unfold RdP at HMA HNC
  unfold ItemP
  clear hr hl
  generalize itMonths E p y r = res at *
  generalize RS.texts0 E 12 r = r1 at *
  obtain ⟨l, q1⟩ := r1
  simp only at HTX HV hlen hsz
  have HMA1 := Lib.hid (HMA.out q1)
  generalize q1.mark E [59] = q2 at *
  have HNC1 := Lib.hid (HNC.out (!decide (y.months.length = 0)) q2)
  generalize q2.once p (!decide (y.months.length = 0)) = q3 at *
  clear HMA HNC
  have HTX1 := Lib.hid (HTX.out w HR0.out)
  go_enter Tryz.func227, Tryz.ntmps227
  go_wp2_with fail
  refine HTX1.out.mono ?_
  rintro _ w1 ⟨ad, c, rfl, hown, hr1, hk1⟩
  have HG1 := Lib.hid (grow_strs (base := base) (own_rebaseU hown (by omega)) hlen hsz)
  have HR1 := Lib.hid hr1
  have HL1 := Lib.hid (HL0.out.rd HR0.out hk1)
  have HK1 := Lib.hid (HK0.out.trans hk1.item)
  clear hown hr1 hk1 HR0 HL0 HK0 HTX HTX1
  have HMA2 := Lib.hid (HMA1.out _ HR1.out)
  go_wp2_with fail
  refine HMA2.out.mono ?_
  rintro _ w2 ⟨rfl, hr2, hk2⟩
  have HG2 := Lib.hid (HG1.out.keep mStC (HR1.out.kpt hk2 base (by decide)))
  have HR2 := Lib.hid hr2
  have HL2 := Lib.hid (HL1.out.rd HR1.out hk2)
  have HK2 := Lib.hid (HK1.out.trans hk2.item)
  clear hr2 hk2 HR1 HL1 HK1 HG1 HMA1 HMA2
  obtain ⟨ad0, c0, hv0⟩ := HL2.out.g14.shape
  subst hv0
  have c14 := HL2.out.cel.cell 14
  simp only [List.getElem?_cons_zero, List.getElem?_cons_succ] at c14
  have f14 := HL2.out.cel.frz 14
  have hLt := HL2.out.cel.lt
  have HNC2 := Lib.hid (HNC1.out _ HR2.out)
  go_wp2_with fail
  have hnz : decide (0 < y.months.length) = !decide (y.months.length = 0) := by
    rw [Bool.eq_iff_iff, decide_eq_true_eq, Bool.not_eq_true', decide_eq_false_iff_not]
    omega
  rw [hnz]
  refine HNC2.out.mono ?_
  rintro _ w3 ⟨rfl, hr3, hk3⟩
  have HG3 := Lib.hid (HG2.out.keep mStC (HR2.out.kpt hk3 base (by decide)))
  have HR3 := Lib.hid hr3
  have HL3 := Lib.hid (HL2.out.rd HR2.out hk3)
  have HK3 := Lib.hid (HK2.out.trans hk3.item)
  clear hr3 hk3 HR2 HL2 HK2 HG2 HNC1 HNC2 c14 f14 hLt
  have c14 := HL3.out.cel.cell 14
  simp only [List.getElem?_cons_zero, List.getElem?_cons_succ] at c14
  have f14 := HL3.out.cel.frz 14
  have hLt := HL3.out.cel.lt
  go_wp2_with fail
  go_end0
  exact ⟨rfl, by rw [HV.out]; exact ⟨_, _, _, _, _, _, _, HL3.out.months HG3.out⟩, by rw [HV.out]; exact HR3.out.other (a := ⟨L, 14, none⟩) hbL _, HK3.out.itemS (p := ⟨L, 14, none⟩) hlow _⟩
set_option maxRecDepth 20000 in
set_option maxHeartbeats 4000000 in
theorem iday_any (b : Nat) (E : Int) (base L : Nat) (p : Int) (y : Lc) (r : RS) (w : World) (hr : Rd w b E r) (hb : b < base) (hl : LocAt base w L y) (hn : y.days.length ≤ 1000) : Calls Tryz.prog 228 #[.pointer (some ⟨b, 0, none⟩), .int .i64 p, .pointer (some ⟨L, 0, none⟩)] w (ItemP b E base L w (itDays E p y r)) := by
  obtain ⟨v3, v4, v11, v12, v13, v14, v15, hl⟩ := hl
  have HR0 := Lib.hid hr
  have HL0 := Lib.hid hl
  have HK0 := Lib.hid (Kp.refl (itemP b base) w)
  have hbL : b < L := Nat.lt_of_lt_of_le hb hl.low
  have hLw := hl.cel.lt
  have hlow := hl.low
  have HTX := Lib.hid (fun W (g : Rd W b E r) => texts_any b E 7 (by decide) r W g)
  have HMA := Lib.hid (fun r W (g : Rd W b E r) => mark_any b E [59] r W g)
  have HNC := Lib.hid (fun q r W (g : Rd W b E r) => once_any b E p q r W g)
  have HV : Hid (itDays E p y r = ({ y with days := (RS.texts0 E 7 r).1 }, ((RS.texts0 E 7 r).2.mark E [59]).once p (!decide (y.days.length = 0)))) := rfl
  have hlen := RS.texts_len0 E 7 r
  have hsz := (hr.ok.texts0 (E := E) 7).1
  unfold RdP at HMA HNC
  unfold ItemP
  clear hr hl
  generalize itDays E p y r = res at *
  generalize RS.texts0 E 7 r = r1 at *
  obtain ⟨l, q1⟩ := r1
  simp only at HTX HV hlen hsz
  have HMA1 := Lib.hid (HMA.out q1)
  generalize q1.mark E [59] = q2 at *
  have HNC1 := Lib.hid (HNC.out (!decide (y.days.length = 0)) q2)
  generalize q2.once p (!decide (y.days.length = 0)) = q3 at *
  clear HMA HNC
  have HTX1 := Lib.hid (HTX.out w HR0.out)
  go_enter Tryz.func228, Tryz.ntmps228
  go_wp2_with fail
  refine HTX1.out.mono ?_
  rintro _ w1 ⟨ad, c, rfl, hown, hr1, hk1⟩
  have HG1 := Lib.hid (grow_strs (base := base) (own_rebaseU hown (by omega)) hlen hsz)
  have HR1 := Lib.hid hr1
  have HL1 := Lib.hid (HL0.out.rd HR0.out hk1)
  have HK1 := Lib.hid (HK0.out.trans hk1.item)
  clear hown hr1 hk1 HR0 HL0 HK0 HTX HTX1
  have HMA2 := Lib.hid (HMA1.out _ HR1.out)
  go_wp2_with fail
  refine HMA2.out.mono ?_
  rintro _ w2 ⟨rfl, hr2, hk2⟩
  have HG2 := Lib.hid (HG1.out.keep mStC (HR1.out.kpt hk2 base (by decide)))
  have HR2 := Lib.hid hr2
  have HL2 := Lib.hid (HL1.out.rd HR1.out hk2)
  have HK2 := Lib.hid (HK1.out.trans hk2.item)
  clear hr2 hk2 HR1 HL1 HK1 HG1 HMA1 HMA2
  obtain ⟨ad0, c0, hv0⟩ := HL2.out.g15.shape
  subst hv0
  have c15 := HL2.out.cel.cell 15
  simp only [List.getElem?_cons_zero, List.getElem?_cons_succ] at c15
  have f15 := HL2.out.cel.frz 15
  have hLt := HL2.out.cel.lt
  have HNC2 := Lib.hid (HNC1.out _ HR2.out)
  go_wp2_with fail
  have hnz : decide (0 < y.days.length) = !decide (y.days.length = 0) := by
    rw [Bool.eq_iff_iff, decide_eq_true_eq, Bool.not_eq_true', decide_eq_false_iff_not]
    omega
  rw [hnz]
  refine HNC2.out.mono ?_
  rintro _ w3 ⟨rfl, hr3, hk3⟩
  have HG3 := Lib.hid (HG2.out.keep mStC (HR2.out.kpt hk3 base (by decide)))
  have HR3 := Lib.hid hr3
  have HL3 := Lib.hid (HL2.out.rd HR2.out hk3)
  have HK3 := Lib.hid (HK2.out.trans hk3.item)
  clear hr3 hk3 HR2 HL2 HK2 HG2 HNC1 HNC2 c15 f15 hLt
  have c15 := HL3.out.cel.cell 15
  simp only [List.getElem?_cons_zero, List.getElem?_cons_succ] at c15
  have f15 := HL3.out.cel.frz 15
  have hLt := HL3.out.cel.lt
  go_wp2_with fail
  go_end0
  exact ⟨rfl, by rw [HV.out]; exact ⟨_, _, _, _, _, _, _, HL3.out.days HG3.out⟩, by rw [HV.out]; exact HR3.out.other (a := ⟨L, 15, none⟩) hbL _, HK3.out.itemS (p := ⟨L, 15, none⟩) hlow _⟩
end Go.Proofs.YtmleeodfmmpdgaaGreatDoor
/- Walks: the table of items, and what finds an item. -/
namespace Go.Proofs.YtmleeodfmmpdgaaGreatDoor
open Go.RowKit
attribute [local go_sem] Ext.cell Ext.frozen
attribute [local go_sem ↓] Go.wp_at_zero Go.wp_at_succ
set_option maxRecDepth 20000 in
theorem idx_en (p : Nat → Bool) (g : Nat) (lb : Array Value) (eg : ∀ args w, (callFunc g args).run Tryz.prog w = .ok (.enter g args) w) (ad : Option Addr) (n c : Nat) (f : Nat → Nat → Value) (b off : Nat) (w : World) (hr : Rw w ad n 2 f b off)
    (hp : ∀ W i, i < n → Below w.heap.size w W → Calls Tryz.prog g (#[.agg #[f i 0, f i 1]] ++ lb) W fun e w' => e = .returned (.bool (p i)) ∧ Below W.heap.size W w') :
    Calls Tryz.prog 175 #[.slice ad n c, .func (.func g) #[] lb] w fun e w' => e = .returned (.int .i64 (idxP p n)) ∧ Below w.heap.size w w' := by
  have HR := Lib.hid hr
  have HP := Lib.hid hp
  have hm := hr.max
  clear hr hp
  go_enter Tryz.func175, Tryz.ntmps175
  go_wp2_with fail
  go_loopw [5, 8] (fun _ v wr => ∃ k : Nat, v = .int .i64 (k : Int) ∧ k ≤ n ∧ (∀ i, i < k → p i = false) ∧ Below w.heap.size w wr) (fun _ v _ => n - (intOf v).toNat)
  case atStart => exact ⟨0, rfl, Nat.zero_le _, fun i hi => absurd hi (Nat.not_lt_zero _), Below.refl _ _⟩
  case round =>
    obtain ⟨k, rfl, hkn, hm0, hbl⟩ := hrel
    have HM := Lib.hid hm0
    have HBL := Lib.hid hbl
    clear hm0 hbl
    by_cases hlt : k < n
    · have HRR := Lib.hid (HR.out.below HBL.out)
      have hix := fun W => HRR.out.ix 211 214 Tryz.underlying211 (by kernel_rfl) (by omega) hlt c W
      have c0 : wr.cell? ⟨b, off + k * 2, none⟩ = some (f k 0) := HRR.out.cell k 0 hlt (by omega)
      have c1 : wr.cell? ⟨b, off + k * 2 + 1, none⟩ = some (f k 1) := HRR.out.cell k 1 hlt (by omega)
      have HCALL := Lib.hid (HP.out wr k hlt HBL.out)
      clear HRR
      cases hq : p k with
      | true =>
        have HQ := Lib.hid hq
        rw [Hid, hq] at HCALL
        clear hq
        go_wp2_with (go_at_fn g; refine HCALL.mono ?_; rintro e w' ⟨rfl, hb'⟩)
        go_ret
        exact ⟨ret_int (idxP_hit hlt HQ.out HM.out).symm, HBL.out.trans (hb'.mono HBL.out.size)⟩
      | false =>
        have HQ := Lib.hid hq
        rw [Hid, hq] at HCALL
        clear hq
        go_wp2_with (go_at_fn g; refine HCALL.mono ?_; rintro e w' ⟨rfl, hb'⟩)
        go_roundw
        case rel =>
          refine ⟨k + 1, by go_num, by omega, fun i hi => ?_, HBL.out.trans (hb'.mono HBL.out.size)⟩
          by_cases e : i = k
          · subst e; exact HQ.out
          · exact HM.out i (by omega)
        case measure => simp [intOf]; omega
    · obtain rfl : k = n := by omega
      go_wp2_with fail
      go_ret
      exact ⟨ret_int (idxP_miss HM.out).symm, HBL.out⟩
theorem rw_litN (w : World) (cs : Array Value) (T : TypeId) (n k : Nat) (hk : cs.size = n * k) (hn : n ≤ 9223372036854775807) : Rw (w.alloc (.cells cs T)) (some ⟨w.heap.size, 0, none⟩) n k (fun i j => cs.getD (i * k + j) undef) w.heap.size 0 :=
  ⟨hn, fun _ => rfl, fun i j hi hj => by
    have h1 : i * k + j < cs.size := by
      rw [hk]
      have := Nat.mul_le_mul_right k (show i + 1 ≤ n by omega)
      rw [Nat.succ_mul] at this
      omega
    rw [Nat.zero_add, Lib.cell_of_heap (heap_alloc_new w _), Array.getElem?_eq_getElem h1]
    simp [Array.getD, h1]⟩
/-- the functions of the items -/
def fnN : Nat → Nat
  | 0 => 220
  | 1 => 221
  | 2 => 222
  | 3 => 223
  | 4 => 224
  | 5 => 225
  | 6 => 226
  | 7 => 227
  | _ => 228
def entF (i j : Nat) : Value := match j with | 0 => .string (bs (keyL.getD i [])) | _ => .func (.func (fnN i)) #[] #[]
theorem entries_any (w : World) : Calls Tryz.prog 176 #[] w fun e w' => ∃ ad c bb, e = .returned (.slice ad 9 c) ∧ Rw w' ad 9 2 entF bb 0 ∧ Below w.heap.size w w' := by
  have HL := Lib.hid (rw_litN w #[.string (bs [100, 105, 114, 101, 99, 116, 105, 111, 110]), .func (.func 220) #[] #[], .string (bs [99, 97, 114, 100, 105, 110, 97, 108]), .func (.func 221) #[] #[], .string (bs [111, 114, 100, 105, 110, 97, 108]), .func (.func 222) #[] #[], .string (bs [115, 121, 109, 98, 111, 108, 115]), .func (.func 223) #[] #[], .string (bs [108, 105, 115, 116]), .func (.func 224) #[] #[], .string (bs [117, 110, 105, 116]), .func (.func 225) #[] #[], .string (bs [100, 97, 116, 101]), .func (.func 226) #[] #[], .string (bs [109, 111, 110, 116, 104, 115]), .func (.func 227) #[] #[], .string (bs [100, 97, 121, 115]), .func (.func 228) #[] #[]] 214 9 2 rfl (by decide))
  go_enter Tryz.func176, Tryz.ntmps176
  go_wp2_with fail
  go_ret
  refine ⟨_, _, _, rfl, ⟨HL.out.max, HL.out.adr, fun i j hi hj => (HL.out.cell i j hi hj).trans ?_⟩, Bel.alloc (Bel.refl w) _⟩
  rcases (by omega : j = 0 ∨ j = 1) with e | e <;> subst e <;> rcases (by omega : i = 0 ∨ i = 1 ∨ i = 2 ∨ i = 3 ∨ i = 4 ∨ i = 5 ∨ i = 6 ∨ i = 7 ∨ i = 8) with e | e | e | e | e | e | e | e | e <;> subst e <;> rfl
theorem enters_item (k : Nat) : ∀ args w, (callFunc (fnN k) args).run Tryz.prog w = .ok (.enter (fnN k) args) w := by
  match k with
  | 0 => exact enters_of Tryz.func220 (by kernel_rfl) rfl
  | 1 => exact enters_of Tryz.func221 (by kernel_rfl) rfl
  | 2 => exact enters_of Tryz.func222 (by kernel_rfl) rfl
  | 3 => exact enters_of Tryz.func223 (by kernel_rfl) rfl
  | 4 => exact enters_of Tryz.func224 (by kernel_rfl) rfl
  | 5 => exact enters_of Tryz.func225 (by kernel_rfl) rfl
  | 6 => exact enters_of Tryz.func226 (by kernel_rfl) rfl
  | 7 => exact enters_of Tryz.func227 (by kernel_rfl) rfl
  | _ + 8 => exact enters_of Tryz.func228 (by kernel_rfl) rfl
set_option maxRecDepth 20000 in
set_option maxHeartbeats 4000000 in
theorem itemKey_any (kb : Nat) (k : Int) (s : List UInt8) (f : Int) (key : ByteArray) (fn : Value) (w : World) (hc : Cel w kb 109 [.int .i64 k, .string (bs s), .int .i64 f]) :
    Calls Tryz.prog 177 #[.agg #[.string key, fn], .pointer (some ⟨kb, 0, none⟩)] w fun e w' => e = .returned (.bool (decide (k = 1) && decide (key = bs s))) ∧ Below w.heap.size w w' := by
  have x0 := hc.cell 0
  have x1 := hc.cell 1
  simp only [List.getElem?_cons_zero, List.getElem?_cons_succ] at x0 x1
  have hl := hc.lt
  have HE := Lib.hid (dec_toList key (bs s))
  clear hc
  generalize bs s = S at *
  by_cases hk : k = 1
  · subst hk
    go_enter Tryz.func177, Tryz.ntmps177
    go_wp2_with fail
    go_ret
    exact ⟨by simp [HE.out], Bel.alloc (Bel.refl w) _⟩
  · have hz : (k == 1) = false := by simpa using hk
    go_enter Tryz.func177, Tryz.ntmps177
    go_wp2_with fail
    go_ret
    exact ⟨by simp [hk], Bel.alloc (Bel.refl w) _⟩
end Go.Proofs.YtmleeodfmmpdgaaGreatDoor
/- A region that draws its order: an operation for which the last one waits only by way of others. -/
namespace Go.Proofs.YtmleeodfmmpdgaaGreatDoor
open Go.RowKit
section
variable {P : Program} {ops : Array Oper} {Q : Exit → Act → World → Prop} {md : Region.Mode}
theorem wpAnyG_firstM {k i : Nat} {oi : Oper} {v : Value} {S : World → Prop} (M : List Nat) (hi : ops[i]? = some oi) (hsel : ∀ (j : Nat) (o : Oper) cs b, ops[j]? = some o → o.op ≠ .select cs b)
    (hQ : ∀ c a w, Q (.panic c) (a.put oi.dst v) w → Q (.panic c) a w) (hkM : k ∈ M) (hiM : ∀ m ∈ M, i ≠ m) (hw : ∀ m ∈ M, waitsB md ops m i = true ∨ ∃ n ∈ M, waitsB md ops m n = true) :
    ∀ (g : Nat) (L : Array Bool) (a : Act) (w : World),
      (∀ j oj, ops[j]? = some oj → j ≠ i → L.getD j true = false → (∀ e ∈ oj.after, Region.binds md e = true → e.on ≠ i) → oi.apart ops oj = true) →
      i ∈ Region.ready md ops L → YieldsIf P ops S oi v a → (∀ m ∈ M, L.getD m true = false) → S w →
      wpAnyG P md ops Q (Until k S) g (L.setIfInBounds i true) (a.put oi.dst v) w → wpAnyG P md ops Q (Until k S) (g + 1) L a w := by
  intro g
  induction g with
  | zero =>
    intro L a w _ hr hy _ hS H
    refine ⟨fun h => (by rw [h] at hr; cases hr), fun j hj => ?_⟩
    by_cases hji : j = i
    · subst hji; exact hy.wpOp hi hS ⟨fun _ => hS, H⟩
    · have := ready_mono hj hji
      rw [H.1] at this
      cases this
  | succ g ih =>
    intro L a w hfree hr hy hM hS H
    refine ⟨fun h => (by rw [h] at hr; cases hr), fun j hj => ?_⟩
    by_cases hji : j = i
    · subst hji; exact hy.wpOp hi hS ⟨fun _ => hS, H⟩
    · have h1 := H.2 j (ready_mono hj hji)
      obtain ⟨hjun, oj, hoj, hall⟩ := mem_ready.1 hj
      have hun := (mem_ready.1 hr).1
      have hno : ∀ (n : Nat), L.getD n true = false → ∀ e ∈ oj.after, Region.binds md e = true → e.on ≠ n := fun n hn e he hb heq => by
        have h1 := hall e he hb
        rw [heq] at h1
        rcases Nat.lt_or_ge n L.size with h' | h'
        · simp [h'] at hn h1; rw [hn] at h1; cases h1
        · simp [Array.getElem?_eq_none h'] at h1
      have hnot := hno i hun
      have hjM : j ∉ M := fun hm => by
        have hyes : ∀ n, waitsB md ops j n = true → L.getD n true = false → False := fun n hw hn => by
          unfold waitsB at hw
          rw [hoj] at hw
          simp only [Array.any_eq_true, Bool.and_eq_true, beq_iff_eq] at hw
          obtain ⟨x, hx, hb, ho⟩ := hw
          exact hno n hn _ (Array.getElem_mem hx) hb ho
        rcases hw j hm with h | ⟨n, hn, h⟩
        · exact hyes i h hun
        · exact hyes n h (hM n hn)
      have hM' : ∀ m ∈ M, (L.setIfInBounds j true).getD m true = false := fun m hm => by
        have hne : j ≠ m := by rintro rfl; exact hjM hm
        rw [getD_set_ne true hne]
        exact hM m hm
      have hkL2 : ((L.setIfInBounds i true).setIfInBounds j true).getD k true = false := by
        have hne : j ≠ k := by rintro rfl; exact hjM hkM
        rw [getD_set_ne true hne, getD_set_ne true (hiM k hkM)]
        exact hM k hkM
      have h2 := wpOp_putIf hoj (hfree j oj hoj hji hjun hnot) (fun cs b => hsel i oi cs b hi) (fun cs b => hsel j oj cs b hoj) hQ hy h1
      have hfree' : ∀ m ok, ops[m]? = some ok → m ≠ i → (L.setIfInBounds j true).getD m true = false →
          (∀ e ∈ ok.after, Region.binds md e = true → e.on ≠ i) → oi.apart ops ok = true := fun m ok hm hmi hun hno => by
        refine hfree m ok hm hmi ?_ hno
        by_cases hjm : j = m
        · subst hjm; exact hjun
        · rw [getD_set_ne true hjm] at hun; exact hun
      refine wpOp_mono (fun a' w' h3 => ?_) h2
      have hS' : S w' := h3.2.1 hkL2
      refine ⟨fun _ => hS', ih (L.setIfInBounds j true) a' w' hfree' (ready_mono hr (Ne.symm hji)) h3.1 hM' hS' ?_⟩
      rw [Array.setIfInBounds_comm _ _ hji]
      exact h3.2.2
/-- the last one waits for number i by way of those of M -/
def waitsM (md : Region.Mode) (ops : Array Oper) (L : Array Bool) (k i : Nat) (M : List Nat) : Bool :=
  M.contains k && M.all fun m => !(i == m) && !(L.getD m true) && (waitsB md ops m i || M.any fun n => waitsB md ops m n)
theorem wpAnyG_takeM {k i : Nat} (M : List Nat) {oi : Oper} {v : Value} {g : Nat} {L : Array Bool} {a : Act} {w : World} {S : World → Prop} (hi : ops[i]? = some oi)
    (hs : Region.noSelect ops = true) (hf : Region.free md ops L i = true) (hr : (Region.ready md ops L).contains i = true)
    (hQ : ∀ c a w, Q (.panic c) (a.put oi.dst v) w → Q (.panic c) a w) (hw : waitsM md ops L k i M = true) (hy : YieldsIf P ops S oi v a) (hS : S w)
    (h : wpAnyG P md ops Q (Until k S) g (L.setIfInBounds i true) (a.put oi.dst v) w) : wpAnyG P md ops Q (Until k S) (g + 1) L a w := by
  unfold waitsM at hw
  rw [Bool.and_eq_true, List.all_eq_true] at hw
  have hk : k ∈ M := by simpa using hw.1
  have hm : ∀ m ∈ M, i ≠ m ∧ L.getD m true = false ∧ (waitsB md ops m i = true ∨ ∃ n ∈ M, waitsB md ops m n = true) := fun m hm => by
    have := hw.2 m hm
    rw [Bool.and_eq_true, Bool.and_eq_true, Bool.or_eq_true, List.any_eq_true] at this
    obtain ⟨⟨h1, h2⟩, h3⟩ := this
    refine ⟨?_, by simpa using h2, h3⟩
    intro e
    rw [e] at h1
    simp at h1
  exact wpAnyG_firstM M hi (Region.noSelect_spec hs) hQ hk (fun m h => (hm m h).1) (fun m h => (hm m h).2.2) g L a w (Region.free_spec hi hf) (by simpa using hr) hy (fun m h => (hm m h).2.1) hS h
end
end Go.Proofs.YtmleeodfmmpdgaaGreatDoor
/- Walks: items of a locale: the rules. -/
namespace Go.Proofs.YtmleeodfmmpdgaaGreatDoor
open Go.RowKit
attribute [local go_sem] Ext.cell Ext.frozen
attribute [local go_sem ↓] Go.wp_at_zero Go.wp_at_succ
set_option maxRecDepth 20000 in
set_option maxHeartbeats 4000000 in
theorem icard_any (b : Nat) (E : Int) (base L : Nat) (p : Int) (y : Lc) (r : RS) (w : World) (hr : Rd w b E r) (hb : b < base) (hl : LocAt base w L y) (hM : MaxAt base w) (hn : y.card.length ≤ 1000) : Calls Tryz.prog 221 #[.pointer (some ⟨b, 0, none⟩), .int .i64 p, .pointer (some ⟨L, 0, none⟩)] w (ItemP b E base L w (itCard E p y r)) := by
  obtain ⟨v3, v4, v11, v12, v13, v14, v15, hl⟩ := hl
  have HR0 := Lib.hid hr
  have HL0 := Lib.hid hl
  have HK0 := Lib.hid (Kp.refl (itemP b base) w)
  have hbL : b < L := Nat.lt_of_lt_of_le hb hl.low
  have hLw := hl.cel.lt
  have hlow := hl.low
  have HRU := Lib.hid (fun W (g : Rd W b E r) (gM : MaxLen W) => rrule_any b E r W g gM)
  have HCL := Lib.hid tclasses_any
  have HAD := Lib.hid (fun q x0 W (g : Rd W b E q) (hw : base ≤ W.heap.size) ad c gr xa xn xk xc gx => added_Rule b E p 5 q W g base hb hw y.card ad c gr hn x0 xa xn xk xc gx)
  have HV : Hid (itCard E p y r = ({ y with card := y.card ++ [(r.rule E).1] }, (r.rule E).2.add p (dupRu y.card (r.rule E).1.1) (fullB 5 y.card.length))) := rfl
  have HM := Lib.hid (fun W (k : Below w.heap.size w W) => hM.1.below k)
  unfold dupRu fullB at HV
  unfold ItemP
  clear hr hl hM
  generalize itCard E p y r = res at *
  generalize r.rule E = r1 at *
  obtain ⟨⟨x0, xc⟩, q1⟩ := r1
  simp only at HRU HV
  have HAD1 := Lib.hid (HAD.out q1 x0)
  clear HAD
  generalize q1.add p _ _ = q2 at *
  obtain ⟨ad0, c0, hv0⟩ := HL0.out.g3.shape
  subst hv0
  go_enter Tryz.func221, Tryz.ntmps221
  go_upto_region 0 with (fail)
  refine wp_region_until 14 (fun w' => w'.cell? ⟨L, 3, none⟩ = some (.slice ad0 y.card.length c0)) (by kernel_rfl) (HL0.out.cel.cell 3) (fun hS0 => ?_)
  have HRa := Lib.hid (HR0.out.below (Bel.drew (Bel.refl w)))
  have HLa := Lib.hid (HL0.out.below (Bel.drew (Bel.refl w)))
  have HKa := Lib.hid (HK0.out.trans (kp_below (Bel.drew (Bel.refl w))))
  have HMa := Lib.hid (HM.out _ (Bel.drew (Bel.refl w)))
  clear HR0 HL0 HK0 HM
  refine wpAnyG_take (i := 0) (v := ?_) rfl (by kernel_rfl) (by kernel_rfl) (by kernel_rfl) (fun _ _ _ h => h) (by kernel_rfl) (by decide) (by kernel_rfl) (Or.inl ⟨by kernel_rfl, ?_⟩) hS0 ?_
  rotate_left
  · (intro wx hSw; go_simp; try with_reducible rfl)
  try simp only [Act.put, List.getElem_toArray, List.getElem_cons_zero, List.setIfInBounds_toArray, List.set_cons_zero, List.set_cons_succ]
  refine wpAnyG_take (i := 1) (v := ?_) rfl (by kernel_rfl) (by kernel_rfl) (by kernel_rfl) (fun _ _ _ h => h) (by kernel_rfl) (by decide) (by kernel_rfl) (Or.inl ⟨by kernel_rfl, ?_⟩) hS0 ?_
  rotate_left
  · (intro wx hSw; go_simp; try with_reducible rfl)
  try simp only [Act.put, List.getElem_toArray, List.getElem_cons_succ, List.getElem_cons_zero, List.setIfInBounds_toArray, List.set_cons_zero, List.set_cons_succ]
  refine wpAnyG_take (i := 2) (v := ?_) rfl (by kernel_rfl) (by kernel_rfl) (by kernel_rfl) (fun _ _ _ h => h) (by kernel_rfl) (by decide) (by kernel_rfl) (Or.inl ⟨by kernel_rfl, ?_⟩) hS0 ?_
  rotate_left
  · (intro wx hSw; go_simp; try with_reducible rfl)
  try simp only [Act.put, List.getElem_toArray, List.getElem_cons_succ, List.getElem_cons_zero, List.setIfInBounds_toArray, List.set_cons_zero, List.set_cons_succ]
  refine wpAnyG_take (i := 3) (v := ?_) rfl (by kernel_rfl) (by kernel_rfl) (by kernel_rfl) (fun _ _ _ h => h) (by kernel_rfl) (by decide) (by kernel_rfl) (Or.inl ⟨by kernel_rfl, ?_⟩) hS0 ?_
  rotate_left
  · (intro wx hSw; go_simp; try with_reducible rfl)
  try simp only [Act.put, List.getElem_toArray, List.getElem_cons_succ, List.getElem_cons_zero, List.setIfInBounds_toArray, List.set_cons_zero, List.set_cons_succ]
  refine wpAnyG_take (i := 4) (v := ?_) rfl (by kernel_rfl) (by kernel_rfl) (by kernel_rfl) (fun _ _ _ h => h) (by kernel_rfl) (by decide) (by kernel_rfl) (Or.inl ⟨by kernel_rfl, ?_⟩) hS0 ?_
  rotate_left
  · (intro wx hSw; go_simp; try with_reducible rfl)
  try simp only [Act.put, List.getElem_toArray, List.getElem_cons_succ, List.getElem_cons_zero, List.setIfInBounds_toArray, List.set_cons_zero, List.set_cons_succ]
  refine wpAnyG_take (i := 5) (v := ?_) rfl (by kernel_rfl) (by kernel_rfl) (by kernel_rfl) (fun _ _ _ h => h) (by kernel_rfl) (by decide) (by kernel_rfl) (Or.inl ⟨by kernel_rfl, ?_⟩) hS0 ?_
  rotate_left
  · (intro wx hSw; go_simp; try with_reducible rfl)
  try simp only [Act.put, List.getElem_toArray, List.getElem_cons_succ, List.getElem_cons_zero, List.setIfInBounds_toArray, List.set_cons_zero, List.set_cons_succ]
  refine wpAnyG_take (i := 6) (v := ?_) rfl (by kernel_rfl) (by kernel_rfl) (by kernel_rfl) (fun _ _ _ h => h) (by kernel_rfl) (by decide) (by kernel_rfl) (Or.inl ⟨by kernel_rfl, ?_⟩) hS0 ?_
  rotate_left
  · (intro wx hSw; go_simp; try with_reducible rfl)
  try simp only [Act.put, List.getElem_toArray, List.getElem_cons_succ, List.getElem_cons_zero, List.setIfInBounds_toArray, List.set_cons_zero, List.set_cons_succ]
  refine wpAnyG_take (i := 7) (v := ?_) rfl (by kernel_rfl) (by kernel_rfl) (by kernel_rfl) (fun _ _ _ h => h) (by kernel_rfl) (by decide) (by kernel_rfl) (Or.inl ⟨by kernel_rfl, ?_⟩) hS0 ?_
  rotate_left
  · (intro wx hSw; go_simp; try with_reducible rfl)
  try simp only [Act.put, List.getElem_toArray, List.getElem_cons_succ, List.getElem_cons_zero, List.setIfInBounds_toArray, List.set_cons_zero, List.set_cons_succ]
  generalize w.drew = p0 at *
  refine wpAnyG_ready (rs := [8]) (by kernel_rfl) (by simp) ?_
  refine AllReadyG.cons rfl (fun K hK => ?_) AllReadyG.nil
  go_simp
  refine (HRU.out p0 HRa.out HMa.out).mono ?_
  rintro _ p1 ⟨v, rfl, hd, hr1, hk1⟩
  obtain ⟨xa, xk, ff, bb, oo, rfl, hrest⟩ := hd
  have hs0 : base ≤ p0.heap.size := Nat.le_trans HLa.out.low (Nat.le_of_lt HLa.out.cel.lt)
  have HD1 : Hid (RowsOf 1 RelsC (see base [91, 94, 152] p1) (.slice xa xc.length xk) xc) := RowsOf.sub ⟨xa, xk, ff, bb, oo, rfl, hrest⟩ (see_le p1 hs0 fun _ h => h) fun _ _ g => g.sub (see_le p1 hs0 fun _ h => h)
  have HR1 := Lib.hid hr1
  have HL1 := Lib.hid (HLa.out.rd HRa.out hk1)
  have HK1 := Lib.hid (HKa.out.trans hk1.item)
  clear hrest hr1 hk1 HRa HLa HKa HMa HRU
  go_simp
  refine hK.out _ _ (fun _ => HL1.out.cel.cell 3) (fun _ => ?_)
  clear hK K
  try simp only [Act.put, List.getElem_toArray, List.getElem_cons_succ, List.getElem_cons_zero, List.setIfInBounds_toArray, List.set_cons_zero, List.set_cons_succ]
  refine wpAnyG_ready (rs := [9]) (by kernel_rfl) (by simp) ?_
  refine AllReadyG.cons rfl (fun K hK => ?_) AllReadyG.nil
  go_simp
  refine (HCL.out p1).mono ?_
  rintro _ p2 ⟨ad2, n2, c2, rfl, hsl, hb2⟩
  obtain rfl : n2 = 5 := by
    obtain ⟨_, _, hsl⟩ := hsl
    exact hsl.len.symm
  have HD2 := Lib.hid (CondAt.kpt HD1.out (KpT.below hb2 base [91, 94, 152]))
  have HR2 := Lib.hid (HR1.out.below hb2)
  have HL2 := Lib.hid (HL1.out.below hb2)
  have HK2 := Lib.hid (HK1.out.trans (kp_below hb2))
  clear hsl hb2 HR1 HL1 HK1 HD1 HCL
  go_simp
  refine hK.out _ _ (fun _ => HL2.out.cel.cell 3) (fun _ => ?_)
  clear hK K
  try simp only [Act.put, List.getElem_toArray, List.getElem_cons_succ, List.getElem_cons_zero, List.setIfInBounds_toArray, List.set_cons_zero, List.set_cons_succ]
  refine wpAnyG_take (i := 10) (v := ?_) rfl (by kernel_rfl) (by kernel_rfl) (by kernel_rfl) (fun _ _ _ h => h) (by kernel_rfl) (by decide) (by kernel_rfl) (Or.inl ⟨by kernel_rfl, ?_⟩) (HL2.out.cel.cell 3) ?_
  rotate_left
  · (intro wx hSw; go_simp; try with_reducible rfl)
  try simp only [Act.put, List.getElem_toArray, List.getElem_cons_succ, List.getElem_cons_zero, List.setIfInBounds_toArray, List.set_cons_zero, List.set_cons_succ]
  refine wpAnyG_ready (rs := [11]) (by kernel_rfl) (by simp) ?_
  refine AllReadyG.cons rfl (fun K hK => ?_) AllReadyG.nil
  go_simp
  have hs2 : base ≤ p2.heap.size := Nat.le_trans HL2.out.low (Nat.le_of_lt HL2.out.cel.lt)
  refine (HAD1.out p2 HR2.out hs2 ad0 c0 HL2.out.g3 xa xc.length xk xc HD2.out).mono ?_
  rintro _ p3 ⟨v', rfl, hg3, hr3, hk3, hp3⟩
  obtain ⟨ad', n', c', rfl⟩ : ∃ ad n c, v' = .slice ad n c := by obtain ⟨ad, c, h⟩ := hg3.shape; exact ⟨ad, _, c, h⟩
  have hc3 := HL2.out.celG HR2.out HL2.out.g3 hk3 (by decide)
  have HC3 := Lib.hid hc3
  have HL4 := Lib.hid (HL2.out.card HR2.out hk3 hg3 hp3)
  have HR3 := Lib.hid hr3
  have HK3 := Lib.hid (HK2.out.trans (hk3.itemG HL2.out.g3 (Nat.le_refl _)))
  clear hc3 hg3 hr3 hk3 hp3 HAD1
  go_simp
  refine hK.out _ _ (fun _ => HC3.out.cell 3) (fun _ => ?_)
  clear hK K
  try simp only [Act.put, List.getElem_toArray, List.getElem_cons_succ, List.getElem_cons_zero, List.setIfInBounds_toArray, List.set_cons_zero, List.set_cons_succ]
  refine wpAnyG_ready (rs := [12]) (by kernel_rfl) (by simp) ?_
  refine AllReadyG.cons rfl (fun K hK => ?_) AllReadyG.nil
  go_simp
  refine hK.out _ _ (fun _ => HC3.out.cell 3) (fun _ => ?_)
  clear hK K
  try simp only [Act.put, List.getElem_toArray, List.getElem_cons_succ, List.getElem_cons_zero, List.setIfInBounds_toArray, List.set_cons_zero, List.set_cons_succ]
  refine wpAnyG_ready (rs := [13]) (by kernel_rfl) (by simp) ?_
  refine AllReadyG.cons rfl (fun K hK => ?_) AllReadyG.nil
  go_simp
  refine hK.out _ _ (fun _ => HC3.out.cell 3) (fun _ => ?_)
  clear hK K
  try simp only [Act.put, List.getElem_toArray, List.getElem_cons_succ, List.getElem_cons_zero, List.setIfInBounds_toArray, List.set_cons_zero, List.set_cons_succ]
  have c3 := HC3.out.cell 3
  have f3 := HC3.out.frz 3
  have hLt := HC3.out.lt
  refine wpAnyG_ready (rs := [14]) (by kernel_rfl) (by simp) ?_
  refine AllReadyG.cons rfl (fun K hK => ?_) AllReadyG.nil
  go_simp
  refine hK.out _ _ (fun h => by cases h) (fun _ => ?_)
  clear hK K
  refine wpAnyG_done (by kernel_rfl) ?_ _
  go_end0
  exact ⟨rfl, by rw [HV.out]; exact ⟨_, _, _, _, _, _, _, HL4.out⟩, by rw [HV.out]; exact HR3.out.other (a := ⟨L, 3, none⟩) hbL _, HK3.out.itemS (p := ⟨L, 3, none⟩) hlow _⟩
set_option maxRecDepth 20000 in
set_option maxHeartbeats 4000000 in
theorem iord_any (b : Nat) (E : Int) (base L : Nat) (p : Int) (y : Lc) (r : RS) (w : World) (hr : Rd w b E r) (hb : b < base) (hl : LocAt base w L y) (hM : MaxAt base w) (hn : y.ord.length ≤ 1000) : Calls Tryz.prog 222 #[.pointer (some ⟨b, 0, none⟩), .int .i64 p, .pointer (some ⟨L, 0, none⟩)] w (ItemP b E base L w (itOrd E p y r)) := by
  obtain ⟨v3, v4, v11, v12, v13, v14, v15, hl⟩ := hl
  have HR0 := Lib.hid hr
  have HL0 := Lib.hid hl
  have HK0 := Lib.hid (Kp.refl (itemP b base) w)
  have hbL : b < L := Nat.lt_of_lt_of_le hb hl.low
  have hLw := hl.cel.lt
  have hlow := hl.low
  have HRU := Lib.hid (fun W (g : Rd W b E r) (gM : MaxLen W) => rrule_any b E r W g gM)
  have HCL := Lib.hid tclasses_any
  have HAD := Lib.hid (fun q x0 W (g : Rd W b E q) (hw : base ≤ W.heap.size) ad c gr xa xn xk xc gx => added_Rule b E p 5 q W g base hb hw y.ord ad c gr hn x0 xa xn xk xc gx)
  have HV : Hid (itOrd E p y r = ({ y with ord := y.ord ++ [(r.rule E).1] }, (r.rule E).2.add p (dupRu y.ord (r.rule E).1.1) (fullB 5 y.ord.length))) := rfl
  have HM := Lib.hid (fun W (k : Below w.heap.size w W) => hM.1.below k)
  unfold dupRu fullB at HV
  unfold ItemP
  clear hr hl hM
  generalize itOrd E p y r = res at *
  generalize r.rule E = r1 at *
  obtain ⟨⟨x0, xc⟩, q1⟩ := r1
  simp only at HRU HV
  have HAD1 := Lib.hid (HAD.out q1 x0)
  clear HAD
  generalize q1.add p _ _ = q2 at *
  obtain ⟨ad0, c0, hv0⟩ := HL0.out.g4.shape
  subst hv0
  go_enter Tryz.func222, Tryz.ntmps222
  go_upto_region 0 with (fail)
  refine wp_region_until 14 (fun w' => w'.cell? ⟨L, 4, none⟩ = some (.slice ad0 y.ord.length c0)) (by kernel_rfl) (HL0.out.cel.cell 4) (fun hS0 => ?_)
  have HRa := Lib.hid (HR0.out.below (Bel.drew (Bel.refl w)))
  have HLa := Lib.hid (HL0.out.below (Bel.drew (Bel.refl w)))
  have HKa := Lib.hid (HK0.out.trans (kp_below (Bel.drew (Bel.refl w))))
  have HMa := Lib.hid (HM.out _ (Bel.drew (Bel.refl w)))
  clear HR0 HL0 HK0 HM
  refine wpAnyG_take (i := 0) (v := ?_) rfl (by kernel_rfl) (by kernel_rfl) (by kernel_rfl) (fun _ _ _ h => h) (by kernel_rfl) (by decide) (by kernel_rfl) (Or.inl ⟨by kernel_rfl, ?_⟩) hS0 ?_
  rotate_left
  · (intro wx hSw; go_simp; try with_reducible rfl)
  try simp only [Act.put, List.getElem_toArray, List.getElem_cons_zero, List.setIfInBounds_toArray, List.set_cons_zero, List.set_cons_succ]
  refine wpAnyG_take (i := 1) (v := ?_) rfl (by kernel_rfl) (by kernel_rfl) (by kernel_rfl) (fun _ _ _ h => h) (by kernel_rfl) (by decide) (by kernel_rfl) (Or.inl ⟨by kernel_rfl, ?_⟩) hS0 ?_
  rotate_left
  · (intro wx hSw; go_simp; try with_reducible rfl)
  try simp only [Act.put, List.getElem_toArray, List.getElem_cons_succ, List.getElem_cons_zero, List.setIfInBounds_toArray, List.set_cons_zero, List.set_cons_succ]
  refine wpAnyG_take (i := 2) (v := ?_) rfl (by kernel_rfl) (by kernel_rfl) (by kernel_rfl) (fun _ _ _ h => h) (by kernel_rfl) (by decide) (by kernel_rfl) (Or.inl ⟨by kernel_rfl, ?_⟩) hS0 ?_
  rotate_left
  · (intro wx hSw; go_simp; try with_reducible rfl)
  try simp only [Act.put, List.getElem_toArray, List.getElem_cons_succ, List.getElem_cons_zero, List.setIfInBounds_toArray, List.set_cons_zero, List.set_cons_succ]
  refine wpAnyG_take (i := 3) (v := ?_) rfl (by kernel_rfl) (by kernel_rfl) (by kernel_rfl) (fun _ _ _ h => h) (by kernel_rfl) (by decide) (by kernel_rfl) (Or.inl ⟨by kernel_rfl, ?_⟩) hS0 ?_
  rotate_left
  · (intro wx hSw; go_simp; try with_reducible rfl)
  try simp only [Act.put, List.getElem_toArray, List.getElem_cons_succ, List.getElem_cons_zero, List.setIfInBounds_toArray, List.set_cons_zero, List.set_cons_succ]
  refine wpAnyG_take (i := 4) (v := ?_) rfl (by kernel_rfl) (by kernel_rfl) (by kernel_rfl) (fun _ _ _ h => h) (by kernel_rfl) (by decide) (by kernel_rfl) (Or.inl ⟨by kernel_rfl, ?_⟩) hS0 ?_
  rotate_left
  · (intro wx hSw; go_simp; try with_reducible rfl)
  try simp only [Act.put, List.getElem_toArray, List.getElem_cons_succ, List.getElem_cons_zero, List.setIfInBounds_toArray, List.set_cons_zero, List.set_cons_succ]
  refine wpAnyG_take (i := 5) (v := ?_) rfl (by kernel_rfl) (by kernel_rfl) (by kernel_rfl) (fun _ _ _ h => h) (by kernel_rfl) (by decide) (by kernel_rfl) (Or.inl ⟨by kernel_rfl, ?_⟩) hS0 ?_
  rotate_left
  · (intro wx hSw; go_simp; try with_reducible rfl)
  try simp only [Act.put, List.getElem_toArray, List.getElem_cons_succ, List.getElem_cons_zero, List.setIfInBounds_toArray, List.set_cons_zero, List.set_cons_succ]
  refine wpAnyG_take (i := 6) (v := ?_) rfl (by kernel_rfl) (by kernel_rfl) (by kernel_rfl) (fun _ _ _ h => h) (by kernel_rfl) (by decide) (by kernel_rfl) (Or.inl ⟨by kernel_rfl, ?_⟩) hS0 ?_
  rotate_left
  · (intro wx hSw; go_simp; try with_reducible rfl)
  try simp only [Act.put, List.getElem_toArray, List.getElem_cons_succ, List.getElem_cons_zero, List.setIfInBounds_toArray, List.set_cons_zero, List.set_cons_succ]
  refine wpAnyG_take (i := 7) (v := ?_) rfl (by kernel_rfl) (by kernel_rfl) (by kernel_rfl) (fun _ _ _ h => h) (by kernel_rfl) (by decide) (by kernel_rfl) (Or.inl ⟨by kernel_rfl, ?_⟩) hS0 ?_
  rotate_left
  · (intro wx hSw; go_simp; try with_reducible rfl)
  try simp only [Act.put, List.getElem_toArray, List.getElem_cons_succ, List.getElem_cons_zero, List.setIfInBounds_toArray, List.set_cons_zero, List.set_cons_succ]
  generalize w.drew = p0 at *
  refine wpAnyG_ready (rs := [8]) (by kernel_rfl) (by simp) ?_
  refine AllReadyG.cons rfl (fun K hK => ?_) AllReadyG.nil
  go_simp
  refine (HRU.out p0 HRa.out HMa.out).mono ?_
  rintro _ p1 ⟨v, rfl, hd, hr1, hk1⟩
  obtain ⟨xa, xk, ff, bb, oo, rfl, hrest⟩ := hd
  have hs0 : base ≤ p0.heap.size := Nat.le_trans HLa.out.low (Nat.le_of_lt HLa.out.cel.lt)
  have HD1 : Hid (RowsOf 1 RelsC (see base [91, 94, 152] p1) (.slice xa xc.length xk) xc) := RowsOf.sub ⟨xa, xk, ff, bb, oo, rfl, hrest⟩ (see_le p1 hs0 fun _ h => h) fun _ _ g => g.sub (see_le p1 hs0 fun _ h => h)
  have HR1 := Lib.hid hr1
  have HL1 := Lib.hid (HLa.out.rd HRa.out hk1)
  have HK1 := Lib.hid (HKa.out.trans hk1.item)
  clear hrest hr1 hk1 HRa HLa HKa HMa HRU
  go_simp
  refine hK.out _ _ (fun _ => HL1.out.cel.cell 4) (fun _ => ?_)
  clear hK K
  try simp only [Act.put, List.getElem_toArray, List.getElem_cons_succ, List.getElem_cons_zero, List.setIfInBounds_toArray, List.set_cons_zero, List.set_cons_succ]
  refine wpAnyG_ready (rs := [9]) (by kernel_rfl) (by simp) ?_
  refine AllReadyG.cons rfl (fun K hK => ?_) AllReadyG.nil
  go_simp
  refine (HCL.out p1).mono ?_
  rintro _ p2 ⟨ad2, n2, c2, rfl, hsl, hb2⟩
  obtain rfl : n2 = 5 := by
    obtain ⟨_, _, hsl⟩ := hsl
    exact hsl.len.symm
  have HD2 := Lib.hid (CondAt.kpt HD1.out (KpT.below hb2 base [91, 94, 152]))
  have HR2 := Lib.hid (HR1.out.below hb2)
  have HL2 := Lib.hid (HL1.out.below hb2)
  have HK2 := Lib.hid (HK1.out.trans (kp_below hb2))
  clear hsl hb2 HR1 HL1 HK1 HD1 HCL
  go_simp
  refine hK.out _ _ (fun _ => HL2.out.cel.cell 4) (fun _ => ?_)
  clear hK K
  try simp only [Act.put, List.getElem_toArray, List.getElem_cons_succ, List.getElem_cons_zero, List.setIfInBounds_toArray, List.set_cons_zero, List.set_cons_succ]
  refine wpAnyG_take (i := 10) (v := ?_) rfl (by kernel_rfl) (by kernel_rfl) (by kernel_rfl) (fun _ _ _ h => h) (by kernel_rfl) (by decide) (by kernel_rfl) (Or.inl ⟨by kernel_rfl, ?_⟩) (HL2.out.cel.cell 4) ?_
  rotate_left
  · (intro wx hSw; go_simp; try with_reducible rfl)
  try simp only [Act.put, List.getElem_toArray, List.getElem_cons_succ, List.getElem_cons_zero, List.setIfInBounds_toArray, List.set_cons_zero, List.set_cons_succ]
  refine wpAnyG_ready (rs := [11]) (by kernel_rfl) (by simp) ?_
  refine AllReadyG.cons rfl (fun K hK => ?_) AllReadyG.nil
  go_simp
  have hs2 : base ≤ p2.heap.size := Nat.le_trans HL2.out.low (Nat.le_of_lt HL2.out.cel.lt)
  refine (HAD1.out p2 HR2.out hs2 ad0 c0 HL2.out.g4 xa xc.length xk xc HD2.out).mono ?_
  rintro _ p3 ⟨v', rfl, hg3, hr3, hk3, hp3⟩
  obtain ⟨ad', n', c', rfl⟩ : ∃ ad n c, v' = .slice ad n c := by obtain ⟨ad, c, h⟩ := hg3.shape; exact ⟨ad, _, c, h⟩
  have hc3 := HL2.out.celG HR2.out HL2.out.g4 hk3 (by decide)
  have HC3 := Lib.hid hc3
  have HL4 := Lib.hid (HL2.out.ord HR2.out hk3 hg3 hp3)
  have HR3 := Lib.hid hr3
  have HK3 := Lib.hid (HK2.out.trans (hk3.itemG HL2.out.g4 (Nat.le_refl _)))
  clear hc3 hg3 hr3 hk3 hp3 HAD1
  go_simp
  refine hK.out _ _ (fun _ => HC3.out.cell 4) (fun _ => ?_)
  clear hK K
  try simp only [Act.put, List.getElem_toArray, List.getElem_cons_succ, List.getElem_cons_zero, List.setIfInBounds_toArray, List.set_cons_zero, List.set_cons_succ]
  refine wpAnyG_ready (rs := [12]) (by kernel_rfl) (by simp) ?_
  refine AllReadyG.cons rfl (fun K hK => ?_) AllReadyG.nil
  go_simp
  refine hK.out _ _ (fun _ => HC3.out.cell 4) (fun _ => ?_)
  clear hK K
  try simp only [Act.put, List.getElem_toArray, List.getElem_cons_succ, List.getElem_cons_zero, List.setIfInBounds_toArray, List.set_cons_zero, List.set_cons_succ]
  refine wpAnyG_ready (rs := [13]) (by kernel_rfl) (by simp) ?_
  refine AllReadyG.cons rfl (fun K hK => ?_) AllReadyG.nil
  go_simp
  refine hK.out _ _ (fun _ => HC3.out.cell 4) (fun _ => ?_)
  clear hK K
  try simp only [Act.put, List.getElem_toArray, List.getElem_cons_succ, List.getElem_cons_zero, List.setIfInBounds_toArray, List.set_cons_zero, List.set_cons_succ]
  have c4 := HC3.out.cell 4
  have f4 := HC3.out.frz 4
  have hLt := HC3.out.lt
  refine wpAnyG_ready (rs := [14]) (by kernel_rfl) (by simp) ?_
  refine AllReadyG.cons rfl (fun K hK => ?_) AllReadyG.nil
  go_simp
  refine hK.out _ _ (fun h => by cases h) (fun _ => ?_)
  clear hK K
  refine wpAnyG_done (by kernel_rfl) ?_ _
  go_end0
  exact ⟨rfl, by rw [HV.out]; exact ⟨_, _, _, _, _, _, _, HL4.out⟩, by rw [HV.out]; exact HR3.out.other (a := ⟨L, 4, none⟩) hbL _, HK3.out.itemS (p := ⟨L, 4, none⟩) hlow _⟩
end Go.Proofs.YtmleeodfmmpdgaaGreatDoor
/- Walks: items of a locale: patterns of dates, units and lists. -/
namespace Go.Proofs.YtmleeodfmmpdgaaGreatDoor
open Go.RowKit
attribute [local go_sem] Ext.cell Ext.frozen
attribute [local go_sem ↓] Go.wp_at_zero Go.wp_at_succ
set_option maxRecDepth 20000 in
set_option maxHeartbeats 4000000 in
theorem idate_any (b : Nat) (E : Int) (base L : Nat) (p : Int) (y : Lc) (r : RS) (w : World) (hr : Rd w b E r) (hb : b < base) (hl : LocAt base w L y) (hn : y.dates.length ≤ 1000) : Calls Tryz.prog 226 #[.pointer (some ⟨b, 0, none⟩), .int .i64 p, .pointer (some ⟨L, 0, none⟩)] w (ItemP b E base L w (itDate E p y r)) := by
  obtain ⟨v3, v4, v11, v12, v13, v14, v15, hl⟩ := hl
  have HR0 := Lib.hid hr
  have HL0 := Lib.hid hl
  have HK0 := Lib.hid (Kp.refl (itemP b base) w)
  have hbL : b < L := Nat.lt_of_lt_of_le hb hl.low
  have hLw := hl.cel.lt
  have hlow := hl.low
  have HWO := Lib.hid (fun W (g : Rd W b E r) => word_any b E r W g)
  have HTE := Lib.hid (fun q W (g : Rd W b E q) => text_any b E q W g)
  have HMA := Lib.hid (fun q W (g : Rd W b E q) => mark_any b E [59] q W g)
  have HAD := Lib.hid (fun q x0 x1 z W (g : Rd W b E q) (hw : base ≤ W.heap.size) ad c gr hx => added_Dp b E p 30 q W g base hb hw y.dates ad c gr hn x0 x1 z hx)
  have HV : Hid (itDate E p y r = ({ y with dates := y.dates ++ [⟨bs (r.word E).1, bs ((r.word E).2.text E).1⟩] }, (((r.word E).2.text E).2.mark E [59]).add p (dupDp y.dates (bs (r.word E).1)) (fullB 30 y.dates.length))) := rfl
  have h1 := hr.ok.take (E := E) (k := 1)
  have hz0 : (bs (r.word E).1).size ≤ 140737488351232 := by rw [bs_size]; exact Nat.le_trans h1.1 (by decide)
  have hz1 : (bs ((r.word E).2.text E).1).size ≤ 140737488351232 := by rw [bs_size]; exact Nat.le_trans (h1.2.take (E := E) (k := 2)).1 (by decide)
  clear h1
  unfold dupDp fullB at HV
  unfold RdP at HWO HTE HMA
  unfold ItemP
  clear hr hl
  generalize itDate E p y r = res at *
  generalize r.word E = r1 at *
  obtain ⟨K, q1⟩ := r1
  simp only at HWO HV hz0 hz1
  have HTE1 := Lib.hid (HTE.out q1)
  generalize q1.text E = r2 at *
  obtain ⟨T, q2⟩ := r2
  simp only at HTE1 HV hz1
  have HMA1 := Lib.hid (HMA.out q2)
  generalize q2.mark E [59] = q3 at *
  generalize bs K = K at *
  generalize bs T = T at *
  have HAD := Lib.hid (HAD.out q3 K T ⟨K, T⟩)
  have HDY : Hid (∀ W, DpC W (fun j => (#[.string K, .string T] : Array Value).getD j undef) ⟨K, T⟩) := fun W => ⟨⟨rfl, hz0⟩, ⟨rfl, hz1⟩⟩
  clear HTE HMA hz0 hz1
  generalize q3.add p _ _ = q4 at *
  have HK0 := Lib.hid (Kp.refl (oneP b) w)
  go_enter Tryz.func226, Tryz.ntmps226
  go_wp2_with fail
  refine (HWO.out _ HR0.out).mono ?_
  rintro _ w1 ⟨rfl, hr1, hk1⟩
  have HR1 := Lib.hid hr1
  have HK1 := Lib.hid (HK0.out.trans hk1)
  clear hr1 hk1 HK0 HWO
  have HR2 := Lib.hid (HR1.out.below (Bel.alloc (Bel.refl w1) (.cells #[.string K, .string ⟨#[]⟩] 134)))
  have HK2 := Lib.hid (HK1.out.alloc (.cells #[.string K, .string ⟨#[]⟩] 134))
  have HX2 := Lib.hid (Cel.new w1 [.string K, .string ⟨#[]⟩] 134)
  obtain ⟨X, hX⟩ : ∃ X, w1.heap.size = X := ⟨_, rfl⟩
  have hwX : w.heap.size ≤ X := by rw [← hX]; exact HK1.out.size
  have hbX : b < X := Nat.lt_of_lt_of_le HR0.out.lt hwX
  have hXb : X ≠ b := by omega
  have hXL : X ≠ L := by omega
  rw [hX] at HX2
  clear HR1 HK1
  go_upto_region 1 with (fail)
  generalize w1.alloc (.cells #[.string K, .string ⟨#[]⟩] 134) = w2 at *
  have HTE2 := Lib.hid (HTE1.out _ HR2.out)
  go_wp2_with fail
  refine HTE2.out.mono ?_
  rintro _ w3 ⟨rfl, hr3, hk3⟩
  have HR3 := Lib.hid hr3
  have HK3 := Lib.hid (HK2.out.trans hk3)
  have HX3 := Lib.hid (HX2.out.kp hk3 (oneP_ne hXb))
  clear hr3 hk3 HR2 HK2 HX2
  have x1 := HX3.out.cell 1
  simp only [List.getElem?_cons_zero, List.getElem?_cons_succ] at x1
  have xf1 := HX3.out.frz 1
  have hXl := HX3.out.lt
  go_upto_region 2 with (fail)
  have HX4 := Lib.hid (HX3.out.set 1 (.string T))
  have HR4 := Lib.hid (HR3.out.other (a := ⟨X, 1, none⟩) hbX (.string T))
  have HK4 := Lib.hid (HK3.out.setN (p := ⟨X, 1, none⟩) hwX (.string T))
  simp only [List.set_cons_zero, List.set_cons_succ] at HX4
  clear HR3 HK3 HX3 x1 xf1 hXl
  generalize w3.setCell ⟨X, 1, none⟩ (.string T) = w4 at *
  have HMA2 := Lib.hid (HMA1.out _ HR4.out)
  go_wp2_with fail
  refine HMA2.out.mono ?_
  rintro _ w5 ⟨rfl, hr5, hk5⟩
  have HR5 := Lib.hid hr5
  have HK5 := Lib.hid (HK4.out.trans hk5)
  have HX5 := Lib.hid (HX4.out.kp hk5 (oneP_ne hXb))
  clear hr5 hk5 HR4 HK4 HX4
  go_upto_region 3 with (fail)
  have HL5 := Lib.hid (HL0.out.rd HR0.out HK5.out)
  obtain ⟨ad0, c0, hv0⟩ := HL5.out.g13.shape
  subst hv0
  have hob : ∀ k, Value.ownBlock (.slice ad0 y.dates.length c0) = some k → k < w.heap.size := fun k hk => (HL0.out.g13.lt hk).2
  refine wp_region_until 11 (fun w' => w'.cell? ⟨L, 13, none⟩ = some (.slice ad0 y.dates.length c0) ∧ Cel w' X 134 [.string K, .string T]) (by kernel_rfl) ⟨HL5.out.cel.cell 13, HX5.out⟩ (fun hS0 => ?_)
  have HRa := Lib.hid (HR5.out.below (Bel.drew (Bel.refl w5)))
  have HLa := Lib.hid (HL5.out.below (Bel.drew (Bel.refl w5)))
  have HXa := Lib.hid (HX5.out.below (Bel.drew (Bel.refl w5)))
  have HKa := Lib.hid (HK5.out.trans (kp_below (Bel.drew (Bel.refl w5))))
  clear HR5 HL5 HX5 HK5 HL0 HR0
  refine wpAnyG_take (i := 0) (v := ?_) rfl (by kernel_rfl) (by kernel_rfl) (by kernel_rfl) (fun _ _ _ h => h) (by kernel_rfl) (by decide) (by kernel_rfl) (Or.inl ⟨by kernel_rfl, ?_⟩) hS0 ?_
  rotate_left
  · (intro wx hSw; obtain ⟨t1, t2⟩ := hSw; have q0 := t2.cell 0; have q1 := t2.cell 1; have hXl := t2.lt; simp only [List.getElem?_cons_zero, List.getElem?_cons_succ] at q0 q1; go_simp; try with_reducible rfl)
  try simp only [Act.put, List.getElem_toArray, List.getElem_cons_zero, List.setIfInBounds_toArray, List.set_cons_zero, List.set_cons_succ]
  refine wpAnyG_take (i := 1) (v := ?_) rfl (by kernel_rfl) (by kernel_rfl) (by kernel_rfl) (fun _ _ _ h => h) (by kernel_rfl) (by decide) (by kernel_rfl) (Or.inl ⟨by kernel_rfl, ?_⟩) hS0 ?_
  rotate_left
  · (intro wx hSw; obtain ⟨t1, t2⟩ := hSw; have q0 := t2.cell 0; have q1 := t2.cell 1; have hXl := t2.lt; simp only [List.getElem?_cons_zero, List.getElem?_cons_succ] at q0 q1; go_simp; try with_reducible rfl)
  try simp only [Act.put, List.getElem_toArray, List.getElem_cons_succ, List.getElem_cons_zero, List.setIfInBounds_toArray, List.set_cons_zero, List.set_cons_succ]
  refine wpAnyG_take (i := 2) (v := ?_) rfl (by kernel_rfl) (by kernel_rfl) (by kernel_rfl) (fun _ _ _ h => h) (by kernel_rfl) (by decide) (by kernel_rfl) (Or.inl ⟨by kernel_rfl, ?_⟩) hS0 ?_
  rotate_left
  · (intro wx hSw; obtain ⟨t1, t2⟩ := hSw; have q0 := t2.cell 0; have q1 := t2.cell 1; have hXl := t2.lt; simp only [List.getElem?_cons_zero, List.getElem?_cons_succ] at q0 q1; go_simp; try with_reducible rfl)
  try simp only [Act.put, List.getElem_toArray, List.getElem_cons_succ, List.getElem_cons_zero, List.setIfInBounds_toArray, List.set_cons_zero, List.set_cons_succ]
  refine wpAnyG_take (i := 3) (v := ?_) rfl (by kernel_rfl) (by kernel_rfl) (by kernel_rfl) (fun _ _ _ h => h) (by kernel_rfl) (by decide) (by kernel_rfl) (Or.inl ⟨by kernel_rfl, ?_⟩) hS0 ?_
  rotate_left
  · (intro wx hSw; obtain ⟨t1, t2⟩ := hSw; have q0 := t2.cell 0; have q1 := t2.cell 1; have hXl := t2.lt; simp only [List.getElem?_cons_zero, List.getElem?_cons_succ] at q0 q1; go_simp; try with_reducible rfl)
  try simp only [Act.put, List.getElem_toArray, List.getElem_cons_succ, List.getElem_cons_zero, List.setIfInBounds_toArray, List.set_cons_zero, List.set_cons_succ]
  refine wpAnyG_take (i := 4) (v := ?_) rfl (by kernel_rfl) (by kernel_rfl) (by kernel_rfl) (fun _ _ _ h => h) (by kernel_rfl) (by decide) (by kernel_rfl) (Or.inl ⟨by kernel_rfl, ?_⟩) hS0 ?_
  rotate_left
  · (intro wx hSw; obtain ⟨t1, t2⟩ := hSw; have q0 := t2.cell 0; have q1 := t2.cell 1; have hXl := t2.lt; simp only [List.getElem?_cons_zero, List.getElem?_cons_succ] at q0 q1; go_simp; try with_reducible rfl)
  try simp only [Act.put, List.getElem_toArray, List.getElem_cons_succ, List.getElem_cons_zero, List.setIfInBounds_toArray, List.set_cons_zero, List.set_cons_succ]
  refine wpAnyG_take (i := 5) (v := ?_) rfl (by kernel_rfl) (by kernel_rfl) (by kernel_rfl) (fun _ _ _ h => h) (by kernel_rfl) (by decide) (by kernel_rfl) (Or.inl ⟨by kernel_rfl, ?_⟩) hS0 ?_
  rotate_left
  · (intro wx hSw; obtain ⟨t1, t2⟩ := hSw; have q0 := t2.cell 0; have q1 := t2.cell 1; have hXl := t2.lt; simp only [List.getElem?_cons_zero, List.getElem?_cons_succ] at q0 q1; go_simp; try with_reducible rfl)
  try simp only [Act.put, List.getElem_toArray, List.getElem_cons_succ, List.getElem_cons_zero, List.setIfInBounds_toArray, List.set_cons_zero, List.set_cons_succ]
  refine wpAnyG_take (i := 6) (v := ?_) rfl (by kernel_rfl) (by kernel_rfl) (by kernel_rfl) (fun _ _ _ h => h) (by kernel_rfl) (by decide) (by kernel_rfl) (Or.inl ⟨by kernel_rfl, ?_⟩) hS0 ?_
  rotate_left
  · (intro wx hSw; obtain ⟨t1, t2⟩ := hSw; have q0 := t2.cell 0; have q1 := t2.cell 1; have hXl := t2.lt; simp only [List.getElem?_cons_zero, List.getElem?_cons_succ] at q0 q1; go_simp; try with_reducible rfl)
  try simp only [Act.put, List.getElem_toArray, List.getElem_cons_succ, List.getElem_cons_zero, List.setIfInBounds_toArray, List.set_cons_zero, List.set_cons_succ]
  refine wpAnyG_take (i := 7) (v := ?_) rfl (by kernel_rfl) (by kernel_rfl) (by kernel_rfl) (fun _ _ _ h => h) (by kernel_rfl) (by decide) (by kernel_rfl) (Or.inl ⟨by kernel_rfl, ?_⟩) hS0 ?_
  rotate_left
  · (intro wx hSw; obtain ⟨t1, t2⟩ := hSw; have q0 := t2.cell 0; have q1 := t2.cell 1; have hXl := t2.lt; simp only [List.getElem?_cons_zero, List.getElem?_cons_succ] at q0 q1; go_simp; try with_reducible rfl)
  try simp only [Act.put, List.getElem_toArray, List.getElem_cons_succ, List.getElem_cons_zero, List.setIfInBounds_toArray, List.set_cons_zero, List.set_cons_succ]
  generalize w5.drew = p0 at *
  refine wpAnyG_ready (rs := [8]) (by kernel_rfl) (by simp) ?_
  refine AllReadyG.cons rfl (fun K hK => ?_) AllReadyG.nil
  go_simp
  have hs0 : base ≤ p0.heap.size := Nat.le_trans HLa.out.low (Nat.le_of_lt HLa.out.cel.lt)
  refine (HAD.out p0 HRa.out hs0 ad0 c0 HLa.out.g13 HDY.out).mono ?_
  rintro _ p1 ⟨v', rfl, hg1, hr1, hk1⟩
  obtain ⟨ad', n', c', rfl⟩ : ∃ ad n c, v' = .slice ad n c := by obtain ⟨ad, c, h⟩ := hg1.shape; exact ⟨ad, _, c, h⟩
  have hc1 := HLa.out.celG HRa.out HLa.out.g13 hk1 (by decide)
  have HC1 := Lib.hid hc1
  have HL1 := Lib.hid (HLa.out.dates HRa.out hk1 hg1)
  have hgX : growP b (.slice ad0 y.dates.length c0) X = false := by
    unfold growP
    rw [decide_eq_false hXb, decide_eq_false (fun e => by have := hob X e; omega)]
    rfl
  have HXb := Lib.hid (HXa.out.kp hk1 hgX)
  have HR1 := Lib.hid hr1
  have HKb := Lib.hid (HKa.out.item.trans (hk1.itemG HLa.out.g13 (Nat.le_refl _)))
  clear hc1 hg1 hr1 HAD
  go_simp
  refine hK.out _ _ (fun _ => ⟨HC1.out.cell 13, HXb.out⟩) (fun _ => ?_)
  clear hK K
  try simp only [Act.put, List.getElem_toArray, List.getElem_cons_succ, List.getElem_cons_zero, List.setIfInBounds_toArray, List.set_cons_zero, List.set_cons_succ]
  refine wpAnyG_ready (rs := [9]) (by kernel_rfl) (by simp) ?_
  refine AllReadyG.cons rfl (fun K hK => ?_) AllReadyG.nil
  go_simp
  refine hK.out _ _ (fun _ => ⟨HC1.out.cell 13, HXb.out⟩) (fun _ => ?_)
  clear hK K
  try simp only [Act.put, List.getElem_toArray, List.getElem_cons_succ, List.getElem_cons_zero, List.setIfInBounds_toArray, List.set_cons_zero, List.set_cons_succ]
  refine wpAnyG_ready (rs := [10]) (by kernel_rfl) (by simp) ?_
  refine AllReadyG.cons rfl (fun K hK => ?_) AllReadyG.nil
  go_simp
  refine hK.out _ _ (fun _ => ⟨HC1.out.cell 13, HXb.out⟩) (fun _ => ?_)
  clear hK K
  try simp only [Act.put, List.getElem_toArray, List.getElem_cons_succ, List.getElem_cons_zero, List.setIfInBounds_toArray, List.set_cons_zero, List.set_cons_succ]
  have c13 := HC1.out.cell 13
  have f13 := HC1.out.frz 13
  have hLt := HC1.out.lt
  refine wpAnyG_ready (rs := [11]) (by kernel_rfl) (by simp) ?_
  refine AllReadyG.cons rfl (fun K hK => ?_) AllReadyG.nil
  go_simp
  refine hK.out _ _ (fun h => by cases h) (fun _ => ?_)
  clear hK K
  refine wpAnyG_done (by kernel_rfl) ?_ _
  go_end0
  exact ⟨rfl, by rw [HV.out]; exact ⟨_, _, _, _, _, _, _, HL1.out⟩, by rw [HV.out]; exact HR1.out.other (a := ⟨L, 13, none⟩) hbL _, HKb.out.itemS (p := ⟨L, 13, none⟩) hlow _⟩
end Go.Proofs.YtmleeodfmmpdgaaGreatDoor
