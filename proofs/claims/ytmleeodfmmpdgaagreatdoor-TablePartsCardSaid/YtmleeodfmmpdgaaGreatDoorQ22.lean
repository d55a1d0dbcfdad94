/- Walks: the program's reader of tables: conditions. -/
import Derived.Test.YtmleeodfmmpdgaaGreatDoorQ13
import Derived.Test.YtmleeodfmmpdgaaGreatDoorQ21
import Derived.Test.YtmleeodfmmpdgaaGreatDoorQ19
import Derived.Test.YtmleeodfmmpdgaaGreatDoorQ12
import Derived.Maps.AppendAt
namespace Go.Proofs.YtmleeodfmmpdgaaGreatDoor
open Go.RowKit
attribute [local go_sem] Ext.cell Ext.frozen
attribute [local go_sem ↓] Go.wp_at_zero Go.wp_at_succ
def RS.cond (E : Int) (r : RS) : List (List Rel) × RS :=
  if (r.peek E).1 = 2 then ((condParse (r.peek E).2.1).1, ((if (condParse (r.peek E).2.1).2.2 = 0 then r else r.fail E (condParse (r.peek E).2.1).2.2).text E).2) else ([], (r.text E).2)
theorem Rd.kpt {w w' : World} {b : Nat} {E : Int} {r : RS} (h : Rd w b E r) (k : Kp (oneP b) w w') (base : Nat) {ts : List TypeId} (hT : 67 ∉ ts) : KpT base ts w w' := by
  obtain ⟨_, _, _, _, h1, _⟩ := h
  exact k.kptO h1 hT
theorem Rd.peek_len {w : World} {b : Nat} {E : Int} {r : RS} (h : Rd w b E r) : (r.peek E).2.1.length ≤ 200000 := by
  obtain ⟨_, _, _, _, _, _, _, _, _, h1⟩ := h
  unfold RS.peek
  cases hl : r.l with
  | nil => simp
  | cons t l => exact h1 t (by rw [hl]; exact List.mem_cons_self)
theorem CondAt.kpt {w w' : World} {base : Nat} {ts : List TypeId} {v : Value} {c : List (List Rel)} (h : RowsOf 1 RelsC (see base ts w) v c) (k : KpT base ts w w') : RowsOf 1 RelsC (see base ts w') v c := h.sub (see_sub k) fun _ _ g => g.sub (see_sub k)
set_option maxRecDepth 20000 in
set_option maxHeartbeats 2000000 in
theorem rcond_any (b : Nat) (E : Int) (r : RS) (w : World) (h : Rd w b E r) (hM : MaxLen w) : Calls Tryz.prog 307 #[.pointer (some ⟨b, 0, none⟩)] w fun e w' => ∃ v, e = .returned v ∧ RowsOf 1 RelsC (see w.heap.size [91, 94, 152] w') v (r.cond E).1 ∧ Rd w' b E (r.cond E).2 ∧ Kp (oneP b) w w' := by
  have HP := Lib.hid (peek_any b E r w h)
  have HF := Lib.hid (fun e W (g : Rd W b E r) => fail_any b E r e W g)
  have HT := Lib.hid (fun r W (g : Rd W b E r) => text_any b E r W g)
  have HR := Lib.hid h
  have hlen := h.peek_len
  have HM := Lib.hid (fun W (k : Below w.heap.size w W) => hM.below k)
  have HV : Hid (r.cond E = (if (r.peek E).1 = 2 then ((condParse (r.peek E).2.1).1, ((if (condParse (r.peek E).2.1).2.2 = 0 then r else r.fail E (condParse (r.peek E).2.1).2.2).text E).2) else ([], (r.text E).2))) := rfl
  unfold RdP at HF HT
  unfold tokV at HP
  clear h hM
  generalize r.cond E = res at *
  generalize r.peek E = t at *
  obtain ⟨k', s', f⟩ := t
  simp only at HP HV hlen
  have HCP := Lib.hid (fun W (g : MaxLen W) => cparse_any (bs s') (by rw [bs_size]; exact hlen) W g)
  rw [bs_data] at HCP
  generalize condParse s' = cp at *
  obtain ⟨cl, cpos, cerr⟩ := cp
  simp only at HCP HV
  generalize bs s' = S at *
  obtain ⟨n0, hn0⟩ : ∃ n, w.heap.size = n := ⟨_, rfl⟩
  rw [hn0]
  go_enter Tryz.func307, Tryz.ntmps307
  go_wp2_with fail
  refine HP.out.mono ?_
  rintro _ w1 ⟨rfl, hb⟩
  have HB := Lib.hid hb
  have HR1 := Lib.hid (HR.out.below hb)
  clear hb HR HP
  go_upto_region 2 with (fail)
  have HB2 : Hid (Below w.heap.size w (w1.alloc (.cells #[.int .i64 k', .string S, .int .i64 f] 109))) := HB.out.alloc HB.out.size _
  have HR2 := Lib.hid (HR1.out.below (Bel.alloc (Bel.refl w1) (.cells #[.int .i64 k', .string S, .int .i64 f] 109)))
  have HX : Hid (Cel (w1.alloc (.cells #[.int .i64 k', .string S, .int .i64 f] 109)) w1.heap.size 109 [.int .i64 k', .string S, .int .i64 f]) := Cel.new w1 _ _
  have hbB : b < w1.heap.size := HR1.out.lt
  generalize w1.alloc (.cells #[.int .i64 k', .string S, .int .i64 f] 109) = w2 at *
  obtain ⟨B, hB⟩ : ∃ B, w1.heap.size = B := ⟨_, rfl⟩
  rw [hB] at HX hbB ⊢
  clear hB HB HR1
  have x0 := HX.out.cell 0
  have x1 := HX.out.cell 1
  have x2 := HX.out.cell 2
  simp only [List.getElem?_cons_zero, List.getElem?_cons_succ] at x0 x1 x2
  obtain ⟨c2, c3, f2, f3, f0⟩ := HR2.out.cells
  by_cases hk : k' = 2
  · rw [if_pos hk] at HV
    subst hk
    have HCP1 := Lib.hid (HCP.out _ (HM.out _ HB2.out))
    go_wp2_with fail
    refine HCP1.out.mono ?_
    intro e w3 hP
    obtain ⟨v, rfl, hd, hb3⟩ := hP
    have HR3 := Lib.hid (HR2.out.below hb3)
    have HK3 := Lib.hid ((kp_below HB2.out).trans (kp_below hb3) : Kp (oneP b) w w3)
    have HD : Hid (RowsOf 1 RelsC (see n0 [91, 94, 152] w3) v cl) := hd.sub (see_le w3 (by rw [← hn0]; exact HB2.out.size) fun _ h => h) fun _ _ g => g.sub (see_le w3 (by rw [← hn0]; exact HB2.out.size) fun _ h => h)
    clear hd hb3
    by_cases he : cerr = 0
    · rw [if_pos he] at HV
      subst he
      have HT1 := Lib.hid (HT.out r _ HR3.out)
      go_wp2_with fail
      refine HT1.out.mono ?_
      rintro _ w5 ⟨rfl, hr5, hk5⟩
      have HR5 := Lib.hid hr5
      have HK5 := Lib.hid (HK3.out.trans hk5)
      have HD5 := Lib.hid (CondAt.kpt HD.out (HR3.out.kpt hk5 n0 (by decide)))
      clear hr5 hk5
      go_wp2_with fail
      go_ret
      exact ⟨_, rfl, by rw [HV.out]; exact HD5.out, by rw [HV.out]; exact HR5.out, HK5.out⟩
    · have hz : (cerr == 0) = false := by simpa using he
      have hz2 : (cerr != 0) = true := by rw [bne, hz]; rfl
      rw [if_neg he] at HV
      have HF1 := Lib.hid (HF.out cerr _ HR3.out)
      go_wp2_with fail
      refine HF1.out.mono ?_
      rintro _ w4 ⟨rfl, hr4, hk4⟩
      have HR4 := Lib.hid hr4
      have HK4 := Lib.hid (HK3.out.trans hk4)
      have HD4 := Lib.hid (CondAt.kpt HD.out (HR3.out.kpt hk4 n0 (by decide)))
      clear hr4 hk4
      have HT1 := Lib.hid (HT.out (r.fail E cerr) _ HR4.out)
      go_wp2_with fail
      refine HT1.out.mono ?_
      rintro _ w5 ⟨rfl, hr5, hk5⟩
      have HR5 := Lib.hid hr5
      have HK5 := Lib.hid (HK4.out.trans hk5)
      have HD5 := Lib.hid (CondAt.kpt HD4.out (HR4.out.kpt hk5 n0 (by decide)))
      clear hr5 hk5
      go_wp2_with fail
      go_ret
      exact ⟨_, rfl, by rw [HV.out]; exact HD5.out, by rw [HV.out]; exact HR5.out, HK5.out⟩
  · rw [if_neg hk] at HV
    have hy : (k' == 2) = false := by simpa using hk
    have HT1 := Lib.hid (HT.out r _ HR2.out)
    go_wp2_with fail
    refine HT1.out.mono ?_
    rintro _ w5 ⟨rfl, hr5, hk5⟩
    have HR5 := Lib.hid hr5
    have HK5 := Lib.hid ((kp_below HB2.out).trans hk5)
    have HD5 := Lib.hid (RowsOf.nil 1 RelsC (see n0 [91, 94, 152] w5))
    clear hr5 hk5
    go_wp2_with fail
    go_ret
    exact ⟨_, rfl, by rw [HV.out]; exact HD5.out, by rw [HV.out]; exact HR5.out, HK5.out⟩
end Go.Proofs.YtmleeodfmmpdgaaGreatDoor
/- Walks: the program's reader of tables: a rule. -/
namespace Go.Proofs.YtmleeodfmmpdgaaGreatDoor
open Go.RowKit
attribute [local go_sem] Ext.cell Ext.frozen
attribute [local go_sem ↓] Go.wp_at_zero Go.wp_at_succ
theorem tclasses_any (w : World) : Calls Tryz.prog 151 #[] w fun e w' => ∃ ad n c, e = .returned (.slice ad n c) ∧ Sl w' ad n (strs classL) ∧ Below w.heap.size w w' := by
  go_enter Tryz.func151, Tryz.ntmps151
  go_wp2_with fail
  go_ret
  exact ⟨_, _, _, rfl, sl_made w (strs classL) _ (by decide), (Below.refl _ _).alloc (Nat.le_refl _) _⟩
theorem MaxLen.rd {w w' : World} {b : Nat} {E : Int} {r : RS} (h : MaxLen w) (hp : Rd w b E r) (k : Kp (oneP b) w w') : MaxLen w' := by
  obtain ⟨m, hm⟩ := h
  refine ⟨m, k.cell (oneP_ne ?_) hm⟩
  intro e
  have e : 1 = b := e
  obtain ⟨_, _, _, _, h1, _⟩ := hp
  rw [e, h1.cell 0] at hm
  simp at hm
theorem Rd.other {w : World} {b : Nat} {E : Int} {r : RS} (h : Rd w b E r) {a : Addr} (ha : b < a.block) (v : Value) : Rd (w.setCell a v) b E r :=
  h.kp (P := oneP a.block) ((Kp.refl _ w).set (oneP_self _) v) (fun i hi => oneP_ne (by omega))
theorem kpt_set {w : World} {a : Addr} {T : TypeId} {cs : List Value} (h : Cel w a.block T cs) (base : Nat) {ts : List TypeId} (hT : T ∉ ts) (v : Value) : KpT base ts w (w.setCell a v) :=
  Kp.kptO (b := a.block) ((Kp.refl _ w).set (oneP_self _) v) h hT
def RS.rule (E : Int) (r : RS) : (ByteArray × List (List Rel)) × RS :=
  ((bs (r.one E classL).1, ((r.one E classL).2.cond E).1), ((r.one E classL).2.cond E).2.mark E [59])
set_option maxRecDepth 20000 in
set_option maxHeartbeats 2000000 in
theorem rrule_any (b : Nat) (E : Int) (r : RS) (w : World) (h : Rd w b E r) (hM : MaxLen w) : Calls Tryz.prog 272 #[.pointer (some ⟨b, 0, none⟩)] w fun e w' => ∃ v, e = .returned (.agg #[.string (r.rule E).1.1, v]) ∧ RowsOf 1 RelsC (see w.heap.size [91, 94, 152] w') v (r.rule E).1.2 ∧ Rd w' b E (r.rule E).2 ∧ Kp (oneP b) w w' := by
  have HON := Lib.hid (fun ad n c W (g : Rd W b E r) gs => one_any b E ad n c classL r W g gs)
  have HCO := Lib.hid (fun r W (g : Rd W b E r) gM => rcond_any b E r W g gM)
  have HMA := Lib.hid (fun r W (g : Rd W b E r) => mark_any b E [59] r W g)
  have HCL := Lib.hid tclasses_any
  have HR := Lib.hid h
  have hbw := h.lt
  have HM := Lib.hid (fun W (k : Kp (oneP b) w W) => hM.rd h k)
  have HV : Hid (r.rule E = ((bs (r.one E classL).1, ((r.one E classL).2.cond E).1), ((r.one E classL).2.cond E).2.mark E [59])) := rfl
  unfold RdP at HON HMA
  clear h hM
  generalize r.rule E = res at *
  generalize r.one E classL = r1 at *
  obtain ⟨k, q1⟩ := r1
  simp only at HON HV
  have HCO1 := Lib.hid (HCO.out q1)
  generalize q1.cond E = r2 at *
  obtain ⟨cl, q2⟩ := r2
  simp only at HCO1 HV
  have HMA1 := Lib.hid (HMA.out q2)
  generalize q2.mark E [59] = q3 at *
  generalize bs k = K at *
  clear HCO HMA
  obtain ⟨n0, hn0⟩ : ∃ n, w.heap.size = n := ⟨_, rfl⟩
  have HR0 := Lib.hid (HR.out.below (Bel.alloc (Bel.refl w) (.cells #[.string ⟨#[]⟩, .slice none 0 0] 51)))
  have HK0 := Lib.hid ((Kp.refl (oneP b) w).alloc (.cells #[.string ⟨#[]⟩, .slice none 0 0] 51))
  have HN0 := Lib.hid (Cel.new w [.string ⟨#[]⟩, .slice none 0 0] 51)
  have hs0 : (w.alloc (.cells #[.string ⟨#[]⟩, .slice none 0 0] 51)).heap.size = n0 + 1 := by rw [← hn0]; simp
  have HS0 := Lib.hid hs0
  rw [hn0] at HN0 hbw ⊢
  have hnb : n0 ≠ b := by omega
  clear hs0
  go_enter Tryz.func272, Tryz.ntmps272
  go_wp2_with fail
  generalize w.alloc (.cells #[.string ⟨#[]⟩, .slice none 0 0] 51) = w0 at *
  refine (HCL.out _).mono ?_
  rintro _ w1 ⟨ad, n, c, rfl, hsl, hb1⟩
  have HR1 := Lib.hid (HR0.out.below hb1)
  have HN1 := Lib.hid (HN0.out.below hb1)
  have HK1 := Lib.hid (HK0.out.trans (kp_below hb1))
  have HON1 := Lib.hid (HON.out ad n c _ HR1.out hsl)
  clear hsl hb1 HR0 HN0 HK0 HON HCL
  go_wp2_with fail
  refine HON1.out.mono ?_
  rintro _ w2 ⟨rfl, hr2, hk2⟩
  have HR2 := Lib.hid hr2
  have HN2 := Lib.hid (HN1.out.kp hk2 (oneP_ne hnb))
  have HK2 := Lib.hid (HK1.out.trans hk2)
  clear hr2 hk2 HR1 HN1 HK1 HON1
  have HR3 := Lib.hid (HR2.out.below (Bel.alloc (Bel.refl w2) (.cells #[.string K, .slice none 0 0] 51)))
  have HN3 := Lib.hid (HN2.out.below (Bel.alloc (Bel.refl w2) (.cells #[.string K, .slice none 0 0] 51)))
  have HK3 := Lib.hid (HK2.out.alloc (.cells #[.string K, .slice none 0 0] 51))
  have HX3 := Lib.hid (Cel.new w2 [.string K, .slice none 0 0] 51)
  obtain ⟨X, hX⟩ : ∃ X, w2.heap.size = X := ⟨_, rfl⟩
  have hnX : n0 < X := by rw [← hX]; exact HN2.out.lt
  have hbX : b < X := by omega
  have hX3 : n0 ≤ (w2.alloc (.cells #[.string K, .slice none 0 0] 51)).heap.size := by simp; omega
  rw [hX] at HX3
  clear HR2 HN2 HK2
  go_upto_region 2 with (fail)
  generalize w2.alloc (.cells #[.string K, .slice none 0 0] 51) = w3 at *
  have HCO2 := Lib.hid (HCO1.out _ HR3.out (HM.out _ HK3.out))
  clear HCO1 HM
  go_wp2_with fail
  refine HCO2.out.mono ?_
  rintro e w4 ⟨v, rfl, hd, hr4, hk4⟩
  obtain ⟨ad4, c4, ff, bb, oo, rfl, hrest⟩ := hd
  have HD4 : Hid (RowsOf 1 RelsC (see n0 [91, 94, 152] w4) (.slice ad4 cl.length c4) cl) := RowsOf.sub ⟨ad4, c4, ff, bb, oo, rfl, hrest⟩ (see_le w4 hX3 fun _ h => h) fun _ _ g => g.sub (see_le w4 hX3 fun _ h => h)
  have HR4 := Lib.hid hr4
  have HN4 := Lib.hid (HN3.out.kp hk4 (oneP_ne hnb))
  have HX4 := Lib.hid (HX3.out.kp hk4 (oneP_ne (by omega)))
  have HK4 := Lib.hid (HK3.out.trans hk4)
  clear hrest hr4 hk4 HR3 HN3 HX3 HK3 HCO2
  have x1 := HX4.out.cell 1
  have xf := HX4.out.frz 1
  have hXl := HX4.out.lt
  simp only [List.getElem?_cons_zero, List.getElem?_cons_succ] at x1
  go_upto_region 3 with (fail)
  have HR5 := Lib.hid (HR4.out.other (a := ⟨X, 1, none⟩) hbX (.slice ad4 cl.length c4))
  have HN5 := Lib.hid (HN4.out.other (a := ⟨X, 1, none⟩) (by show X ≠ n0; omega) (.slice ad4 cl.length c4))
  have HX5 : Hid (Cel (w4.setCell ⟨X, 1, none⟩ (.slice ad4 cl.length c4)) X 51 [.string K, .slice ad4 cl.length c4]) := HX4.out.set 1 _
  have HK5 := Lib.hid (HK4.out.setN (p := ⟨X, 1, none⟩) (by show w.heap.size ≤ X; omega) (.slice ad4 cl.length c4))
  have HD5 := Lib.hid (CondAt.kpt HD4.out (kpt_set (a := ⟨X, 1, none⟩) HX4.out n0 (by decide) (.slice ad4 cl.length c4)))
  clear HR4 HN4 HX4 HK4 HD4 x1 xf hXl
  generalize w4.setCell ⟨X, 1, none⟩ (.slice ad4 cl.length c4) = w5 at *
  have HMA2 := Lib.hid (HMA1.out _ HR5.out)
  go_wp2_with fail
  refine HMA2.out.mono ?_
  rintro _ w6 ⟨rfl, hr6, hk6⟩
  have HR6 := Lib.hid hr6
  have HN6 := Lib.hid (HN5.out.kp hk6 (oneP_ne hnb))
  have HX6 := Lib.hid (HX5.out.kp hk6 (oneP_ne (by omega)))
  have HK6 := Lib.hid (HK5.out.trans hk6)
  have HD6 := Lib.hid (CondAt.kpt HD5.out (HR5.out.kpt hk6 n0 (by decide)))
  clear hr6 hk6 HR5 HN5 HX5 HK5 HD5 HMA1 HMA2
  have x0 := HX6.out.cell 0
  have x1 := HX6.out.cell 1
  have r0 := HN6.out.cell 0
  have r1 := HN6.out.cell 1
  simp only [List.getElem?_cons_zero, List.getElem?_cons_succ] at x0 x1 r0 r1
  have rf0 := HN6.out.frz 0
  have rf1 := HN6.out.frz 1
  have hlX := HX6.out.lt
  have hlN := HN6.out.lt
  go_wp2_with fail
  have HN7 := Lib.hid ((HN6.out.set 0 (.string K)).set 1 (.slice ad4 cl.length c4))
  have hk7 : Kp (oneP n0) w6 ((w6.setCell ⟨n0, 0, none⟩ (.string K)).setCell ⟨n0, 1, none⟩ (.slice ad4 cl.length c4)) := ((Kp.refl _ w6).set (p := ⟨n0, 0, none⟩) (oneP_self n0) _).set (p := ⟨n0, 1, none⟩) (oneP_self n0) _
  refine bodyPost_ret (results_cell_row rfl _ _ n0 51 #[.string K, .slice ad4 cl.length c4] (0, 0) _ rfl HN7.out Tryz.underlying51 rfl (by kernel_rfl)) rfl ?_
  exact ⟨_, by rw [HV.out], by rw [HV.out]; exact CondAt.kpt HD6.out (hk7.kptO HN6.out (by decide)), by rw [HV.out]; exact HR6.out.kp hk7 (fun i hi => oneP_ne (by omega)), HK6.out.then hk7 (fun i hi e => by have := of_decide_eq_true e; omega)⟩
end Go.Proofs.YtmleeodfmmpdgaaGreatDoor
/- Walks: the keys of rows, and whether two rows have one key. -/
namespace Go.Proofs.YtmleeodfmmpdgaaGreatDoor
open Go.RowKit
attribute [local go_sem] Ext.cell Ext.frozen
attribute [local go_sem ↓] Go.wp_at_zero Go.wp_at_succ
theorem dec_toList (a b : ByteArray) : (a.toList == b.toList) = decide (a = b) := by
  rw [Bool.eq_iff_iff, beq_iff_eq, decide_eq_true_eq]
  constructor
  · intro h
    exact ByteArray.ext (by simpa [ByteArray.toList_eq] using h)
  · rintro rfl
    rfl
set_option maxRecDepth 20000 in
set_option maxHeartbeats 4000000 in
theorem key_Rule (a0 : ByteArray) (a1 : Option Addr) (a2 a3 : Nat) (w : World) : Calls Tryz.prog 148 #[.agg #[.string a0, .slice a1 a2 a3]] w fun e w' => e = .returned (.string a0) ∧ Below w.heap.size w w' := by
  go_enter Tryz.func148, Tryz.ntmps148
  go_wp2_with fail
  go_ret
  exact ⟨rfl, Bel.alloc (Bel.refl w) _⟩
set_option maxRecDepth 20000 in
set_option maxHeartbeats 4000000 in
theorem same_Rule (a0 : ByteArray) (a1 : Option Addr) (a2 a3 : Nat) (x0 : ByteArray) (x1 : Option Addr) (x2 x3 : Nat) (kb xb : Nat) (w : World) (hk : Cel w kb 187 [.func (.func 148) #[] #[]]) (hx : Cel w xb 51 [.string x0, .slice x1 x2 x3]) : Calls Tryz.prog 306 #[.agg #[.string a0, .slice a1 a2 a3], .pointer (some ⟨kb, 0, none⟩), .pointer (some ⟨xb, 0, none⟩)] w fun e w' => e = .returned (.bool (decide (a0 = x0))) ∧ Below w.heap.size w w' := by
  have HKA := Lib.hid (key_Rule a0 a1 a2 a3)
  have HKX := Lib.hid (key_Rule x0 x1 x2 x3)
  have hq := dec_toList a0 x0
  have HCK := Lib.hid hk
  have HCX := Lib.hid hx
  have hlk := hk.lt
  have hlx := hx.lt
  clear hk hx
  obtain ⟨A, hA⟩ : ∃ A, w.heap.size = A := ⟨_, rfl⟩
  have HCA := Lib.hid (Cel.new w [.string a0, .slice a1 a2 a3] 51)
  have HK0 := Lib.hid (HCK.out.below (Bel.alloc (Bel.refl w) (.cells #[.string a0, .slice a1 a2 a3] 51)))
  have HX0 := Lib.hid (HCX.out.below (Bel.alloc (Bel.refl w) (.cells #[.string a0, .slice a1 a2 a3] 51)))
  have HB0 : Hid (Below w.heap.size w (w.alloc (.cells #[.string a0, .slice a1 a2 a3] 51))) := Bel.alloc (Bel.refl w) _
  rw [hA] at HCA
  go_enter Tryz.func306, Tryz.ntmps306
  go_upto_region 1 with (fail)
  generalize w.alloc (.cells #[.string a0, .slice a1 a2 a3] 51) = w0 at *
  have k0 := HK0.out.cell 0
  have hlk := HK0.out.lt
  have hlx := HX0.out.lt
  have hla := HCA.out.lt
  simp only [List.getElem?_cons_zero] at k0
  have ca0 := HCA.out.cell 0
  have cx0 := HX0.out.cell 0
  have ca1 := HCA.out.cell 1
  have cx1 := HX0.out.cell 1
  simp only [List.getElem?_cons_zero, List.getElem?_cons_succ] at ca0 cx0 ca1 cx1
  have eg := enters_of Tryz.func148 (by kernel_rfl) rfl
  refine wp_region_ext (by kernel_rfl) (by kernel_rfl) ?_
  repeat (go_big_quiet_step (first | exact Calls.ext (HKA.out _) | exact Calls.ext (HKX.out _)))
  refine wpQuiet_nil ?_
  intro _ hw'
  obtain ⟨X9, hw''⟩ := hw'
  subst hw''
  go_wp2_with fail
  go_ret
  exact ⟨rfl, HB0.out.trans (X9.2.mono HB0.out.size)⟩
set_option maxRecDepth 20000 in
set_option maxHeartbeats 4000000 in
theorem key_Lp (a0 a1 a2 a3 a4 : ByteArray) (w : World) : Calls Tryz.prog 154 #[.agg #[.string a0, .string a1, .string a2, .string a3, .string a4]] w fun e w' => e = .returned (.string a0) ∧ Below w.heap.size w w' := by
  go_enter Tryz.func154, Tryz.ntmps154
  go_wp2_with fail
  go_ret
  exact ⟨rfl, Bel.alloc (Bel.refl w) _⟩
set_option maxRecDepth 20000 in
set_option maxHeartbeats 4000000 in
theorem same_Lp (a0 a1 a2 a3 a4 : ByteArray) (x0 x1 x2 x3 x4 : ByteArray) (kb xb : Nat) (w : World) (hk : Cel w kb 191 [.func (.func 154) #[] #[]]) (hx : Cel w xb 130 [.string x0, .string x1, .string x2, .string x3, .string x4]) : Calls Tryz.prog 308 #[.agg #[.string a0, .string a1, .string a2, .string a3, .string a4], .pointer (some ⟨kb, 0, none⟩), .pointer (some ⟨xb, 0, none⟩)] w fun e w' => e = .returned (.bool (decide (a0 = x0))) ∧ Below w.heap.size w w' := by
  have HKA := Lib.hid (key_Lp a0 a1 a2 a3 a4)
  have HKX := Lib.hid (key_Lp x0 x1 x2 x3 x4)
  have hq := dec_toList a0 x0
  have HCK := Lib.hid hk
  have HCX := Lib.hid hx
  have hlk := hk.lt
  have hlx := hx.lt
  clear hk hx
  obtain ⟨A, hA⟩ : ∃ A, w.heap.size = A := ⟨_, rfl⟩
  have HCA := Lib.hid (Cel.new w [.string a0, .string a1, .string a2, .string a3, .string a4] 130)
  have HK0 := Lib.hid (HCK.out.below (Bel.alloc (Bel.refl w) (.cells #[.string a0, .string a1, .string a2, .string a3, .string a4] 130)))
  have HX0 := Lib.hid (HCX.out.below (Bel.alloc (Bel.refl w) (.cells #[.string a0, .string a1, .string a2, .string a3, .string a4] 130)))
  have HB0 : Hid (Below w.heap.size w (w.alloc (.cells #[.string a0, .string a1, .string a2, .string a3, .string a4] 130))) := Bel.alloc (Bel.refl w) _
  rw [hA] at HCA
  go_enter Tryz.func308, Tryz.ntmps308
  go_upto_region 1 with (fail)
  generalize w.alloc (.cells #[.string a0, .string a1, .string a2, .string a3, .string a4] 130) = w0 at *
  have k0 := HK0.out.cell 0
  have hlk := HK0.out.lt
  have hlx := HX0.out.lt
  have hla := HCA.out.lt
  simp only [List.getElem?_cons_zero] at k0
  have ca0 := HCA.out.cell 0
  have cx0 := HX0.out.cell 0
  have ca1 := HCA.out.cell 1
  have cx1 := HX0.out.cell 1
  have ca2 := HCA.out.cell 2
  have cx2 := HX0.out.cell 2
  have ca3 := HCA.out.cell 3
  have cx3 := HX0.out.cell 3
  have ca4 := HCA.out.cell 4
  have cx4 := HX0.out.cell 4
  simp only [List.getElem?_cons_zero, List.getElem?_cons_succ] at ca0 cx0 ca1 cx1 ca2 cx2 ca3 cx3 ca4 cx4
  have eg := enters_of Tryz.func154 (by kernel_rfl) rfl
  refine wp_region_ext (by kernel_rfl) (by kernel_rfl) ?_
  repeat (go_big_quiet_step (first | exact Calls.ext (HKA.out _) | exact Calls.ext (HKX.out _)))
  refine wpQuiet_nil ?_
  intro _ hw'
  obtain ⟨X9, hw''⟩ := hw'
  subst hw''
  go_wp2_with fail
  go_ret
  exact ⟨rfl, HB0.out.trans (X9.2.mono HB0.out.size)⟩
set_option maxRecDepth 20000 in
set_option maxHeartbeats 4000000 in
theorem key_Dp (a0 a1 : ByteArray) (w : World) : Calls Tryz.prog 158 #[.agg #[.string a0, .string a1]] w fun e w' => e = .returned (.string a0) ∧ Below w.heap.size w w' := by
  go_enter Tryz.func158, Tryz.ntmps158
  go_wp2_with fail
  go_ret
  exact ⟨rfl, Bel.alloc (Bel.refl w) _⟩
set_option maxRecDepth 20000 in
set_option maxHeartbeats 4000000 in
theorem same_Dp (a0 a1 : ByteArray) (x0 x1 : ByteArray) (kb xb : Nat) (w : World) (hk : Cel w kb 196 [.func (.func 158) #[] #[]]) (hx : Cel w xb 134 [.string x0, .string x1]) : Calls Tryz.prog 310 #[.agg #[.string a0, .string a1], .pointer (some ⟨kb, 0, none⟩), .pointer (some ⟨xb, 0, none⟩)] w fun e w' => e = .returned (.bool (decide (a0 = x0))) ∧ Below w.heap.size w w' := by
  have HKA := Lib.hid (key_Dp a0 a1)
  have HKX := Lib.hid (key_Dp x0 x1)
  have hq := dec_toList a0 x0
  have HCK := Lib.hid hk
  have HCX := Lib.hid hx
  have hlk := hk.lt
  have hlx := hx.lt
  clear hk hx
  obtain ⟨A, hA⟩ : ∃ A, w.heap.size = A := ⟨_, rfl⟩
  have HCA := Lib.hid (Cel.new w [.string a0, .string a1] 134)
  have HK0 := Lib.hid (HCK.out.below (Bel.alloc (Bel.refl w) (.cells #[.string a0, .string a1] 134)))
  have HX0 := Lib.hid (HCX.out.below (Bel.alloc (Bel.refl w) (.cells #[.string a0, .string a1] 134)))
  have HB0 : Hid (Below w.heap.size w (w.alloc (.cells #[.string a0, .string a1] 134))) := Bel.alloc (Bel.refl w) _
  rw [hA] at HCA
  go_enter Tryz.func310, Tryz.ntmps310
  go_upto_region 1 with (fail)
  generalize w.alloc (.cells #[.string a0, .string a1] 134) = w0 at *
  have k0 := HK0.out.cell 0
  have hlk := HK0.out.lt
  have hlx := HX0.out.lt
  have hla := HCA.out.lt
  simp only [List.getElem?_cons_zero] at k0
  have ca0 := HCA.out.cell 0
  have cx0 := HX0.out.cell 0
  have ca1 := HCA.out.cell 1
  have cx1 := HX0.out.cell 1
  simp only [List.getElem?_cons_zero, List.getElem?_cons_succ] at ca0 cx0 ca1 cx1
  have eg := enters_of Tryz.func158 (by kernel_rfl) rfl
  refine wp_region_ext (by kernel_rfl) (by kernel_rfl) ?_
  repeat (go_big_quiet_step (first | exact Calls.ext (HKA.out _) | exact Calls.ext (HKX.out _)))
  refine wpQuiet_nil ?_
  intro _ hw'
  obtain ⟨X9, hw''⟩ := hw'
  subst hw''
  go_wp2_with fail
  go_ret
  exact ⟨rfl, HB0.out.trans (X9.2.mono HB0.out.size)⟩
end Go.Proofs.YtmleeodfmmpdgaaGreatDoor
/- Walks: one more row, with its checks. -/
namespace Go.Proofs.YtmleeodfmmpdgaaGreatDoor
open Go.RowKit
attribute [local go_sem] Ext.cell Ext.frozen
attribute [local go_sem ↓] Go.wp_at_zero Go.wp_at_succ
section
variable {P : Program} {T E : TypeId} {z : Value} {sz bytes : Nat}
/-- one row behind another, which may be nil: and where the new one lies -/
theorem run_app_rowsA {w : World} (ty : TypeId) (hT : P.underlying T = some (.slice E)) (info : (P.info? E).map (fun i => (i.zero, i.size, i.bytes)) = some (some z, sz, bytes)) (hzs : z.cells.size = sz) (hsz : 0 < sz)
    (base : Nat) (ad : Option Addr) (k c : Nat) (ys : List Value) (hown : w.ownsRow base E sz (.slice ad k c) k ys) (ad2 : Option Addr) (n c2 : Nat) (f : Nat → Nat → Value) (b off : Nat)
    (hx : Rw w ad2 n sz f b off) (hc : ad2 = none → c2 = 0) (h1 : ∀ i j, i < n → j < sz → (f i j).oneCell' = true) (h63 : k + n ≤ maxLen) (hr : (k + n) * bytes ≤ 140737488355328) (hb : base ≤ w.heap.size) :
    ∃ ad' c' w', (Builtin.append_ #[T, T] ty #[.slice ad k c, .slice ad2 n c2]).run P w = .ok (.slice ad' (k + n) c') w' ∧
      w'.ownsRow base E sz (.slice ad' (k + n) c') (k + n) (ys ++ flat sz f n) ∧ w.grownBy w' (Value.ownBlock (.slice ad k c)) ∧
      (Value.ownBlock (.slice ad' (k + n) c') = Value.ownBlock (.slice ad k c) ∨ ∃ q, Value.ownBlock (.slice ad' (k + n) c') = some q ∧ w.heap.size ≤ q) := by
  obtain ⟨i0, hi, hz0, hz1, hz2⟩ := info_parts info
  by_cases h0 : n = 0
  · subst h0
    cases ad2 with
    | none =>
      obtain rfl := hc rfl
      exact ⟨ad, c, w, run_append_owned_none w base T ty E i0 sz hT hi (.slice ad k c) k ys hown, by simpa [flat] using hown, World.grownBy.refl _ _, .inl rfl⟩
    | some A2 =>
      obtain ⟨v', w', k1, k2, k3, _, k5⟩ := run_append_own_at (P := P) (w := w) base T ty E i0 z sz bytes hT hi hz0 hz1 hz2 hzs hsz (.slice ad k c) k ys hown A2 0 c2 [] (by simp) (fun j u h => by simp at h) (fun u h => by cases h) h63 hr hb
      obtain ⟨ad', c', rfl⟩ := own_shape k2
      exact ⟨ad', c', w', k1, by simpa [flat] using k2, k3, k5.imp id fun h => ⟨_, h, Nat.le_refl _⟩⟩
  · have ha := hx.adr h0
    subst ha
    have news : ∀ q u, (flat sz f n)[q]? = some u → w.cell? ((⟨b, off, none⟩ : Addr).add q) = some u := by
      intro q u hu
      obtain ⟨i, j, rfl, hi, hj, rfl⟩ := flat_get_inv hsz hu
      have := hx.cell i j hi hj
      rw [Nat.add_assoc] at this
      unfold Addr.add
      split
      · rename_i h
        rw [h, Nat.add_zero] at this
        exact this
      · exact this
    obtain ⟨v', w', k1, k2, k3, _, k5⟩ := run_append_own_at (P := P) (w := w) base T ty E i0 z sz bytes hT hi hz0 hz1 hz2 hzs hsz (.slice ad k c) k ys hown ⟨b, off, none⟩ n c2 (flat sz f n)
      (flat_length _ _ _) news (fun u hu => by obtain ⟨i, j, hi, hj, rfl⟩ := flat_mem hu; exact h1 i j hi hj) h63 hr hb
    obtain ⟨ad', c', rfl⟩ := own_shape k2
    exact ⟨ad', c', w', k1, k2, k3, k5.imp id fun h => ⟨_, h, Nat.le_refl _⟩⟩
/-- in a list of operations -/
theorem wpList_app_rowsA {w : World} {ops : Array Oper} {rest : List Oper} {o : Oper} {a : Act} {Q : Exit → Act → World → Prop} (hgd : o.guard = none) (s x : Operand) (ho : o.op = .call { callee := .builtin .append, args := #[s, x], argTypes := #[T, T] })
    (hT : P.underlying T = some (.slice E)) (info : (P.info? E).map (fun i => (i.zero, i.size, i.bytes)) = some (some z, sz, bytes)) (hzs : z.cells.size = sz) (hsz : 0 < sz)
    (base : Nat) (ad : Option Addr) (k c : Nat) (ys : List Value) (hs : a.eval s = .slice ad k c) (hown : w.ownsRow base E sz (.slice ad k c) k ys) (ad2 : Option Addr) (n c2 : Nat) (f : Nat → Nat → Value) (b off : Nat) (hxe : a.eval x = .slice ad2 n c2)
    (hx : Rw w ad2 n sz f b off) (hc : ad2 = none → c2 = 0) (h1 : ∀ i j, i < n → j < sz → (f i j).oneCell' = true) (h63 : k + n ≤ maxLen) (hr : (k + n) * bytes ≤ 140737488355328) (hb : base ≤ w.heap.size)
    (h : ∀ ad' c' w', w'.ownsRow base E sz (.slice ad' (k + n) c') (k + n) (ys ++ flat sz f n) → w.grownBy w' (Value.ownBlock (.slice ad k c)) →
      (Value.ownBlock (.slice ad' (k + n) c') = Value.ownBlock (.slice ad k c) ∨ ∃ q, Value.ownBlock (.slice ad' (k + n) c') = some q ∧ w.heap.size ≤ q) → wpList P ops Q rest (a.put o.dst (.slice ad' (k + n) c')) w') : wpList P ops Q (o :: rest) a w :=
  wpList_plain hgd fun _ hK => by
    obtain ⟨ad', c', w', g1, g2, g3, g4⟩ := run_app_rowsA o.type hT info hzs hsz base ad k c ys hown ad2 n c2 f b off hx hc h1 h63 hr hb
    unfold Oper.wp execOp
    simp only [ho, resolve, invoke, builtin, Sem.run_bind, Sem.run_pure, Result.andThen_ok, List.map_toArray, List.map_cons, List.map_nil, hs, hxe, g1]
    exact hK _ _ (h ad' c' w' g2 g3 g4)
end
/-- the reader's block, and the block of a row -/
def growP (b : Nat) (v : Value) (k : Nat) : Bool := decide (k = b) || decide (v.ownBlock = some k)
def RS.add (p : Int) (dup full : Bool) (r : RS) : RS := if dup then r.failAt p 9 else if full then r.failAt p 6 else r
theorem infoRu : (Tryz.prog.info? 51).map (fun i => (i.zero, i.size, i.bytes)) = some (some (.agg #[.string .empty, .slice none 0 0]), 2, 40) := by kernel_rfl
set_option maxRecDepth 20000 in
set_option maxHeartbeats 4000000 in
theorem added_Rule (b : Nat) (E p lim : Int) (r : RS) (w : World) (h : Rd w b E r) (base : Nat) (hbb : b < base) (hbase : base ≤ w.heap.size) (l : List (ByteArray × List (List Rel))) (ad : Option Addr) (c : Nat) (hg : Grow 51 2 RuleC base [91, 94, 152] w (.slice ad l.length c) l) (hl : l.length ≤ 1000)
    (x0 : ByteArray) (xa : Option Addr) (xn xk : Nat) (xc : List (List Rel)) (hx : RowsOf 1 RelsC (see base [91, 94, 152] w) (.slice xa xn xk) xc) :
    Calls Tryz.prog 271 #[.pointer (some ⟨b, 0, none⟩), .int .i64 p, .slice ad l.length c, .agg #[.string x0, .slice xa xn xk], .func (.func 148) #[] #[], .int .i64 lim] w fun e w' =>
      ∃ v, e = .returned v ∧ Grow 51 2 RuleC base [91, 94, 152] w' v (l ++ [(x0, xc)]) ∧ Rd w' b E (r.add p (anyP (fun i => decide ((l.getD i (.empty, [])).1 = x0)) l.length) (decide (lim ≤ (l.length : Int)))) ∧ Kp (growP b (.slice ad l.length c)) w w' ∧ (v.ownBlock = Value.ownBlock (.slice ad l.length c) ∨ ∃ q, v.ownBlock = some q ∧ w.heap.size ≤ q) := by
  have hmf : ∀ (fn : Fn) (first cap : Array Value) (w : World), (Instr.makeFunc fn first cap).run Tryz.prog w = .ok (.func fn first cap) w := fun _ _ _ _ => rfl
  have mRu : ∀ a b x y, Sub a b → RuleC a x y → RuleC b x y := fun _ _ _ _ h g => g.sub h
  have HF := Lib.hid (fun r e W (g : Rd W b E r) => failAt_any b E r p e W g)
  have HV : Hid (r.add p (anyP (fun i => decide ((l.getD i (.empty, [])).1 = x0)) l.length) (decide (lim ≤ (l.length : Int))) = (if anyP (fun i => decide ((l.getD i (.empty, [])).1 = x0)) l.length then r.failAt p 9 else if decide (lim ≤ (l.length : Int)) then r.failAt p 6 else r)) := rfl
  have HC : Hid (∀ W kb xb, Below w.heap.size w W → Cel W kb 187 [.func (.func 148) #[] #[]] → Cel W xb 51 [.string x0, .slice xa xn xk] → Calls Tryz.prog 198 #[.slice ad l.length c, .func (.func 306) #[] #[.pointer (some ⟨kb, 0, none⟩), .pointer (some ⟨xb, 0, none⟩)]] W fun e w' => e = .returned (.bool (anyP (fun i => decide ((l.getD i (.empty, [])).1 = x0)) l.length)) ∧ Below W.heap.size W w') := by
    intro W kb xb hb hkb hxb
    obtain ⟨f, hown, hCC⟩ := hg
    obtain ⟨bb, hrw, _, _, _⟩ := own_rw hown
    refine cont_Rule _ 306 _ (enters_of Tryz.func306 (by kernel_rfl) rfl) ad l.length c f bb 0 W (hrw.below hb) (fun V i hi hV => ?_)
    obtain ⟨e0, e1⟩ := hCC i l[i] (List.getElem?_eq_getElem hi)
    obtain ⟨a1, a2, _, _, _, e1, _⟩ := e1
    rw [e0, e1, show (l.getD i (.empty, [])).1 = l[i].1 by rw [List.getD_eq_getElem?_getD, List.getElem?_eq_getElem hi]; rfl]
    exact same_Rule _ _ _ _ _ _ _ _ kb xb V (hkb.below (hV.mono (by omega))) (hxb.below (hV.mono (by omega)))
  have HR := Lib.hid h
  have HG := Lib.hid hg
  have HX := Lib.hid hx
  have hbw := h.lt
  unfold RdP at HF
  clear h hg hx
  generalize r.add p (anyP (fun i => decide ((l.getD i (.empty, [])).1 = x0)) l.length) (decide (lim ≤ (l.length : Int))) = res at *
  generalize anyP (fun i => decide ((l.getD i (.empty, [])).1 = x0)) l.length = dup at *
  go_enter Tryz.func271, Tryz.ntmps271
  go_upto_region 1 with (fail)
  obtain ⟨X, hX⟩ : ∃ X, w.heap.size = X := ⟨_, rfl⟩
  have hXb : X ≠ b := by omega
  have HB2 : Hid (Below w.heap.size w ((w.alloc (.cells #[.string x0, .slice xa xn xk] 51)).alloc (.cells #[.func (.func 148) #[] #[]] 187))) := Bel.alloc (Bel.alloc (Bel.refl w) _) _
  have HCX2 : Hid (Cel ((w.alloc (.cells #[.string x0, .slice xa xn xk] 51)).alloc (.cells #[.func (.func 148) #[] #[]] 187)) X 51 [.string x0, .slice xa xn xk]) := by
    rw [← hX]
    exact (Cel.new w [.string x0, .slice xa xn xk] 51).below (Bel.alloc (Bel.refl _) _)
  have HCK2 : Hid (Cel ((w.alloc (.cells #[.string x0, .slice xa xn xk] 51)).alloc (.cells #[.func (.func 148) #[] #[]] 187)) (X + 1) 187 [.func (.func 148) #[] #[]]) := by
    have := Cel.new (w.alloc (.cells #[.string x0, .slice xa xn xk] 51)) [.func (.func 148) #[] #[]] 187
    rwa [show (w.alloc (.cells #[.string x0, .slice xa xn xk] 51)).heap.size = X + 1 by rw [← hX]; simp] at this
  rw [hX]
  generalize (w.alloc (.cells #[.string x0, .slice xa xn xk] 51)).alloc (.cells #[.func (.func 148) #[] #[]] 187) = w2 at *
  have HC2 := Lib.hid (HC.out w2 _ _ HB2.out HCK2.out HCX2.out)
  have HR2 := Lib.hid (HR.out.below HB2.out)
  have HK2 : Hid (Kp (oneP b) w w2) := kp_below HB2.out
  clear HCK2 HB2
  go_wp2_with fail
  refine HC2.out.mono ?_
  rintro _ w3 ⟨rfl, hb3⟩
  have HR3 := Lib.hid (HR2.out.below hb3)
  have HK3 := Lib.hid (HK2.out.trans (kp_below hb3))
  have HX3 := Lib.hid (HCX2.out.below hb3)
  clear hb3 HR2 HK2 HCX2 HC2
  cases dup with
  | true =>
    simp only [if_true] at HV
    have HF1 := Lib.hid (HF.out r 9 _ HR3.out)
    go_wp2_with fail
    refine HF1.out.mono ?_
    rintro _ w4 ⟨rfl, hr4, hk4⟩
    have HR4 := Lib.hid hr4
    have HK4 := Lib.hid (HK3.out.trans hk4)
    have HX4 := Lib.hid (HX3.out.kp hk4 (oneP_ne hXb))
    clear hr4 hk4 HR3 HK3 HX3 HF1
    have HRN := HR4
    have HKN := HK4
    have HXN := HX4
    have HG6 := Lib.hid ((HG.out.keep mRu (HR.out.kpt HKN.out base (by decide))).keep mRu (KpT.below (Bel.alloc (Bel.refl w4) (.cells #[.string x0, .slice xa xn xk] 51)) base _))
    have HX6 := Lib.hid (CondAt.kpt (CondAt.kpt HX.out (HR.out.kpt HKN.out base (by decide))) (KpT.below (Bel.alloc (Bel.refl w4) (.cells #[.string x0, .slice xa xn xk] 51)) base _))
    have HR6 := Lib.hid (HRN.out.below (Bel.alloc (Bel.refl w4) (.cells #[.string x0, .slice xa xn xk] 51)))
    have HK6 := Lib.hid (HKN.out.alloc (.cells #[.string x0, .slice xa xn xk] 51))
    have HLIT := Lib.hid (rw_lit w4 #[.string x0, .slice xa xn xk] 51 2 rfl)
    have hbs : base ≤ (World.alloc w4 (.cells #[.string x0, .slice xa xn xk] 51)).heap.size := Nat.le_trans hbase HK6.out.size
    obtain ⟨f0, hown0, hC0⟩ := HG6.out
    have HOWN := Lib.hid hown0
    have HC0 := Lib.hid hC0
    have q0 := HXN.out.cell 0
    have q1 := HXN.out.cell 1
    simp only [List.getElem?_cons_zero, List.getElem?_cons_succ] at q0 q1
    have hlX := HXN.out.lt
    clear hown0 hC0 HG HC HF HG6
    go_wp2_with (at_builtin; go_must (refine wpList_app_rowsA rfl (.tmp 28) (.tmp 30) rfl Tryz.underlying38 infoRu rfl (by omega) base ad l.length c (flat 2 f0 l.length) rfl HOWN.out (some ⟨w4.heap.size, 0, none⟩) 1 1 (fun _ j => (#[.string x0, .slice xa xn xk] : Array Value).getD j undef) w4.heap.size 0 rfl HLIT.out (fun h => by cases h) (fun i j _ hj => by rcases (by omega : j = 0 ∨ j = 1) with e | e <;> subst e <;> rfl) (by unfold maxLen; omega) (by omega) hbs ?_); intro ad3 k3 w8 hown3 hg3 hp3; have HP3 := Lib.hid hp3; have HO3 := Lib.hid hown3; have HG3 := Lib.hid hg3; clear hown3 hg3 hp3)
    go_ret
    have hown8 := fun k hk => And.intro (World.ownsRow.lt HOWN.out k hk).1 (own_ty HOWN.out hk)
    have hkq : Kp (growP b (.slice ad l.length c)) w w8 := (HK6.out.le (fun k _ hk => by unfold growP; rw [show decide (k = b) = true from hk]; rfl)).grown HG3.out (fun k hk => by
      right
      unfold growP
      rw [decide_eq_true hk, Bool.or_true])
    have hkr : Kp (fun k => decide (base ≤ k)) (World.alloc w4 (.cells #[.string x0, .slice xa xn xk] 51)) w8 := (Kp.refl _ _).grown HG3.out (fun k hk => .inr (decide_eq_true (hown8 k hk).1))
    exact ⟨_, rfl, Grow.snoc HC0.out mRu (grown_kpt HG3.out HOWN.out _ (by decide)) _ HO3.out (x := (x0, xc)) ⟨rfl, HX6.out⟩, by rw [HV.out]; exact HR6.out.kp hkr (fun i hi => decide_eq_false (by omega)), hkq, HP3.out.imp id fun ⟨q, h1, h2⟩ => ⟨q, h1, Nat.le_trans HK6.out.size h2⟩⟩
  | false =>
    simp only [Bool.false_eq_true, if_false] at HV
    by_cases hfull : lim ≤ (l.length : Int)
    · have hfd : decide (lim ≤ (l.length : Int)) = true := decide_eq_true hfull
      rw [hfd, if_pos rfl] at HV
      have HF2 := Lib.hid (HF.out r 6 _ HR3.out)
      go_wp2_with fail
      refine HF2.out.mono ?_
      rintro _ w5 ⟨rfl, hr5, hk5⟩
      have HRN := Lib.hid hr5
      have HKN := Lib.hid (HK3.out.trans hk5)
      have HXN := Lib.hid (HX3.out.kp hk5 (oneP_ne hXb))
      clear hr5 hk5
      have HG6 := Lib.hid ((HG.out.keep mRu (HR.out.kpt HKN.out base (by decide))).keep mRu (KpT.below (Bel.alloc (Bel.refl w5) (.cells #[.string x0, .slice xa xn xk] 51)) base _))
      have HX6 := Lib.hid (CondAt.kpt (CondAt.kpt HX.out (HR.out.kpt HKN.out base (by decide))) (KpT.below (Bel.alloc (Bel.refl w5) (.cells #[.string x0, .slice xa xn xk] 51)) base _))
      have HR6 := Lib.hid (HRN.out.below (Bel.alloc (Bel.refl w5) (.cells #[.string x0, .slice xa xn xk] 51)))
      have HK6 := Lib.hid (HKN.out.alloc (.cells #[.string x0, .slice xa xn xk] 51))
      have HLIT := Lib.hid (rw_lit w5 #[.string x0, .slice xa xn xk] 51 2 rfl)
      have hbs : base ≤ (World.alloc w5 (.cells #[.string x0, .slice xa xn xk] 51)).heap.size := Nat.le_trans hbase HK6.out.size
      obtain ⟨f0, hown0, hC0⟩ := HG6.out
      have HOWN := Lib.hid hown0
      have HC0 := Lib.hid hC0
      have q0 := HXN.out.cell 0
      have q1 := HXN.out.cell 1
      simp only [List.getElem?_cons_zero, List.getElem?_cons_succ] at q0 q1
      have hlX := HXN.out.lt
      clear hown0 hC0 HG HC HF HG6
      go_wp2_with (at_builtin; go_must (refine wpList_app_rowsA rfl (.tmp 28) (.tmp 30) rfl Tryz.underlying38 infoRu rfl (by omega) base ad l.length c (flat 2 f0 l.length) rfl HOWN.out (some ⟨w5.heap.size, 0, none⟩) 1 1 (fun _ j => (#[.string x0, .slice xa xn xk] : Array Value).getD j undef) w5.heap.size 0 rfl HLIT.out (fun h => by cases h) (fun i j _ hj => by rcases (by omega : j = 0 ∨ j = 1) with e | e <;> subst e <;> rfl) (by unfold maxLen; omega) (by omega) hbs ?_); intro ad3 k3 w8 hown3 hg3 hp3; have HP3 := Lib.hid hp3; have HO3 := Lib.hid hown3; have HG3 := Lib.hid hg3; clear hown3 hg3 hp3)
      go_ret
      have hown8 := fun k hk => And.intro (World.ownsRow.lt HOWN.out k hk).1 (own_ty HOWN.out hk)
      have hkq : Kp (growP b (.slice ad l.length c)) w w8 := (HK6.out.le (fun k _ hk => by unfold growP; rw [show decide (k = b) = true from hk]; rfl)).grown HG3.out (fun k hk => by
        right
        unfold growP
        rw [decide_eq_true hk, Bool.or_true])
      have hkr : Kp (fun k => decide (base ≤ k)) (World.alloc w5 (.cells #[.string x0, .slice xa xn xk] 51)) w8 := (Kp.refl _ _).grown HG3.out (fun k hk => .inr (decide_eq_true (hown8 k hk).1))
      exact ⟨_, rfl, Grow.snoc HC0.out mRu (grown_kpt HG3.out HOWN.out _ (by decide)) _ HO3.out (x := (x0, xc)) ⟨rfl, HX6.out⟩, by rw [HV.out]; exact HR6.out.kp hkr (fun i hi => decide_eq_false (by omega)), hkq, HP3.out.imp id fun ⟨q, h1, h2⟩ => ⟨q, h1, Nat.le_trans HK6.out.size h2⟩⟩
    · have hfd : decide (lim ≤ (l.length : Int)) = false := decide_eq_false hfull
      rw [hfd, if_neg (by simp)] at HV
      have HRN := Lib.hid HR3.out
      have HKN := Lib.hid HK3.out
      have HXN := Lib.hid HX3.out
      have HG6 := Lib.hid ((HG.out.keep mRu (HR.out.kpt HKN.out base (by decide))).keep mRu (KpT.below (Bel.alloc (Bel.refl w3) (.cells #[.string x0, .slice xa xn xk] 51)) base _))
      have HX6 := Lib.hid (CondAt.kpt (CondAt.kpt HX.out (HR.out.kpt HKN.out base (by decide))) (KpT.below (Bel.alloc (Bel.refl w3) (.cells #[.string x0, .slice xa xn xk] 51)) base _))
      have HR6 := Lib.hid (HRN.out.below (Bel.alloc (Bel.refl w3) (.cells #[.string x0, .slice xa xn xk] 51)))
      have HK6 := Lib.hid (HKN.out.alloc (.cells #[.string x0, .slice xa xn xk] 51))
      have HLIT := Lib.hid (rw_lit w3 #[.string x0, .slice xa xn xk] 51 2 rfl)
      have hbs : base ≤ (World.alloc w3 (.cells #[.string x0, .slice xa xn xk] 51)).heap.size := Nat.le_trans hbase HK6.out.size
      obtain ⟨f0, hown0, hC0⟩ := HG6.out
      have HOWN := Lib.hid hown0
      have HC0 := Lib.hid hC0
      have q0 := HXN.out.cell 0
      have q1 := HXN.out.cell 1
      simp only [List.getElem?_cons_zero, List.getElem?_cons_succ] at q0 q1
      have hlX := HXN.out.lt
      clear hown0 hC0 HG HC HF HG6
      go_wp2_with (at_builtin; go_must (refine wpList_app_rowsA rfl (.tmp 28) (.tmp 30) rfl Tryz.underlying38 infoRu rfl (by omega) base ad l.length c (flat 2 f0 l.length) rfl HOWN.out (some ⟨w3.heap.size, 0, none⟩) 1 1 (fun _ j => (#[.string x0, .slice xa xn xk] : Array Value).getD j undef) w3.heap.size 0 rfl HLIT.out (fun h => by cases h) (fun i j _ hj => by rcases (by omega : j = 0 ∨ j = 1) with e | e <;> subst e <;> rfl) (by unfold maxLen; omega) (by omega) hbs ?_); intro ad3 k3 w8 hown3 hg3 hp3; have HP3 := Lib.hid hp3; have HO3 := Lib.hid hown3; have HG3 := Lib.hid hg3; clear hown3 hg3 hp3)
      go_ret
      have hown8 := fun k hk => And.intro (World.ownsRow.lt HOWN.out k hk).1 (own_ty HOWN.out hk)
      have hkq : Kp (growP b (.slice ad l.length c)) w w8 := (HK6.out.le (fun k _ hk => by unfold growP; rw [show decide (k = b) = true from hk]; rfl)).grown HG3.out (fun k hk => by
        right
        unfold growP
        rw [decide_eq_true hk, Bool.or_true])
      have hkr : Kp (fun k => decide (base ≤ k)) (World.alloc w3 (.cells #[.string x0, .slice xa xn xk] 51)) w8 := (Kp.refl _ _).grown HG3.out (fun k hk => .inr (decide_eq_true (hown8 k hk).1))
      exact ⟨_, rfl, Grow.snoc HC0.out mRu (grown_kpt HG3.out HOWN.out _ (by decide)) _ HO3.out (x := (x0, xc)) ⟨rfl, HX6.out⟩, by rw [HV.out]; exact HR6.out.kp hkr (fun i hi => decide_eq_false (by omega)), hkq, HP3.out.imp id fun ⟨q, h1, h2⟩ => ⟨q, h1, Nat.le_trans HK6.out.size h2⟩⟩
end Go.Proofs.YtmleeodfmmpdgaaGreatDoor
