/- Walk: table.Print. -/
import Derived.Test.YtmleeodfmmpdgaaGreatDoorQ31
import Derived.Test.YtmleeodfmmpdgaaGreatDoorQ32
import Derived.Test.YtmleeodfmmpdgaaGreatDoorQ28
import Derived.Laws.BytesString
import Derived.Deep.DeepCutAuto
namespace Go.Proofs.YtmleeodfmmpdgaaGreatDoor
open Go.RowKit
attribute [local go_sem] Ext.cell Ext.frozen
attribute [local go_sem ↓] Go.wp_at_zero Go.wp_at_succ
def printV (t : Tb) : List UInt8 × Nat := if okTab t then (if 200000 < (tabT t).length then ([], 6) else (tabT t, 0)) else ([], 1)
theorem PB.rebase {B B' b : Nat} {l : List UInt8} {w : World} (h : PB B b l w) (hB : B' ≤ B) : PB B' b l w := by
  obtain ⟨h1, h2⟩ := h
  have key : ∀ p, Lib.BuilderAt 84 5 B b p (Lib.byteCells l) w → Lib.BuilderAt 84 5 B' b p (Lib.byteCells l) w := by
    rintro p ⟨h3, v, h4, h5, h6⟩
    exact ⟨Nat.le_trans hB h3, v, h4, Own.rebase h5 hB, h6⟩
  exact ⟨h1.imp (key _) (key _), h2⟩
structure LT (w : World) (b A : Nat) (cl : List Value) (t : List UInt8) (wx : World) : Prop where
  pb : PB w.heap.size b t wx
  cel : Cel wx A 27 cl
  bel : Below w.heap.size w wx
section
variable {w : World} {b A : Nat} {cl : List Value} {t : List UInt8} {wx : World}
theorem LT.step (h : LT w b A cl t wx) (hA : A ≠ b) {t' : List UInt8} {w' : World} (hp : PB w.heap.size b t' w') (hb : Below w.heap.size wx w') (ho : Oth b wx w') : LT w b A cl t' w' :=
  ⟨hp, h.cel.oth ho hA (by decide) (by decide), h.bel.trans hb⟩
theorem LT.below (h : LT w b A cl t wx) {w' : World} (hb : Below wx.heap.size wx w') : LT w b A cl t w' :=
  ⟨h.pb.kept hb, h.cel.below hb, h.bel.trans (hb.mono h.bel.size)⟩
theorem LT.alloc (h : LT w b A cl t wx) (o : Obj) : LT w b A cl t (wx.alloc o) := h.below ((Below.refl _ _).alloc (Nat.le_refl _) _)
theorem LT.drew (h : LT w b A cl t wx) : LT w b A cl t wx.drew := h.below (Below.refl _ _).drew
theorem LT.line (h : LT w b A cl t wx) (hA : A ≠ b) (xs : List ByteArray) (cs : Array Value) (hcs : cs = (xs.map Value.string).toArray) (h0 : xs ≠ []) (hn : xs.length ≤ 1000) (B : Nat) (hB : wx.heap.size = B)
    (hl : (lineT [] (xs.map (·.data.toList))).length ≤ 100000000) (ht : t.length ≤ 1000000000000) :
    Calls Tryz.prog 33 #[.pointer (some ⟨b, 0, none⟩), .string ⟨#[]⟩, .slice (some ⟨B, 0, none⟩) xs.length xs.length] (wx.alloc (.cells cs 9)) fun e w' => e = .returned (.tuple #[]) ∧ LT w b A cl (t ++ lineT [] (xs.map (·.data.toList))) w' := by
  have h' := h.alloc (.cells cs 9)
  exact (line_any w.heap.size b t ⟨#[]⟩ _ _ _ xs _ h'.pb (Own.sl (lit_own wx xs cs hcs h0 hn w.heap.size h.bel.size B hB)) h0 (by omega) (Nat.le_refl _) (by decide) h'.bel.size hl ht).mono fun _ _ ⟨h1, h2, h3, h4⟩ => ⟨h1, h'.step hA h2 h3 h4⟩
theorem LT.locale (h : LT w b A cl t wx) (hA : A ≠ b) (x : Nat → Value) (y : Lc) (hx : LcC w x y) (hs : SmL y) (hf : LocF y) (ht : t.length ≤ 400000000000) (hT : TabTen w) (hD : TabDeB w) :
    Calls Tryz.prog 32 #[.pointer (some ⟨b, 0, none⟩), .agg #[x 0, x 1, x 2, x 3, x 4, x 5, x 6, x 7, x 8, x 9, x 10, x 11, x 12, x 13, x 14, x 15]] wx fun e w' => e = .returned (.tuple #[]) ∧ LT w b A cl (t ++ locT y) w' :=
  (plocale_any w b t x y wx hx hs hf h.bel h.pb ht hT hD).mono fun _ _ ⟨h1, h2, h3, h4⟩ => ⟨h1, h.step hA h2 h3 h4⟩
end
set_option maxRecDepth 20000 in
set_option maxHeartbeats 8000000 in
theorem tprint_any (x : Nat → Value) (t : Tb) (w : World) (h : TbC w x t) (hs : SmT t) (hU : TabU w) (hT : TabTen w) (hD : TabDeB w) : Calls Tryz.prog 15 #[.agg #[x 0, x 1, x 2]] w fun e w' => e = .returned (.tuple #[.string (bs (printV t).1), .int .i64 ((printV t).2 : Nat)]) ∧ Below w.heap.size w w' := by
  have HV : Hid (∀ W, Below w.heap.size w W → Calls Tryz.prog 20 #[.agg #[x 0, x 1, x 2]] W fun e w' => e = .returned (.bool (okTab t)) ∧ Below W.heap.size W w') := fun W hb => tvalid_any x t W (h.below hb) hs (hU.below hb)
  obtain ⟨ad0, k0, f0, b0, o0, hv0, hr0, _, _, _, hf0⟩ := RowsOf.opn h.c0
  obtain ⟨ad1, k1, f1, b1, o1, hv1, hr1, _, _, _, hf1⟩ := RowsOf.opn h.c1
  obtain ⟨ad2, k2, f2, b2, o2, hv2, hr2, _, _, _, hf2⟩ := RowsOf.opn h.c2
  rw [Hid, hv0, hv1, hv2] at HV
  replace HV := Lib.hid HV
  rw [hv0, hv1, hv2]
  cases hok : okTab t with
  | false =>
    have HO : Hid (printV t = ([], 1)) := by unfold Hid printV; rw [hok]; rfl
    rw [Hid, hok] at HV
    replace HV := Lib.hid HV
    rw [HO.out]
    simp only
    clear h hs hU hT hD hok HO hv0 hv1 hv2 hr0 hr1 hr2 hf0 hf1 hf2
    go_enter Tryz.func15, Tryz.ntmps15
    go_wp2_with fail
    refine (HV.out _ ((Below.refl _ _).alloc (Nat.le_refl _) _)).mono ?_
    rintro e w2 ⟨rfl, hb⟩
    have HB : Hid (Below w.heap.size w w2) := ((Below.refl _ _).alloc (Nat.le_refl _) _).trans (hb.mono (by simp))
    clear hb
    go_wp2_with fail
    go_ret2
    exact ⟨rfl, HB.out⟩
  | true =>
    have HF := Lib.hid (tabF_of hok)
    have HSM := Lib.hid hs
    have HTT := Lib.hid hT
    have HDD := Lib.hid hD
    have HR0 := Lib.hid hr0
    have HR1 := Lib.hid hr1
    have HR2 := Lib.hid hr2
    have HF0 := Lib.hid hf0
    have HF1 := Lib.hid hf1
    have HF2 := Lib.hid hf2
    have hz := tabT_le (tabF_of hok) (fun y hy => ⟨(hs.lo.2 y hy).ca.1, (hs.lo.2 y hy).od.1⟩)
    have htt : tabT t = t.locs.flatMap locT ++ t.als.flatMap alT ++ t.near.flatMap neT := rfl
    have hz2 := hz
    rw [htt, List.length_append, List.length_append] at hz2
    have HTX := Lib.hid htt
    have HO : Hid (printV t = if 200000 < (tabT t).length then ([], 6) else (tabT t, 0)) := by unfold Hid printV; rw [hok]; rfl
    rw [Hid, hok] at HV
    replace HV := Lib.hid HV
    generalize printV t = PV at *
    clear h hs hU hT hD hok hv0 hv1 hv2 hr0 hr1 hr2 hf0 hf1 hf2 htt
    obtain ⟨A, hA⟩ : ∃ A, w.heap.size = A := ⟨_, rfl⟩
    go_enter Tryz.func15, Tryz.ntmps15
    go_wp2_with fail
    refine (HV.out _ ((Below.refl _ _).alloc (Nat.le_refl _) _)).mono ?_
    rintro e w2 ⟨rfl, hb⟩
    have HX : Hid (Cel w2 A 27 [.slice ad0 t.locs.length k0, .slice ad1 t.als.length k1, .slice ad2 t.near.length k2]) := by rw [← hA]; exact (Cel.new w [.slice ad0 t.locs.length k0, .slice ad1 t.als.length k1, .slice ad2 t.near.length k2] 27).below hb
    have HB : Hid (Below w.heap.size w w2) := ((Below.refl _ _).alloc (Nat.le_refl _) _).trans (hb.mono (by simp))
    clear hb HV
    go_upto_region 4 with (fail)
    obtain ⟨b, hb⟩ : ∃ b, w2.heap.size = b := ⟨_, rfl⟩
    have hAb : A ≠ b := by have := HX.out.lt; omega
    refine wp_at_worldF ?_
    intro w3 hw3
    have HL : Hid (LT w b A [.slice ad0 t.locs.length k0, .slice ad1 t.als.length k1, .slice ad2 t.near.length k2] ([]) w3) := by
      rw [hw3, ← hb]
      exact ⟨(PB.new w2).rebase HB.out.size, HX.out.below ((Below.refl _ _).alloc (Nat.le_refl _) _), HB.out.alloc HB.out.size _⟩
    try rw [hb]
    clear hw3 HX HB
    have x0 := HL.out.cel.cell 0
    simp only [List.getElem?_cons_zero] at x0
    have hlx := HL.out.cel.lt
    go_wp2_with fail
    clear hlx x0
    go_loopw [19] (fun i wr => ∃ k : Nat, i = .int .i64 (k : Int) ∧ k ≤ t.locs.length ∧ LT w b A [.slice ad0 t.locs.length k0, .slice ad1 t.als.length k1, .slice ad2 t.near.length k2] ((t.locs.take k).flatMap locT) wr) (fun i _ => t.locs.length - (intOf i).toNat)
    case atStart => exact ⟨0, rfl, Nat.zero_le _, by exact HL.out⟩
    case round =>
      obtain ⟨k, rfl, hkn, hl⟩ := hrel
      replace HL := Lib.hid hl
      clear hl
      by_cases hlt : k < t.locs.length
      · have hrr := HR0.out.below HL.out.bel
        have hix := fun W => hrr.ix 23 46 Tryz.underlying23 (by kernel_rfl) (by omega) hlt k0 W
        have hc := HF0.out k hlt
        obtain ⟨p3, q3, s3⟩ := RowsOf.shape hc.c3
        obtain ⟨p4, q4, s4⟩ := RowsOf.shape hc.c4
        obtain ⟨p11, q11, s11⟩ := RowsOf.shape hc.c11
        obtain ⟨p12, q12, s12⟩ := RowsOf.shape hc.c12
        obtain ⟨p13, q13, s13⟩ := RowsOf.shape hc.c13
        obtain ⟨p14, q14, s14⟩ := RowsOf.shape hc.c14
        obtain ⟨p15, q15, s15⟩ := RowsOf.shape hc.c15
        have d0 := hrr.cell k 0 hlt (by omega)
        rw [hc.c0.1] at d0
        have d1 := hrr.cell k 1 hlt (by omega)
        rw [hc.c1.1] at d1
        have d2 := hrr.cell k 2 hlt (by omega)
        rw [hc.c2.1] at d2
        have d3 := hrr.cell k 3 hlt (by omega)
        rw [s3] at d3
        have d4 := hrr.cell k 4 hlt (by omega)
        rw [s4] at d4
        have d5 := hrr.cell k 5 hlt (by omega)
        rw [hc.c5.1] at d5
        have d6 := hrr.cell k 6 hlt (by omega)
        rw [hc.c6.1] at d6
        have d7 := hrr.cell k 7 hlt (by omega)
        rw [hc.c7.1] at d7
        have d8 := hrr.cell k 8 hlt (by omega)
        rw [hc.c8.1] at d8
        have d9 := hrr.cell k 9 hlt (by omega)
        rw [hc.c9.1] at d9
        have d10 := hrr.cell k 10 hlt (by omega)
        rw [hc.c10.1] at d10
        have d11 := hrr.cell k 11 hlt (by omega)
        rw [s11] at d11
        have d12 := hrr.cell k 12 hlt (by omega)
        rw [s12] at d12
        have d13 := hrr.cell k 13 hlt (by omega)
        rw [s13] at d13
        have d14 := hrr.cell k 14 hlt (by omega)
        rw [s14] at d14
        have d15 := hrr.cell k 15 hlt (by omega)
        rw [s15] at d15
        rw [Nat.add_zero] at d0
        have htk := flatMap_take_le locT t.locs k
        have HTS : Hid ((t.locs.take (k + 1)).flatMap locT = (t.locs.take k).flatMap locT ++ locT t.locs[k]) := by
          unfold Hid
          rw [List.take_succ_eq_append_getElem hlt, List.flatMap_append]
          simp
        have HC : Hid (∀ W, LT w b A [.slice ad0 t.locs.length k0, .slice ad1 t.als.length k1, .slice ad2 t.near.length k2] ((t.locs.take k).flatMap locT) W → Calls Tryz.prog 32 #[.pointer (some ⟨b, 0, none⟩), .agg #[f0 k 0, f0 k 1, f0 k 2, f0 k 3, f0 k 4, f0 k 5, f0 k 6, f0 k 7, f0 k 8, f0 k 9, f0 k 10, f0 k 11, f0 k 12, f0 k 13, f0 k 14, f0 k 15]] W fun e w' => e = .returned (.tuple #[]) ∧ LT w b A [.slice ad0 t.locs.length k0, .slice ad1 t.als.length k1, .slice ad2 t.near.length k2] ((t.locs.take k).flatMap locT ++ locT t.locs[k]) w') := fun W g => g.locale hAb (f0 k) t.locs[k] hc (HSM.out.lo.2 _ (List.getElem_mem hlt)) (locF_of (HF.out.locs _ (List.getElem_mem hlt))) (by omega) HTT.out HDD.out
        rw [Hid, hc.c0.1, hc.c1.1, hc.c2.1, s3, s4, hc.c5.1, hc.c6.1, hc.c7.1, hc.c8.1, hc.c9.1, hc.c10.1, s11, s12, s13, s14, s15] at HC
        replace HC := Lib.hid HC
        clear hrr hc htk s3 s4 s11 s12 s13 s14 s15
        generalize (t.locs.take k).flatMap locT = TK at *
        generalize locT t.locs[k] = TY at *
        generalize t.locs[k] = y at *
        go_wp2_with fail
        refine (HC.out _ (HL.out.alloc _)).mono ?_
        rintro e wn ⟨rfl, hl⟩
        replace HL := Lib.hid hl
        clear hl HC
        go_wp2_with fail
        go_roundw
        case rel => exact ⟨k + 1, by go_num, by omega, by rw [HTS.out]; exact HL.out⟩
        case measure => simp [intOf]; omega
      · obtain rfl : k = t.locs.length := by omega
        rw [Hid, List.take_length] at HL
        replace HL := Lib.hid HL
        have x1 := HL.out.cel.cell 1
        simp only [List.getElem?_cons_zero, List.getElem?_cons_succ] at x1
        have hlx := HL.out.cel.lt
        go_wp2_with fail
        clear hlx x1
        go_loopw [30] (fun i wr => ∃ k : Nat, i = .int .i64 (k : Int) ∧ k ≤ t.als.length ∧ LT w b A [.slice ad0 t.locs.length k0, .slice ad1 t.als.length k1, .slice ad2 t.near.length k2] (t.locs.flatMap locT ++ (t.als.take k).flatMap alT) wr) (fun i _ => t.als.length - (intOf i).toNat)
        case atStart => exact ⟨0, rfl, Nat.zero_le _, by rw [List.take_zero, List.flatMap_nil, List.append_nil]; exact HL.out⟩
        case round =>
          obtain ⟨k, rfl, hkn, hl⟩ := hrel
          replace HL := Lib.hid hl
          clear hl
          by_cases hlt : k < t.als.length
          · have hrr := HR1.out.below HL.out.bel
            have hix := fun W => hrr.ix 24 61 Tryz.underlying24 (by kernel_rfl) (by omega) hlt k1 W
            have d0 := hrr.cell k 0 hlt (by omega)
            rw [(HF1.out k hlt).c0.1, Nat.add_zero] at d0
            have d1 := hrr.cell k 1 hlt (by omega)
            rw [(HF1.out k hlt).c1.1] at d1
            have htk := flatMap_take_le alT t.als k
            have HTS : Hid ((t.als.take (k + 1)).flatMap alT = (t.als.take k).flatMap alT ++ alT t.als[k]) := by
              unfold Hid
              rw [List.take_succ_eq_append_getElem hlt, List.flatMap_append]
              simp
            have hlz := alT_le (HF.out.als t.als[k] (List.getElem_mem hlt))
            rw [Hid, show alT t.als[k] = lineT [] ([(⟨#[97, 108, 105, 97, 115]⟩ : ByteArray), t.als[k].fro, t.als[k].dst].map (·.data.toList)) from rfl] at HTS
            replace HTS := Lib.hid HTS
            replace hlz : (lineT [] ([(⟨#[97, 108, 105, 97, 115]⟩ : ByteArray), t.als[k].fro, t.als[k].dst].map (·.data.toList))).length ≤ 200 := hlz
            clear hrr
            generalize (t.als.take k).flatMap alT = TK at *
            generalize t.als[k].fro = e0 at *
            generalize t.als[k].dst = e1 at *
            have HC := Lib.hid ((HL.out.alloc (.cells #[.string e0, .string e1] 61)).line hAb [⟨#[97, 108, 105, 97, 115]⟩, e0, e1] _ rfl (by simp) (by simp) (wr.heap.size + 1) (by simp) (Nat.le_trans hlz (by omega)) (by simp only [List.length_append]; omega))
            clear hlz htk
            go_wp2_with fail
            refine HC.out.mono ?_
            rintro e wn ⟨rfl, hl⟩
            replace HL := Lib.hid hl
            clear hl HC
            go_wp2_with fail
            go_roundw
            case rel => exact ⟨k + 1, by go_num, by omega, by rw [HTS.out, ← List.append_assoc]; exact HL.out⟩
            case measure => simp [intOf]; omega
          · obtain rfl : k = t.als.length := by omega
            rw [Hid, List.take_length] at HL
            replace HL := Lib.hid HL
            have x2 := HL.out.cel.cell 2
            simp only [List.getElem?_cons_zero, List.getElem?_cons_succ] at x2
            have hlx := HL.out.cel.lt
            go_wp2_with fail
            clear hlx x2
            go_loopw [45] (fun i wr => ∃ k : Nat, i = .int .i64 (k : Int) ∧ k ≤ t.near.length ∧ LT w b A [.slice ad0 t.locs.length k0, .slice ad1 t.als.length k1, .slice ad2 t.near.length k2] (t.locs.flatMap locT ++ t.als.flatMap alT ++ (t.near.take k).flatMap neT) wr) (fun i _ => t.near.length - (intOf i).toNat)
            case atStart => exact ⟨0, rfl, Nat.zero_le _, by rw [List.take_zero, List.flatMap_nil, List.append_nil]; exact HL.out⟩
            case round =>
              obtain ⟨k, rfl, hkn, hl⟩ := hrel
              replace HL := Lib.hid hl
              clear hl
              by_cases hlt : k < t.near.length
              · have hrr := HR2.out.below HL.out.bel
                have hix := fun W => hrr.ix 25 58 Tryz.underlying25 (by kernel_rfl) (by omega) hlt k2 W
                have d0 := hrr.cell k 0 hlt (by omega)
                rw [(HF2.out k hlt).c0.1, Nat.add_zero] at d0
                have d1 := hrr.cell k 1 hlt (by omega)
                rw [(HF2.out k hlt).c1.1] at d1
                have d2 := hrr.cell k 2 hlt (by omega)
                rw [(HF2.out k hlt).c2.1] at d2
                have htk := flatMap_take_le neT t.near k
                have HTS : Hid ((t.near.take (k + 1)).flatMap neT = (t.near.take k).flatMap neT ++ neT t.near[k]) := by
                  unfold Hid
                  rw [List.take_succ_eq_append_getElem hlt, List.flatMap_append]
                  simp
                have hok := HF.out.near t.near[k] (List.getElem_mem hlt)
                have hlz := neT_le hok
                have hcz : 0 ≤ t.near[k].cost ∧ t.near[k].cost ≤ 1000 := by unfold okNe at hok; simp only [Bool.and_eq_true, decide_eq_true_eq] at hok; exact hok.2
                rw [Hid, show neT t.near[k] = lineT [] ([(⟨#[110, 101, 97, 114]⟩ : ByteArray), t.near[k].fro, t.near[k].dst, bs (Lib.itoa t.near[k].cost)].map (·.data.toList)) from rfl] at HTS
                replace HTS := Lib.hid HTS
                replace hlz : (lineT [] ([(⟨#[110, 101, 97, 114]⟩ : ByteArray), t.near[k].fro, t.near[k].dst, bs (Lib.itoa t.near[k].cost)].map (·.data.toList))).length ≤ 200 := hlz
                clear hrr hok
                generalize (t.near.take k).flatMap neT = TK at *
                generalize t.near[k].fro = e0 at *
                generalize t.near[k].dst = e1 at *
                generalize t.near[k].cost = z at *
                obtain ⟨C, hC⟩ : ∃ C, wr.heap.size = C := ⟨_, rfl⟩
                have hCb : C ≠ b := by have := HL.out.pb.lt; omega
                go_wp2_with fail
                refine wp_at_worldF ?_
                intro wa hwa
                have HY : Hid (Cel wa C 58 [.string e0, .string e1, .int .i64 z]) := by rw [hwa, ← hC]; exact Cel.new wr [.string e0, .string e1, .int .i64 z] 58
                replace HL : Hid (LT w b A [.slice ad0 t.locs.length k0, .slice ad1 t.als.length k1, .slice ad2 t.near.length k2] (t.locs.flatMap locT ++ t.als.flatMap alT ++ TK) wa) := by rw [hwa]; exact HL.out.alloc _
                clear hwa hix d0 d1 d2
                try rw [hC]
                have v0 := HY.out.cell 0
                have v1 := HY.out.cell 1
                have v2 := HY.out.cell 2
                simp only [List.getElem?_cons_zero, List.getElem?_cons_succ] at v0 v1 v2
                refine wp_region_held_drew (S := (fun w' => w'.cell? ⟨C, 0, none⟩ = some (.string e0) ∧ w'.cell? ⟨C, 1, none⟩ = some (.string e1) ∧ w'.cell? ⟨C, 2, none⟩ = some (.int .i64 z))) (by kernel_rfl) ?_ (fun hHeld => ?_)
                · go_keep
                refine wpAnyH_take (i := 0) (v := ?_) rfl (by kernel_rfl) (by kernel_rfl) (by kernel_rfl) (fun _ _ _ h => h) (Or.inl ⟨by kernel_rfl, ?_⟩) hHeld ?_
                rotate_left
                · (intro wx hSw; (try dsimp only at hSw); go_simp; try with_reducible rfl)
                refine wpAnyH_take (i := 1) (v := ?_) rfl (by kernel_rfl) (by kernel_rfl) (by kernel_rfl) (fun _ _ _ h => h) (Or.inl ⟨by kernel_rfl, ?_⟩) hHeld ?_
                rotate_left
                · (intro wx hSw; (try dsimp only at hSw); go_simp; try with_reducible rfl)
                refine wpAnyH_take (i := 2) (v := ?_) rfl (by kernel_rfl) (by kernel_rfl) (by kernel_rfl) (fun _ _ _ h => h) (Or.inl ⟨by kernel_rfl, ?_⟩) hHeld ?_
                rotate_left
                · (intro wx hSw; (try dsimp only at hSw); go_simp; try with_reducible rfl)
                refine wpAnyH_take (i := 3) (v := ?_) rfl (by kernel_rfl) (by kernel_rfl) (by kernel_rfl) (fun _ _ _ h => h) (Or.inl ⟨by kernel_rfl, ?_⟩) hHeld ?_
                rotate_left
                · (intro wx hSw; (try dsimp only at hSw); go_simp; try with_reducible rfl)
                refine wpAnyH_take (i := 4) (v := ?_) rfl (by kernel_rfl) (by kernel_rfl) (by kernel_rfl) (fun _ _ _ h => h) (Or.inl ⟨by kernel_rfl, ?_⟩) hHeld ?_
                rotate_left
                · (intro wx hSw; (try dsimp only at hSw); go_simp; try with_reducible rfl)
                refine wpAnyH_take (i := 5) (v := ?_) rfl (by kernel_rfl) (by kernel_rfl) (by kernel_rfl) (fun _ _ _ h => h) (Or.inl ⟨by kernel_rfl, ?_⟩) hHeld ?_
                rotate_left
                · (intro wx hSw; (try dsimp only at hSw); go_simp; try with_reducible rfl)
                refine wpAnyH_take (i := 6) (v := ?_) rfl (by kernel_rfl) (by kernel_rfl) (by kernel_rfl) (fun _ _ _ h => h) (Or.inl ⟨by kernel_rfl, ?_⟩) hHeld ?_
                rotate_left
                · (intro wx hSw; (try dsimp only at hSw); go_simp; try with_reducible rfl)
                simp only [Act.put, List.getElem_toArray, List.getElem_cons_succ, List.getElem_cons_zero, List.setIfInBounds_toArray, List.set_cons_zero, List.set_cons_succ]
                replace HL := Lib.hid HL.out.drew
                replace HY : Hid (Cel wa.drew C 58 [.string e0, .string e1, .int .i64 z]) := HY.out
                refine wpAnyH_ready (rs := [7]) (by kernel_rfl) (by simp) ?_
                refine AllReadyH.cons rfl (fun K hK => ?_) AllReadyH.nil
                go_simp
                refine (titoa_any z hcz.1 hcz.2 _ (HTT.out.below HL.out.bel)).mono ?_
                rintro e wi ⟨rfl, hb⟩
                replace HL := Lib.hid (HL.out.below hb)
                replace HY := Lib.hid (HY.out.below hb)
                replace v0 := HY.out.cell 0
                replace v1 := HY.out.cell 1
                replace v2 := HY.out.cell 2
                simp only [List.getElem?_cons_zero, List.getElem?_cons_succ] at v0 v1 v2
                clear hb
                go_simp
                clear hHeld
                refine hK.out _ _ ?_ (fun hHeld => ?_)
                · exact ⟨v0, v1, v2⟩
                clear hK K
                refine wpAnyH_ready (rs := [8]) (by kernel_rfl) (by simp) ?_
                refine AllReadyH.cons rfl (fun K hK => ?_) AllReadyH.nil
                go_simp
                clear hHeld
                refine hK.out _ _ ?_ (fun hHeld => ?_)
                · exact ⟨cell_al v0, cell_al v1, cell_al v2⟩
                clear hK K
                have hln := line_any w.heap.size b (t.locs.flatMap locT ++ t.als.flatMap alT ++ TK) ⟨#[]⟩ _ 4 4 [⟨#[110, 101, 97, 114]⟩, e0, e1, bs (Lib.itoa z)] _ (HL.out.alloc (.cells #[.string ⟨#[110, 101, 97, 114]⟩, .string e0, .string e1, .string (bs (Lib.itoa z))] 9)).pb (Own.sl (lit_own wi [⟨#[110, 101, 97, 114]⟩, e0, e1, bs (Lib.itoa z)] _ rfl (by simp) (by simp) w.heap.size HL.out.bel.size wi.heap.size rfl)) (by simp) (by omega) (by omega) (by decide) (HL.out.alloc _).bel.size (Nat.le_trans hlz (by omega)) (by simp only [List.length_append]; omega)
                have hy1 := HY.out.below ((Below.refl _ _).alloc (Nat.le_refl _) (.cells #[.string ⟨#[110, 101, 97, 114]⟩, .string e0, .string e1, .string (bs (Lib.itoa z))] 9))
                have hl1 := HL.out.alloc (.cells #[.string ⟨#[110, 101, 97, 114]⟩, .string e0, .string e1, .string (bs (Lib.itoa z))] 9)
                refine wpAnyH_ready (rs := [9]) (by kernel_rfl) (by simp) ?_
                refine AllReadyH.cons rfl (fun K hK => ?_) AllReadyH.nil
                go_simp
                refine hln.mono ?_
                rintro e wn ⟨rfl, hp9, hb9, ho9⟩
                replace HL := Lib.hid (hl1.step hAb hp9 hb9 ho9)
                replace HY := Lib.hid (hy1.oth ho9 hCb (by decide) (by decide))
                replace v0 := HY.out.cell 0
                replace v1 := HY.out.cell 1
                replace v2 := HY.out.cell 2
                simp only [List.getElem?_cons_zero, List.getElem?_cons_succ] at v0 v1 v2
                clear hp9 hb9 ho9 hln hy1 hl1
                go_simp
                clear hHeld
                refine hK.out _ _ ?_ (fun hHeld => ?_)
                · exact ⟨v0, v1, v2⟩
                clear hK K
                refine wpAnyH_done (by kernel_rfl) ?_ _
                clear hHeld
                go_wp2_with fail
                go_roundw
                case rel => exact ⟨k + 1, by go_num, by omega, by rw [HTS.out, ← List.append_assoc]; exact HL.out⟩
                case measure => simp [intOf]; omega
              · obtain rfl : k = t.near.length := by omega
                rw [Hid, List.take_length] at HL
                replace HL := Lib.hid HL
                rw [Hid, ← HTX.out] at HL
                replace HL := Lib.hid HL
                generalize tabT t = T at *
                have HLN := Lib.hid (plen_any w.heap.size b T wr HL.out.pb)
                have HST := Lib.hid (pstring_any w.heap.size b T wr HL.out.pb)
                by_cases hbig : 200000 < T.length
                · have ho := HO.out
                  rw [if_pos hbig] at ho
                  have HOO := Lib.hid ho
                  clear ho HO
                  have hd : decide ((200000 : Int) < (T.length : Int)) = true := decide_eq_true (by omega)
                  have hd2 : (200000 : Int) < (T.length : Int) := by omega
                  go_wp2_with fail
                  refine HLN.out.mono ?_
                  rintro e _ ⟨rfl, rfl⟩
                  go_wp2_with fail
                  go_ret2
                  exact ⟨by rw [HOO.out]; rfl, HL.out.bel⟩
                · have ho := HO.out
                  rw [if_neg hbig] at ho
                  have HOO := Lib.hid ho
                  clear ho HO
                  have hd2 : ¬ (200000 : Int) < (T.length : Int) := by omega
                  have hd : decide ((200000 : Int) < (T.length : Int)) = false := decide_eq_false hd2
                  go_wp2_with fail
                  refine HLN.out.mono ?_
                  rintro e _ ⟨rfl, rfl⟩
                  go_wp2_with fail
                  refine HST.out.mono ?_
                  rintro e wn ⟨rfl, hb9⟩
                  have HB9 : Hid (Below w.heap.size w wn) := HL.out.bel.trans hb9
                  clear hb9
                  go_wp2_with fail
                  go_ret2
                  exact ⟨by rw [HOO.out]; rfl, HB9.out⟩
theorem conv_u8_1 (x : Int) (a : UInt8) (hx : x = (a.toNat : Int)) (W : World) :
    (convert 80 9 (.slice (some ⟨W.heap.size, 0, none⟩) 1 1)).run Tryz.prog (W.alloc (.cells #[.int .u8 x] 5)) = .ok (.string (bs [a])) (W.alloc (.cells #[.int .u8 x] 5)) := by
  refine run_convert_bytes_back _ 80 9 5 ⟨W.heap.size, 0, none⟩ 1 [a] Tryz.underlying80 Tryz.underlying5 Tryz.underlying9 ?_
  intro j hj
  subst hx
  match j, hj with
  | 0, _ => simp [go_sem, Addr.add]
  | j + 1, hj => exact absurd (show j + 1 < 1 from hj) (by omega)
theorem decDigits_big {n : Nat} (h : ¬ n < 10) : Lib.decDigits n = Lib.decDigits (n / 10) ++ Lib.decDigits (n % 10) := by
  rw [Lib.decDigits_one (show n % 10 < 10 by omega)]
  rw [Lib.decDigits, dif_neg h]
set_option maxRecDepth 20000 in
set_option maxHeartbeats 8000000 in
theorem rdec_any (n : Nat) : n ≤ 1000000 → ∀ w, Calls Tryz.prog 92 #[.int .i64 (n : Int)] w fun e w' => e = .returned (.string (bs (Lib.decDigits n))) ∧ Below w.heap.size w w' := by
  induction n using Nat.strongRecOn with
  | ind n ih =>
    intro hn w
    have zl : (bs (Lib.decDigits n)).size ≤ 21 := by
      rw [bs_size, ← Lib.itoa_nonneg]
      exact Lib.itoa_length_le _ (by omega) (by omega)
    by_cases h : n < 10
    · have HO : Hid (Lib.decDigits n = [UInt8.ofNat (48 + n)]) := Lib.decDigits_one h
      have hcv := conv_u8_1 (48 + (n : Int)) (UInt8.ofNat (48 + n)) (by simp; omega)
      have h1 : ¬ (10 : Int) ≤ (n : Int) := by omega
      have h2 := decide_eq_false h1
      have hw : IntKind.u8.wrap (48 + (n : Int)) = 48 + (n : Int) := by rw [IntKind.wrap_u8]; omega
      clear ih h
      rw [HO.out]
      go_enter Tryz.func92, Tryz.ntmps92
      go_wp2_with fail
      go_ret
      exact ⟨rfl, (Below.refl _ _).alloc (Nat.le_refl _) _⟩
    · have HO := Lib.hid (decDigits_big h)
      have HA := Lib.hid (ih (n / 10) (by omega) (by omega))
      have HB := Lib.hid (ih (n % 10) (by omega) (by omega))
      have hA : (bs (Lib.decDigits (n / 10))).size ≤ 21 := by
        rw [bs_size, ← Lib.itoa_nonneg]
        exact Lib.itoa_length_le _ (by omega) (by omega)
      have hB : (bs (Lib.decDigits (n % 10))).size ≤ 21 := by
        rw [bs_size, ← Lib.itoa_nonneg]
        exact Lib.itoa_length_le _ (by omega) (by omega)
      have h1 : (10 : Int) ≤ (n : Int) := by omega
      have h2 := decide_eq_true h1
      clear ih zl
      rw [HO.out, ← bs_append]
      generalize bs (Lib.decDigits (n / 10)) = P at *
      generalize bs (Lib.decDigits (n % 10)) = R at *
      have a1 := fun w => run_string_add_sum (P := Tryz.prog) (w := w) P R (by omega)
      have q1 : (n : Int).tdiv 10 = ((n / 10 : Nat) : Int) := rfl
      have q2 : (n : Int).tmod 10 = ((n % 10 : Nat) : Int) := rfl
      go_enter Tryz.func92, Tryz.ntmps92
      go_wp2_with fail
      refine (HA.out _).mono ?_
      rintro e w2 ⟨rfl, hb2⟩
      have HB2 := Lib.hid hb2
      clear hb2
      go_wp2_with fail
      refine (HB.out _).mono ?_
      rintro e w3 ⟨rfl, hb3⟩
      have HB3 := Lib.hid (HB2.out.trans (hb3.mono HB2.out.size))
      clear hb3
      go_wp2_with fail
      go_ret
      exact ⟨rfl, HB3.out⟩
theorem rdecZ_any (z : Int) (h0 : 0 ≤ z) (h1 : z ≤ 1000) (w : World) : Calls Tryz.prog 92 #[.int .i64 z] w fun e w' => e = .returned (.string (bs (Lib.itoa z))) ∧ Below w.heap.size w w' := by
  obtain ⟨n, rfl⟩ := Int.eq_ofNat_of_zero_le h0
  have := rdec_any n (by omega) w
  rwa [← Lib.itoa_nonneg] at this
theorem joinTail_snoc (sep x : List UInt8) (l : List (List UInt8)) : Lib.joinTail sep (l ++ [x]) = Lib.joinTail sep l ++ sep ++ x := by
  simp [Lib.joinTail, List.append_assoc]
theorem join_snocL (l : List (List UInt8)) (x sep : List UInt8) (h : l ≠ []) : Lib.join (l ++ [x]) sep = Lib.join l sep ++ sep ++ x := by
  cases l with
  | nil => exact absurd rfl h
  | cons y r =>
    rw [List.cons_append, Lib.join_cons, Lib.join_cons, joinTail_snoc]
    simp only [List.append_assoc]
def refT (l : List (Int × Int)) (k : Nat) : List UInt8 := if k = 0 then [] else 32 :: Lib.join ((l.take k).map spanT) [44]
theorem refT_succ (l : List (Int × Int)) (k : Nat) (h : k < l.length) : refT l (k + 1) = refT l k ++ (if k = 0 then [32] else [44]) ++ spanT l[k] := by
  unfold refT
  rw [if_neg (by omega), List.take_succ_eq_append_getElem h, List.map_append, List.map_cons, List.map_nil]
  by_cases e : k = 0
  · subst e
    simp [Lib.join_one]
  · rw [if_neg e, if_neg e, join_snocL _ _ _ (by
      intro g
      have := congrArg List.length g
      rw [List.length_map, List.length_take, List.length_nil] at this
      omega)]
    simp
set_option maxRecDepth 20000 in
set_option maxHeartbeats 8000000 in
theorem rrel_any (x : Nat → Value) (r : Rel) (w : World) (h : RelC w x r) (hp : RelF r) : Calls Tryz.prog 40 #[.agg #[x 0, x 1, x 2, x 3]] w fun e w' => e = .returned (.string (bs (relT r))) ∧ Below w.heap.size w w' := by
  obtain ⟨h0, h1, h2, h3⟩ := h
  obtain ⟨op, md, neg, sp⟩ := r
  simp only at h0 h1 h2 h3
  obtain ⟨ad, c, f, b, off, hv, hr, _, _, _, hf⟩ := h3.opn
  obtain ⟨n, hnn⟩ : ∃ n, sp.length = n := ⟨_, rfl⟩
  have hop : 1 ≤ op ∧ op ≤ 6 := hp.op
  have hmd : 0 ≤ md ∧ md ≤ 100 := hp.md
  have hlen : 1 ≤ sp.length ∧ sp.length ≤ 4 := hp.len
  have hspz : ∀ s ∈ sp, 0 ≤ s.1 ∧ s.1 ≤ s.2 ∧ s.2 ≤ 100 := hp.sp
  have hjz : ∀ k, (refT sp k).length ≤ 200 := fun k => by
    unfold refT
    split
    · simp
    · have h1 := join_le ((sp.take k).map spanT) [44] 44 (fun x hx => by
        obtain ⟨s, hs, rfl⟩ := List.mem_map.1 hx
        exact spanT_le (hspz s (List.mem_of_mem_take hs)))
      rw [List.length_map, List.length_take] at h1
      have h2 := Nat.mul_le_mul_right (44 + 1) (show min k sp.length ≤ 4 by omega)
      simp only [List.length_cons, List.length_nil] at h1 ⊢
      omega
  rw [hnn] at hr hlen hv
  have HLN := Lib.hid hnn
  have HR := Lib.hid hr
  have HF := Lib.hid hf
  have HSZ := Lib.hid hspz
  have HJZ := Lib.hid hjz
  have HM : Hid (∀ W, Calls Tryz.prog 92 #[.int .i64 md] W fun e w' => e = .returned (.string (bs (Lib.itoa md))) ∧ Below W.heap.size W w') := fun W => rdecZ_any md (by omega) (by omega) W
  have HDZ := Lib.hid rdecZ_any
  have zm : (bs (Lib.itoa md)).size ≤ 21 := by rw [bs_size]; exact itoaZ_le (by omega) (by omega)
  have HRT : Hid (relT ⟨op, md, neg, sp⟩ = (letT op ++ (if md ≠ 0 then [32, 37, 32] ++ Lib.itoa md else []) ++ (if neg then [32, 33, 61] else [32, 61])) ++ refT sp n) := by
    have hrf : refT sp n = 32 :: Lib.join (sp.map spanT) [44] := by
      unfold refT
      rw [if_neg (by omega), ← hnn, List.take_length]
    unfold Hid relT
    rw [hrf]
    cases neg <;> simp
  have hfirst : (letT op ++ (if md ≠ 0 then [32, 37, 32] ++ Lib.itoa md else []) ++ (if neg then [32, 33, 61] else [32, 61])).length ≤ 60 := by
    have := itoaZ_le (n := md) (by omega) (by omega)
    have : (letT op).length = 1 := rfl
    simp only [List.length_append]
    split <;> split <;> simp only [List.length_append, List.length_cons, List.length_nil] <;> omega
  rw [h0, h1, h2, hv]
  generalize relT ⟨op, md, neg, sp⟩ = RT at *
  clear h0 h1 h2 h3 hv hp hr hf hnn hspz hjz
  generalize Lib.itoa md = M at *
  have zl : (bs (letT op)).size = 1 := rfl
  have HSL : Hid (∀ W, (Instr.slice 9 (.string ⟨#[110, 105, 118, 119, 102, 116]⟩) (some (.int .i64 (op - 1))) (some (.int .i64 op)) none).run Tryz.prog W = .ok (.string (bs (letT op))) W) := by
    intro W
    obtain rfl | rfl | rfl | rfl | rfl | rfl : op = 1 ∨ op = 2 ∨ op = 3 ∨ op = 4 ∨ op = 5 ∨ op = 6 := by omega
    all_goals kernel_rfl
  have hsl := HSL.out
  generalize letT op = L at *
  obtain ⟨P1, hP1⟩ : ∃ P1, L ++ (if md ≠ 0 then [32, 37, 32] ++ M else []) = P1 := ⟨_, rfl⟩
  obtain ⟨P, hP⟩ : ∃ P, P1 ++ (if neg then [32, 33, 61] else [32, 61]) = P := ⟨_, rfl⟩
  rw [Hid, hP1, hP] at HRT
  replace HRT := Lib.hid HRT
  rw [hP1, hP] at hfirst
  have hp1 : (bs P1).size ≤ 60 := by rw [bs_size]; rw [← hP, List.length_append] at hfirst; omega
  have HP1 := Lib.hid hP1
  have HP := Lib.hid hP
  clear hP1 hP
  obtain ⟨A, hA⟩ : ∃ A, w.heap.size = A := ⟨_, rfl⟩
  go_enter Tryz.func40, Tryz.ntmps40
  go_upto_if 13 with (fail)
  refine wp_at_worldF ?_
  intro wa hwa
  have HB : Hid (Below w.heap.size w wa) := by rw [hwa]; exact (Below.refl _ _).alloc (Nat.le_refl _) _
  have HX : Hid (Cel wa A 94 [.int .i64 op, .int .i64 md, .bool neg, .slice ad n c]) := by rw [hwa, ← hA]; exact Cel.new w [.int .i64 op, .int .i64 md, .bool neg, .slice ad n c] 94
  clear hwa
  have x1 := HX.out.cell 1
  simp only [List.getElem?_cons_zero, List.getElem?_cons_succ] at x1
  have hlx := HX.out.lt
  go_cut [3] (fun u wx => u = .string (bs P1) ∧ Cel wx A 94 [.int .i64 op, .int .i64 md, .bool neg, .slice ad n c] ∧ Below w.heap.size w wx)
  case first =>
    by_cases e : md = 0
    · have hp := HP1.out
      rw [if_neg (show ¬ md ≠ 0 from fun g => g e), List.append_nil] at hp
      have b1 : (md != 0) = false := by rw [bne, beq_iff_eq.2 e]; rfl
      have HQ := Lib.hid hp
      clear e hp HM
      rw [b1]
      go_wp2_with fail
      go_meet
      exact ⟨by rw [HQ.out], HX.out, HB.out⟩
    · have hp := HP1.out
      rw [if_pos e] at hp
      have b1 : (md != 0) = true := by rw [bne, beq_eq_false_iff_ne.2 e]; rfl
      have zp : (⟨#[32, 37, 32]⟩ : ByteArray).size = 3 := rfl
      have a1 := fun w => run_string_add_sum (P := Tryz.prog) (w := w) ⟨#[32, 37, 32]⟩ (bs M) (by omega)
      have a2 := fun w => run_string_add_sum (P := Tryz.prog) (w := w) (bs L) (⟨#[32, 37, 32]⟩ ++ bs M) (by rw [ByteArray.size_append]; omega)
      have HQ : Hid (bs L ++ (⟨#[32, 37, 32]⟩ ++ bs M) = bs P1) := by rw [Hid, ← hp, show (⟨#[32, 37, 32]⟩ : ByteArray) = bs [32, 37, 32] from rfl, bs_append, bs_append]
      rw [HQ.out] at a2
      clear e hp zp HQ
      rw [b1]
      go_wp2_with fail
      refine (HM.out _).mono ?_
      rintro e wb ⟨rfl, hb⟩
      replace HX := Lib.hid (HX.out.below hb)
      replace HB := Lib.hid (HB.out.trans (hb.mono HB.out.size))
      clear hb
      go_wp2_with fail
      go_meet
      exact ⟨rfl, HX.out, HB.out⟩
  case rest =>
    obtain ⟨rfl, hx, hb⟩ := hcut
    replace HX := Lib.hid hx
    replace HB := Lib.hid hb
    clear hx hb x1 hlx HM
    have x2 := HX.out.cell 2
    simp only [List.getElem?_cons_zero, List.getElem?_cons_succ] at x2
    have hlx := HX.out.lt
    go_upto_if 21 with (fail)
    go_cut [3] (fun u wx => u = .string (bs P) ∧ Cel wx A 94 [.int .i64 op, .int .i64 md, .bool neg, .slice ad n c] ∧ Below w.heap.size w wx)
    case first =>
      cases neg with
      | true =>
        have zn : (⟨#[32, 33, 61]⟩ : ByteArray).size = 3 := rfl
        have a3 := fun w => run_string_add_sum (P := Tryz.prog) (w := w) (bs P1) ⟨#[32, 33, 61]⟩ (by omega)
        have HQ : Hid (bs P1 ++ ⟨#[32, 33, 61]⟩ = bs P) := by rw [Hid, ← HP.out, if_pos rfl, show (⟨#[32, 33, 61]⟩ : ByteArray) = bs [32, 33, 61] from rfl, bs_append]
        rw [HQ.out] at a3
        clear zn HQ
        go_wp2_with fail
        go_meet
        exact ⟨rfl, HX.out, HB.out⟩
      | false =>
        have zn : (⟨#[32, 61]⟩ : ByteArray).size = 2 := rfl
        have a3 := fun w => run_string_add_sum (P := Tryz.prog) (w := w) (bs P1) ⟨#[32, 61]⟩ (by omega)
        have HQ : Hid (bs P1 ++ ⟨#[32, 61]⟩ = bs P) := by rw [Hid, ← HP.out, if_neg (show ¬ (false = true) by simp), show (⟨#[32, 61]⟩ : ByteArray) = bs [32, 61] from rfl, bs_append]
        rw [HQ.out] at a3
        clear zn HQ
        go_wp2_with fail
        go_meet
        exact ⟨rfl, HX.out, HB.out⟩
    case rest =>
      obtain ⟨rfl, hx, hb⟩ := hcut
      replace HX := Lib.hid hx
      replace HB := Lib.hid hb
      clear hx hb x2 hlx HP1 HP hp1 zl zm
      go_wp2_with fail
      go_loopw [3, 4] (fun u i wr => ∃ k : Nat, i = .int .i64 (k : Int) ∧ k ≤ n ∧ u = .string (bs (P ++ refT sp k)) ∧ Cel wr A 94 [.int .i64 op, .int .i64 md, .bool neg, .slice ad n c] ∧ Below w.heap.size w wr) (fun _ i _ => n - (intOf i).toNat)
      case atStart => exact ⟨0, rfl, Nat.zero_le _, by unfold refT; rw [if_pos rfl, List.append_nil], HX.out, HB.out⟩
      case round =>
        obtain ⟨k, rfl, hkn, rfl, hx, hbl⟩ := hrel
        replace HX := Lib.hid hx
        replace HB := Lib.hid hbl
        have hzr := hbl.size
        clear hx hbl
        have x3 := HX.out.cell 3
        simp only [List.getElem?_cons_zero, List.getElem?_cons_succ] at x3
        by_cases hlt : k < n
        · have hrr := HR.out.below HB.out
          have hix := fun W => hrr.ix 92 152 Tryz.underlying92 (by kernel_rfl) (by omega) hlt c W
          have c0 := hrr.cell k 0 hlt (by omega)
          have c1 := hrr.cell k 1 hlt (by omega)
          have hkl : k < sp.length := by rw [HLN.out]; exact hlt
          obtain ⟨e0, e1⟩ := HF.out k hkl
          rw [e0, Nat.add_zero] at c0
          rw [e1] at c1
          have hsz := HSZ.out _ (List.getElem_mem hkl)
          have HTS := Lib.hid (refT_succ sp k hkl)
          have HFR : Hid (∀ W, Calls Tryz.prog 92 #[.int .i64 sp[k].1] W fun e w' => e = .returned (.string (bs (Lib.itoa sp[k].1))) ∧ Below W.heap.size W w') := fun W => HDZ.out _ (by omega) (by omega) W
          have HTO : Hid (∀ W, Calls Tryz.prog 92 #[.int .i64 sp[k].2] W fun e w' => e = .returned (.string (bs (Lib.itoa sp[k].2))) ∧ Below W.heap.size W w') := fun W => HDZ.out _ (by omega) (by omega) W
          have zf : (bs (Lib.itoa sp[k].1)).size ≤ 21 := by rw [bs_size]; exact itoaZ_le (by omega) (by omega)
          have zt : (bs (Lib.itoa sp[k].2)).size ≤ 21 := by rw [bs_size]; exact itoaZ_le (by omega) (by omega)
          have zr : (bs (P ++ refT sp k)).size ≤ 260 := by rw [bs_size, List.length_append]; have := HJZ.out k; omega
          have HSE : Hid (sp[k].1 = sp[k].2 → spanT sp[k] = Lib.itoa sp[k].1) := fun e => by unfold spanT; rw [if_pos e]
          have HSN : Hid (¬ sp[k].1 = sp[k].2 → spanT sp[k] = Lib.itoa sp[k].1 ++ [46, 46] ++ Lib.itoa sp[k].2) := fun e => by unfold spanT; rw [if_neg e]
          have HLX := Lib.hid HX.out.lt
          clear hrr e0 e1 hsz
          generalize spanT sp[k] = q at *
          generalize Lib.itoa sp[k].1 = F1 at *
          generalize Lib.itoa sp[k].2 = F2 at *
          generalize sp[k].1 = s1 at *
          generalize sp[k].2 = s2 at *
          generalize refT sp k = RK at *
          have zd : (⟨#[46, 46]⟩ : ByteArray).size = 2 := rfl
          by_cases hk0 : k = 0
          · rw [Hid, if_pos hk0] at HTS
            replace HTS := Lib.hid HTS
            have i1 : ((k : Int) == 0) = true := by rw [hk0]; rfl
            have i2 : decide ((k : Int) = 0) = true := by rw [hk0]; rfl
            have HK0 := Lib.hid hk0
            clear hk0
            have n2 : (⟨#[32]⟩ : ByteArray).size = 1 := rfl
            have b0 := fun w => run_string_add_sum (P := Tryz.prog) (w := w) (bs (P ++ RK)) ⟨#[32]⟩ (by omega)
            have b1 := fun w => run_string_add_sum (P := Tryz.prog) (w := w) (bs (P ++ RK) ++ ⟨#[32]⟩) (bs F1) (by rw [ByteArray.size_append]; omega)
            have HB1 : Hid (bs (P ++ RK) ++ ⟨#[32]⟩ ++ bs F1 = bs (P ++ RK ++ [32] ++ F1)) := by rw [Hid, show (⟨#[32]⟩ : ByteArray) = bs [32] from rfl, bs_append, bs_append]
            have hz1 : (bs (P ++ RK ++ [32] ++ F1)).size ≤ 300 := by rw [← HB1.out, ByteArray.size_append, ByteArray.size_append]; omega
            obtain ⟨X, hX⟩ : ∃ X, P ++ RK ++ [32] ++ F1 = X := ⟨_, rfl⟩
            rw [HB1.out, hX] at b1
            rw [hX] at hz1
            have HXX := Lib.hid hX
            clear HB1 n2 hX
            by_cases e : s1 = s2
            · have HQ := Lib.hid (HSE.out e)
              have m1 : (s2 == s1) = true := beq_iff_eq.2 e.symm
              have m2 : (s2 != s1) = false := by rw [bne, m1]; rfl
              clear e HSE HSN hz1
              go_wp2_with fail
              refine (HFR.out _).mono ?_
              rintro e w5 ⟨rfl, hb⟩
              replace HX := Lib.hid (HX.out.below hb)
              replace HB := Lib.hid (HB.out.trans (hb.mono hzr))
              replace hzr := HB.out.size
              replace c0 := (hb.cell (p := ⟨b, off + k * 2, none⟩) (World.block_lt_of_cell? _ _ c0)).trans c0
              replace c1 := (hb.cell (p := ⟨b, off + k * 2 + 1, none⟩) (World.block_lt_of_cell? _ _ c1)).trans c1
              replace x3 := HX.out.cell 3
              simp only [List.getElem?_cons_zero, List.getElem?_cons_succ] at x3
              clear hb
              go_wp2_with fail
              go_quiet (fail)
              all_goals
                go_wp2_with fail
                go_roundw
                case rel => exact ⟨k + 1, by go_num, by omega, by rw [HTS.out, HQ.out, ← List.append_assoc, ← List.append_assoc, HXX.out], Cel.below HX.out (Bel.drewN (Bel.refl _) _), Below.trans HB.out (Below.mono (Bel.drewN (Bel.refl _) _) hzr)⟩
                case measure => simp [intOf]; omega
            · have HQ := Lib.hid (HSN.out e)
              have m1 : (s2 == s1) = false := beq_eq_false_iff_ne.2 (fun g => e g.symm)
              have m2 : (s2 != s1) = true := by rw [bne, m1]; rfl
              have b2 := fun w => run_string_add_sum (P := Tryz.prog) (w := w) ⟨#[46, 46]⟩ (bs F2) (by omega)
              have b3 := fun w => run_string_add_sum (P := Tryz.prog) (w := w) (bs X) (⟨#[46, 46]⟩ ++ bs F2) (by rw [ByteArray.size_append]; omega)
              have HB3 : Hid (bs X ++ (⟨#[46, 46]⟩ ++ bs F2) = bs (X ++ ([46, 46] ++ F2))) := by rw [Hid, show (⟨#[46, 46]⟩ : ByteArray) = bs [46, 46] from rfl, bs_append, bs_append]
              obtain ⟨Y, hY⟩ : ∃ Y, X ++ ([46, 46] ++ F2) = Y := ⟨_, rfl⟩
              rw [HB3.out, hY] at b3
              have HYY := Lib.hid hY
              clear e HSE HSN hz1 HB3 hY
              go_wp2_with fail
              refine (HFR.out _).mono ?_
              rintro e w5 ⟨rfl, hb⟩
              replace HX := Lib.hid (HX.out.below hb)
              replace HB := Lib.hid (HB.out.trans (hb.mono hzr))
              replace hzr := HB.out.size
              replace c0 := (hb.cell (p := ⟨b, off + k * 2, none⟩) (World.block_lt_of_cell? _ _ c0)).trans c0
              replace c1 := (hb.cell (p := ⟨b, off + k * 2 + 1, none⟩) (World.block_lt_of_cell? _ _ c1)).trans c1
              replace x3 := HX.out.cell 3
              simp only [List.getElem?_cons_zero, List.getElem?_cons_succ] at x3
              clear hb
              go_wp2_with fail
              go_quiet (fail)
              all_goals
                go_wp2_with fail
                refine (HTO.out _).mono ?_
                rintro e w6 ⟨rfl, hb⟩
                have hw5 := Below.refl w5.heap.size w5
                have HX6 := Lib.hid ((Cel.below HX.out (Bel.drewN (Bel.refl _) _)).below hb)
                have HB6 : Hid (Below w.heap.size w w6) := Below.trans (Below.trans HB.out (Below.mono (Bel.drewN (Bel.refl _) _) hzr)) (hb.mono (by first | exact hzr | (show w.heap.size ≤ w5.heap.size; exact hzr)))
                clear hb
                go_wp2_with fail
                go_roundw
                case rel => exact ⟨k + 1, by go_num, by omega, by rw [HTS.out, HQ.out, ← HYY.out, ← HXX.out]; simp only [List.append_assoc], HX6.out, HB6.out⟩
                case measure => simp [intOf]; omega
          · rw [Hid, if_neg hk0] at HTS
            replace HTS := Lib.hid HTS
            have i0 : ¬ (k : Int) = 0 := by omega
            have i1 : ((k : Int) == 0) = false := beq_eq_false_iff_ne.2 i0
            have i2 : decide ((k : Int) = 0) = false := decide_eq_false i0
            clear hk0
            have n2 : (⟨#[44]⟩ : ByteArray).size = 1 := rfl
            have b0 := fun w => run_string_add_sum (P := Tryz.prog) (w := w) (bs (P ++ RK)) ⟨#[44]⟩ (by omega)
            have b1 := fun w => run_string_add_sum (P := Tryz.prog) (w := w) (bs (P ++ RK) ++ ⟨#[44]⟩) (bs F1) (by rw [ByteArray.size_append]; omega)
            have HB1 : Hid (bs (P ++ RK) ++ ⟨#[44]⟩ ++ bs F1 = bs (P ++ RK ++ [44] ++ F1)) := by rw [Hid, show (⟨#[44]⟩ : ByteArray) = bs [44] from rfl, bs_append, bs_append]
            have hz1 : (bs (P ++ RK ++ [44] ++ F1)).size ≤ 300 := by rw [← HB1.out, ByteArray.size_append, ByteArray.size_append]; omega
            obtain ⟨X, hX⟩ : ∃ X, P ++ RK ++ [44] ++ F1 = X := ⟨_, rfl⟩
            rw [HB1.out, hX] at b1
            rw [hX] at hz1
            have HXX := Lib.hid hX
            clear HB1 n2 hX
            by_cases e : s1 = s2
            · have HQ := Lib.hid (HSE.out e)
              have m1 : (s2 == s1) = true := beq_iff_eq.2 e.symm
              have m2 : (s2 != s1) = false := by rw [bne, m1]; rfl
              clear e HSE HSN hz1
              go_wp2_with fail
              refine (HFR.out _).mono ?_
              rintro e w5 ⟨rfl, hb⟩
              replace HX := Lib.hid (HX.out.below hb)
              replace HB := Lib.hid (HB.out.trans (hb.mono hzr))
              replace hzr := HB.out.size
              replace c0 := (hb.cell (p := ⟨b, off + k * 2, none⟩) (World.block_lt_of_cell? _ _ c0)).trans c0
              replace c1 := (hb.cell (p := ⟨b, off + k * 2 + 1, none⟩) (World.block_lt_of_cell? _ _ c1)).trans c1
              replace x3 := HX.out.cell 3
              simp only [List.getElem?_cons_zero, List.getElem?_cons_succ] at x3
              clear hb
              go_wp2_with fail
              go_quiet (fail)
              all_goals
                go_wp2_with fail
                go_roundw
                case rel => exact ⟨k + 1, by go_num, by omega, by rw [HTS.out, HQ.out, ← List.append_assoc, ← List.append_assoc, HXX.out], Cel.below HX.out (Bel.drewN (Bel.refl _) _), Below.trans HB.out (Below.mono (Bel.drewN (Bel.refl _) _) hzr)⟩
                case measure => simp [intOf]; omega
            · have HQ := Lib.hid (HSN.out e)
              have m1 : (s2 == s1) = false := beq_eq_false_iff_ne.2 (fun g => e g.symm)
              have m2 : (s2 != s1) = true := by rw [bne, m1]; rfl
              have b2 := fun w => run_string_add_sum (P := Tryz.prog) (w := w) ⟨#[46, 46]⟩ (bs F2) (by omega)
              have b3 := fun w => run_string_add_sum (P := Tryz.prog) (w := w) (bs X) (⟨#[46, 46]⟩ ++ bs F2) (by rw [ByteArray.size_append]; omega)
              have HB3 : Hid (bs X ++ (⟨#[46, 46]⟩ ++ bs F2) = bs (X ++ ([46, 46] ++ F2))) := by rw [Hid, show (⟨#[46, 46]⟩ : ByteArray) = bs [46, 46] from rfl, bs_append, bs_append]
              obtain ⟨Y, hY⟩ : ∃ Y, X ++ ([46, 46] ++ F2) = Y := ⟨_, rfl⟩
              rw [HB3.out, hY] at b3
              have HYY := Lib.hid hY
              clear e HSE HSN hz1 HB3 hY
              go_wp2_with fail
              refine (HFR.out _).mono ?_
              rintro e w5 ⟨rfl, hb⟩
              replace HX := Lib.hid (HX.out.below hb)
              replace HB := Lib.hid (HB.out.trans (hb.mono hzr))
              replace hzr := HB.out.size
              replace c0 := (hb.cell (p := ⟨b, off + k * 2, none⟩) (World.block_lt_of_cell? _ _ c0)).trans c0
              replace c1 := (hb.cell (p := ⟨b, off + k * 2 + 1, none⟩) (World.block_lt_of_cell? _ _ c1)).trans c1
              replace x3 := HX.out.cell 3
              simp only [List.getElem?_cons_zero, List.getElem?_cons_succ] at x3
              clear hb
              go_wp2_with fail
              go_quiet (fail)
              all_goals
                go_wp2_with fail
                refine (HTO.out _).mono ?_
                rintro e w6 ⟨rfl, hb⟩
                have hw5 := Below.refl w5.heap.size w5
                have HX6 := Lib.hid ((Cel.below HX.out (Bel.drewN (Bel.refl _) _)).below hb)
                have HB6 : Hid (Below w.heap.size w w6) := Below.trans (Below.trans HB.out (Below.mono (Bel.drewN (Bel.refl _) _) hzr)) (hb.mono (by first | exact hzr | (show w.heap.size ≤ w5.heap.size; exact hzr)))
                clear hb
                go_wp2_with fail
                go_roundw
                case rel => exact ⟨k + 1, by go_num, by omega, by rw [HTS.out, HQ.out, ← HYY.out, ← HXX.out]; simp only [List.append_assoc], HX6.out, HB6.out⟩
                case measure => simp [intOf]; omega
        · obtain rfl : k = n := by omega
          go_wp2_with fail
          go_ret
          exact ⟨by rw [HRT.out]; rfl, HB.out⟩
end Go.Proofs.YtmleeodfmmpdgaaGreatDoor
