/- Walks: the best pattern, by the reference. -/
import Derived.Test.YtaolbfbnjbpljaaDoorG5
namespace Go.Proofs.YtaolbfbnjbpljaaDoor
open Go.RowKit
attribute [local go_sem] Ext.cell Ext.frozen
attribute [local go_sem ↓] Go.wp_at_zero Go.wp_at_succ

def rbst (want : List (List UInt8)) (ps : List (List UInt8 × List UInt8)) : Nat → Int × Int
  | 0 => (-1, 0)
  | k + 1 => rstep want k (ps.getD k ([], [])).1 (rbst want ps k)
theorem rbst_eq {s : List UInt8} {want} (hw : fieldsV s = some want) (ps : List (List UInt8 × List UInt8)) : ∀ k, rbst want ps k = bst want ps k
  | 0 => rfl
  | k + 1 => by rw [rbst, bst, rbst_eq hw ps k, rstep_eq hw]
theorem neq4b (a0 a1 a2 a3 b0 b1 b2 b3 : Bool) (W : World) : (binOp .neq 69 (A4 a0 a1 a2 a3) (A4 b0 b1 b2 b3)).run Tryd.prog W = .ok (.bool (!(a0 == b0 && (a1 == b1 && (a2 == b2 && a3 == b3))))) W := by
  unfold A4
  cases a0 <;> cases a1 <;> cases a2 <;> cases a3 <;> cases b0 <;> cases b1 <;> cases b2 <;> cases b3 <;> (show _ = _; kernel_rfl)
theorem kinds_dec (fs gs : List (List UInt8)) : (kindA fs 0 == kindA gs 0 && (kindA fs 1 == kindA gs 1 && (kindA fs 2 == kindA gs 2 && kindA fs 3 == kindA gs 3))) = decide (kindsA fs = kindsA gs) := by
  rw [Bool.eq_iff_iff]
  unfold kindsA
  simp
theorem neq4 (fs gs : List (List UInt8)) (W : World) : (binOp .neq 69 (kindsL4 fs) (kindsL4 gs)).run Tryd.prog W = .ok (.bool (!decide (kindsA fs = kindsA gs))) W := by
  rw [← kinds_dec]
  exact neq4b ..
theorem eqg4b (a0 a1 a2 a3 b0 b1 b2 b3 : Bool) (x y : Operand) (W : World) : (eqGuard .neq 69 x y (A4 a0 a1 a2 a3) (A4 b0 b1 b2 b3)).run Tryd.prog W = .ok () W := by kernel_rfl
theorem eqg4 (x y : Operand) (fs gs : List (List UInt8)) (W : World) : (eqGuard .neq 69 x y (kindsL4 fs) (kindsL4 gs)).run Tryd.prog W = .ok () W := eqg4b ..
set_option maxRecDepth 20000 in
set_option maxHeartbeats 16000000 in
theorem rbest_any (ad : Option Addr) (n c : Nat) (ps : List (List UInt8 × List UInt8)) (b off : Nat) (s : ByteArray) (w : World) (hp : PatAt w ad n ps b off) (hs : s.size ≤ 1000) (hps : ∀ p ∈ ps, p.1.length ≤ 1000) :
    Calls Tryd.prog 21 #[.slice ad n c, .string s] w fun e w' => e = .returned (.tuple #[.int .i64 (bestV ps s.data.toList).1, .int .i64 ((bestV ps s.data.toList).2 : Nat)]) ∧ Below w.heap.size w w' := by
  have HLE := Lib.hid (fun w => rfields_any s w hs)
  have HP := Lib.hid hp
  have HPL : Hid (∀ k, k < n → ∀ w, Calls Tryd.prog 10 #[.string (bs (ps.getD k ([], [])).1)] w (FieldsPost (ps.getD k ([], [])).1 w)) := fun k hk w => by
    have hkl : k < ps.length := by rw [hp.len]; exact hk
    have := rfields_any (bs (ps.getD k ([], [])).1) w (by rw [bs_size]; exact hps _ (getD_mem ps k _ hkl))
    rwa [bs_data] at this
  have hnm := hp.max
  have HLN := Lib.hid hp.len
  have hbl : n ≠ 0 → b < w.heap.size := fun h => hp.block h
  clear hp hps
  go_enter Tryd.func21, Tryd.ntmps21
  go_wp2_with fail
  refine (HLE.out _).mono ?_
  rintro e w1 ⟨hb1, hf1⟩
  have HB1 := Lib.hid hb1
  have hz1 := hb1.size
  clear hb1
  rcases hf1 with ⟨hv1, rfl⟩ | ⟨want, ad0, c0, hv1, rfl, hown1⟩
  · have HO : Hid (bestV ps s.data.toList = (0, 3)) := by unfold Hid bestV; rw [hv1]
    clear hv1
    go_wp2_with fail
    go_ret2
    exact ⟨by rw [HO.out]; rfl, HB1.out⟩
  · obtain ⟨_, hw4, hwf⟩ := fieldsV_some hv1
    have HWI := Lib.hid hwf
    have HWF : Hid (∀ f ∈ want, f.length ≤ 3) := fun f hf => (fld_facts (hwf f hf)).2
    have HBE := Lib.hid (rbst_eq hv1 ps)
    have HBD := Lib.hid (fun k => bst_bd HWF.out hw4 ps k)
    have HV1 := Lib.hid hv1
    have HO : Hid (bestV ps s.data.toList = if (bst want ps n).1 < 0 then (0, 8) else ((bst want ps n).1, 0)) := by unfold Hid bestV; rw [hv1, HLN.out]
    have HM := Lib.hid (Own.sl hown1)
    have HP1 := Lib.hid (HP.out.below HB1.out)
    clear hv1 hown1 hwf
    go_wp2_with fail
    go_loopw [8, 9, 10] (fun u v i wr => ∃ k : Nat, k ≤ n ∧ i = .int .i64 (k : Int) ∧ u = .int .i64 (bst want ps k).1 ∧ v = .int .i64 (bst want ps k).2 ∧ Below w1.heap.size w1 wr) (fun _ _ i _ => n - (intOf i).toNat)
    case atStart => exact ⟨0, Nat.zero_le _, rfl, rfl, rfl, Below.refl _ _⟩
    case round =>
      obtain ⟨k, hkn, rfl, rfl, rfl, hb⟩ := hrel
      have HB := Lib.hid hb
      have hzr := hb.size
      clear hb
      obtain ⟨d1, d2, d3, d4⟩ := HBD.out k
      by_cases hlt : k < n
      · have HPW := Lib.hid (HP1.out.below HB.out)
        have hix := fun W => HPW.out.ix (c := c) hlt W
        have h0 := HPW.out.c0 k hlt
        have hbw : b < wr.heap.size := by have := hbl (by omega); omega
        have HLK := Lib.hid (HPL.out k hlt)
        have HST : Hid (bst want ps (k + 1) = rstep want k (ps.getD k ([], [])).1 (bst want ps k)) := by unfold Hid; rw [← HBE.out, rbst, HBE.out]
        generalize ps.getD k ([], []) = p at *
        obtain ⟨p1, p2⟩ := p
        simp only at h0 HLK HST
        obtain ⟨st1, hst1⟩ : ∃ st1, bst want ps (k + 1) = st1 := ⟨_, rfl⟩
        rw [hst1] at HST
        have HSE := Lib.hid hst1
        clear hst1
        generalize bst want ps k = st0 at *
        obtain ⟨best, least⟩ := st0
        simp only at d1 d2 d3 d4 HST ⊢
        go_wp2_with fail
        refine (HLK.out _).mono ?_
        rintro e w2 ⟨hb2, hf2⟩
        have hz2 := hb2.size
        (try simp at hz2)
        have HB2 : Hid (Below w1.heap.size w1 w2) := by
          refine HB.out.trans (Below.mono (B := wr.heap.size) ?_ hzr)
          exact Below.trans (by (show Bel wr _; (repeat (first | exact Bel.refl _ | refine Bel.alloc ?_ _ | refine Bel.setCell ?_ _ _ ?_ | exact Nat.le_refl _ | (simp; done) | omega)))) (hb2.mono (by simp))
        clear hb2
        have hz3 := HB2.out.size
        rcases hf2 with ⟨hv2, rfl⟩ | ⟨hv, ad2, c2, hv2, rfl, hown2⟩
        · have HS2 : Hid (st1 = (best, least)) := by unfold Hid; rw [HST.out]; unfold rstep; rw [hv2]
          clear hv2
          go_wp2_with fail
          go_roundw
          case rel => exact ⟨k + 1, by omega, by go_num, by rw [HSE.out, HS2.out], by rw [HSE.out, HS2.out], HB2.out⟩
          case measure => simp [intOf]; omega
        · obtain ⟨_, hh4, hhf⟩ := fieldsV_some hv2
          have HHI := Lib.hid hhf
          have HHF : Hid (∀ f ∈ hv, f.length ≤ 3) := fun f hf => (fld_facts (hhf f hf)).2
          have HS2 : Hid (st1 = if kindsA hv = kindsA want then if best < 0 ∨ rdist hv want hv.length < least then ((k : Int), rdist hv want hv.length) else (best, least) else (best, least)) := by unfold Hid; rw [HST.out]; unfold rstep; rw [hv2]
          have HMC := Lib.hid (Own.sl hown2)
          have HMW : Hid (Sl w2 ad0 want.length (strs (want.map bs))) := HM.out.below HB2.out
          have HKH : Hid (∀ x : Ext w2, Calls Tryd.prog 34 #[.slice ad2 hv.length c2] x.1 fun e w' => e = .returned (kindsL4 hv) ∧ Below x.1.heap.size x.1 w') := fun x => rkinds_any ad2 hv.length c2 hv x.1 (HMC.out.ext x) HHI.out (by omega)
          have HKW : Hid (∀ x : Ext w2, Calls Tryd.prog 34 #[.slice ad0 want.length c0] x.1 fun e w' => e = .returned (kindsL4 want) ∧ Below x.1.heap.size x.1 w') := fun x => rkinds_any ad0 want.length c0 want x.1 (HMW.out.ext x) HWI.out (by omega)
          have HKE : Hid (kindsA hv = kindsA want → hv.length = want.length) := fun h => by
            have := congrArg List.length (heads_eq hv2 HV1.out h)
            simpa [hds] using this
          have HDI : Hid (∀ x : Ext w2, hv.length = want.length → Calls Tryd.prog 45 #[.slice ad2 hv.length c2, .slice ad0 want.length c0] x.1 fun e w' => e = .returned (.int .i64 (rdist hv want hv.length)) ∧ Below x.1.heap.size x.1 w') := fun x h =>
            rdistance_any ad2 hv.length c2 hv ad0 want.length c0 want x.1 (HMC.out.ext x) (HMW.out.ext x) h HHF.out HWF.out (by omega)
          have hdb := rdist_bd HHF.out HWF.out hv.length
          have hneq := neq4 hv want
          have heg := fun x y => eqg4 x y hv want
          clear hv2 hown2 hhf HST HLK
          by_cases hke : kindsA hv = kindsA want
          · have hleq := HKE.out hke
            have HDX := Lib.hid (fun x => HDI.out x hleq)
            rw [if_pos hke] at HS2
            rw [decide_eq_true hke] at hneq
            clear HDI HKE hke hleq
            generalize rdist hv want hv.length = dv at *
            obtain ⟨hd1, hd2⟩ := hdb
            have hd3 : dv ≤ 12 := by omega
            generalize kindsL4 hv = KA at *
            generalize kindsL4 want = KB at *
            go_wp2_with fail
            refine (Calls.ext (e := ⟨w2, Below.refl _ _⟩) (HKH.out ⟨w2, Below.refl _ _⟩)).mono ?_
            rintro e _ ⟨rfl, x1, rfl⟩
            go_wp2_with fail
            refine (Calls.ext (HKW.out x1)).mono ?_
            rintro e _ ⟨rfl, x2, rfl⟩
            go_wp2_with fail
            refine (Calls.ext (HDX.out x2)).mono ?_
            rintro e _ ⟨rfl, x3, rfl⟩
            have HB3 := Lib.hid (HB2.out.trans (x3.2.mono hz3))
            by_cases hb0 : best < 0
            · have HS3 : Hid (st1 = ((k : Int), dv)) := by unfold Hid; rw [HS2.out, if_pos (.inl hb0)]
              go_wp2_with fail
              go_roundw
              case rel => exact ⟨k + 1, by omega, by go_num, by rw [HSE.out, HS3.out], by rw [HSE.out, HS3.out], HB3.out⟩
              case measure => simp [intOf]; omega
            · by_cases hdl : dv < least
              · have HS3 : Hid (st1 = ((k : Int), dv)) := by unfold Hid; rw [HS2.out, if_pos (.inr hdl)]
                go_wp2_with fail
                go_roundw
                case rel => exact ⟨k + 1, by omega, by go_num, by rw [HSE.out, HS3.out], by rw [HSE.out, HS3.out], HB3.out⟩
                case measure => simp [intOf]; omega
              · have HS3 : Hid (st1 = (best, least)) := by unfold Hid; rw [HS2.out, if_neg (fun h => h.elim hb0 hdl)]
                go_wp2_with fail
                go_roundw
                case rel => exact ⟨k + 1, by omega, by go_num, by rw [HSE.out, HS3.out], by rw [HSE.out, HS3.out], HB3.out⟩
                case measure => simp [intOf]; omega
          · rw [if_neg hke] at HS2
            rw [decide_eq_false hke] at hneq
            clear HDI HKE hke hdb
            generalize kindsL4 hv = KA at *
            generalize kindsL4 want = KB at *
            go_wp2_with fail
            refine (Calls.ext (e := ⟨w2, Below.refl _ _⟩) (HKH.out ⟨w2, Below.refl _ _⟩)).mono ?_
            rintro e _ ⟨rfl, x1, rfl⟩
            go_wp2_with fail
            refine (Calls.ext (HKW.out x1)).mono ?_
            rintro e _ ⟨rfl, x2, rfl⟩
            have HB3 := Lib.hid (HB2.out.trans (x2.2.mono hz3))
            go_wp2_with fail
            go_roundw
            case rel => exact ⟨k + 1, by omega, by go_num, by rw [HSE.out, HS2.out], by rw [HSE.out, HS2.out], HB3.out⟩
            case measure => simp [intOf]; omega
      · obtain rfl : k = n := by omega
        generalize bst want ps k = st0 at *
        obtain ⟨best, least⟩ := st0
        simp only at d1 d2 d3 d4 HO ⊢
        have HBF := Lib.hid (HB1.out.trans (HB.out.mono hz1))
        by_cases hb0 : best < 0
        · have HR : Hid (bestV ps s.data.toList = (0, 8)) := by unfold Hid; rw [HO.out, if_pos hb0]
          go_wp2_with fail
          go_ret2
          exact ⟨by rw [HR.out]; rfl, HBF.out⟩
        · have HR : Hid (bestV ps s.data.toList = (best, 0)) := by unfold Hid; rw [HO.out, if_neg hb0]
          go_wp2_with fail
          go_ret2
          exact ⟨by rw [HR.out]; rfl, HBF.out⟩
end Go.Proofs.YtaolbfbnjbpljaaDoor
