/- Walks over a condition in the reference: whether it holds. -/
import Derived.Test.YtadhblppeaamlaaGreatDoorSM
import Derived.Test.YtadhblppeaamlaaGreatDoorSJ
namespace Go.Proofs.YtadhblppeaamlaaGreatDoor
open Go.RowKit
attribute [local go_sem] Ext.cell Ext.frozen
attribute [local go_sem ↓] Go.wp_at_zero Go.wp_at_succ

/-- whether p holds of all numbers below n -/
def allP (p : Nat → Bool) (n : Nat) : Bool := (List.range n).all p
theorem allP_succ (p : Nat → Bool) (n : Nat) : allP p (n + 1) = (allP p n && p n) := by
  unfold allP
  rw [List.range_succ, List.all_append]
  simp
theorem allP_list {α : Type} (q : α → Bool) (l : List α) (d : α) : allP (fun i => q (l.getD i d)) l.length = l.all q := by
  rw [Bool.eq_iff_iff]
  unfold allP
  rw [List.all_eq_true, List.all_eq_true]
  constructor
  · intro h x hx
    obtain ⟨i, hi, rfl⟩ := List.getElem_of_mem hx
    have := h i (List.mem_range.2 hi)
    simpa [List.getD, List.getElem?_eq_getElem hi] using this
  · intro h i hi
    exact h _ (getD_mem l i d (List.mem_range.1 hi))
set_option maxRecDepth 20000 in
set_option maxHeartbeats 4000000 in
theorem rcholds_any (v : Value) (l : List (List Rel)) (s : ByteArray) (w : World) (h : CondAt w v l) (hl : l.length ≤ 30) (hs : s.size ≤ 1000) :
    Calls Tryz.prog 67 #[v, .string s] w fun e w' => e = .returned (.tuple #[.bool (holdsV s.data.toList l).1, .int .i64 ((holdsV s.data.toList l).2 : Nat)]) ∧ Below w.heap.size w w' := by
  have HV := Lib.hid (rcvalid_any v l w h hl)
  have HD := Lib.hid (fun W => rvalid_any s W hs)
  cases hv : validC l with
  | false =>
    have HO : Hid (holdsV s.data.toList l = (false, 1)) := by unfold Hid holdsV; rw [hv]; rfl
    rw [Hid, hv] at HV
    replace HV := Lib.hid HV
    generalize holdsV s.data.toList l = q at *
    clear h
    go_enter Tryz.func67, Tryz.ntmps67
    go_wp2_with fail
    refine (Calls.toExt HV.out).mono ?_
    rintro e _ ⟨rfl, x1, rfl⟩
    go_wp2_with fail
    go_ret2
    exact ⟨by rw [HO.out]; rfl, by show Bel w _; repeat (first | exact Bel.refl _ | refine Bel.drew ?_ | refine Bel.drewN ?_ _ | refine Bel.alloc ?_ _ | refine Bel.ext ?_ _)⟩
  | true =>
    have hpr := validC_all hv
    rw [Hid, hv] at HV
    replace HV := Lib.hid HV
    cases hd : dOk s.data.toList with
    | false =>
      have HO : Hid (holdsV s.data.toList l = (false, 1)) := holdsV_no2 hd
      rw [Hid, hd] at HD
      replace HD := Lib.hid HD
      generalize holdsV s.data.toList l = q at *
      clear h hpr
      go_enter Tryz.func67, Tryz.ntmps67
      go_wp2_with fail
      refine (Calls.toExt HV.out).mono ?_
      rintro e _ ⟨rfl, x1, rfl⟩
      go_wp2_with fail
      refine (Calls.toExt (HD.out _)).mono ?_
      rintro e _ ⟨rfl, x2, rfl⟩
      go_wp2_with fail
      go_ret2
      exact ⟨by rw [HO.out]; rfl, by show Bel w _; repeat (first | exact Bel.refl _ | refine Bel.drew ?_ | refine Bel.drewN ?_ _ | refine Bel.alloc ?_ _ | refine Bel.ext ?_ _)⟩
    | true =>
      rw [holdsV_ok hv hd]
      simp only
      rw [Hid, hd] at HD
      replace HD := Lib.hid HD
      obtain ⟨ad, c, f, b, off, rfl, hr, _, _, _, hf⟩ := h
      obtain ⟨n, hn⟩ : ∃ n, l.length = n := ⟨_, rfl⟩
      rw [hn] at hr hl HV ⊢
      have HN := Lib.hid hn
      have HR := Lib.hid hr
      have HF := Lib.hid hf
      have HPR := Lib.hid hpr
      clear hr hf hn hpr hv hd
      obtain ⟨q, hq⟩ : ∃ q, holdsC s.data.toList l = q := ⟨_, rfl⟩
      rw [hq]
      have HQ := Lib.hid hq
      clear hq
      go_enter Tryz.func67, Tryz.ntmps67
      go_wp2_with fail
      refine (Calls.toExt HV.out).mono ?_
      rintro e _ ⟨rfl, x1, rfl⟩
      go_wp2_with fail
      refine (Calls.toExt (HD.out _)).mono ?_
      rintro e _ ⟨rfl, x2, rfl⟩
      have HBX : Hid (Below w.heap.size w x2.1) := by show Bel w _; repeat (first | exact Bel.refl _ | refine Bel.drew ?_ | refine Bel.drewN ?_ _ | refine Bel.alloc ?_ _ | refine Bel.ext ?_ _)
      go_wp2_with fail
      go_loopw [6] (fun v wr => ∃ k : Nat, v = .int .i64 (k : Int) ∧ k ≤ n ∧ (∀ i, i < k → (l.getD i []).all (holdsR s.data.toList) = false) ∧ Below w.heap.size w wr) (fun v _ => n - (intOf v).toNat)
      case atStart => exact ⟨0, rfl, Nat.zero_le _, fun i hi => absurd hi (Nat.not_lt_zero _), HBX.out⟩
      case round =>
        obtain ⟨wo, rfl⟩ : ∃ wo : World, wo = wr := ⟨_, rfl⟩
        obtain ⟨k, rfl, hkn, hal, hbl⟩ := hrel
        have HAL := Lib.hid hal
        have HBL := Lib.hid hbl
        have hzr := hbl.size
        clear hal hbl
        by_cases hlt : k < n
        · have hrr := HR.out.below HBL.out
          have hix := fun W => hrr.ix 78 94 Tryz.underlying78 (by kernel_rfl) (by omega) hlt c W
          rw [Nat.mul_one] at hix
          have c0 : wo.cell? ⟨b, off + k * 1, none⟩ = some (f k 0) := hrr.cell k 0 hlt (by omega)
          rw [Nat.mul_one] at c0
          have hk0 : k < l.length := by rw [HN.out]; exact hlt
          obtain ⟨ad2, c2, f2, b2, off2, hv2, hr2, _, _, hm5, hf2⟩ := (RowsOf.get HF.out hk0 [] : RelsC w (f k) _).below HBL.out
          rw [hv2] at c0
          have HNO : Hid ((l.getD k []).all (holdsR s.data.toList) = true → q = true) := fun h => HQ.out.symm.trans (holdsC_hit hk0 h)
          have HYES : Hid ((l.getD k []).all (holdsR s.data.toList) = false → ∀ i, i < k + 1 → (l.getD i []).all (holdsR s.data.toList) = false) := fun h i hi => by
            by_cases e : i = k
            · subst e; exact h
            · exact HAL.out i (by omega)
          have HP0 := Lib.hid (HPR.out _ (getD_mem l k [] hk0))
          clear hrr hk0 hv2
          generalize l.getD k [] = ls at *
          obtain ⟨m, hm⟩ : ∃ m, ls.length = m := ⟨_, rfl⟩
          rw [hm] at hr2 c0 hm5
          have HM := Lib.hid hm
          have HR2 := Lib.hid hr2
          have HF2 := Lib.hid hf2
          have C0 := Lib.hid c0
          have hbz : b < wo.heap.size := World.block_lt_of_cell? _ _ c0
          clear hm hr2 hf2
          go_wp2_with fail
          go_loopw [7, 8] (fun u v wi => ∃ j : Nat, v = .int .i64 (j : Int) ∧ j ≤ m ∧ u = .bool (allP (fun i => holdsR s.data.toList (ls.getD i ⟨0, 0, false, []⟩)) j) ∧ Below wo.heap.size wo wi) (fun _ v _ => m - (intOf v).toNat)
          case atStart => exact ⟨0, rfl, Nat.zero_le _, rfl, Below.refl _ _⟩
          case round =>
            obtain ⟨wi, rfl⟩ : ∃ wi : World, wi = wr := ⟨_, rfl⟩
            obtain ⟨j, rfl, hjm, rfl, hbi⟩ := hrel
            have HBI := Lib.hid hbi
            have HBZ : Hid (Below w.heap.size w wi) := HBL.out.trans (hbi.mono hzr)
            have ci : wi.cell? ⟨b, off + k, none⟩ = some (.slice ad2 m c2) := (hbi.cell (p := ⟨b, off + k, none⟩) hbz).trans C0.out
            clear hbi c0
            by_cases hlt2 : j < m
            · have hr2 := HR2.out.below HBI.out
              have hix2 := fun W => hr2.ix 94 93 Tryz.underlying94 (by kernel_rfl) (by omega) hlt2 c2 W
              have d0 : wi.cell? ⟨b2, off2 + j * 4, none⟩ = some (f2 j 0) := hr2.cell j 0 hlt2 (by omega)
              have d1 : wi.cell? ⟨b2, off2 + j * 4 + 1, none⟩ = some (f2 j 1) := hr2.cell j 1 hlt2 (by omega)
              have d2 : wi.cell? ⟨b2, off2 + j * 4 + 2, none⟩ = some (f2 j 2) := hr2.cell j 2 hlt2 (by omega)
              have d3 : wi.cell? ⟨b2, off2 + j * 4 + 3, none⟩ = some (f2 j 3) := hr2.cell j 3 hlt2 (by omega)
              have hj0 : j < ls.length := by rw [HM.out]; exact hlt2
              have hre := (RowsOf.get HF2.out hj0 ⟨0, 0, false, []⟩).below HBI.out
              have HP := Lib.hid (rholdsr_any (f2 j) _ s wi hre hs (HP0.out _ (getD_mem ls j _ hj0)))
              have HSU : Hid (allP (fun i => holdsR s.data.toList (ls.getD i ⟨0, 0, false, []⟩)) (j + 1) = (allP (fun i => holdsR s.data.toList (ls.getD i ⟨0, 0, false, []⟩)) j && holdsR s.data.toList (ls.getD j ⟨0, 0, false, []⟩))) := allP_succ _ _
              clear hre hr2 hj0
              generalize holdsR s.data.toList (ls.getD j ⟨0, 0, false, []⟩) = pv at *
              generalize allP (fun i => holdsR s.data.toList (ls.getD i ⟨0, 0, false, []⟩)) j = aj at *
              generalize f2 j 0 = y0 at *
              generalize f2 j 1 = y1 at *
              generalize f2 j 2 = y2 at *
              generalize f2 j 3 = y3 at *
              cases aj with
              | false =>
                go_wp2_with fail
                go_roundw
                case rel => exact ⟨j + 1, by go_num, by omega, by rw [HSU.out]; rfl, HBI.out⟩
                case measure => simp [intOf]; omega
              | true =>
                have hsz := HBI.out.size
                go_wp2_with fail
                refine HP.out.mono ?_
                rintro e w' ⟨rfl, hb⟩
                have HB3 := Lib.hid (HBI.out.trans (hb.mono hsz))
                clear hb
                go_wp2_with fail
                go_roundw
                case rel => exact ⟨j + 1, by go_num, by omega, by rw [HSU.out]; cases pv <;> rfl, HB3.out⟩
                case measure => simp [intOf]; omega
            · obtain rfl : j = m := by omega
              have HE : Hid (allP (fun i => holdsR s.data.toList (ls.getD i ⟨0, 0, false, []⟩)) j = ls.all (holdsR s.data.toList)) := by
                have := allP_list (holdsR s.data.toList) ls ⟨0, 0, false, []⟩
                rwa [HM.out] at this
              rw [HE.out]
              generalize ls.all (holdsR s.data.toList) = al at *
              cases al with
              | true =>
                have HO := Lib.hid (HNO.out rfl)
                clear HNO HYES
                go_wp2_with fail
                go_ret2
                exact ⟨by rw [HO.out]; rfl, HBZ.out⟩
              | false =>
                have HO := Lib.hid (HYES.out rfl)
                clear HNO HYES
                go_wp2_with fail
                go_roundw
                case rel => exact ⟨k + 1, by go_num, by omega, HO.out, HBZ.out⟩
                case measure => simp [intOf]; omega
        · obtain rfl : k = n := by omega
          have HO : Hid (q = false) := HQ.out.symm.trans (holdsC_miss (by rw [HN.out]; exact HAL.out))
          go_wp2_with fail
          go_ret2
          exact ⟨by rw [HO.out]; rfl, HBL.out⟩
end Go.Proofs.YtadhblppeaamlaaGreatDoor
