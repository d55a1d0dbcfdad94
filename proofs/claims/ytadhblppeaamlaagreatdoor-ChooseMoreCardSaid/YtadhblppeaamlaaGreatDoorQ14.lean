/- Walks over a condition in the reference: whether it holds. -/
import Derived.Test.YtadhblppeaamlaaGreatDoorQ11
import Derived.Test.YtadhblppeaamlaaGreatDoorQ13
import Derived.Test.YtadhblppeaamlaaGreatDoorQ00
import Derived.StillTail
import Derived.Test.YtadhblppeaamlaaGreatDoorQ08
namespace Go.Proofs.YtadhblppeaamlaaGreatDoor
open Go.RowKit
attribute [local go_sem] Ext.cell Ext.frozen
attribute [local go_sem ↓] Go.wp_at_zero Go.wp_at_succ

/-- whether p holds of all numbers below n -/
def allP (p : Nat → Bool) (n : Nat) : Bool := (List.range n).all p
theorem allP_succ (p : Nat → Bool) (n : Nat) : allP p (n + 1) = (allP p n && p n) := by
  unfold allP
  rw [List.range_succ, List.all_append]
  simp
theorem allP_list {α : Type} (q : α → Bool) (l : List α) (d : α) : allP (fun i => q (l.getD i d)) l.length = l.all q := by
  rw [Bool.eq_iff_iff]
  unfold allP
  rw [List.all_eq_true, List.all_eq_true]
  constructor
  · intro h x hx
    obtain ⟨i, hi, rfl⟩ := List.getElem_of_mem hx
    have := h i (List.mem_range.2 hi)
    simpa [List.getD, List.getElem?_eq_getElem hi] using this
  · intro h i hi
    exact h _ (getD_mem l i d (List.mem_range.1 hi))
set_option maxRecDepth 20000 in
set_option maxHeartbeats 4000000 in
theorem rcholds_any (v : Value) (l : List (List Rel)) (s : ByteArray) (w : World) (h : CondAt w v l) (hl : l.length ≤ 30) (hs : s.size ≤ 1000) :
    Calls Tryz.prog 67 #[v, .string s] w fun e w' => e = .returned (.tuple #[.bool (holdsV s.data.toList l).1, .int .i64 ((holdsV s.data.toList l).2 : Nat)]) ∧ Below w.heap.size w w' := by
  have HV := Lib.hid (rcvalid_any v l w h hl)
  have HD := Lib.hid (fun W => rvalid_any s W hs)
  cases hv : validC l with
  | false =>
    have HO : Hid (holdsV s.data.toList l = (false, 1)) := by unfold Hid holdsV; rw [hv]; rfl
    rw [Hid, hv] at HV
    replace HV := Lib.hid HV
    generalize holdsV s.data.toList l = q at *
    clear h
    go_enter Tryz.func67, Tryz.ntmps67
    go_wp2_with fail
    refine (Calls.toExt HV.out).mono ?_
    rintro e _ ⟨rfl, x1, rfl⟩
    go_wp2_with fail
    go_ret2
    exact ⟨by rw [HO.out]; rfl, by show Bel w _; repeat (first | exact Bel.refl _ | refine Bel.drew ?_ | refine Bel.drewN ?_ _ | refine Bel.alloc ?_ _ | refine Bel.ext ?_ _)⟩
  | true =>
    have hpr := validC_all hv
    rw [Hid, hv] at HV
    replace HV := Lib.hid HV
    cases hd : dOk s.data.toList with
    | false =>
      have HO : Hid (holdsV s.data.toList l = (false, 1)) := holdsV_no2 hd
      rw [Hid, hd] at HD
      replace HD := Lib.hid HD
      generalize holdsV s.data.toList l = q at *
      clear h hpr
      go_enter Tryz.func67, Tryz.ntmps67
      go_wp2_with fail
      refine (Calls.toExt HV.out).mono ?_
      rintro e _ ⟨rfl, x1, rfl⟩
      go_wp2_with fail
      refine (Calls.toExt (HD.out _)).mono ?_
      rintro e _ ⟨rfl, x2, rfl⟩
      go_wp2_with fail
      go_ret2
      exact ⟨by rw [HO.out]; rfl, by show Bel w _; repeat (first | exact Bel.refl _ | refine Bel.drew ?_ | refine Bel.drewN ?_ _ | refine Bel.alloc ?_ _ | refine Bel.ext ?_ _)⟩
    | true =>
      rw [holdsV_ok hv hd]
      simp only
      rw [Hid, hd] at HD
      replace HD := Lib.hid HD
      obtain ⟨ad, c, f, b, off, rfl, hr, _, _, _, hf⟩ := h
      obtain ⟨n, hn⟩ : ∃ n, l.length = n := ⟨_, rfl⟩
      rw [hn] at hr hl HV ⊢
      have HN := Lib.hid hn
      have HR := Lib.hid hr
      have HF := Lib.hid hf
      have HPR := Lib.hid hpr
      clear hr hf hn hpr hv hd
      obtain ⟨q, hq⟩ : ∃ q, holdsC s.data.toList l = q := ⟨_, rfl⟩
      rw [hq]
      have HQ := Lib.hid hq
      clear hq
      go_enter Tryz.func67, Tryz.ntmps67
      go_wp2_with fail
      refine (Calls.toExt HV.out).mono ?_
      rintro e _ ⟨rfl, x1, rfl⟩
      go_wp2_with fail
      refine (Calls.toExt (HD.out _)).mono ?_
      rintro e _ ⟨rfl, x2, rfl⟩
      have HBX : Hid (Below w.heap.size w x2.1) := by show Bel w _; repeat (first | exact Bel.refl _ | refine Bel.drew ?_ | refine Bel.drewN ?_ _ | refine Bel.alloc ?_ _ | refine Bel.ext ?_ _)
      go_wp2_with fail
      go_loopw [6] (fun v wr => ∃ k : Nat, v = .int .i64 (k : Int) ∧ k ≤ n ∧ (∀ i, i < k → (l.getD i []).all (holdsR s.data.toList) = false) ∧ Below w.heap.size w wr) (fun v _ => n - (intOf v).toNat)
      case atStart => exact ⟨0, rfl, Nat.zero_le _, fun i hi => absurd hi (Nat.not_lt_zero _), HBX.out⟩
      case round =>
        obtain ⟨wo, rfl⟩ : ∃ wo : World, wo = wr := ⟨_, rfl⟩
        obtain ⟨k, rfl, hkn, hal, hbl⟩ := hrel
        have HAL := Lib.hid hal
        have HBL := Lib.hid hbl
        have hzr := hbl.size
        clear hal hbl
        by_cases hlt : k < n
        · have hrr := HR.out.below HBL.out
          have hix := fun W => hrr.ix 78 94 Tryz.underlying78 (by kernel_rfl) (by omega) hlt c W
          rw [Nat.mul_one] at hix
          have c0 : wo.cell? ⟨b, off + k * 1, none⟩ = some (f k 0) := hrr.cell k 0 hlt (by omega)
          rw [Nat.mul_one] at c0
          have hk0 : k < l.length := by rw [HN.out]; exact hlt
          obtain ⟨ad2, c2, f2, b2, off2, hv2, hr2, _, _, hm5, hf2⟩ := (RowsOf.get HF.out hk0 [] : RelsC w (f k) _).below HBL.out
          rw [hv2] at c0
          have HNO : Hid ((l.getD k []).all (holdsR s.data.toList) = true → q = true) := fun h => HQ.out.symm.trans (holdsC_hit hk0 h)
          have HYES : Hid ((l.getD k []).all (holdsR s.data.toList) = false → ∀ i, i < k + 1 → (l.getD i []).all (holdsR s.data.toList) = false) := fun h i hi => by
            by_cases e : i = k
            · subst e; exact h
            · exact HAL.out i (by omega)
          have HP0 := Lib.hid (HPR.out _ (getD_mem l k [] hk0))
          clear hrr hk0 hv2
          generalize l.getD k [] = ls at *
          obtain ⟨m, hm⟩ : ∃ m, ls.length = m := ⟨_, rfl⟩
          rw [hm] at hr2 c0 hm5
          have HM := Lib.hid hm
          have HR2 := Lib.hid hr2
          have HF2 := Lib.hid hf2
          have C0 := Lib.hid c0
          have hbz : b < wo.heap.size := World.block_lt_of_cell? _ _ c0
          clear hm hr2 hf2
          go_wp2_with fail
          go_loopw [7, 8] (fun u v wi => ∃ j : Nat, v = .int .i64 (j : Int) ∧ j ≤ m ∧ u = .bool (allP (fun i => holdsR s.data.toList (ls.getD i ⟨0, 0, false, []⟩)) j) ∧ Below wo.heap.size wo wi) (fun _ v _ => m - (intOf v).toNat)
          case atStart => exact ⟨0, rfl, Nat.zero_le _, rfl, Below.refl _ _⟩
          case round =>
            obtain ⟨wi, rfl⟩ : ∃ wi : World, wi = wr := ⟨_, rfl⟩
            obtain ⟨j, rfl, hjm, rfl, hbi⟩ := hrel
            have HBI := Lib.hid hbi
            have HBZ : Hid (Below w.heap.size w wi) := HBL.out.trans (hbi.mono hzr)
            have ci : wi.cell? ⟨b, off + k, none⟩ = some (.slice ad2 m c2) := (hbi.cell (p := ⟨b, off + k, none⟩) hbz).trans C0.out
            clear hbi c0
            by_cases hlt2 : j < m
            · have hr2 := HR2.out.below HBI.out
              have hix2 := fun W => hr2.ix 94 93 Tryz.underlying94 (by kernel_rfl) (by omega) hlt2 c2 W
              have d0 : wi.cell? ⟨b2, off2 + j * 4, none⟩ = some (f2 j 0) := hr2.cell j 0 hlt2 (by omega)
              have d1 : wi.cell? ⟨b2, off2 + j * 4 + 1, none⟩ = some (f2 j 1) := hr2.cell j 1 hlt2 (by omega)
              have d2 : wi.cell? ⟨b2, off2 + j * 4 + 2, none⟩ = some (f2 j 2) := hr2.cell j 2 hlt2 (by omega)
              have d3 : wi.cell? ⟨b2, off2 + j * 4 + 3, none⟩ = some (f2 j 3) := hr2.cell j 3 hlt2 (by omega)
              have hj0 : j < ls.length := by rw [HM.out]; exact hlt2
              have hre := (RowsOf.get HF2.out hj0 ⟨0, 0, false, []⟩).below HBI.out
              have HP := Lib.hid (rholdsr_any (f2 j) _ s wi hre hs (HP0.out _ (getD_mem ls j _ hj0)))
              have HSU : Hid (allP (fun i => holdsR s.data.toList (ls.getD i ⟨0, 0, false, []⟩)) (j + 1) = (allP (fun i => holdsR s.data.toList (ls.getD i ⟨0, 0, false, []⟩)) j && holdsR s.data.toList (ls.getD j ⟨0, 0, false, []⟩))) := allP_succ _ _
              clear hre hr2 hj0
              generalize holdsR s.data.toList (ls.getD j ⟨0, 0, false, []⟩) = pv at *
              generalize allP (fun i => holdsR s.data.toList (ls.getD i ⟨0, 0, false, []⟩)) j = aj at *
              generalize f2 j 0 = y0 at *
              generalize f2 j 1 = y1 at *
              generalize f2 j 2 = y2 at *
              generalize f2 j 3 = y3 at *
              cases aj with
              | false =>
                go_wp2_with fail
                go_roundw
                case rel => exact ⟨j + 1, by go_num, by omega, by rw [HSU.out]; rfl, HBI.out⟩
                case measure => simp [intOf]; omega
              | true =>
                have hsz := HBI.out.size
                go_wp2_with fail
                refine HP.out.mono ?_
                rintro e w' ⟨rfl, hb⟩
                have HB3 := Lib.hid (HBI.out.trans (hb.mono hsz))
                clear hb
                go_wp2_with fail
                go_roundw
                case rel => exact ⟨j + 1, by go_num, by omega, by rw [HSU.out]; cases pv <;> rfl, HB3.out⟩
                case measure => simp [intOf]; omega
            · obtain rfl : j = m := by omega
              have HE : Hid (allP (fun i => holdsR s.data.toList (ls.getD i ⟨0, 0, false, []⟩)) j = ls.all (holdsR s.data.toList)) := by
                have := allP_list (holdsR s.data.toList) ls ⟨0, 0, false, []⟩
                rwa [HM.out] at this
              rw [HE.out]
              generalize ls.all (holdsR s.data.toList) = al at *
              cases al with
              | true =>
                have HO := Lib.hid (HNO.out rfl)
                clear HNO HYES
                go_wp2_with fail
                go_ret2
                exact ⟨by rw [HO.out]; rfl, HBZ.out⟩
              | false =>
                have HO := Lib.hid (HYES.out rfl)
                clear HNO HYES
                go_wp2_with fail
                go_roundw
                case rel => exact ⟨k + 1, by go_num, by omega, HO.out, HBZ.out⟩
                case measure => simp [intOf]; omega
        · obtain rfl : k = n := by omega
          have HO : Hid (q = false) := HQ.out.symm.trans (holdsC_miss (by rw [HN.out]; exact HAL.out))
          go_wp2_with fail
          go_ret2
          exact ⟨by rw [HO.out]; rfl, HBL.out⟩
end Go.Proofs.YtadhblppeaamlaaGreatDoor
/- Walks over rules in the reference: the class of a number; whether rules are few. -/
namespace Go.Proofs.YtadhblppeaamlaaGreatDoor
open Go.RowKit
attribute [local go_sem] Ext.cell Ext.frozen
attribute [local go_sem ↓] Go.wp_at_zero Go.wp_at_succ

set_option maxRecDepth 20000 in
set_option maxHeartbeats 4000000 in
theorem rclassr_any (v : Value) (rs : List (ByteArray × List (List Rel))) (s : ByteArray) (w : World) (h : RulesAt w v rs) (hl : ∀ r ∈ rs, r.2.length ≤ 30) (hs : s.size ≤ 1000) :
    Calls Tryz.prog 43 #[v, .string s] w fun e w' => e = .returned (.tuple #[.string (classV rs s.data.toList).1, .int .i64 ((classV rs s.data.toList).2 : Nat)]) ∧ Below w.heap.size w w' := by
  have HV := Lib.hid (rvalidr_any v rs w h hl)
  have HD := Lib.hid (fun W => rvalid_any s W hs)
  cases hv : validR rs with
  | false =>
    have HO : Hid (classV rs s.data.toList = (.empty, 1)) := classV_no hv
    rw [Hid, hv] at HV
    replace HV := Lib.hid HV
    generalize classV rs s.data.toList = q at *
    clear h
    go_enter Tryz.func43, Tryz.ntmps43
    go_wp2_with fail
    refine (Calls.toExt HV.out).mono ?_
    rintro e _ ⟨rfl, x1, rfl⟩
    go_wp2_with fail
    go_ret2
    exact ⟨by rw [HO.out]; rfl, by show Bel w _; repeat (first | exact Bel.refl _ | refine Bel.drew ?_ | refine Bel.drewN ?_ _ | refine Bel.alloc ?_ _ | refine Bel.ext ?_ _)⟩
  | true =>
    have hvc := validR_all hv
    rw [Hid, hv] at HV
    replace HV := Lib.hid HV
    cases hd : dOk s.data.toList with
    | false =>
      have HO : Hid (classV rs s.data.toList = (.empty, 1)) := classV_no2 hd
      rw [Hid, hd] at HD
      replace HD := Lib.hid HD
      generalize classV rs s.data.toList = q at *
      clear h hvc
      go_enter Tryz.func43, Tryz.ntmps43
      go_wp2_with fail
      refine (Calls.toExt HV.out).mono ?_
      rintro e _ ⟨rfl, x1, rfl⟩
      go_wp2_with fail
      refine (Calls.toExt (HD.out _)).mono ?_
      rintro e _ ⟨rfl, x2, rfl⟩
      go_wp2_with fail
      go_ret2
      exact ⟨by rw [HO.out]; rfl, by show Bel w _; repeat (first | exact Bel.refl _ | refine Bel.drew ?_ | refine Bel.drewN ?_ _ | refine Bel.alloc ?_ _ | refine Bel.ext ?_ _)⟩
    | true =>
      have HO : Hid (classV rs s.data.toList = (classOf rs s.data.toList, 0)) := classV_yes hv hd
      rw [Hid, hd] at HD
      replace HD := Lib.hid HD
      rw [HO.out]
      simp only
      obtain ⟨ad, c, f, b, off, rfl, hr, _, _, _, hf⟩ := h
      obtain ⟨n, hn⟩ : ∃ n, rs.length = n := ⟨_, rfl⟩
      rw [hn] at hr HV ⊢
      have hnm := hr.max
      have HN := Lib.hid hn
      have HR := Lib.hid hr
      have HF := Lib.hid hf
      have HL := Lib.hid hl
      have HVC := Lib.hid hvc
      have HDD := Lib.hid hd
      clear hr hf hn hl hvc hd hv
      obtain ⟨q, hq⟩ : ∃ q, classOf rs s.data.toList = q := ⟨_, rfl⟩
      rw [hq]
      have HQ := Lib.hid hq
      clear hq HO
      go_enter Tryz.func43, Tryz.ntmps43
      go_wp2_with fail
      refine (Calls.toExt HV.out).mono ?_
      rintro e _ ⟨rfl, x1, rfl⟩
      go_wp2_with fail
      refine (Calls.toExt (HD.out _)).mono ?_
      rintro e _ ⟨rfl, x2, rfl⟩
      have HBX : Hid (Below w.heap.size w x2.1) := by show Bel w _; repeat (first | exact Bel.refl _ | refine Bel.drew ?_ | refine Bel.drewN ?_ _ | refine Bel.alloc ?_ _ | refine Bel.ext ?_ _)
      go_wp2_with fail
      go_loopw [6] (fun v wr => ∃ k : Nat, v = .int .i64 (k : Int) ∧ k ≤ n ∧ (∀ i, i < k → holdsC s.data.toList (rs.getD i (.empty, [])).2 = false) ∧ Below w.heap.size w wr) (fun v _ => n - (intOf v).toNat)
      case atStart => exact ⟨0, rfl, Nat.zero_le _, fun i hi => absurd hi (Nat.not_lt_zero _), HBX.out⟩
      case round =>
        obtain ⟨k, rfl, hkn, hal, hbl⟩ := hrel
        have HAL := Lib.hid hal
        have HBL := Lib.hid hbl
        have hzr := hbl.size
        clear hal hbl
        by_cases hlt : k < n
        · have hrr := HR.out.below HBL.out
          have hix := fun W => hrr.ix 22 80 Tryz.underlying22 (by kernel_rfl) (by omega) hlt c W
          have c0 : wr.cell? ⟨b, off + k * 2, none⟩ = some (f k 0) := hrr.cell k 0 hlt (by omega)
          have c1 : wr.cell? ⟨b, off + k * 2 + 1, none⟩ = some (f k 1) := hrr.cell k 1 hlt (by omega)
          have hk0 : k < rs.length := by rw [HN.out]; exact hlt
          obtain ⟨f0, f1⟩ := RowsOf.get HF.out hk0 (.empty, [])
          rw [f0] at c0
          have hm := getD_mem rs k (.empty, []) hk0
          have hbz : b < wr.heap.size := World.block_lt_of_cell? _ _ c0
          have HC : Hid (Calls Tryz.prog 67 #[f k 1, .string s] wr fun e w' => e = .returned (.tuple #[.bool (holdsC s.data.toList (rs.getD k (.empty, [])).2), .int .i64 0]) ∧ Below wr.heap.size wr w') := by
            have := rcholds_any (f k 1) _ s wr (f1.below HBL.out) (HL.out _ hm) hs
            rw [holdsV_ok (HVC.out _ hm) HDD.out] at this
            exact this
          obtain ⟨ad3, c3, _, _, _, hv3, _, _, _, _, _⟩ := id f1
          rw [hv3] at c1
          rw [Hid, hv3] at HC
          replace HC := Lib.hid HC
          have HHIT : Hid (holdsC s.data.toList (rs.getD k (.empty, [])).2 = true → q = (rs.getD k (.empty, [])).1) := fun h => HQ.out.symm.trans (classOf_hit hk0 h HAL.out)
          have HMISS : Hid (holdsC s.data.toList (rs.getD k (.empty, [])).2 = false → ∀ i, i < k + 1 → holdsC s.data.toList (rs.getD i (.empty, [])).2 = false) := fun h i hi => by
            by_cases e : i = k
            · subst e; exact h
            · exact HAL.out i (by omega)
          clear hrr f0 f1 hv3 hm hk0
          generalize (rs.getD k (.empty, [])).2.length = m3 at *
          generalize rs.getD k (.empty, []) = r at *
          obtain ⟨cl, cd⟩ := r
          simp only at c0 HC HHIT HMISS
          cases hh : holdsC s.data.toList cd with
          | true =>
            have HO := Lib.hid (HHIT.out hh)
            rw [Hid, hh] at HC
            replace HC := Lib.hid HC
            clear hh HHIT HMISS
            go_wp2_with fail
            refine (Calls.toExt HC.out).mono ?_
            rintro e _ ⟨rfl, x1, rfl⟩
            go_wp2_with fail
            go_ret2
            exact ⟨by rw [HO.out]; rfl, by show Bel w _; repeat (first | exact Bel.refl _ | exact HBL.out | refine Bel.drew ?_ | refine Bel.drewN ?_ _ | refine Bel.alloc ?_ _ | refine Bel.ext ?_ _)⟩
          | false =>
            have HO := Lib.hid (HMISS.out hh)
            rw [Hid, hh] at HC
            replace HC := Lib.hid HC
            clear hh HHIT HMISS
            go_wp2_with fail
            refine (Calls.toExt HC.out).mono ?_
            rintro e _ ⟨rfl, x1, rfl⟩
            go_wp2_with fail
            go_roundw
            case rel => exact ⟨k + 1, by go_num, by omega, HO.out, by show Bel w _; repeat (first | exact Bel.refl _ | exact HBL.out | refine Bel.drew ?_ | refine Bel.drewN ?_ _ | refine Bel.alloc ?_ _ | refine Bel.ext ?_ _)⟩
            case measure => simp [intOf]; omega
        · obtain rfl : k = n := by omega
          have HO : Hid (q = otherB) := HQ.out.symm.trans (classOf_miss (by rw [HN.out]; exact HAL.out))
          go_wp2_with fail
          go_ret2
          exact ⟨by rw [HO.out]; rfl, HBL.out⟩
/-- each condition has at most 30 lists -/
def FewC (rs : List (ByteArray × List (List Rel))) : Prop := ∀ r ∈ rs, r.2.length ≤ 30
set_option maxRecDepth 20000 in
theorem rfewr_any (v : Value) (rs : List (ByteArray × List (List Rel))) (w : World) (h : RulesAt w v rs) : Calls Tryz.prog 40 #[v] w (BoolIf w (FewC rs)) := by
  obtain ⟨ad, c, f, b, off, rfl, hr, _, _, _, hf⟩ := h
  obtain ⟨n, hn⟩ : ∃ n, rs.length = n := ⟨_, rfl⟩
  rw [hn] at hr ⊢
  have hnm := hr.max
  have HN := Lib.hid hn
  have HR := Lib.hid hr
  have HF := Lib.hid hf
  clear hr hf hn
  go_enter Tryz.func40, Tryz.ntmps40
  go_wp2_with fail
  go_loop [3] (fun v => ∃ k : Nat, v = .int .i64 (k : Int) ∧ k ≤ n ∧ (∀ i, i < k → (rs.getD i (.empty, [])).2.length ≤ 30)) (fun v => n - (intOf v).toNat)
  case atStart => exact ⟨0, rfl, Nat.zero_le _, fun i hi => absurd hi (Nat.not_lt_zero _)⟩
  case round =>
    obtain ⟨k, rfl, hkn, hal⟩ := hrel
    have HAL := Lib.hid hal
    clear hal
    by_cases hlt : k < n
    · have hix := fun W => HR.out.ix 22 80 Tryz.underlying22 (by kernel_rfl) (by omega) hlt c W
      have c1 : w.cell? ⟨b, off + k * 2 + 1, none⟩ = some (f k 1) := HR.out.cell k 1 hlt (by omega)
      have hk0 : k < rs.length := by rw [HN.out]; exact hlt
      obtain ⟨f0, f1⟩ := RowsOf.get HF.out hk0 (.empty, [])
      have HC := Lib.hid (cfewl_any (f k 1) _ w f1)
      obtain ⟨ad3, c3, _, _, _, hv3, _, _, _, _, _⟩ := id f1
      rw [hv3] at c1
      rw [Hid, hv3] at HC
      replace HC := Lib.hid HC
      have HYES : Hid ((rs.getD k (.empty, [])).2.length ≤ 30 → ∀ i, i < k + 1 → (rs.getD i (.empty, [])).2.length ≤ 30) := fun h i hi => by
        by_cases e : i = k
        · subst e; exact h
        · exact HAL.out i (by omega)
      clear f0 f1 hv3 hk0
      generalize (rs.getD k (.empty, [])).2.length = m3 at *
      go_wp2_with fail
      refine HC.out.mono ?_
      rintro e w' ⟨q, rfl, rfl, hq⟩
      cases q with
      | false =>
        go_wp2_with fail
        go_ret
        exact ⟨false, rfl, rfl, fun h => by cases h⟩
      | true =>
        have HO := Lib.hid (HYES.out (hq rfl))
        clear hq HYES
        go_wp2_with fail
        go_round
        case rel => exact ⟨k + 1, by go_num, by omega, HO.out⟩
        case measure => simp [intOf]; omega
    · obtain rfl : k = n := by omega
      go_wp2_with fail
      go_ret
      exact ⟨_, rfl, rfl, fun _ r hr => by
        obtain ⟨i, hi, rfl⟩ := List.getElem_of_mem hr
        have := HAL.out i (by rw [← HN.out]; exact hi)
        simpa [List.getD, List.getElem?_eq_getElem hi] using this⟩
/-- few rules of a locale -/
def BoolIfB (w : World) (P : Prop) (e : Ending) (w' : World) : Prop := ∃ q : Bool, e = .returned (.bool q) ∧ Below w.heap.size w w' ∧ (q = true → P)
theorem fewrules_any (x : Nat → Value) (a b : List (ByteArray × List (List Rel))) (w : World) (h : LocC w x a b) : Calls Tryz.prog 18 #[.agg #[x 0, x 1, x 2, x 3, x 4, x 5, x 6, x 7, x 8, x 9, x 10, x 11, x 12, x 13, x 14, x 15]] w (BoolIfB w (FewC a ∧ FewC b)) := by
  obtain ⟨ha, hb⟩ := h
  have HA : Hid (∀ W, Below w.heap.size w W → Calls Tryz.prog 40 #[x 3] W (BoolIf W (FewC a))) := fun W g => rfewr_any (x 3) a W (ha.below g)
  have HB : Hid (∀ W, Below w.heap.size w W → Calls Tryz.prog 40 #[x 4] W (BoolIf W (FewC b))) := fun W g => rfewr_any (x 4) b W (hb.below g)
  obtain ⟨ad3, c3, _, _, _, hv3, _, _, _, _, _⟩ := ha
  obtain ⟨ad4, c4, _, _, _, hv4, _, _, _, _, _⟩ := hb
  rw [Hid, hv3] at HA
  rw [Hid, hv4] at HB
  replace HA := Lib.hid HA
  replace HB := Lib.hid HB
  rw [hv3, hv4]
  clear hv3 hv4
  generalize a.length = n3 at *
  generalize b.length = n4 at *
  generalize x 0 = x0 at *
  generalize x 1 = x1 at *
  generalize x 2 = x2 at *
  generalize x 5 = x5 at *
  generalize x 6 = x6 at *
  generalize x 7 = x7 at *
  generalize x 8 = x8 at *
  generalize x 9 = x9 at *
  generalize x 10 = x10 at *
  generalize x 11 = x11 at *
  generalize x 12 = x12 at *
  generalize x 13 = x13 at *
  generalize x 14 = x14 at *
  generalize x 15 = x15 at *
  go_enter Tryz.func18, Tryz.ntmps18
  go_wp2_with fail
  refine (HA.out _ ((Below.refl _ _).alloc (Nat.le_refl _) _)).mono ?_
  rintro e _ ⟨q, rfl, rfl, hq⟩
  cases q with
  | false =>
    go_wp2_with fail
    go_ret
    exact ⟨false, rfl, (Below.refl _ _).alloc (Nat.le_refl _) _, fun h => by cases h⟩
  | true =>
    have HQ := Lib.hid (hq rfl)
    clear hq
    go_wp2_with fail
    refine (HB.out _ ((Below.refl _ _).alloc (Nat.le_refl _) _)).mono ?_
    rintro e _ ⟨q, rfl, rfl, hq⟩
    have HQ2 := Lib.hid hq
    clear hq
    go_wp2_with fail
    go_ret
    exact ⟨q, rfl, (Below.refl _ _).alloc (Nat.le_refl _) _, fun h => ⟨HQ.out, HQ2.out h⟩⟩
end Go.Proofs.YtadhblppeaamlaaGreatDoor
/- A region that draws its order: first reads and calls that make memory at most, then a chain of any operations: one walk, in the order of the text. -/
namespace Go.Proofs.YtadhblppeaamlaaGreatDoor
open Go.RowKit

section
variable {P : Program} {ops : Array Oper} {md : Region.Mode} {C : World → Prop}

def wpAnyLQ (P : Program) (md : Region.Mode) (ops : Array Oper) (C : World → Prop) (n : Nat) (L : Array Bool → Act → Prop) : Nat → Array Bool → Act → Prop
  | 0, listed, a => L listed a
  | f + 1, listed, a =>
    Region.ready md ops listed ≠ [] ∧ ∀ i ∈ Region.ready md ops listed, i < n ∧ qOp P ops C i (wpAnyLQ P md ops C n L f (listed.setIfInBounds i true)) a

theorem wpAny_of_headQ {n g : Nat} {L : Array Bool → Act → Prop} {Q' : Exit → Act → World → Prop} (hL : ∀ listed a w, C w → L listed a → wpAny P md ops Q' g listed a w) :
    ∀ (f : Nat) (listed : Array Bool) (a : Act) (w : World), C w → wpAnyLQ P md ops C n L f listed a → wpAny P md ops Q' (f + g) listed a w
  | 0, listed, a, w, hC, h => by rw [Nat.zero_add]; exact hL _ _ _ hC h
  | f + 1, listed, a, w, hC, h => by
    rw [show f + 1 + g = (f + g) + 1 by omega]
    exact ⟨fun h0 => absurd h0 h.1, fun i hi => wpOp_of_qOp hC (fun a' w' hC' h' => wpAny_of_headQ hL f _ a' w' hC' h') (h.2 i hi).2⟩

theorem wpAnyLQ_first {n i : Nat} {oi : Oper} {v : Value} {L : Array Bool → Act → Prop} (hi : ops[i]? = some oi) (hsel : ∀ (j : Nat) (o : Oper) cs b, ops[j]? = some o → o.op ≠ .select cs b)
    (hs : Region.sinkB md ops n = true) (hc : Region.chainB md ops n = true) (hn : n < ops.size) (hin : i < n)
    (hdone : ∀ listed a, L listed a → ∀ j ∈ Region.ready md ops listed, n ≤ j) :
    ∀ (f : Nat) (listed : Array Bool) (a : Act), HeadInv md ops n listed →
      (∀ j oj, ops[j]? = some oj → j ≠ i → listed.getD j true = false → (∀ e ∈ oj.after, Region.binds md e = true → e.on ≠ i) → oi.apart ops oj = true) →
      i ∈ Region.ready md ops listed → YieldsIn P ops C oi v a →
      wpAnyLQ P md ops C n L f (listed.setIfInBounds i true) (a.put oi.dst v) → wpAnyLQ P md ops C n L (f + 1) listed a := by
  intro f
  induction f with
  | zero =>
    intro listed a inv _ hr hy H
    have hun := (mem_ready.1 hr).1
    refine ⟨fun h => (by rw [h] at hr; cases hr), fun j hj => ?_⟩
    have hjn : j < n := by
      rcases Nat.lt_or_ge j n with h | h
      · exact h
      · exact absurd hj (tail_waits hs hc hn inv _ i rfl hin hun j h)
    refine ⟨hjn, ?_⟩
    by_cases hji : j = i
    · subst hji; exact hy.qOp hi H
    · have := hdone _ _ H j (ready_mono hj hji)
      omega
  | succ f ih =>
    intro listed a inv hfree hr hy H
    have hun := (mem_ready.1 hr).1
    refine ⟨fun h => (by rw [h] at hr; cases hr), fun j hj => ?_⟩
    have hjn : j < n := by
      rcases Nat.lt_or_ge j n with h | h
      · exact h
      · exact absurd hj (tail_waits hs hc hn inv _ i rfl hin hun j h)
    refine ⟨hjn, ?_⟩
    by_cases hji : j = i
    · subst hji; exact hy.qOp hi H
    · have h1 := (H.2 j (ready_mono hj hji)).2
      obtain ⟨hjun, oj, hoj, hall⟩ := mem_ready.1 hj
      have hnot : ∀ e ∈ oj.after, Region.binds md e = true → e.on ≠ i := fun e he hb heq => by
        have h1 := hall e he hb
        rw [heq, getD_both hun] at h1
        cases h1
      have h2 := qOp_put hoj (hfree j oj hoj hji hjun hnot) (fun cs b => hsel i oi cs b hi) (fun cs b => hsel j oj cs b hoj) hy h1
      have hfree' : ∀ k ok, ops[k]? = some ok → k ≠ i → (listed.setIfInBounds j true).getD k true = false →
          (∀ e ∈ ok.after, Region.binds md e = true → e.on ≠ i) → oi.apart ops ok = true := fun k ok hk hki hun hno => by
        refine hfree k ok hk hki ?_ hno
        by_cases hjk : j = k
        · subst hjk; exact hjun
        · rw [getD_set_ne true hjk] at hun; exact hun
      refine qOp_mono (fun a' h3 => ih (listed.setIfInBounds j true) a' (inv.set hj hjn) hfree' (ready_mono hr (Ne.symm hji)) h3.1 ?_) h2
      rw [Array.setIfInBounds_comm _ _ hji]
      exact h3.2

theorem seqB_readyQ {g k : Nat} {listed : Array Bool} (h : Region.seqB md ops g k listed = true) : ∀ j ∈ Region.ready md ops listed, k ≤ j := seqB_ready h

theorem wpAnyLQ_lex {n g : Nat} {Lq : Act → Prop} (hsel : Region.noSelect ops = true) (hs : Region.sinkB md ops n = true) (hc : Region.chainB md ops n = true) (hn : n < ops.size) :
    ∀ (l : List Oper) (k : Nat) (listed : Array Bool) (a : Act), (∀ j, j < l.length → l[j]? = ops[k + j]?) → k + l.length = n → HeadInv md ops n listed →
    Region.lexHead md ops g l.length k listed = true → wpQuiet P ops C Lq l a →
    wpAnyLQ P md ops C n (fun listed' a' => Region.seqB md ops g n listed' = true ∧ Lq a') l.length listed a
  | [], k, listed, a, _, hk, _, hB, h => by
    have : k = n := by simpa using hk
    subst this
    exact ⟨by simpa [Region.lexHead] using hB, h⟩
  | o :: l, k, listed, a, hl, hk, inv, hB, h => by
    have h0 : ops[k]? = some o := by simpa using (hl 0 (by simp)).symm
    simp only [List.length_cons, Region.lexHead, Bool.and_eq_true] at hB
    obtain ⟨⟨hr, hf⟩, hB'⟩ := hB
    have hkn : k < n := by simp only [List.length_cons] at hk; omega
    have hr' : k ∈ Region.ready md ops listed := by simpa using hr
    have hst : qOp P ops C k (wpQuiet P ops C Lq l) a := by unfold qOp; simp only [h0]; exact h
    obtain ⟨v, hy, hK⟩ := yieldsIn_of_qOp h0 hst
    exact wpAnyLQ_first h0 (Region.noSelect_spec hsel) hs hc hn hkn (fun listed' a' hL => seqB_ready hL.1) l.length listed a inv (Region.free_spec h0 hf) hr' hy
      (wpAnyLQ_lex hsel hs hc hn l (k + 1) _ _ (fun j hj => by have := hl (j + 1) (by simp; omega); simpa [Nat.add_assoc, Nat.add_comm 1 j] using this) (by simp only [List.length_cons] at hk; omega) (inv.set hr' hkn) hB' hK)

theorem wp_region_quiet_tail {id : Nat} {Q : Exit → Act → World → Prop} {a : Act} {w : World} {l : List Oper} (n : Nat) (hm : P.follows .mixedOrders = true) (hB : Region.lexTailB .any l.toArray n = true) (hC : C { w with drawn := w.drawn + 1 })
    (h : wpQuiet P l.toArray C (fun a' => ∀ w', C w' → wpList P l.toArray Q (l.drop n) a' w') (l.take n) a) : (Code.region id l.toArray true).wp P Q a w := by
  simp only [Region.lexTailB, Bool.and_eq_true, decide_eq_true_eq] at hB
  obtain ⟨⟨⟨⟨hsel, hn⟩, hs⟩, hc⟩, hlex⟩ := hB
  have hn' : n < l.length := by simpa using hn
  have htl : (l.take n).length = n := by simp; omega
  have hdl : (l.drop n).length = l.toArray.size - n := by simp
  have inv0 : HeadInv .any l.toArray n (Array.replicate l.toArray.size false) :=
    ⟨by simp, fun j oj _ hl => (by rw [getD_replicate_false] at hl; cases hl), fun t _ ht => getD_in (by simpa using ht) (getD_replicate_false _ _)⟩
  have H := wpAnyLQ_lex (C := C) (md := .any) (g := l.toArray.size - n) hsel hs hc hn (l.take n) 0 _ a (fun j hj => by
    have hj' : j < n := by rw [htl] at hj; exact hj
    simp [hj']) (by simpa using htl) inv0 (by rw [htl]; exact hlex) h
  refine wp_region_any hm ?_
  have := wpAny_of_headQ (Q' := Q) (g := l.toArray.size - n) (fun listed a' w' hCw hL => by
    have := wpAny_of_seq (md := .any) (Q' := Q) (l.drop n) n listed a' w' (fun j => by simp [List.getElem?_drop]) (by rw [hdl]; exact hL.1) (hL.2 w' hCw)
    rwa [hdl] at this) _ _ _ _ hC H
  rw [htl, show n + (l.toArray.size - n) = l.toArray.size by omega] at this
  exact this

/-- the same, where the calls make memory at most -/
theorem wp_region_ext_tail {id : Nat} {Q : Exit → Act → World → Prop} {a : Act} {w : World} {l : List Oper} (n : Nat) (hm : P.follows .mixedOrders = true) (hB : Region.lexTailB .any l.toArray n = true)
    (h : wpQuiet P l.toArray (fun w' => ∃ e : Ext w, w' = e.1) (fun a' => ∀ w', (∃ e : Ext w, w' = e.1) → wpList P l.toArray Q (l.drop n) a' w') (l.take n) a) : (Code.region id l.toArray true).wp P Q a w :=
  wp_region_quiet_tail (C := fun w' => ∃ e : Ext w, w' = e.1) n hm hB ⟨⟨_, (Below.refl _ w).drew⟩, rfl⟩ h
end
end Go.Proofs.YtadhblppeaamlaaGreatDoor
/- Walks: the keys that a value wants; the key that is chosen. -/
namespace Go.Proofs.YtadhblppeaamlaaGreatDoor
open Go.RowKit
attribute [local go_sem] Ext.cell Ext.frozen
attribute [local go_sem ↓] Go.wp_at_zero Go.wp_at_succ

theorem wpQuiet_load {P : Program} {ops : Array Oper} {C : World → Prop} {Q : Act → Prop} {o : Oper} {rest : List Oper} {a : Act} (ty : TypeId) (x : Operand) (ho : o.op = .load ty x) (hgd : o.guard = none) (p : Addr)
    (hx : a.eval x = .pointer (some p)) (v : Value) (hl : ∀ w, C w → (loadVar ty p).run P w = .ok v w) (h : wpQuiet P ops C Q rest (a.put o.dst v)) : wpQuiet P ops C Q (o :: rest) a := by
  refine BigFrame.wpQuiet_want (by simp [Region.wanted, hgd]) ?_
  intro K hK
  refine ⟨v, fun w hC => ?_, hK _ h⟩
  show Oper.quietUpon P C w v ((execOp a.eval o).run P w)
  unfold execOp
  simp only [ho, hx, Instr.loadAt, Instr.sureAddr, Sem.run_bind, Sem.run_pure, Result.andThen_ok, hl w hC]
  exact ⟨rfl, rfl⟩
/-- a slice of strings of the call's own -/
def WantP (w : World) (l : List ByteArray) (e : Ending) (w' : World) : Prop := ∃ ad n c, e = .returned (.slice ad n c) ∧ Sl w' ad n (strs l) ∧ Below w.heap.size w w'
theorem sl_madeAt (w : World) (l : List Value) (e : TypeId) (B : Nat) (hB : B = w.heap.size) (hl : l.length ≤ 9223372036854775807) : Sl (w.alloc (.cells l.toArray e)) (some ⟨B, 0, none⟩) l.length l := by
  subst hB
  exact sl_made w l e hl
theorem two_le (a b : ByteArray) : (strs [a, b]).length ≤ 9223372036854775807 := Nat.le_of_ble_eq_true rfl
theorem three_le (a b c : ByteArray) : (strs [a, b, c]).length ≤ 9223372036854775807 := Nat.le_of_ble_eq_true rfl
theorem few_rules {a b : List (ByteArray × List (List Rel))} (ha : FewC a) (hb : FewC b) (kind : Int) : FewC (rulesV kind a b) := by
  unfold rulesV
  split
  · exact ha
  · split
    · exact hb
    · exact fun r hr => absurd hr List.not_mem_nil
set_option maxRecDepth 20000 in
set_option maxHeartbeats 4000000 in
theorem wanted_any (x y : Nat → Value) (a b : List (ByteArray × List (List Rel))) (kind : Int) (v : Vl) (w : World) (h : LocC w x a b) (hv : ValC w y v) (ha : FewC a) (hb : FewC b) (hs : v.tx.size ≤ 1000) :
    Calls Tryz.prog 54 #[.agg #[x 0, x 1, x 2, x 3, x 4, x 5, x 6, x 7, x 8, x 9, x 10, x 11, x 12, x 13, x 14, x 15], .int .i64 kind, .agg #[y 0, y 1, y 2, y 3, y 4]] w (WantP w (wantV kind (rulesV kind a b) v.tx)) := by
  have y2 := hv.2.2.2.1
  clear hv
  by_cases h9 : kind = 9
  · have HO : Hid (wantV kind (rulesV kind a b) v.tx = [v.tx, otherB]) := if_pos h9
    rw [HO.out, y2]
    subst h9
    clear HO h hs y2
    generalize v.tx = tx at *
    generalize x 0 = x0 at *
    generalize x 1 = x1 at *
    generalize x 2 = x2 at *
    generalize x 3 = x3 at *
    generalize x 4 = x4 at *
    generalize x 5 = x5 at *
    generalize x 6 = x6 at *
    generalize x 7 = x7 at *
    generalize x 8 = x8 at *
    generalize x 9 = x9 at *
    generalize x 10 = x10 at *
    generalize x 11 = x11 at *
    generalize x 12 = x12 at *
    generalize x 13 = x13 at *
    generalize x 14 = x14 at *
    generalize x 15 = x15 at *
    generalize y 0 = y0 at *
    generalize y 1 = y1 at *
    generalize y 3 = y3 at *
    generalize y 4 = y4 at *
    go_enter Tryz.func54, Tryz.ntmps54
    go_wp2_with fail
    go_ret
    exact ⟨_, _, _, rfl, sl_madeAt _ (strs [tx, otherB]) _ _ (by simp) (two_le _ _), by show Bel w _; repeat (first | exact Bel.refl _ | refine Bel.drew ?_ | refine Bel.drewN ?_ _ | refine Bel.alloc ?_ _ | refine Bel.ext ?_ _)⟩
  · have HO : Hid (wantV kind (rulesV kind a b) v.tx = [bs (61 :: v.tx.data.toList), (classV (rulesV kind a b) v.tx.data.toList).1, otherB]) := if_neg h9
    rw [HO.out, y2]
    have e9 : (kind == 9) = false := by rw [beq_eq_false_iff_ne]; exact h9
    have HR : Hid (∀ W, Calls Tryz.prog 26 #[.agg #[x 0, x 1, x 2, x 3, x 4, x 5, x 6, x 7, x 8, x 9, x 10, x 11, x 12, x 13, x 14, x 15], .int .i64 kind] W fun e w' => e = .returned (valR x kind) ∧ Below W.heap.size W w') := fun W => crules_any x kind W
    have HC : Hid (∀ W, Below w.heap.size w W → Calls Tryz.prog 39 #[valR x kind, .string v.tx] W fun e w' => e = .returned (.tuple #[.string (classV (rulesV kind a b) v.tx.data.toList).1, .int .i64 ((classV (rulesV kind a b) v.tx.data.toList).2 : Nat)]) ∧ Below W.heap.size W w') := fun W g => pclass_any _ _ v.tx W ((rules_at h kind).below g) (few_rules ha hb kind) hs
    have HEQ : Hid ((⟨#[61]⟩ : ByteArray) ++ v.tx = bs (61 :: v.tx.data.toList)) := by
      have := bs_append [61] v.tx.data.toList
      rw [bs_self] at this
      exact this
    have aa := fun w => run_string_add_sum (P := Tryz.prog) (w := w) ⟨#[61]⟩ v.tx (by rw [show (⟨#[61]⟩ : ByteArray).size = 1 from rfl]; omega)
    clear HO h hs y2 h9 ha hb
    generalize classV (rulesV kind a b) v.tx.data.toList = cv at *
    obtain ⟨cl, er⟩ := cv
    simp only at HC ⊢
    rw [← HEQ.out]
    generalize valR x kind = vr at *
    clear HEQ
    generalize v.tx = tx at *
    generalize x 0 = x0 at *
    generalize x 1 = x1 at *
    generalize x 2 = x2 at *
    generalize x 3 = x3 at *
    generalize x 4 = x4 at *
    generalize x 5 = x5 at *
    generalize x 6 = x6 at *
    generalize x 7 = x7 at *
    generalize x 8 = x8 at *
    generalize x 9 = x9 at *
    generalize x 10 = x10 at *
    generalize x 11 = x11 at *
    generalize x 12 = x12 at *
    generalize x 13 = x13 at *
    generalize x 14 = x14 at *
    generalize x 15 = x15 at *
    generalize y 0 = y0 at *
    generalize y 1 = y1 at *
    generalize y 3 = y3 at *
    generalize y 4 = y4 at *
    go_enter Tryz.func54, Tryz.ntmps54
    go_wp2_with fail
    refine wp_at_worldT ?_
    intro W hW
    have HBW : Hid (Below w.heap.size w W) := by rw [hW]; show Bel w _; repeat (first | exact Bel.refl _ | refine Bel.drew ?_ | refine Bel.drewN ?_ _ | refine Bel.alloc ?_ _ | refine Bel.ext ?_ _)
    have HRW : Hid (W.heap[w.heap.size]? = some (.cells #[x0, x1, x2, x3, x4, x5, x6, x7, x8, x9, x10, x11, x12, x13, x14, x15] 30 (0, 0))) := by
      rw [hW]
      show ((w.heap.push _).push _)[w.heap.size]? = _
      rw [Array.getElem?_push, if_neg (by simp), Array.getElem?_push, if_pos (by simp)]
    have k2 : W.cell? ⟨w.heap.size + 1, 2, none⟩ = some (.string tx) := by rw [hW]; simp [go_sem]
    have hwz : w.heap.size + 1 < W.heap.size := by rw [hW]; simp
    clear hW
    have HLD : Hid (∀ w', (∃ x : Ext W, w' = x.1) → (loadVar 30 ⟨w.heap.size, 0, none⟩).run Tryz.prog w' = .ok (.agg #[x0, x1, x2, x3, x4, x5, x6, x7, x8, x9, x10, x11, x12, x13, x14, x15]) w') := by
      rintro _ ⟨x, rfl⟩
      refine run_loadVar_row x.1 w.heap.size 30 30 _ (0, 0) _ ?_ Tryz.underlying30 rfl (by kernel_rfl)
      rw [x.2.block _ (by omega)]
      exact HRW.out
    refine wp_region_ext (by kernel_rfl) (by kernel_rfl) ?_
    refine wpQuiet_load 30 (.tmp 3) rfl rfl ⟨w.heap.size, 0, none⟩ rfl _ HLD.out ?_
    simp only [Act.put, List.setIfInBounds_toArray, List.set_cons_succ, List.set_cons_zero]
    repeat (go_big_quiet_step (first | (go_at_call 26; exact Calls.ext (HR.out _)) | (go_at_call 39; refine Calls.ext (HC.out _ ?_); show Bel w _; exact Bel.ext HBW.out _)))
    refine wpQuiet_nil ?_
    intro _ hw'
    obtain ⟨X9, hw''⟩ := hw'
    subst hw''
    have HX9 : Hid (Below w.heap.size w X9.1) := Bel.ext HBW.out _
    go_wp2_with fail
    go_ret
    exact ⟨_, _, _, rfl, sl_made _ (strs [⟨#[61]⟩ ++ tx, cl, otherB]) _ (three_le _ _ _), Bel.alloc HX9.out _⟩
set_option maxRecDepth 20000 in
set_option maxHeartbeats 4000000 in
theorem rwanted_any (x y : Nat → Value) (a b : List (ByteArray × List (List Rel))) (kind : Int) (v : Vl) (w : World) (h : LocC w x a b) (hv : ValC w y v) (ha : FewC a) (hb : FewC b) (hs : v.tx.size ≤ 1000) :
    Calls Tryz.prog 35 #[.agg #[x 0, x 1, x 2, x 3, x 4, x 5, x 6, x 7, x 8, x 9, x 10, x 11, x 12, x 13, x 14, x 15], .int .i64 kind, .agg #[y 0, y 1, y 2, y 3, y 4]] w (WantP w (wantV kind (rulesV kind a b) v.tx)) := by
  have y2 := hv.2.2.2.1
  clear hv
  by_cases h9 : kind = 9
  · have HO : Hid (wantV kind (rulesV kind a b) v.tx = [v.tx, otherB]) := if_pos h9
    rw [HO.out, y2]
    subst h9
    clear HO h hs y2
    generalize v.tx = tx at *
    generalize x 0 = x0 at *
    generalize x 1 = x1 at *
    generalize x 2 = x2 at *
    generalize x 3 = x3 at *
    generalize x 4 = x4 at *
    generalize x 5 = x5 at *
    generalize x 6 = x6 at *
    generalize x 7 = x7 at *
    generalize x 8 = x8 at *
    generalize x 9 = x9 at *
    generalize x 10 = x10 at *
    generalize x 11 = x11 at *
    generalize x 12 = x12 at *
    generalize x 13 = x13 at *
    generalize x 14 = x14 at *
    generalize x 15 = x15 at *
    generalize y 0 = y0 at *
    generalize y 1 = y1 at *
    generalize y 3 = y3 at *
    generalize y 4 = y4 at *
    go_enter Tryz.func35, Tryz.ntmps35
    go_wp2_with fail
    go_ret
    exact ⟨_, _, _, rfl, sl_madeAt _ (strs [tx, otherB]) _ _ (by simp) (two_le _ _), by show Bel w _; repeat (first | exact Bel.refl _ | refine Bel.drew ?_ | refine Bel.drewN ?_ _ | refine Bel.alloc ?_ _ | refine Bel.ext ?_ _)⟩
  · have HO : Hid (wantV kind (rulesV kind a b) v.tx = [bs (61 :: v.tx.data.toList), (classV (rulesV kind a b) v.tx.data.toList).1, otherB]) := if_neg h9
    rw [HO.out, y2]
    have e9 : (kind == 9) = false := by rw [beq_eq_false_iff_ne]; exact h9
    have HR : Hid (∀ W, Calls Tryz.prog 32 #[.agg #[x 0, x 1, x 2, x 3, x 4, x 5, x 6, x 7, x 8, x 9, x 10, x 11, x 12, x 13, x 14, x 15], .int .i64 kind] W fun e w' => e = .returned (valR x kind) ∧ Below W.heap.size W w') := fun W => rcrules_any x kind W
    have HC : Hid (∀ W, Below w.heap.size w W → Calls Tryz.prog 43 #[valR x kind, .string v.tx] W fun e w' => e = .returned (.tuple #[.string (classV (rulesV kind a b) v.tx.data.toList).1, .int .i64 ((classV (rulesV kind a b) v.tx.data.toList).2 : Nat)]) ∧ Below W.heap.size W w') := fun W g => rclassr_any _ _ v.tx W ((rules_at h kind).below g) (few_rules ha hb kind) hs
    have HEQ : Hid ((⟨#[61]⟩ : ByteArray) ++ v.tx = bs (61 :: v.tx.data.toList)) := by
      have := bs_append [61] v.tx.data.toList
      rw [bs_self] at this
      exact this
    have aa := fun w => run_string_add_sum (P := Tryz.prog) (w := w) ⟨#[61]⟩ v.tx (by rw [show (⟨#[61]⟩ : ByteArray).size = 1 from rfl]; omega)
    clear HO h hs y2 h9 ha hb
    generalize classV (rulesV kind a b) v.tx.data.toList = cv at *
    obtain ⟨cl, er⟩ := cv
    simp only at HC ⊢
    rw [← HEQ.out]
    generalize valR x kind = vr at *
    clear HEQ
    generalize v.tx = tx at *
    generalize x 0 = x0 at *
    generalize x 1 = x1 at *
    generalize x 2 = x2 at *
    generalize x 3 = x3 at *
    generalize x 4 = x4 at *
    generalize x 5 = x5 at *
    generalize x 6 = x6 at *
    generalize x 7 = x7 at *
    generalize x 8 = x8 at *
    generalize x 9 = x9 at *
    generalize x 10 = x10 at *
    generalize x 11 = x11 at *
    generalize x 12 = x12 at *
    generalize x 13 = x13 at *
    generalize x 14 = x14 at *
    generalize x 15 = x15 at *
    generalize y 0 = y0 at *
    generalize y 1 = y1 at *
    generalize y 3 = y3 at *
    generalize y 4 = y4 at *
    go_enter Tryz.func35, Tryz.ntmps35
    go_wp2_with fail
    refine wp_at_worldT ?_
    intro W hW
    have HBW : Hid (Below w.heap.size w W) := by rw [hW]; show Bel w _; repeat (first | exact Bel.refl _ | refine Bel.drew ?_ | refine Bel.drewN ?_ _ | refine Bel.alloc ?_ _ | refine Bel.ext ?_ _)
    have HRW : Hid (W.heap[w.heap.size]? = some (.cells #[x0, x1, x2, x3, x4, x5, x6, x7, x8, x9, x10, x11, x12, x13, x14, x15] 30 (0, 0))) := by
      rw [hW]
      show ((w.heap.push _).push _)[w.heap.size]? = _
      rw [Array.getElem?_push, if_neg (by simp), Array.getElem?_push, if_pos (by simp)]
    have k2 : W.cell? ⟨w.heap.size + 1, 2, none⟩ = some (.string tx) := by rw [hW]; simp [go_sem]
    have hwz : w.heap.size + 1 < W.heap.size := by rw [hW]; simp
    clear hW
    have HLD : Hid (∀ w', (∃ x : Ext W, w' = x.1) → (loadVar 30 ⟨w.heap.size, 0, none⟩).run Tryz.prog w' = .ok (.agg #[x0, x1, x2, x3, x4, x5, x6, x7, x8, x9, x10, x11, x12, x13, x14, x15]) w') := by
      rintro _ ⟨x, rfl⟩
      refine run_loadVar_row x.1 w.heap.size 30 30 _ (0, 0) _ ?_ Tryz.underlying30 rfl (by kernel_rfl)
      rw [x.2.block _ (by omega)]
      exact HRW.out
    refine wp_region_ext (by kernel_rfl) (by kernel_rfl) ?_
    refine wpQuiet_load 30 (.tmp 3) rfl rfl ⟨w.heap.size, 0, none⟩ rfl _ HLD.out ?_
    simp only [Act.put, List.setIfInBounds_toArray, List.set_cons_succ, List.set_cons_zero]
    repeat (go_big_quiet_step (first | (go_at_call 32; exact Calls.ext (HR.out _)) | (go_at_call 43; refine Calls.ext (HC.out _ ?_); show Bel w _; exact Bel.ext HBW.out _)))
    refine wpQuiet_nil ?_
    intro _ hw'
    obtain ⟨X9, hw''⟩ := hw'
    subst hw''
    have HX9 : Hid (Below w.heap.size w X9.1) := Bel.ext HBW.out _
    go_wp2_with fail
    go_ret
    exact ⟨_, _, _, rfl, sl_made _ (strs [⟨#[61]⟩ ++ tx, cl, otherB]) _ (three_le _ _ _), Bel.alloc HX9.out _⟩
end Go.Proofs.YtadhblppeaamlaaGreatDoor
