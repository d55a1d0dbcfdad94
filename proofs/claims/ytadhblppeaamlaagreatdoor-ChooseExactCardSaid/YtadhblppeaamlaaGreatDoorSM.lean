/- Walks over a condition in the reference: whether it is valid, whether it holds. -/
import Derived.Test.YtadhblppeaamlaaGreatDoorSK
namespace Go.Proofs.YtadhblppeaamlaaGreatDoor
open Go.RowKit
attribute [local go_sem] Ext.cell Ext.frozen
attribute [local go_sem ↓] Go.wp_at_zero Go.wp_at_succ

theorem listOk_ne {l : List Rel} (h0 : l.length ≠ 0) : listOk l = l.all properV := by
  unfold listOk
  cases l with
  | nil => exact absurd rfl h0
  | cons a r => rfl
set_option maxRecDepth 20000 in
set_option maxHeartbeats 4000000 in
theorem rcvalid_any (v : Value) (l : List (List Rel)) (w : World) (h : CondAt w v l) (hl : l.length ≤ 30) : Calls Tryz.prog 58 #[v] w fun e w' => e = .returned (.bool (validC l)) ∧ Below w.heap.size w w' := by
  obtain ⟨ad, c, f, b, off, rfl, hr, _, _, _, hf⟩ := h
  obtain ⟨n, hn⟩ : ∃ n, l.length = n := ⟨_, rfl⟩
  rw [hn] at hr hl ⊢
  have hbig : ∀ k, k ≤ n → relN (l.take k) ≤ 30 * 140737488351232 := fun k hk => by
    have h1 := relN_le (c := l.take k) (M := 140737488351232) fun x hx => by
      obtain ⟨i, hi⟩ := List.getElem?_of_mem (List.mem_of_mem_take hx)
      obtain ⟨_, _, _, _, _, _, _, _, _, h5, _⟩ := hf i x hi
      exact h5
    rw [List.length_take] at h1
    exact Nat.le_trans h1 (Nat.mul_le_mul_right _ (by omega))
  have HN := Lib.hid hn
  have HR := Lib.hid hr
  have HF := Lib.hid hf
  have HBG := Lib.hid hbig
  clear hr hf hn hbig
  obtain ⟨q, hq⟩ : ∃ q, validC l = q := ⟨_, rfl⟩
  rw [hq]
  have HQ := Lib.hid hq
  clear hq
  go_enter Tryz.func58, Tryz.ntmps58
  go_wp2_with fail
  go_loopw [3, 4] (fun u v wr => ∃ k : Nat, v = .int .i64 (k : Int) ∧ k ≤ n ∧ u = .int .i64 (relN (l.take k) : Nat) ∧ (∀ i, i < k → listOk (l.getD i []) = true) ∧ Below w.heap.size w wr) (fun _ v _ => n - (intOf v).toNat)
  case atStart => exact ⟨0, rfl, Nat.zero_le _, rfl, fun i hi => absurd hi (Nat.not_lt_zero _), Below.refl _ _⟩
  case round =>
    obtain ⟨wo, rfl⟩ : ∃ wo : World, wo = wr := ⟨_, rfl⟩
    obtain ⟨k, rfl, hkn, rfl, hal, hbl⟩ := hrel
    have HAL := Lib.hid hal
    have HBL := Lib.hid hbl
    have hzr := hbl.size
    clear hal hbl
    by_cases hlt : k < n
    · have hrr := HR.out.below HBL.out
      have hix := fun W => hrr.ix 78 94 Tryz.underlying78 (by kernel_rfl) (by omega) hlt c W
      rw [Nat.mul_one] at hix
      have c0 : wo.cell? ⟨b, off + k * 1, none⟩ = some (f k 0) := hrr.cell k 0 hlt (by omega)
      rw [Nat.mul_one] at c0
      have hk0 : k < l.length := by rw [HN.out]; exact hlt
      obtain ⟨ad2, c2, f2, b2, off2, hv2, hr2, _, _, hm5, hf2⟩ := (RowsOf.get HF.out hk0 [] : RelsC w (f k) _).below HBL.out
      rw [hv2] at c0
      have hbg := HBG.out (k + 1) hlt
      rw [relN_getD hk0] at hbg
      have HEQ : Hid (relN (l.take (k + 1)) = relN (l.take k) + (l.getD k []).length) := relN_getD hk0
      have HNO : Hid (listOk (l.getD k []) = false → q = false) := fun h => HQ.out.symm.trans (validC_no hk0 h)
      have HYES : Hid (listOk (l.getD k []) = true → ∀ i, i < k + 1 → listOk (l.getD i []) = true) := fun h i hi => by
        by_cases e : i = k
        · subst e; exact h
        · exact HAL.out i (by omega)
      clear hrr hk0 hv2
      generalize l.getD k [] = ls at *
      obtain ⟨m, hm⟩ : ∃ m, ls.length = m := ⟨_, rfl⟩
      rw [hm] at hr2 c0 hbg hm5
      rw [Hid, hm] at HEQ
      replace HEQ := Lib.hid HEQ
      have HM := Lib.hid hm
      have HR2 := Lib.hid hr2
      have HF2 := Lib.hid hf2
      have C0 := Lib.hid c0
      have hbz : b < wo.heap.size := World.block_lt_of_cell? _ _ c0
      clear hm hr2 hf2
      generalize relN (l.take k) = s at *
      by_cases h0 : m = 0
      · subst h0
        have HO := Lib.hid (HNO.out (by unfold listOk; rw [List.length_eq_zero_iff.1 HM.out]; rfl))
        clear HNO HYES
        go_wp2_with fail
        go_ret
        exact ⟨by rw [HO.out]; rfl, HBL.out⟩
      · have h1 : ¬ ((m : Int) = 0) := by omega
        have e0 : ((m : Int) == 0) = false := by rw [beq_eq_false_iff_ne]; exact h1
        have HE : Hid (listOk ls = ls.all properV) := listOk_ne (by rw [HM.out]; exact h0)
        rw [Hid, HE.out] at HNO HYES
        replace HNO := Lib.hid HNO
        replace HYES := Lib.hid HYES
        clear HE c0
        have c0 := C0.out
        go_wp2_with fail
        go_loopw [3, 5] (fun u v wi => ∃ j : Nat, v = .int .i64 (j : Int) ∧ j ≤ m ∧ u = .int .i64 ((s + j : Nat) : Int) ∧ (∀ i, i < j → properV (ls.getD i ⟨0, 0, false, []⟩) = true) ∧ Below wo.heap.size wo wi) (fun _ v _ => m - (intOf v).toNat)
        case atStart => exact ⟨0, rfl, Nat.zero_le _, rfl, fun i hi => absurd hi (Nat.not_lt_zero _), Below.refl _ _⟩
        case round =>
          obtain ⟨wi, rfl⟩ : ∃ wi : World, wi = wr := ⟨_, rfl⟩
          obtain ⟨j, rfl, hjm, rfl, hal2, hbi⟩ := hrel
          have HAL2 := Lib.hid hal2
          have HBI := Lib.hid hbi
          have HBZ : Hid (Below w.heap.size w wi) := HBL.out.trans (hbi.mono hzr)
          have ci : wi.cell? ⟨b, off + k, none⟩ = some (.slice ad2 m c2) := (hbi.cell (p := ⟨b, off + k, none⟩) hbz).trans C0.out
          clear hal2 hbi c0
          by_cases hlt2 : j < m
          · have hr2 := HR2.out.below HBI.out
            have hix2 := fun W => hr2.ix 94 93 Tryz.underlying94 (by kernel_rfl) (by omega) hlt2 c2 W
            have d0 : wi.cell? ⟨b2, off2 + j * 4, none⟩ = some (f2 j 0) := hr2.cell j 0 hlt2 (by omega)
            have d1 : wi.cell? ⟨b2, off2 + j * 4 + 1, none⟩ = some (f2 j 1) := hr2.cell j 1 hlt2 (by omega)
            have d2 : wi.cell? ⟨b2, off2 + j * 4 + 2, none⟩ = some (f2 j 2) := hr2.cell j 2 hlt2 (by omega)
            have d3 : wi.cell? ⟨b2, off2 + j * 4 + 3, none⟩ = some (f2 j 3) := hr2.cell j 3 hlt2 (by omega)
            have hj0 : j < ls.length := by rw [HM.out]; exact hlt2
            have hre := (RowsOf.get HF2.out hj0 ⟨0, 0, false, []⟩).below HBI.out
            have HP := Lib.hid (rproper_any (f2 j) _ wi hre)
            have HNO2 : Hid (properV (ls.getD j ⟨0, 0, false, []⟩) = false → q = false) := fun h => HNO.out (all_not _ hj0 h)
            have HYES2 : Hid (properV (ls.getD j ⟨0, 0, false, []⟩) = true → ∀ i, i < j + 1 → properV (ls.getD i ⟨0, 0, false, []⟩) = true) := fun h i hi => by
              by_cases e : i = j
              · subst e; exact h
              · exact HAL2.out i (by omega)
            clear hre hr2 hj0
            generalize properV (ls.getD j ⟨0, 0, false, []⟩) = pv at *
            generalize f2 j 0 = y0 at *
            generalize f2 j 1 = y1 at *
            generalize f2 j 2 = y2 at *
            generalize f2 j 3 = y3 at *
            cases pv with
            | false =>
              have HO := Lib.hid (HNO2.out rfl)
              clear HNO2 HYES2
              go_wp2_with fail
              refine HP.out.mono ?_
              rintro e w' ⟨rfl, hb⟩
              have HB3 := Lib.hid (HBZ.out.trans (hb.mono HBZ.out.size))
              clear hb
              go_wp2_with fail
              go_ret
              exact ⟨by rw [HO.out]; rfl, HB3.out⟩
            | true =>
              have HO := Lib.hid (HYES2.out rfl)
              clear HNO2 HYES2
              have hsz := HBI.out.size
              go_wp2_with fail
              refine HP.out.mono ?_
              rintro e w' ⟨rfl, hb⟩
              have HB3 := Lib.hid (HBI.out.trans (hb.mono hsz))
              clear hb
              go_wp2_with fail
              go_roundw
              case rel => exact ⟨j + 1, by go_num, by omega, by go_num, HO.out, HB3.out⟩
              case measure => simp [intOf]; omega
          · obtain rfl : j = m := by omega
            have HO := Lib.hid (HYES.out (all_getD ⟨0, 0, false, []⟩ (by rw [HM.out]; exact HAL2.out)))
            clear HNO HYES
            go_wp2_with fail
            go_roundw
            case rel => exact ⟨k + 1, by go_num, by omega, by rw [HEQ.out], HO.out, HBZ.out⟩
            case measure => simp [intOf]; omega
    · obtain rfl : k = n := by omega
      have HE : Hid (q = (decide (0 < k) && decide (relN l ≤ 6))) := HQ.out.symm.trans (by rw [← HN.out]; exact validC_end (by rw [HN.out]; exact HAL.out))
      have HT : Hid (relN (l.take k) = relN l) := by unfold Hid; rw [← HN.out, List.take_length]
      rw [HT.out]
      generalize relN l = s at *
      by_cases p1 : 0 < k
      · have p2 : 0 < (k : Int) := by omega
        go_wp2_with fail
        go_ret
        exact ⟨by rw [HE.out, decide_eq_true p1]; simp; omega, HBL.out⟩
      · have p2 : ¬ 0 < (k : Int) := by omega
        go_wp2_with fail
        go_ret
        exact ⟨by rw [HE.out, decide_eq_false p1]; rfl, HBL.out⟩
end Go.Proofs.YtadhblppeaamlaaGreatDoor
