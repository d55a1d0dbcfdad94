/- Walks: Civil and Weekday, by the reference. -/
import Derived.Test.YtaolbfbnjbpljaaGreatDoorE5
namespace Go.Proofs.YtaolbfbnjbpljaaGreatDoor
open Go.RowKit
attribute [local go_sem] Ext.cell Ext.frozen
attribute [local go_sem ↓] Go.wp_at_zero Go.wp_at_succ

theorem rvalid_yes (n : Int) (w : World) (h1 : -25567 ≤ n) (h2 : n ≤ 84005) : Calls Tryz.prog 25 #[.int .i64 n] w fun e w' => e = .returned (.bool true) ∧ w = w' := by
  have := rvalid_any n w
  rwa [decide_eq_true h1, decide_eq_true h2] at this
theorem rvalid_no (n : Int) (w : World) (h : n < -25567 ∨ 84005 < n) : Calls Tryz.prog 25 #[.int .i64 n] w fun e w' => e = .returned (.bool false) ∧ w = w' := by
  have := rvalid_any n w
  have hf : (decide (-25567 ≤ n) && decide (n ≤ 84005)) = false := by
    rw [Bool.and_eq_false_iff, decide_eq_false_iff_not, decide_eq_false_iff_not]; omega
  rwa [hf] at this
theorem rweekday_no (n : Int) (w : World) (h : n < -25567 ∨ 84005 < n) : Calls Tryz.prog 14 #[.int .i64 n] w fun e w' => e = .returned (.tuple #[.int .i64 0, .int .i64 2]) ∧ w = w' := by
  have HV := Lib.hid (fun w => rvalid_no n w h)
  clear h
  go_enter Tryz.func14, Tryz.ntmps14
  go_wp2_with fail
  refine (HV.out _).mono ?_
  rintro e _ ⟨rfl, rfl⟩
  go_wp2_with fail
  go_ret2
  exact ⟨rfl, rfl⟩
theorem rweekday_yes (n : Int) (w : World) (h1 : -25567 ≤ n) (h2 : n ≤ 84005) : Calls Tryz.prog 14 #[.int .i64 n] w fun e w' => e = .returned (.tuple #[.int .i64 ((n + 25567) % 7), .int .i64 0]) ∧ w = w' := by
  have HV := Lib.hid (fun w => rvalid_yes n w h1 h2)
  have h3 : n - -25567 = n + 25567 := by omega
  go_enter Tryz.func14, Tryz.ntmps14
  go_wp2_with fail
  refine (HV.out _).mono ?_
  rintro e _ ⟨rfl, rfl⟩
  go_wp2_with fail
  go_ret2
  exact ⟨by rw [← h3]; rfl, rfl⟩

theorem rcivil_no (n : Int) (w : World) (h : n < -25567 ∨ 84005 < n) : Calls Tryz.prog 12 #[.int .i64 n] w fun e w' => e = .returned (.tuple #[.int .i64 0, .int .i64 0, .int .i64 0, .int .i64 2]) ∧ Below w.heap.size w w' := by
  have HV := Lib.hid (fun w => rvalid_no n w h)
  clear h
  go_enter Tryz.func12, Tryz.ntmps12
  go_wp2_with fail
  refine (HV.out _).mono ?_
  rintro e _ ⟨rfl, rfl⟩
  go_wp2_with fail
  refine bodyPost_ret (results_tmp4 rfl _ _ _) rfl ?_
  exact ⟨rfl, Below.refl _ _⟩
theorem mlen_one (y m : Nat) (h1 : 1 ≤ m) (h2 : m ≤ 12) : vldP y m 1 ↔ 1900 ≤ y ∧ y ≤ 2199 := by
  have := mlen_bd (y := y) h1 h2
  unfold vldP; omega
set_option maxRecDepth 20000 in
set_option maxHeartbeats 4000000 in
theorem rcivil_yes (Y M D : Nat) (n : Int) (w : World) (hv : vldP Y M D) (hn : n = (num Y M D : Int) - 25567) : Calls Tryz.prog 12 #[.int .i64 n] w fun e w' => e = .returned (.tuple #[.int .i64 (Y : Int), .int .i64 (M : Int), .int .i64 (D : Int), .int .i64 0]) ∧ Below w.heap.size w w' := by
  have hnl := num_lt hv
  have HV := Lib.hid (fun w => rvalid_yes n w (by omega) (by omega))
  have hM : 1 ≤ M ∧ M ≤ 12 := ⟨hv.2.2.1, hv.2.2.2.1⟩
  have hY : 1900 ≤ Y ∧ Y ≤ 2199 := ⟨hv.1, hv.2.1⟩
  have HOY : Hid (∀ (q : Nat) (w : World), Y ≤ q → q ≤ 2199 → Calls Tryz.prog 32 #[.int .i64 (q : Int), .int .i64 1, .int .i64 1] w fun e w' => e = .returned (.tuple #[.int .i64 ((num q 1 1 : Int) - 25567), .int .i64 0]) ∧ Below w.heap.size w w') := fun q w h1 h2 => by
    have hq : vldP q 1 1 := (mlen_one q 1 (by omega) (by omega)).2 ⟨by omega, h2⟩
    have := rof_yes q 1 1 w hq
    rw [ofV_nat hq] at this
    exact this
  have HOM : Hid (∀ (k : Nat) (w : World), 1 ≤ k → k ≤ 12 → Calls Tryz.prog 32 #[.int .i64 (Y : Int), .int .i64 (k : Int), .int .i64 1] w fun e w' => e = .returned (.tuple #[.int .i64 ((num Y k 1 : Int) - 25567), .int .i64 0]) ∧ Below w.heap.size w w') := fun k w h1 h2 => by
    have hq : vldP Y k 1 := (mlen_one Y k h1 h2).2 ⟨by omega, by omega⟩
    have := rof_yes Y k 1 w hq
    rw [ofV_nat hq] at this
    exact this
  have HY1 : Hid (num Y 1 1 ≤ num Y M D) := by
    unfold Hid num
    have : cum Y (1 - 1) = 0 := rfl
    omega
  have HY2 : Hid (∀ q, Y < q → q ≤ 2199 → num Y M D < num q 1 1) := fun q h1 h2 => num_year hv ((mlen_one q 1 (by omega) (by omega)).2 ⟨by omega, h2⟩) h1
  have HM1 : Hid (num Y M D = num Y M 1 + (D - 1)) := by unfold Hid num; omega
  have HM2 : Hid (∀ k, M < k → k ≤ 12 → num Y M D < num Y k 1) := fun k h1 h2 => num_month hv ((mlen_one Y k (by omega) h2).2 ⟨by omega, by omega⟩) h1
  have hD : 1 ≤ D ∧ D ≤ 31 := ⟨hv.2.2.2.2.1, by have := (mlen_bd (y := Y) hM.1 hM.2).2; have := hv.2.2.2.2.2; omega⟩
  obtain ⟨hM1, hM2⟩ := hM
  obtain ⟨hY1, hY2⟩ := hY
  obtain ⟨hD1, hD2⟩ := hD
  have hNL : ∀ q k d, vldP q k d → num q k d < 109573 := fun q k d h => num_lt h
  have HNY : Hid (∀ q, Y ≤ q → q ≤ 2199 → num q 1 1 < 109573) := fun q h1 h2 => num_lt ((mlen_one q 1 (by omega) (by omega)).2 ⟨by omega, h2⟩)
  have HNM : Hid (∀ k, 1 ≤ k → k ≤ 12 → num Y k 1 < 109573) := fun k h1 h2 => num_lt ((mlen_one Y k h1 h2).2 ⟨by omega, by omega⟩)
  have HN := Lib.hid hn
  clear hn hv hNL
  generalize hnd : num Y M D = N at *
  clear hnd
  have hn1 : -25567 ≤ n := by have := HN.out; omega
  have hn2 : n ≤ 84005 := by have := HN.out; omega
  go_enter Tryz.func12, Tryz.ntmps12
  go_wp2_with fail
  refine (HV.out _).mono ?_
  rintro e _ ⟨rfl, rfl⟩
  go_wp2_with fail
  go_loopw [6] (fun u wr => ∃ q : Nat, Y ≤ q ∧ q ≤ 2199 ∧ u = .int .i64 (q : Int) ∧ Below w.heap.size w wr) (fun u _ => (intOf u).toNat)
  case atStart => exact ⟨2199, by omega, by omega, rfl, Below.refl _ _⟩
  case round =>
    obtain ⟨q, hq1, hq2, rfl, hbl⟩ := hrel
    have HBL := Lib.hid hbl
    have hzr := hbl.size
    clear hbl
    have HOQ := Lib.hid (fun w => HOY.out q w hq1 hq2)
    have hnq := HNY.out q hq1 hq2
    by_cases hlt : Y < q
    · have HC := Lib.hid (HY2.out q hlt hq2)
      have hc1 : ¬ ((num q 1 1 : Int) - 25567 ≤ n) := by have := HC.out; have := HN.out; omega
      generalize num q 1 1 = z at *
      go_wp2_with fail
      refine (HOQ.out _).mono ?_
      rintro e w2 ⟨rfl, hb2⟩
      have HB2 := Lib.hid hb2
      clear hb2
      go_wp2_with fail
      go_roundw
      case rel => exact ⟨q - 1, by omega, by omega, by congr 1; omega, HBL.out.trans (HB2.out.mono hzr)⟩
      case measure => simp [intOf]; omega
    · obtain rfl : q = Y := by omega
      have hc1 : (num q 1 1 : Int) - 25567 ≤ n := by have := HY1.out; have := HN.out; omega
      generalize num q 1 1 = z at *
      go_wp2_with fail
      refine (HOQ.out _).mono ?_
      rintro e w2 ⟨rfl, hb2⟩
      have HB2 := Lib.hid (HBL.out.trans (hb2.mono hzr))
      clear hb2
      go_wp2_with fail
      go_loopw [9] (fun u wr => ∃ k : Nat, M ≤ k ∧ k ≤ 12 ∧ u = .int .i64 (k : Int) ∧ Below w.heap.size w wr) (fun u _ => (intOf u).toNat)
      case atStart => exact ⟨12, by omega, by omega, rfl, HB2.out⟩
      case round =>
        obtain ⟨k, hk1, hk2, rfl, hbl⟩ := hrel
        have HBM := Lib.hid hbl
        have hzm := hbl.size
        clear hbl
        have HOK := Lib.hid (fun w => HOM.out k w (by omega) hk2)
        have hnk := HNM.out k (by omega) hk2
        by_cases hlt : M < k
        · have HC := Lib.hid (HM2.out k hlt hk2)
          have hc2 : ¬ ((num q k 1 : Int) - 25567 ≤ n) := by have := HC.out; have := HN.out; omega
          generalize num q k 1 = z2 at *
          go_wp2_with fail
          refine (HOK.out _).mono ?_
          rintro e w3 ⟨rfl, hb3⟩
          have HB3 := Lib.hid hb3
          clear hb3
          go_wp2_with fail
          go_roundw
          case rel => exact ⟨k - 1, by omega, by omega, by congr 1; omega, HBM.out.trans (HB3.out.mono hzm)⟩
          case measure => simp [intOf]; omega
        · obtain rfl : k = M := by omega
          have hc2 : (num q k 1 : Int) - 25567 ≤ n := by have := HM1.out; have := HN.out; omega
          have HDE : Hid (n - ((num q k 1 : Int) - 25567) + 1 = (D : Int)) := by unfold Hid; have := HM1.out; have := HN.out; omega
          generalize num q k 1 = z2 at *
          go_wp2_with fail
          refine (HOK.out _).mono ?_
          rintro e w3 ⟨rfl, hb3⟩
          have HB3 := Lib.hid hb3
          clear hb3
          go_wp2_with fail
          refine bodyPost_ret (results_tmp4 rfl _ _ _) rfl ?_
          refine ⟨?_, HBM.out.trans (HB3.out.mono hzm)⟩
          rw [← HDE.out]
          rfl
theorem rcivil_any (n : Int) (w : World) : Calls Tryz.prog 12 #[.int .i64 n] w fun e w' => e = .returned (.tuple #[.int .i64 (civV n).1, .int .i64 (civV n).2.1, .int .i64 (civV n).2.2.1, .int .i64 ((civV n).2.2.2 : Nat)]) ∧ Below w.heap.size w w' := by
  by_cases h : -25567 ≤ n ∧ n ≤ 84005
  · obtain ⟨y, m, d, hv, hn, hc⟩ := civV_ok h
    rw [hc]
    exact rcivil_yes y m d n w hv hn
  · rw [civV_no (by omega)]
    exact rcivil_no n w (by omega)
end Go.Proofs.YtaolbfbnjbpljaaGreatDoor
