/- Walks: Civil and Weekday, by the program. -/
import Derived.Test.YtaolbfbnjbpljaaDoorE2
namespace Go.Proofs.YtaolbfbnjbpljaaDoor
open Go.RowKit
attribute [local go_sem] Ext.cell Ext.frozen
attribute [local go_sem ↓] Go.wp_at_zero Go.wp_at_succ

theorem results_tmp4 {fn : Func} {t u v x : Tmp} (h : fn.results = #[.tmp t, .tmp u, .tmp v, .tmp x]) (tmps : Array Value) (P : Program) (w : World) :
    (results fn tmps).run P w = .ok (.tuple #[tmps.getD t undef, tmps.getD u undef, tmps.getD v undef, tmps.getD x undef]) w := by simp [results, h]

/-- what Civil answers -/
noncomputable def civV (n : Int) : Int × Int × Int × Nat :=
  if -25567 ≤ n ∧ n ≤ 84005 then (((civil (n + 25567).toNat).1 : Int), ((civil (n + 25567).toNat).2.1 : Int), ((civil (n + 25567).toNat).2.2 : Int), 0) else (0, 0, 0, 2)
theorem civV_no {n : Int} (h : n < -25567 ∨ 84005 < n) : civV n = (0, 0, 0, 2) := by unfold civV; rw [if_neg (by omega)]
theorem civV_of {y m d : Nat} (h : vldP y m d) : civV ((num y m d : Int) - 25567) = ((y : Int), (m : Int), (d : Int), 0) := by
  have := num_lt h
  unfold civV
  rw [if_pos (by omega), show ((num y m d : Int) - 25567 + 25567).toNat = num y m d by omega, civil_of h]
theorem civV_ok {n : Int} (h : -25567 ≤ n ∧ n ≤ 84005) : ∃ y m d : Nat, vldP y m d ∧ n = (num y m d : Int) - 25567 ∧ civV n = ((y : Int), (m : Int), (d : Int), 0) := by
  obtain ⟨h1, h2⟩ := civil_spec (n := (n + 25567).toNat) (by omega)
  refine ⟨_, _, _, h1, ?_, ?_⟩
  · rw [h2]; omega
  · unfold civV; rw [if_pos h]

theorem weekday_no (n : Int) (w : World) (h : n < -25567 ∨ 84005 < n) : Calls Tryd.prog 23 #[.int .i64 n] w fun e w' => e = .returned (.tuple #[.int .i64 0, .int .i64 2]) ∧ w = w' := by
  rcases h with h | h
  · go_enter Tryd.func23, Tryd.ntmps23
    go_wp2_with fail
    go_ret2
    exact ⟨rfl, rfl⟩
  · have h2 : ¬ n < -25567 := by omega
    go_enter Tryd.func23, Tryd.ntmps23
    go_wp2_with fail
    go_ret2
    exact ⟨rfl, rfl⟩
theorem weekday_yes (n : Int) (w : World) (h1 : -25567 ≤ n) (h2 : n ≤ 84005) : Calls Tryd.prog 23 #[.int .i64 n] w fun e w' => e = .returned (.tuple #[.int .i64 ((n + 25567) % 7), .int .i64 0]) ∧ w = w' := by
  have h3 : n - -25567 = n + 25567 := by omega
  go_enter Tryd.func23, Tryd.ntmps23
  go_wp2_with fail
  go_ret2
  exact ⟨by rw [← h3]; rfl, rfl⟩

theorem civil_no (n : Int) (w : World) (h : n < -25567 ∨ 84005 < n) : Calls Tryd.prog 18 #[.int .i64 n] w fun e w' => e = .returned (.tuple #[.int .i64 0, .int .i64 0, .int .i64 0, .int .i64 2]) ∧ w = w' := by
  rcases h with h | h
  · go_enter Tryd.func18, Tryd.ntmps18
    go_wp2_with fail
    refine bodyPost_ret (results_tmp4 rfl _ _ _) rfl ?_
    exact ⟨rfl, rfl⟩
  · have h2 : ¬ n < -25567 := by omega
    go_enter Tryd.func18, Tryd.ntmps18
    go_wp2_with fail
    refine bodyPost_ret (results_tmp4 rfl _ _ _) rfl ?_
    exact ⟨rfl, rfl⟩

set_option maxRecDepth 20000 in
set_option maxHeartbeats 8000000 in
theorem civil_yes (N : Nat) (n : Int) (w : World) (hn : n = (N : Int) - 25567) (h : N < 109573) : Calls Tryd.prog 18 #[.int .i64 n] w fun e w' => e = .returned (.tuple #[.int .i64 ((civil N).1 : Nat), .int .i64 ((civil N).2.1 : Nat), .int .i64 ((civil N).2.2 : Nat), .int .i64 0]) ∧ w = w' := by
  have HLL := Lib.hid (fun (y i : Nat) w (hy : y ≤ 10000) (h : i + 1 ≤ 12) => length_any y (i + 1) w hy (by omega) h)
  have HY := Lib.hid (fun j w (h : j ≤ 300) => year_any (1900 + j) w (by omega))
  have HDS : Hid (∀ j, dby (j + 1) = dby j + ylen (1900 + j)) := fun _ => rfl
  have HCS : Hid (∀ y j, cum y (j + 1) = cum y j + mlen y (j + 1)) := fun _ _ => rfl
  have g1 : decide (n < -25567) = false := by simp; omega
  have g2 : decide (84005 < n) = false := by simp; omega
  have HSUB : Hid (n - -25567 = (N : Int)) := by unfold Hid; omega
  have hn1 : -25567 ≤ n := by omega
  have hn2 : n ≤ 84005 := by omega
  have HD3 := Lib.hid dby_all
  clear hn
  go_enter Tryd.func18, Tryd.ntmps18
  go_wp2_with fail
  go_loop [2, 4] (fun u v => ∃ (j : Nat) (z : Int), j ≤ 299 ∧ u = .int .i64 ((1900 + j : Nat) : Int) ∧ v = .int .i64 z ∧ z + (dby j : Int) = (N : Int) ∧ 0 ≤ z) (fun u _ => 2200 - (intOf u).toNat)
  case atStart => exact ⟨0, _, by omega, rfl, rfl, by have := HSUB.out; simp [dby]; omega, by have := HSUB.out; omega⟩
  case round =>
    obtain ⟨j, z, hj, rfl, rfl, hz, hz0⟩ := hrel
    have HZ := Lib.hid hz
    have hyl := ylen_bd (1900 + j)
    have hz5 : z ≤ 200000 := by omega
    have HYJ := Lib.hid (fun w => HY.out j w (by omega))
    have hj2 : 1900 + j ≤ 2199 := by omega
    have HJ : Hid (((1900 + j : Nat) : Int) + 1 = ((1900 + (j + 1) : Nat) : Int)) := by unfold Hid; omega
    have HDJ := Lib.hid (HDS.out j)
    have HLJ := Lib.hid (fun i w h => HLL.out (1900 + j) i w (by omega) h)
    have HCJ := Lib.hid (HCS.out (1900 + j))
    have HCY := Lib.hid (cum_year (1900 + j))
    have HQ : Hid (1900 + j = 1900 + j) := rfl
    clear hz
    obtain ⟨yl, hyq⟩ : ∃ yl, ylen (1900 + j) = yl := ⟨_, rfl⟩
    rw [hyq] at hyl HYJ HDJ HCY
    have HYQ := Lib.hid hyq
    clear hyq
    obtain ⟨q, hq⟩ : ∃ q, 1900 + j = q := ⟨_, rfl⟩
    rw [hq] at HYJ hj2 HJ HLJ HCJ HCY
    have HQ2 := Lib.hid hq
    rw [hq]
    clear hq HQ
    by_cases hge : (yl : Int) ≤ z
    · have hj9 : j + 1 ≤ 299 := by
        have e1 := HZ.out
        have e2 := HDJ.out
        have e3 := HD3.out
        rcases Nat.lt_or_ge 299 (j + 1) with h9 | h9
        · have := dby_mono (i := 300) (j := j + 1) (by omega); omega
        · exact h9
      go_wp2_with fail
      refine (HYJ.out _).mono ?_
      rintro e _ ⟨rfl, rfl⟩
      go_wp2_with fail
      refine (HYJ.out _).mono ?_
      rintro e _ ⟨rfl, rfl⟩
      go_wp2_with fail
      go_round
      case rel => exact ⟨j + 1, _, hj9, by rw [HJ.out], rfl, by have e1 := HZ.out; have e2 := HDJ.out; omega, by omega⟩
      case measure => simp [intOf]; omega
    · have hlt : z < (yl : Int) := by omega
      have hng : ¬ (yl : Int) ≤ z := hge
      clear hge
      go_wp2_with fail
      refine (HYJ.out _).mono ?_
      rintro e _ ⟨rfl, rfl⟩
      go_wp2_with fail
      go_loop [3, 4] (fun u v => ∃ (k : Nat) (z2 : Int), k ≤ 11 ∧ u = .int .i64 ((k + 1 : Nat) : Int) ∧ v = .int .i64 z2 ∧ z2 + (cum q k : Int) = z ∧ 0 ≤ z2) (fun u _ => 13 - (intOf u).toNat)
      case atStart => exact ⟨0, _, by omega, rfl, rfl, by simp [cum], by omega⟩
      case round =>
        obtain ⟨k, z2, hk, rfl, rfl, hz2, hz20⟩ := hrel
        have hmk := mlen_bd (y := q) (m := k + 1) (by omega) (by omega)
        have HZ2 := Lib.hid hz2
        have hz25 : z2 ≤ 200000 := by omega
        have HLK := Lib.hid (fun w => HLJ.out k w (by omega))
        have HCK := Lib.hid (HCJ.out k)
        have HK : Hid (((k + 1 : Nat) : Int) + 1 = ((k + 1 + 1 : Nat) : Int)) := by unfold Hid; omega
        have hk12 : k + 1 ≤ 12 := by omega
        clear hz2
        obtain ⟨p, hp⟩ : ∃ p, k + 1 = p := ⟨_, rfl⟩
        rw [hp] at hmk HLK HCK HK hk12
        rw [hp]
        have HP := Lib.hid hp
        clear hp
        obtain ⟨ml, hml⟩ : ∃ ml, mlen q p = ml := ⟨_, rfl⟩
        rw [hml] at hmk HLK HCK
        have HML := Lib.hid hml
        clear hml
        by_cases hge : (ml : Int) ≤ z2
        · have hk9 : k + 1 ≤ 11 := by
            have e1 := HZ2.out
            have e2 := HCK.out
            have e3 := HCY.out
            rcases Nat.lt_or_ge 11 (k + 1) with h9 | h9
            · have e4 : p = 12 := by have := HP.out; omega
              rw [e4] at e2
              omega
            · exact h9
          go_wp2_with fail
          refine (HLK.out _).mono ?_
          rintro e _ ⟨rfl, rfl⟩
          go_wp2_with fail
          refine (HLK.out _).mono ?_
          rintro e _ ⟨rfl, rfl⟩
          go_wp2_with fail
          go_round
          case rel => exact ⟨k + 1, _, hk9, by rw [HK.out, HP.out], rfl, by have e1 := HZ2.out; have e2 := HCK.out; have e3 := HP.out; rw [e3]; omega, by omega⟩
          case measure => simp [intOf]; omega
        · have hlt2 : z2 < (ml : Int) := by omega
          go_wp2_with fail
          refine (HLK.out _).mono ?_
          rintro e _ ⟨rfl, rfl⟩
          go_wp2_with fail
          refine bodyPost_ret (results_tmp4 rfl _ _ _) rfl ?_
          refine ⟨?_, rfl⟩
          have e1 := HZ.out
          have e2 := HZ2.out
          have e3 := HQ2.out
          have e4 := HP.out
          have e5 := HML.out
          obtain ⟨dd, hdd⟩ : ∃ dd : Nat, z2 = (dd : Int) := ⟨z2.toNat, by omega⟩
          have hv : vldP q p (dd + 1) := ⟨by omega, hj2, by omega, hk12, by omega, by rw [e5]; omega⟩
          have hN : num q p (dd + 1) = N := by
            unfold num
            rw [show q - 1900 = j by omega, show p - 1 = k by omega]
            omega
          have hc := civil_of hv
          rw [hN] at hc
          rw [hc, hdd]
          rfl
theorem civil_any (n : Int) (w : World) : Calls Tryd.prog 18 #[.int .i64 n] w fun e w' => e = .returned (.tuple #[.int .i64 (civV n).1, .int .i64 (civV n).2.1, .int .i64 (civV n).2.2.1, .int .i64 ((civV n).2.2.2 : Nat)]) ∧ w = w' := by
  by_cases h : -25567 ≤ n ∧ n ≤ 84005
  · refine (civil_yes (n + 25567).toNat n w (by omega) (by omega)).mono fun e w' ⟨he, hw⟩ => ⟨?_, hw⟩
    rw [he]
    unfold civV
    rw [if_pos h]; rfl
  · refine (civil_no n w (by omega)).mono fun e w' ⟨he, hw⟩ => ⟨?_, hw⟩
    rw [he, civV_no (by omega)]; rfl
end Go.Proofs.YtaolbfbnjbpljaaDoor
