/- Walks: Of and Valid, by the reference. -/
import Derived.Test.YtaolbfbnjbpljaaDoorE3
namespace Go.Proofs.YtaolbfbnjbpljaaDoor
open Go.RowKit
attribute [local go_sem] Ext.cell Ext.frozen
attribute [local go_sem ↓] Go.wp_at_zero Go.wp_at_succ

set_option maxHeartbeats 4000000 in
theorem rof_no (y m d : Int) (w : World) (h : ¬ vldI y m d) : Calls Tryd.prog 17 #[.int .i64 y, .int .i64 m, .int .i64 d] w fun e w' => e = .returned (.tuple #[.int .i64 (ofV y m d).1, .int .i64 ((ofV y m d).2 : Nat)]) ∧ Below w.heap.size w w' := by
  have HO := Lib.hid (ofV_no h)
  unfold vldI at h
  by_cases k : d < 1
  · clear h
    go_enter Tryd.func17, Tryd.ntmps17
    go_wp2_with fail
    go_ret2
    exact ⟨by rw [HO.out]; rfl, Below.refl _ _⟩
  by_cases out : y < 1900 ∨ 2199 < y ∨ m < 1 ∨ 12 < m
  · have HD := Lib.hid (fun w => rdays_out y m w out)
    have g1 : decide ((0 : Int) < d) = true := by simp; omega
    clear h out
    go_enter Tryd.func17, Tryd.ntmps17
    go_wp2_with fail
    refine (HD.out _).mono ?_
    rintro e _ ⟨rfl, rfl⟩
    go_wp2_with fail
    go_ret2
    exact ⟨by rw [HO.out]; rfl, Below.refl _ _⟩
  obtain ⟨yn, rfl⟩ : ∃ n : Nat, y = n := ⟨y.toNat, by omega⟩
  obtain ⟨mn, rfl⟩ : ∃ n : Nat, m = n := ⟨m.toNat, by omega⟩
  have HD := Lib.hid (fun w => rdays_in yn mn w (by omega) (by omega) (by omega) (by omega))
  rw [Int.toNat_natCast, Int.toNat_natCast] at h
  have hgt : (mlen yn mn : Int) < d := by omega
  clear h out
  generalize mlen yn mn = ml at *
  go_enter Tryd.func17, Tryd.ntmps17
  go_wp2_with fail
  refine (HD.out _).mono ?_
  rintro e w1 ⟨rfl, hb1⟩
  go_wp2_with fail
  go_ret2
  exact ⟨by rw [HO.out]; rfl, hb1⟩

set_option maxRecDepth 20000 in
set_option maxHeartbeats 8000000 in
theorem rof_yes (y m d : Nat) (w : World) (h : vldP y m d) : Calls Tryd.prog 17 #[.int .i64 (y : Int), .int .i64 (m : Int), .int .i64 (d : Int)] w fun e w' => e = .returned (.tuple #[.int .i64 (ofV (y : Int) (m : Int) (d : Int)).1, .int .i64 ((ofV (y : Int) (m : Int) (d : Int)).2 : Nat)]) ∧ Below w.heap.size w w' := by
  have HO : Hid (ofV (y : Int) (m : Int) (d : Int) = ((num y m d : Int) - 25567, 0)) := ofV_nat h
  have HN : Hid (num y m d = dby (y - 1900) + cum y (m - 1) + (d - 1)) := rfl
  have hml := mlen_bd (y := y) h.2.2.1 h.2.2.2.1
  obtain ⟨hy1, hy2, hm1, hm2, hd1, hd2⟩ := h
  have HD := Lib.hid (fun w => rdays_in y m w (by omega) (by omega) (by omega) (by omega))
  have HLL := Lib.hid (fun i w (h : i + 1 ≤ m) => rdays_in y (i + 1) w (by omega) (by omega) (by omega) (by omega))
  have HY := Lib.hid (fun j w (h : j ≤ 300) => rleap_any (1900 + j) w (by omega))
  have HDS : Hid (∀ j, dby (j + 1) = dby j + ylen (1900 + j)) := fun _ => rfl
  have HYL : Hid (∀ q, ylen q = if leapB q = true then 366 else 365) := by intro q; unfold ylen; rfl
  have HCS : Hid (∀ j, cum y (j + 1) = cum y j + mlen y (j + 1)) := fun _ => rfl
  have HD0 : Hid (dby 0 = 0) := rfl
  have HC0 : Hid (cum y 0 = 0) := rfl
  have hdd : (d : Int) ≤ (mlen y m : Int) := by omega
  generalize mlen y m = ml at *
  have g5 : decide ((d : Int) < 1) = false := by simp; omega
  have g6 : decide (ml < d) = false := by simp; omega
  go_enter Tryd.func17, Tryd.ntmps17
  go_wp2_with fail
  refine (HD.out _).mono ?_
  rintro e w1 ⟨rfl, hb1⟩
  go_wp2_with fail
  go_loop [8, 9] (fun v i => ∃ (j : Nat) (z : Int), j ≤ y - 1900 ∧ i = .int .i64 ((1900 + j : Nat) : Int) ∧ v = .int .i64 z ∧ z = (d : Int) - 25568 + (dby j : Int)) (fun _ i => y - (intOf i).toNat)
  case atStart => exact ⟨0, _, by omega, rfl, rfl, by rw [HD0.out]; omega⟩
  case round =>
    obtain ⟨j, z, hj, rfl, rfl, hz⟩ := hrel
    have hjb := dby_bd (j := j) (by omega)
    by_cases hlt : j < y - 1900
    · have hlt2 : ((1900 + j : Nat) : Int) < (y : Int) := by omega
      have HZ := Lib.hid hz
      have hz1 : -30000 ≤ z ∧ z ≤ 200000 := by omega
      obtain ⟨hz1, hz2⟩ := hz1
      have HJ : Hid (((1900 + j : Nat) : Int) + 1 = ((1900 + (j + 1) : Nat) : Int)) := by unfold Hid; omega
      have hy9 : 1900 + j ≤ 2199 := by omega
      clear hz
      have HYJ := Lib.hid (fun w => HY.out j w (by omega))
      have HDJ := Lib.hid (HDS.out j)
      have HYQ := Lib.hid (HYL.out (1900 + j))
      generalize hq : 1900 + j = q at *
      generalize hyq : ylen q = yl at *
      clear hq
      cases hlp : leapB q <;> rw [hlp] at HYQ HYJ <;> clear hlp
      all_goals
        go_wp2_with fail
        refine (HYJ.out _).mono ?_
        rintro e _ ⟨rfl, rfl⟩
        go_wp2_with fail
        go_round
        case rel => exact ⟨j + 1, _, by omega, by rw [HJ.out], rfl, by rw [HDJ.out]; have := HZ.out; have := HYQ.out; simp at this; omega⟩
        case measure => simp [intOf]; omega
    · have hje : j = y - 1900 := by omega
      have HZ := Lib.hid hz
      have hz1 : -30000 ≤ z ∧ z ≤ 200000 := by omega
      obtain ⟨hz1, hz2⟩ := hz1
      have hq2 : ((1900 + j : Nat) : Int) = (y : Int) := by omega
      rw [hq2]
      clear hz hq2
      have HJE := Lib.hid hje
      clear hje hlt
      go_wp2_with fail
      go_loopw [8, 10] (fun v i wr => ∃ (k : Nat) (z2 : Int), k + 1 ≤ m ∧ i = .int .i64 ((k + 1 : Nat) : Int) ∧ v = .int .i64 z2 ∧ z2 = z + (cum y k : Int) ∧ Below w.heap.size w wr) (fun _ i _ => m - (intOf i).toNat)
      case atStart => exact ⟨0, _, by omega, rfl, rfl, by rw [HC0.out]; omega, hb1⟩
      case round =>
        obtain ⟨k, z2, hk, rfl, rfl, hz3, hbl⟩ := hrel
        have hkb := cum_bd y (j := k) (by omega)
        have HZ2 := Lib.hid hz3
        have HBL := Lib.hid hbl
        have hz4 : -30000 ≤ z2 ∧ z2 ≤ 210000 := by omega
        obtain ⟨hz4, hz5⟩ := hz4
        clear hz3 hbl
        by_cases hlt : k + 1 < m
        · have hlt2 : ((k + 1 : Nat) : Int) < (m : Int) := by omega
          have hmk := mlen_bd (y := y) (m := k + 1) (by omega) (by omega)
          have HJ : Hid (((k + 1 : Nat) : Int) + 1 = ((k + 1 + 1 : Nat) : Int)) := by unfold Hid; omega
          have HLK := Lib.hid (fun w => HLL.out k w (by omega))
          have HCK := Lib.hid (HCS.out k)
          have hk12 : k + 1 ≤ 12 := by omega
          generalize hq : k + 1 = q at *
          generalize mlen y q = mq at *
          go_wp2_with fail
          refine (HLK.out _).mono ?_
          rintro e w2 ⟨rfl, hb2⟩
          go_wp2_with fail
          go_roundw
          case rel => exact ⟨k + 1, _, by omega, by rw [HJ.out, hq], rfl, by rw [hq, HCK.out]; have := HZ2.out; omega, HBL.out.trans (hb2.mono HBL.out.size)⟩
          case measure => simp [intOf]; omega
        · have hkm : k + 1 = m := by omega
          rw [hkm]
          go_wp2_with fail
          go_ret2
          refine ⟨?_, HBL.out⟩
          have e1 := HZ.out
          have e2 := HZ2.out
          have e3 := HN.out
          rw [HJE.out] at e1
          rw [show m - 1 = k by omega] at e3
          have e4 : z2 = (num y m d : Int) - 25567 := by omega
          rw [HO.out, e4]; rfl
theorem rof_any (y m d : Int) (w : World) : Calls Tryd.prog 17 #[.int .i64 y, .int .i64 m, .int .i64 d] w fun e w' => e = .returned (.tuple #[.int .i64 (ofV y m d).1, .int .i64 ((ofV y m d).2 : Nat)]) ∧ Below w.heap.size w w' := by
  by_cases h : vldI y m d
  · have h1 := h
    unfold vldI at h1
    obtain ⟨a, rfl⟩ : ∃ n : Nat, y = n := ⟨y.toNat, by omega⟩
    obtain ⟨b, rfl⟩ : ∃ n : Nat, m = n := ⟨m.toNat, by omega⟩
    obtain ⟨c, rfl⟩ : ∃ n : Nat, d = n := ⟨d.toNat, by omega⟩
    exact rof_yes a b c w (vldI_nat.1 h)
  · exact rof_no y m d w h
theorem rvalid_any (n : Int) (w : World) : Calls Tryd.prog 22 #[.int .i64 n] w fun e w' => e = .returned (.bool (decide (-25567 ≤ n) && decide (n ≤ 84005))) ∧ w = w' := by
  by_cases h : -25567 ≤ n
  · go_enter Tryd.func22, Tryd.ntmps22
    go_wp2_with fail
    go_ret
    exact ⟨by simp [h], rfl⟩
  · go_enter Tryd.func22, Tryd.ntmps22
    go_wp2_with fail
    go_ret
    exact ⟨by simp; omega, rfl⟩
end Go.Proofs.YtaolbfbnjbpljaaDoor
